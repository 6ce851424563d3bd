/- Part 6 of a proof; packed: the texts that it was made of follow one another. No condition beyond those named in each lemma. -/
import Derived.Test.YtjplgcmfifoefaaGreatDoorPr5
namespace Go.Proofs.YtjplgcmfifoefaaGreatDoor
open Go.RowKit Go.Shelf Go.Maps
set_option linter.unusedVariables false
set_option linter.unusedSimpArgs false
attribute [local go_sem] Oper.semAt_some

/-- how many bytes the rune has that begins here, by its first bytes (n: how many are left) -/
def wideK (b0 : Nat) : Nat := if 194 ≤ b0 ∧ b0 ≤ 223 then 2 else if 224 ≤ b0 ∧ b0 ≤ 239 then 3 else if 240 ≤ b0 ∧ b0 ≤ 244 then 4 else 0
def contN (b : Nat) : Prop := 128 ≤ b ∧ b ≤ 191
instance (b : Nat) : Decidable (contN b) := inferInstanceAs (Decidable (_ ∧ _))
def oddN (b0 b1 : Nat) : Prop := (b0 = 224 ∧ b1 < 160) ∨ (b0 = 237 ∧ 159 < b1) ∨ (b0 = 240 ∧ b1 < 144) ∨ (b0 = 244 ∧ 143 < b1)
instance (b0 b1 : Nat) : Decidable (oddN b0 b1) := inferInstanceAs (Decidable (_ ∨ _))
def tailN (k n b1 b2 b3 : Nat) : Prop := k ≤ n ∧ contN b1 ∧ (3 ≤ k → contN b2) ∧ (4 ≤ k → contN b3)
instance (k n b1 b2 b3 : Nat) : Decidable (tailN k n b1 b2 b3) := inferInstanceAs (Decidable (_ ∧ _))
def wideN (n b0 b1 b2 b3 : Nat) : Nat :=
  if b0 < 128 then 1 else if wideK b0 = 0 then 0 else if tailN (wideK b0) n b1 b2 b3 ∧ ¬ oddN b0 b1 then wideK b0 else 0
def wideL (l : Bs) : Nat := wideN l.length (l.getD 0 0).toNat (l.getD 1 0).toNat (l.getD 2 0).toNat (l.getD 3 0).toNat
set_option maxRecDepth 100000 in
set_option maxHeartbeats 4000000 in
theorem wide_dec (n b0 b1 b2 b3 : Nat) (h0 : b0 < 256) (h1 : b1 < 256) (h2 : b2 < 256) (h3 : b3 < 256) :
    (b0 < 128 ∧ wideN n b0 b1 b2 b3 = 1 ∧ Lib.decodeN n b0 b1 b2 b3 = (b0, 1)) ∨ (128 ≤ b0 ∧ wideN n b0 b1 b2 b3 = 0 ∧ Lib.decodeN n b0 b1 b2 b3 = (65533, 1)) ∨
    (128 ≤ b0 ∧ 2 ≤ wideN n b0 b1 b2 b3 ∧ wideN n b0 b1 b2 b3 ≤ n ∧ 128 ≤ (Lib.decodeN n b0 b1 b2 b3).1 ∧ (Lib.decodeN n b0 b1 b2 b3).2 = wideN n b0 b1 b2 b3) := by
  unfold wideN
  by_cases c0 : b0 < 128
  · left
    rw [if_pos c0]
    refine ⟨c0, rfl, ?_⟩
    unfold Lib.decodeN
    rw [if_pos c0]
  rw [if_neg c0]
  right
  have hc : ∀ b, contN b ↔ b / 64 = 2 := fun b => by unfold contN; omega
  by_cases ck : wideK b0 = 0
  · left
    rw [if_pos ck]
    refine ⟨by omega, rfl, ?_⟩
    unfold wideK at ck
    unfold Lib.decodeN
    rw [if_neg c0]
    have hb : b0 < 194 ∨ 244 < b0 := by
      split at ck
      · omega
      · split at ck
        · omega
        · split at ck
          · omega
          · omega
    split
    · rw [if_neg (by omega)]
    · split
      · omega
      · split
        · rw [if_neg (by omega)]
        · rfl
  rw [if_neg ck]
  have hk : (194 ≤ b0 ∧ b0 ≤ 223 ∧ wideK b0 = 2) ∨ (224 ≤ b0 ∧ b0 ≤ 239 ∧ wideK b0 = 3) ∨ (240 ≤ b0 ∧ b0 ≤ 244 ∧ wideK b0 = 4) := by
    unfold wideK at ck ⊢
    by_cases e1 : 194 ≤ b0 ∧ b0 ≤ 223
    · rw [if_pos e1]; omega
    · rw [if_neg e1] at ck ⊢
      by_cases e2 : 224 ≤ b0 ∧ b0 ≤ 239
      · rw [if_pos e2]; omega
      · rw [if_neg e2] at ck ⊢
        by_cases e3 : 240 ≤ b0 ∧ b0 ≤ 244
        · rw [if_pos e3]; omega
        · rw [if_neg e3] at ck; omega
  rcases hk with ⟨k1, k2, k3⟩ | ⟨k1, k2, k3⟩ | ⟨k1, k2, k3⟩
  · rw [k3]
    by_cases ht : tailN 2 n b1 b2 b3 ∧ ¬ oddN b0 b1
    · right
      rw [if_pos ht]
      obtain ⟨⟨t1, t2, -, -⟩, t4⟩ := ht
      have t2' := (hc b1).1 t2
      have hd : Lib.decodeN n b0 b1 b2 b3 = (b0 % 32 * 64 + b1 % 64, 2) := by
        unfold Lib.decodeN
        rw [if_neg c0, if_pos ⟨by omega, by omega, t2'⟩, if_pos (by omega)]
      rw [hd]
      exact ⟨by omega, by omega, t1, by show 128 ≤ b0 % 32 * 64 + b1 % 64; omega, rfl⟩
    · left
      rw [if_neg ht]
      refine ⟨by omega, rfl, ?_⟩
      have hno : ¬ (2 ≤ n ∧ contN b1) := fun h => ht ⟨⟨h.1, h.2, fun h => by omega, fun h => by omega⟩, by unfold oddN; omega⟩
      rw [hc] at hno
      unfold Lib.decodeN
      rw [if_neg c0, if_neg (by omega), if_neg (by omega), if_neg (by omega)]
  · rw [k3]
    by_cases ht : tailN 3 n b1 b2 b3 ∧ ¬ oddN b0 b1
    · right
      rw [if_pos ht]
      obtain ⟨⟨t1, t2, t3, -⟩, t4⟩ := ht
      have t2' := (hc b1).1 t2
      have t3' := (hc b2).1 (t3 (by omega))
      unfold oddN at t4
      have hd : Lib.decodeN n b0 b1 b2 b3 = (b0 % 16 * 4096 + b1 % 64 * 64 + b2 % 64, 3) := by
        unfold Lib.decodeN
        rw [if_neg c0, if_neg (by omega), if_pos ⟨by omega, ⟨by omega, t2'⟩, by omega, t3'⟩, if_pos (by omega)]
      rw [hd]
      exact ⟨by omega, by omega, t1, by show 128 ≤ b0 % 16 * 4096 + b1 % 64 * 64 + b2 % 64; omega, rfl⟩
    · left
      rw [if_neg ht]
      refine ⟨by omega, rfl, ?_⟩
      unfold Lib.decodeN
      rw [if_neg c0, if_neg (by omega)]
      by_cases hq : b0 / 16 = 14 ∧ (1 < n ∧ b1 / 64 = 2) ∧ (2 < n ∧ b2 / 64 = 2)
      · rw [if_pos hq]
        have hod : oddN b0 b1 := Classical.byContradiction fun h => ht ⟨⟨by omega, (hc b1).2 hq.2.1.2, fun _ => (hc b2).2 hq.2.2.2, fun h => by omega⟩, h⟩
        unfold oddN at hod
        rw [if_neg (by omega)]
      · rw [if_neg hq, if_neg (by omega)]
  · rw [k3]
    by_cases ht : tailN 4 n b1 b2 b3 ∧ ¬ oddN b0 b1
    · right
      rw [if_pos ht]
      obtain ⟨⟨t1, t2, t3, t4⟩, t5⟩ := ht
      have t2' := (hc b1).1 t2
      have t3' := (hc b2).1 (t3 (by omega))
      have t4' := (hc b3).1 (t4 (by omega))
      unfold oddN at t5
      have hd : Lib.decodeN n b0 b1 b2 b3 = (b0 % 8 * 262144 + b1 % 64 * 4096 + b2 % 64 * 64 + b3 % 64, 4) := by
        unfold Lib.decodeN
        rw [if_neg c0, if_neg (by omega), if_neg (by omega), if_pos ⟨by omega, ⟨by omega, t2'⟩, ⟨by omega, t3'⟩, by omega, t4'⟩, if_pos (by omega)]
      rw [hd]
      exact ⟨by omega, by omega, t1, by show 128 ≤ b0 % 8 * 262144 + b1 % 64 * 4096 + b2 % 64 * 64 + b3 % 64; omega, rfl⟩
    · left
      rw [if_neg ht]
      refine ⟨by omega, rfl, ?_⟩
      unfold Lib.decodeN
      rw [if_neg c0, if_neg (by omega), if_neg (by omega)]
      by_cases hq : b0 / 8 = 30 ∧ (1 < n ∧ b1 / 64 = 2) ∧ (2 < n ∧ b2 / 64 = 2) ∧ (3 < n ∧ b3 / 64 = 2)
      · rw [if_pos hq]
        have hod : oddN b0 b1 := Classical.byContradiction fun h => ht ⟨⟨by omega, (hc b1).2 hq.2.1.2, fun _ => (hc b2).2 hq.2.2.1.2, fun _ => (hc b3).2 hq.2.2.2.2⟩, h⟩
        unfold oddN at hod
        rw [if_neg (by omega)]
      · rw [if_neg hq]
/-- so many bytes go on with a rune -/
theorem tails_N (l : Bs) (i k : Nat) (hk : 2 ≤ k) (hk4 : k ≤ 4) (hi : i < l.length) : tailsL l (i + 1) (k - 1) = decide (tailN k (l.drop i).length ((l.drop i).getD 1 0).toNat ((l.drop i).getD 2 0).toNat ((l.drop i).getD 3 0).toNat) := by
  have hd : ∀ j, (l.drop i).getD j 0 = l.getD (i + j) 0 := fun j => by simp [List.getD, List.getElem?_drop]
  rw [hd, hd, hd, List.length_drop]
  unfold tailsL
  by_cases hle : i + 1 + (k - 1) ≤ l.length
  · rw [decide_eq_true hle, Bool.true_and]
    have e : ∀ j, i + 1 + j < l.length → (l.drop (i + 1))[j]? = some (l.getD (i + 1 + j) 0) := fun j hj => by
      rw [List.getElem?_drop, List.getElem?_eq_getElem hj]
      simp [List.getD, hj]
    have hcb : ∀ b : UInt8, contB b = decide (contN b.toNat) := fun b => rfl
    rw [Bool.eq_iff_iff, decide_eq_true_iff]
    unfold tailN
    rcases (by omega : k = 2 ∨ k = 3 ∨ k = 4) with rfl | rfl | rfl
    · have h1 : (l.drop (i + 1)).take 1 = [l.getD (i + 1) 0] := by rw [List.take_one, List.head?_eq_getElem?, e 0 (by omega)]; rfl
      rw [show (2 - 1 : Nat) = 1 from rfl, h1]
      simp only [List.all_cons, List.all_nil, hcb, Bool.and_true, decide_eq_true_eq]
      exact ⟨fun h => ⟨by omega, h, fun h => by omega, fun h => by omega⟩, fun h => h.2.1⟩
    · have h1 : (l.drop (i + 1)).take 2 = [l.getD (i + 1) 0, l.getD (i + 2) 0] := by
        rw [List.take_add_one, List.take_one, List.head?_eq_getElem?, e 0 (by omega), e 1 (by omega)]; rfl
      rw [show (3 - 1 : Nat) = 2 from rfl, h1]
      simp only [List.all_cons, List.all_nil, hcb, Bool.and_true, Bool.and_eq_true, decide_eq_true_eq]
      exact ⟨fun h => ⟨by omega, h.1, fun _ => h.2, fun h => by omega⟩, fun h => ⟨h.2.1, h.2.2.1 (by omega)⟩⟩
    · have h1 : (l.drop (i + 1)).take 3 = [l.getD (i + 1) 0, l.getD (i + 2) 0, l.getD (i + 3) 0] := by
        rw [List.take_add_one, List.take_add_one, List.take_one, List.head?_eq_getElem?, e 0 (by omega), e 1 (by omega), e 2 (by omega)]; rfl
      rw [show (4 - 1 : Nat) = 3 from rfl, h1]
      simp only [List.all_cons, List.all_nil, hcb, Bool.and_true, Bool.and_eq_true, decide_eq_true_eq]
      exact ⟨fun h => ⟨by omega, h.1, fun _ => h.2.1, fun _ => h.2.2⟩, fun h => ⟨h.2.1, h.2.2.1 (by omega), h.2.2.2 (by omega)⟩⟩
  · rw [decide_eq_false hle, Bool.false_and]
    refine (decide_eq_false fun h => ?_).symm
    have := h.1
    omega
set_option maxRecDepth 100000 in
set_option maxHeartbeats 4000000 in
theorem wide_any (q : ByteArray) (hq : q.size ≤ 1099511627776) (i : Nat) (hi : i < q.size) (w : World) : Calls Tryz.prog 39 #[.string q, .int .i64 (i : Nat)] w fun e w' => e = .returned (.int .i64 (wideL ((tl q).drop i) : Nat)) ∧ Below w.heap.size w w' := by
  have hlen : (tl q).length = q.size := by simp [tl]
  have hl0 : i < (tl q).length := by omega
  have h0 : ((tl q).drop i).getD 0 0 = q[i] := by
    rw [List.getD_eq_getElem?_getD, List.getElem?_drop, Nat.add_zero, List.getElem?_eq_getElem hl0]
    rfl
  obtain ⟨x, hx⟩ : ∃ x, q[i].toNat = x := ⟨_, rfl⟩
  have hx8 : x < 256 := by rw [← hx]; exact q[i].toNat_lt
  have hI : (i : Int) < q.size := by omega
  have hI0 : ¬ (i : Int) < 0 := by omega
  have hI1 : (i : Int) + 1 = ((i + 1 : Nat) : Int) := by omega
  obtain ⟨V, hV⟩ : ∃ V, wideL ((tl q).drop i) = V := ⟨_, rfl⟩
  rw [hV]
  have hV2 : V = wideN ((tl q).drop i).length x (((tl q).drop i).getD 1 0).toNat (((tl q).drop i).getD 2 0).toNat (((tl q).drop i).getD 3 0).toNat := by
    rw [← hV, ← hx, ← h0]
    rfl
  clear hV
  by_cases c0 : x < 128
  · have f0 : ((x : Nat) : Int) < 128 := by omega
    have hv : Hid (V = 1) := Lib.hid (by rw [hV2]; unfold wideN; rw [if_pos c0])
    clear hV2 c0 hI1
    go_enter Tryz.func39, Tryz.ntmps39
    go_upto_region 4 with (fail)
    go_wp2_with (fail)
    go_ret
    exact ⟨by rw [hv.out]; rfl, Below.refl _ _⟩
  have hk2 : 194 ≤ x ∧ x ≤ 223 → wideK x = 2 := fun h => by unfold wideK; rw [if_pos h]
  have hk3 : 224 ≤ x ∧ x ≤ 239 → wideK x = 3 := fun h => by unfold wideK; rw [if_neg (by omega), if_pos h]
  have hk4 : 240 ≤ x ∧ x ≤ 244 → wideK x = 4 := fun h => by unfold wideK; rw [if_neg (by omega), if_neg (by omega), if_pos h]
  have hyN : i + 1 < q.size → ∃ yb, q.data.toList[i + 1]? = some yb ∧ ((tl q).drop i).getD 1 0 = yb := fun h => by
    have h2 : i + 1 < q.data.toList.length := by simpa using h
    refine ⟨q.data.toList[i + 1], List.getElem?_eq_getElem h2, ?_⟩
    rw [List.getD_eq_getElem?_getD, List.getElem?_drop]
    show ((q.data.toList)[i + 1]?).getD 0 = _
    rw [List.getElem?_eq_getElem h2]
    rfl
  unfold wideN at hV2
  rw [if_neg c0] at hV2
  have f0 : ¬ ((x : Nat) : Int) < 128 := by omega
  have kb1 := fun W => between_any x 194 223 W
  have kb2 := fun W => between_any x 224 239 W
  have kb3 := fun W => between_any x 240 244 W
  rcases (by omega : (194 ≤ x ∧ x ≤ 223) ∨ (224 ≤ x ∧ x ≤ 239) ∨ (240 ≤ x ∧ x ≤ 244) ∨ (x < 194 ∨ 244 < x)) with hc | hc | hc | hc
  · have hK : wideK x = 2 := hk2 (by omega)
    rw [hK] at hV2
    rw [if_neg (by omega)] at hV2
    have b1 : decide (194 ≤ x ∧ x ≤ 223) = true := decide_eq_true (by omega)
    rw [b1] at kb1
    clear b1
    have kt := fun W => tails_any q hq (i + 1) 1 (by omega) (by omega) W
    rw [show tailsL (tl q) (i + 1) 1 = decide (tailN 2 ((tl q).drop i).length (((tl q).drop i).getD 1 0).toNat (((tl q).drop i).getD 2 0).toNat (((tl q).drop i).getD 3 0).toNat) from tails_N (tl q) i 2 (by omega) (by omega) (by omega)] at kt
    have hkn : tailN 2 ((tl q).drop i).length (((tl q).drop i).getD 1 0).toNat (((tl q).drop i).getD 2 0).toNat (((tl q).drop i).getD 3 0).toNat → i + 1 < q.size := fun h => by
      have h1 := h.1
      rw [List.length_drop] at h1
      omega
    rw [show ((i + 1 : Nat) : Int) = (i : Int) + 1 from by omega] at kt
    by_cases hT : tailN 2 ((tl q).drop i).length (((tl q).drop i).getD 1 0).toNat (((tl q).drop i).getD 2 0).toNat (((tl q).drop i).getD 3 0).toNat
    case neg =>
      rw [decide_eq_false hT] at kt
      have hv : Hid (V = 0) := Lib.hid (by rw [hV2, if_neg fun h => hT h.1])
      clear hV2 hT c0 hc hkn hI1 hK kb2 kb3 hk2 hk3 hk4 hyN
      go_enter Tryz.func39, Tryz.ntmps39
      go_wp2_with (first
        | (go_at_call 66; refine (kb1 w).mono ?_; clear kb1; rintro e w1 ⟨rfl, hB1⟩)
        | (go_at_call 67; refine (kt _).mono ?_; clear kt; rintro e w4 ⟨rfl, hB4⟩))
      go_ret
      exact ⟨by rw [hv.out]; rfl, hB1.trans (hB4.mono hB1.size)⟩
    case pos =>
      rw [decide_eq_true hT] at kt
      have hi1 := hkn hT
      obtain ⟨yb, hyb, hyD⟩ := hyN hi1
      obtain ⟨y, hy⟩ : ∃ y, yb.toNat = y := ⟨_, rfl⟩
      rw [hyD] at hT hV2
      rw [hy] at hT hV2
      obtain ⟨ob, hob⟩ : ∃ ob, (((((((((x : Nat) : Int) : Int) == (224 : Int))) && (decide ((((y : Nat) : Int) : Int) < (160 : Int)))) || ((((((x : Nat) : Int) : Int) == (237 : Int))) && (decide ((159 : Int) < (((y : Nat) : Int) : Int))))) || ((((((x : Nat) : Int) : Int) == (240 : Int))) && (decide ((((y : Nat) : Int) : Int) < (144 : Int))))) || ((((((x : Nat) : Int) : Int) == (244 : Int))) && (decide ((143 : Int) < (((y : Nat) : Int) : Int))))) = ob := ⟨_, rfl⟩
      have hodd : oddN x y ↔ ob = true := by
        rw [← hob]
        unfold oddN
        simp only [Bool.or_eq_true, Bool.and_eq_true, beq_iff_eq, decide_eq_true_eq]
        omega
      have hv : Hid (V = if ob then 0 else 2) := Lib.hid (by
        rw [hV2]
        cases ob with
        | true => rw [if_neg (fun h => h.2 (hodd.2 rfl))]; rfl
        | false => rw [if_pos ⟨hT, fun h => by have := hodd.1 h; cases this⟩]; rfl)
      have hob' := Lib.hid hob
      have hxH := Lib.hid hx
      have hyH := Lib.hid hy
      have hyb' := Lib.hid hyb
      clear hV2 hT c0 hc hkn hI1 hK kb2 kb3 hk2 hk3 hk4 hyN hodd hob hyD hyb hy
      go_enter Tryz.func39, Tryz.ntmps39
      go_upto_region 15 with (first
        | (go_at_call 66; refine (kb1 w).mono ?_; clear kb1; rintro e w1 ⟨rfl, hB1⟩)
        | (go_at_call 67; refine (kt _).mono ?_; clear kt; rintro e w4 ⟨rfl, hB4⟩))
      have hBb : Below w.heap.size w w4 := hB1.trans (hB4.mono hB1.size)
      have hyb := hyb'.out
      have hy := hyH.out
      refine wp_region_text 5 [eqS (.string q), eqS (.int .i64 (((i : Nat) : Int))), eqS (.int .i64 (((i + 1 : Nat) : Int))), eqS (.int .u8 (((y : Nat) : Int))), eqS (.int .u8 (((y : Nat) : Int)))] [32, 33, 34, 35, 8] (by kernel_rfl) (by kernel_rfl) ?_ ?_
      · skip
        refine Steps.cons (fun a' w' hG hB dep => gs_move (want_none rfl) _ rfl (id (hG.other 0 rfl))) ?_
        refine Steps.cons (fun a' w' hG hB dep => gs_move (want_none rfl) _ rfl (id (hG.other 1 rfl))) ?_
        refine Steps.cons (fun a' w' hG hB dep => gs_add_nat (want_none rfl) _ _ _ _ rfl i 1 (i + 1) (dep 1 rfl 33 rfl) rfl rfl (by omega) rfl) ?_
        refine Steps.cons (fun a' w' hG hB dep => gs_istr (want_none rfl) _ _ rfl q (i + 1) yb (dep 0 rfl 32 rfl) (dep 2 rfl 34 rfl) hyb (id (congrArg (fun n : Nat => Value.int .u8 (n : Int)) hy))) ?_
        refine Steps.cons (fun a' w' hG hB dep => gs_assign (want_none rfl) _ rfl (id (dep 3 rfl 35 rfl))) ?_
        exact Steps.nil
      intro u w5 hw5 ans
      have hus8 : u 8 = (.int .u8 (((y : Nat) : Int))) := ans 4 8 (by decide) rfl
      clear ans
      simp only [putAll, List.foldl_cons, List.foldl_nil, Act.put, List.setIfInBounds_toArray, List.set_cons_zero, List.set_cons_succ, hus8]
      clear hus8
      simp only [List.drop]
      refine wpList_nil ?_
      go_upto_region 16 with (fail)
      clear hy hyb
      refine wp_region_text 30 [eqS (.int .u8 (((x : Nat) : Int))), eqS (.bool (((((x : Nat) : Int) : Int) == (224 : Int)))), eqS (.bool (((((x : Nat) : Int) : Int) == (224 : Int)))), eqS (vF (true && ((((((x : Nat) : Int) : Int) == (224 : Int))) == true)) (.int .u8 (((y : Nat) : Int)))), eqS (vF (true && ((((((x : Nat) : Int) : Int) == (224 : Int))) == true)) (.bool (decide ((((y : Nat) : Int) : Int) < (160 : Int))))), eqS (.bool ((((((x : Nat) : Int) : Int) == (224 : Int))) && (decide ((((y : Nat) : Int) : Int) < (160 : Int))))), eqS (.bool ((((((x : Nat) : Int) : Int) == (224 : Int))) && (decide ((((y : Nat) : Int) : Int) < (160 : Int))))), eqS (vF (true && (((((((x : Nat) : Int) : Int) == (224 : Int))) && (decide ((((y : Nat) : Int) : Int) < (160 : Int)))) == false)) (.int .u8 (((x : Nat) : Int)))), eqS (vF (true && (((((((x : Nat) : Int) : Int) == (224 : Int))) && (decide ((((y : Nat) : Int) : Int) < (160 : Int)))) == false)) (.bool (((((x : Nat) : Int) : Int) == (237 : Int))))), eqS (vF (true && (((((((x : Nat) : Int) : Int) == (224 : Int))) && (decide ((((y : Nat) : Int) : Int) < (160 : Int)))) == false)) (.bool (((((x : Nat) : Int) : Int) == (237 : Int))))), eqS (vF ((true && (((((((x : Nat) : Int) : Int) == (224 : Int))) && (decide ((((y : Nat) : Int) : Int) < (160 : Int)))) == false)) && ((((((x : Nat) : Int) : Int) == (237 : Int))) == true)) (.int .u8 (((y : Nat) : Int)))), eqS (vF ((true && (((((((x : Nat) : Int) : Int) == (224 : Int))) && (decide ((((y : Nat) : Int) : Int) < (160 : Int)))) == false)) && ((((((x : Nat) : Int) : Int) == (237 : Int))) == true)) (.bool (decide ((159 : Int) < (((y : Nat) : Int) : Int))))), eqS (vF (true && (((((((x : Nat) : Int) : Int) == (224 : Int))) && (decide ((((y : Nat) : Int) : Int) < (160 : Int)))) == false)) (.bool ((((((x : Nat) : Int) : Int) == (237 : Int))) && (decide ((159 : Int) < (((y : Nat) : Int) : Int)))))), eqS (.bool (((((((x : Nat) : Int) : Int) == (224 : Int))) && (decide ((((y : Nat) : Int) : Int) < (160 : Int)))) || ((((((x : Nat) : Int) : Int) == (237 : Int))) && (decide ((159 : Int) < (((y : Nat) : Int) : Int)))))), eqS (.bool (((((((x : Nat) : Int) : Int) == (224 : Int))) && (decide ((((y : Nat) : Int) : Int) < (160 : Int)))) || ((((((x : Nat) : Int) : Int) == (237 : Int))) && (decide ((159 : Int) < (((y : Nat) : Int) : Int)))))), eqS (vF (true && ((((((((x : Nat) : Int) : Int) == (224 : Int))) && (decide ((((y : Nat) : Int) : Int) < (160 : Int)))) || ((((((x : Nat) : Int) : Int) == (237 : Int))) && (decide ((159 : Int) < (((y : Nat) : Int) : Int))))) == false)) (.int .u8 (((x : Nat) : Int)))), eqS (vF (true && ((((((((x : Nat) : Int) : Int) == (224 : Int))) && (decide ((((y : Nat) : Int) : Int) < (160 : Int)))) || ((((((x : Nat) : Int) : Int) == (237 : Int))) && (decide ((159 : Int) < (((y : Nat) : Int) : Int))))) == false)) (.bool (((((x : Nat) : Int) : Int) == (240 : Int))))), eqS (vF (true && ((((((((x : Nat) : Int) : Int) == (224 : Int))) && (decide ((((y : Nat) : Int) : Int) < (160 : Int)))) || ((((((x : Nat) : Int) : Int) == (237 : Int))) && (decide ((159 : Int) < (((y : Nat) : Int) : Int))))) == false)) (.bool (((((x : Nat) : Int) : Int) == (240 : Int))))), eqS (vF ((true && ((((((((x : Nat) : Int) : Int) == (224 : Int))) && (decide ((((y : Nat) : Int) : Int) < (160 : Int)))) || ((((((x : Nat) : Int) : Int) == (237 : Int))) && (decide ((159 : Int) < (((y : Nat) : Int) : Int))))) == false)) && ((((((x : Nat) : Int) : Int) == (240 : Int))) == true)) (.int .u8 (((y : Nat) : Int)))), eqS (vF ((true && ((((((((x : Nat) : Int) : Int) == (224 : Int))) && (decide ((((y : Nat) : Int) : Int) < (160 : Int)))) || ((((((x : Nat) : Int) : Int) == (237 : Int))) && (decide ((159 : Int) < (((y : Nat) : Int) : Int))))) == false)) && ((((((x : Nat) : Int) : Int) == (240 : Int))) == true)) (.bool (decide ((((y : Nat) : Int) : Int) < (144 : Int))))), eqS (vF (true && ((((((((x : Nat) : Int) : Int) == (224 : Int))) && (decide ((((y : Nat) : Int) : Int) < (160 : Int)))) || ((((((x : Nat) : Int) : Int) == (237 : Int))) && (decide ((159 : Int) < (((y : Nat) : Int) : Int))))) == false)) (.bool ((((((x : Nat) : Int) : Int) == (240 : Int))) && (decide ((((y : Nat) : Int) : Int) < (144 : Int)))))), eqS (.bool ((((((((x : Nat) : Int) : Int) == (224 : Int))) && (decide ((((y : Nat) : Int) : Int) < (160 : Int)))) || ((((((x : Nat) : Int) : Int) == (237 : Int))) && (decide ((159 : Int) < (((y : Nat) : Int) : Int))))) || ((((((x : Nat) : Int) : Int) == (240 : Int))) && (decide ((((y : Nat) : Int) : Int) < (144 : Int)))))), eqS (.bool ((((((((x : Nat) : Int) : Int) == (224 : Int))) && (decide ((((y : Nat) : Int) : Int) < (160 : Int)))) || ((((((x : Nat) : Int) : Int) == (237 : Int))) && (decide ((159 : Int) < (((y : Nat) : Int) : Int))))) || ((((((x : Nat) : Int) : Int) == (240 : Int))) && (decide ((((y : Nat) : Int) : Int) < (144 : Int)))))), eqS (vF (true && (((((((((x : Nat) : Int) : Int) == (224 : Int))) && (decide ((((y : Nat) : Int) : Int) < (160 : Int)))) || ((((((x : Nat) : Int) : Int) == (237 : Int))) && (decide ((159 : Int) < (((y : Nat) : Int) : Int))))) || ((((((x : Nat) : Int) : Int) == (240 : Int))) && (decide ((((y : Nat) : Int) : Int) < (144 : Int))))) == false)) (.int .u8 (((x : Nat) : Int)))), eqS (vF (true && (((((((((x : Nat) : Int) : Int) == (224 : Int))) && (decide ((((y : Nat) : Int) : Int) < (160 : Int)))) || ((((((x : Nat) : Int) : Int) == (237 : Int))) && (decide ((159 : Int) < (((y : Nat) : Int) : Int))))) || ((((((x : Nat) : Int) : Int) == (240 : Int))) && (decide ((((y : Nat) : Int) : Int) < (144 : Int))))) == false)) (.bool (((((x : Nat) : Int) : Int) == (244 : Int))))), eqS (vF (true && (((((((((x : Nat) : Int) : Int) == (224 : Int))) && (decide ((((y : Nat) : Int) : Int) < (160 : Int)))) || ((((((x : Nat) : Int) : Int) == (237 : Int))) && (decide ((159 : Int) < (((y : Nat) : Int) : Int))))) || ((((((x : Nat) : Int) : Int) == (240 : Int))) && (decide ((((y : Nat) : Int) : Int) < (144 : Int))))) == false)) (.bool (((((x : Nat) : Int) : Int) == (244 : Int))))), eqS (vF ((true && (((((((((x : Nat) : Int) : Int) == (224 : Int))) && (decide ((((y : Nat) : Int) : Int) < (160 : Int)))) || ((((((x : Nat) : Int) : Int) == (237 : Int))) && (decide ((159 : Int) < (((y : Nat) : Int) : Int))))) || ((((((x : Nat) : Int) : Int) == (240 : Int))) && (decide ((((y : Nat) : Int) : Int) < (144 : Int))))) == false)) && ((((((x : Nat) : Int) : Int) == (244 : Int))) == true)) (.int .u8 (((y : Nat) : Int)))), eqS (vF ((true && (((((((((x : Nat) : Int) : Int) == (224 : Int))) && (decide ((((y : Nat) : Int) : Int) < (160 : Int)))) || ((((((x : Nat) : Int) : Int) == (237 : Int))) && (decide ((159 : Int) < (((y : Nat) : Int) : Int))))) || ((((((x : Nat) : Int) : Int) == (240 : Int))) && (decide ((((y : Nat) : Int) : Int) < (144 : Int))))) == false)) && ((((((x : Nat) : Int) : Int) == (244 : Int))) == true)) (.bool (decide ((143 : Int) < (((y : Nat) : Int) : Int))))), eqS (vF (true && (((((((((x : Nat) : Int) : Int) == (224 : Int))) && (decide ((((y : Nat) : Int) : Int) < (160 : Int)))) || ((((((x : Nat) : Int) : Int) == (237 : Int))) && (decide ((159 : Int) < (((y : Nat) : Int) : Int))))) || ((((((x : Nat) : Int) : Int) == (240 : Int))) && (decide ((((y : Nat) : Int) : Int) < (144 : Int))))) == false)) (.bool ((((((x : Nat) : Int) : Int) == (244 : Int))) && (decide ((143 : Int) < (((y : Nat) : Int) : Int)))))), eqS (.bool (((((((((x : Nat) : Int) : Int) == (224 : Int))) && (decide ((((y : Nat) : Int) : Int) < (160 : Int)))) || ((((((x : Nat) : Int) : Int) == (237 : Int))) && (decide ((159 : Int) < (((y : Nat) : Int) : Int))))) || ((((((x : Nat) : Int) : Int) == (240 : Int))) && (decide ((((y : Nat) : Int) : Int) < (144 : Int))))) || ((((((x : Nat) : Int) : Int) == (244 : Int))) && (decide ((143 : Int) < (((y : Nat) : Int) : Int))))))] [36, 37, 38, 39, 40, 41, 42, 43, 44, 45, 46, 47, 48, 49, 50, 51, 52, 53, 54, 55, 56, 57, 58, 59, 60, 61, 62, 63, 64, 65] (by kernel_rfl) (by kernel_rfl) ?_ ?_
      · skip
        refine Steps.cons (fun a' w' hG hB dep => gs_move (want_none rfl) _ rfl (id (hG.other 5 rfl))) ?_
        refine Steps.cons (fun a' w' hG hB dep => gs_eql_int (want_none rfl) _ _ _ _ rfl _ _ _ (dep 0 rfl 36 rfl) rfl (id (congrArg Value.bool rfl))) ?_
        refine Steps.cons (fun a' w' hG hB dep => gs_move (want_none rfl) _ rfl (id (dep 1 rfl 37 rfl))) ?_
        refine Steps.cons (fun a' w' hG hB dep => gs_guard (c := true) (b' := (((((x : Nat) : Int) : Int) == (224 : Int)))) rfl rfl (dep 2 rfl 38 rfl) (fun hc he hw => gs_move hw _ rfl (Eq.trans (hG.other 8 rfl) (vF_yes (on_g hc he) _).symm)) (fun hn => vF_no hn _)) ?_
        refine Steps.cons (fun a' w' hG hB dep => gs_guard (c := true) (b' := (((((x : Nat) : Int) : Int) == (224 : Int)))) rfl rfl (dep 2 rfl 38 rfl) (fun hc he hw => gs_lss_int hw _ _ _ _ rfl _ _ _ (Eq.trans (dep 3 rfl 39 rfl) (vF_yes (on_g hc he) _)) rfl (Eq.trans (congrArg Value.bool rfl) (vF_yes (on_g hc he) _).symm)) (fun hn => vF_no hn _)) ?_
        refine Steps.cons (fun a' w' hG hB dep => gs_pick (want_none rfl) _ _ _ rfl (((((x : Nat) : Int) : Int) == (224 : Int))) (dep 2 rfl 38 rfl) (id (pick_and2 (c := true) rfl (dep 4 rfl 40 rfl)))) ?_
        refine Steps.cons (fun a' w' hG hB dep => gs_move (want_none rfl) _ rfl (id (dep 5 rfl 41 rfl))) ?_
        refine Steps.cons (fun a' w' hG hB dep => gs_guard (c := true) (b' := ((((((x : Nat) : Int) : Int) == (224 : Int))) && (decide ((((y : Nat) : Int) : Int) < (160 : Int))))) rfl rfl (dep 6 rfl 42 rfl) (fun hc he hw => gs_move hw _ rfl (Eq.trans (hG.other 5 rfl) (vF_yes (on_g hc he) _).symm)) (fun hn => vF_no hn _)) ?_
        refine Steps.cons (fun a' w' hG hB dep => gs_guard (c := true) (b' := ((((((x : Nat) : Int) : Int) == (224 : Int))) && (decide ((((y : Nat) : Int) : Int) < (160 : Int))))) rfl rfl (dep 6 rfl 42 rfl) (fun hc he hw => gs_eql_int hw _ _ _ _ rfl _ _ _ (Eq.trans (dep 7 rfl 43 rfl) (vF_yes (on_g hc he) _)) rfl (Eq.trans (congrArg Value.bool rfl) (vF_yes (on_g hc he) _).symm)) (fun hn => vF_no hn _)) ?_
        refine Steps.cons (fun a' w' hG hB dep => gs_guard (c := true) (b' := ((((((x : Nat) : Int) : Int) == (224 : Int))) && (decide ((((y : Nat) : Int) : Int) < (160 : Int))))) rfl rfl (dep 6 rfl 42 rfl) (fun hc he hw => gs_move hw _ rfl (Eq.trans (Eq.trans (dep 8 rfl 44 rfl) (vF_yes (on_g hc he) _)) (vF_yes (on_g hc he) _).symm)) (fun hn => vF_no hn _)) ?_
        refine Steps.cons (fun a' w' hG hB dep => gs_guard (c := (true && (((((((x : Nat) : Int) : Int) == (224 : Int))) && (decide ((((y : Nat) : Int) : Int) < (160 : Int)))) == false))) (b' := (((((x : Nat) : Int) : Int) == (237 : Int)))) rfl rfl (dep 9 rfl 45 rfl) (fun hc he hw => gs_move hw _ rfl (Eq.trans (hG.other 8 rfl) (vF_yes (on_g hc he) _).symm)) (fun hn => vF_no hn _)) ?_
        refine Steps.cons (fun a' w' hG hB dep => gs_guard (c := (true && (((((((x : Nat) : Int) : Int) == (224 : Int))) && (decide ((((y : Nat) : Int) : Int) < (160 : Int)))) == false))) (b' := (((((x : Nat) : Int) : Int) == (237 : Int)))) rfl rfl (dep 9 rfl 45 rfl) (fun hc he hw => gs_gtr_int hw _ _ _ _ rfl _ _ _ (Eq.trans (dep 10 rfl 46 rfl) (vF_yes (on_g hc he) _)) rfl (Eq.trans (congrArg Value.bool rfl) (vF_yes (on_g hc he) _).symm)) (fun hn => vF_no hn _)) ?_
        refine Steps.cons (fun a' w' hG hB dep => gs_guard (c := true) (b' := ((((((x : Nat) : Int) : Int) == (224 : Int))) && (decide ((((y : Nat) : Int) : Int) < (160 : Int))))) rfl rfl (dep 6 rfl 42 rfl) (fun hc he hw => gs_pick hw _ _ _ rfl (((((x : Nat) : Int) : Int) == (237 : Int))) (Eq.trans (dep 9 rfl 45 rfl) (vF_yes (on_g hc he) _)) (Eq.trans (pick_and2 (c := (true && (((((((x : Nat) : Int) : Int) == (224 : Int))) && (decide ((((y : Nat) : Int) : Int) < (160 : Int)))) == false))) (on_g hc he) (dep 11 rfl 47 rfl)) (vF_yes (on_g hc he) _).symm)) (fun hn => vF_no hn _)) ?_
        refine Steps.cons (fun a' w' hG hB dep => gs_pick (want_none rfl) _ _ _ rfl ((((((x : Nat) : Int) : Int) == (224 : Int))) && (decide ((((y : Nat) : Int) : Int) < (160 : Int)))) (dep 6 rfl 42 rfl) (id (pick_or2 (c := true) rfl (dep 12 rfl 48 rfl)))) ?_
        refine Steps.cons (fun a' w' hG hB dep => gs_move (want_none rfl) _ rfl (id (dep 13 rfl 49 rfl))) ?_
        refine Steps.cons (fun a' w' hG hB dep => gs_guard (c := true) (b' := (((((((x : Nat) : Int) : Int) == (224 : Int))) && (decide ((((y : Nat) : Int) : Int) < (160 : Int)))) || ((((((x : Nat) : Int) : Int) == (237 : Int))) && (decide ((159 : Int) < (((y : Nat) : Int) : Int)))))) rfl rfl (dep 14 rfl 50 rfl) (fun hc he hw => gs_move hw _ rfl (Eq.trans (hG.other 5 rfl) (vF_yes (on_g hc he) _).symm)) (fun hn => vF_no hn _)) ?_
        refine Steps.cons (fun a' w' hG hB dep => gs_guard (c := true) (b' := (((((((x : Nat) : Int) : Int) == (224 : Int))) && (decide ((((y : Nat) : Int) : Int) < (160 : Int)))) || ((((((x : Nat) : Int) : Int) == (237 : Int))) && (decide ((159 : Int) < (((y : Nat) : Int) : Int)))))) rfl rfl (dep 14 rfl 50 rfl) (fun hc he hw => gs_eql_int hw _ _ _ _ rfl _ _ _ (Eq.trans (dep 15 rfl 51 rfl) (vF_yes (on_g hc he) _)) rfl (Eq.trans (congrArg Value.bool rfl) (vF_yes (on_g hc he) _).symm)) (fun hn => vF_no hn _)) ?_
        refine Steps.cons (fun a' w' hG hB dep => gs_guard (c := true) (b' := (((((((x : Nat) : Int) : Int) == (224 : Int))) && (decide ((((y : Nat) : Int) : Int) < (160 : Int)))) || ((((((x : Nat) : Int) : Int) == (237 : Int))) && (decide ((159 : Int) < (((y : Nat) : Int) : Int)))))) rfl rfl (dep 14 rfl 50 rfl) (fun hc he hw => gs_move hw _ rfl (Eq.trans (Eq.trans (dep 16 rfl 52 rfl) (vF_yes (on_g hc he) _)) (vF_yes (on_g hc he) _).symm)) (fun hn => vF_no hn _)) ?_
        refine Steps.cons (fun a' w' hG hB dep => gs_guard (c := (true && ((((((((x : Nat) : Int) : Int) == (224 : Int))) && (decide ((((y : Nat) : Int) : Int) < (160 : Int)))) || ((((((x : Nat) : Int) : Int) == (237 : Int))) && (decide ((159 : Int) < (((y : Nat) : Int) : Int))))) == false))) (b' := (((((x : Nat) : Int) : Int) == (240 : Int)))) rfl rfl (dep 17 rfl 53 rfl) (fun hc he hw => gs_move hw _ rfl (Eq.trans (hG.other 8 rfl) (vF_yes (on_g hc he) _).symm)) (fun hn => vF_no hn _)) ?_
        refine Steps.cons (fun a' w' hG hB dep => gs_guard (c := (true && ((((((((x : Nat) : Int) : Int) == (224 : Int))) && (decide ((((y : Nat) : Int) : Int) < (160 : Int)))) || ((((((x : Nat) : Int) : Int) == (237 : Int))) && (decide ((159 : Int) < (((y : Nat) : Int) : Int))))) == false))) (b' := (((((x : Nat) : Int) : Int) == (240 : Int)))) rfl rfl (dep 17 rfl 53 rfl) (fun hc he hw => gs_lss_int hw _ _ _ _ rfl _ _ _ (Eq.trans (dep 18 rfl 54 rfl) (vF_yes (on_g hc he) _)) rfl (Eq.trans (congrArg Value.bool rfl) (vF_yes (on_g hc he) _).symm)) (fun hn => vF_no hn _)) ?_
        refine Steps.cons (fun a' w' hG hB dep => gs_guard (c := true) (b' := (((((((x : Nat) : Int) : Int) == (224 : Int))) && (decide ((((y : Nat) : Int) : Int) < (160 : Int)))) || ((((((x : Nat) : Int) : Int) == (237 : Int))) && (decide ((159 : Int) < (((y : Nat) : Int) : Int)))))) rfl rfl (dep 14 rfl 50 rfl) (fun hc he hw => gs_pick hw _ _ _ rfl (((((x : Nat) : Int) : Int) == (240 : Int))) (Eq.trans (dep 17 rfl 53 rfl) (vF_yes (on_g hc he) _)) (Eq.trans (pick_and2 (c := (true && ((((((((x : Nat) : Int) : Int) == (224 : Int))) && (decide ((((y : Nat) : Int) : Int) < (160 : Int)))) || ((((((x : Nat) : Int) : Int) == (237 : Int))) && (decide ((159 : Int) < (((y : Nat) : Int) : Int))))) == false))) (on_g hc he) (dep 19 rfl 55 rfl)) (vF_yes (on_g hc he) _).symm)) (fun hn => vF_no hn _)) ?_
        refine Steps.cons (fun a' w' hG hB dep => gs_pick (want_none rfl) _ _ _ rfl (((((((x : Nat) : Int) : Int) == (224 : Int))) && (decide ((((y : Nat) : Int) : Int) < (160 : Int)))) || ((((((x : Nat) : Int) : Int) == (237 : Int))) && (decide ((159 : Int) < (((y : Nat) : Int) : Int))))) (dep 14 rfl 50 rfl) (id (pick_or2 (c := true) rfl (dep 20 rfl 56 rfl)))) ?_
        refine Steps.cons (fun a' w' hG hB dep => gs_move (want_none rfl) _ rfl (id (dep 21 rfl 57 rfl))) ?_
        refine Steps.cons (fun a' w' hG hB dep => gs_guard (c := true) (b' := ((((((((x : Nat) : Int) : Int) == (224 : Int))) && (decide ((((y : Nat) : Int) : Int) < (160 : Int)))) || ((((((x : Nat) : Int) : Int) == (237 : Int))) && (decide ((159 : Int) < (((y : Nat) : Int) : Int))))) || ((((((x : Nat) : Int) : Int) == (240 : Int))) && (decide ((((y : Nat) : Int) : Int) < (144 : Int)))))) rfl rfl (dep 22 rfl 58 rfl) (fun hc he hw => gs_move hw _ rfl (Eq.trans (hG.other 5 rfl) (vF_yes (on_g hc he) _).symm)) (fun hn => vF_no hn _)) ?_
        refine Steps.cons (fun a' w' hG hB dep => gs_guard (c := true) (b' := ((((((((x : Nat) : Int) : Int) == (224 : Int))) && (decide ((((y : Nat) : Int) : Int) < (160 : Int)))) || ((((((x : Nat) : Int) : Int) == (237 : Int))) && (decide ((159 : Int) < (((y : Nat) : Int) : Int))))) || ((((((x : Nat) : Int) : Int) == (240 : Int))) && (decide ((((y : Nat) : Int) : Int) < (144 : Int)))))) rfl rfl (dep 22 rfl 58 rfl) (fun hc he hw => gs_eql_int hw _ _ _ _ rfl _ _ _ (Eq.trans (dep 23 rfl 59 rfl) (vF_yes (on_g hc he) _)) rfl (Eq.trans (congrArg Value.bool rfl) (vF_yes (on_g hc he) _).symm)) (fun hn => vF_no hn _)) ?_
        refine Steps.cons (fun a' w' hG hB dep => gs_guard (c := true) (b' := ((((((((x : Nat) : Int) : Int) == (224 : Int))) && (decide ((((y : Nat) : Int) : Int) < (160 : Int)))) || ((((((x : Nat) : Int) : Int) == (237 : Int))) && (decide ((159 : Int) < (((y : Nat) : Int) : Int))))) || ((((((x : Nat) : Int) : Int) == (240 : Int))) && (decide ((((y : Nat) : Int) : Int) < (144 : Int)))))) rfl rfl (dep 22 rfl 58 rfl) (fun hc he hw => gs_move hw _ rfl (Eq.trans (Eq.trans (dep 24 rfl 60 rfl) (vF_yes (on_g hc he) _)) (vF_yes (on_g hc he) _).symm)) (fun hn => vF_no hn _)) ?_
        refine Steps.cons (fun a' w' hG hB dep => gs_guard (c := (true && (((((((((x : Nat) : Int) : Int) == (224 : Int))) && (decide ((((y : Nat) : Int) : Int) < (160 : Int)))) || ((((((x : Nat) : Int) : Int) == (237 : Int))) && (decide ((159 : Int) < (((y : Nat) : Int) : Int))))) || ((((((x : Nat) : Int) : Int) == (240 : Int))) && (decide ((((y : Nat) : Int) : Int) < (144 : Int))))) == false))) (b' := (((((x : Nat) : Int) : Int) == (244 : Int)))) rfl rfl (dep 25 rfl 61 rfl) (fun hc he hw => gs_move hw _ rfl (Eq.trans (hG.other 8 rfl) (vF_yes (on_g hc he) _).symm)) (fun hn => vF_no hn _)) ?_
        refine Steps.cons (fun a' w' hG hB dep => gs_guard (c := (true && (((((((((x : Nat) : Int) : Int) == (224 : Int))) && (decide ((((y : Nat) : Int) : Int) < (160 : Int)))) || ((((((x : Nat) : Int) : Int) == (237 : Int))) && (decide ((159 : Int) < (((y : Nat) : Int) : Int))))) || ((((((x : Nat) : Int) : Int) == (240 : Int))) && (decide ((((y : Nat) : Int) : Int) < (144 : Int))))) == false))) (b' := (((((x : Nat) : Int) : Int) == (244 : Int)))) rfl rfl (dep 25 rfl 61 rfl) (fun hc he hw => gs_gtr_int hw _ _ _ _ rfl _ _ _ (Eq.trans (dep 26 rfl 62 rfl) (vF_yes (on_g hc he) _)) rfl (Eq.trans (congrArg Value.bool rfl) (vF_yes (on_g hc he) _).symm)) (fun hn => vF_no hn _)) ?_
        refine Steps.cons (fun a' w' hG hB dep => gs_guard (c := true) (b' := ((((((((x : Nat) : Int) : Int) == (224 : Int))) && (decide ((((y : Nat) : Int) : Int) < (160 : Int)))) || ((((((x : Nat) : Int) : Int) == (237 : Int))) && (decide ((159 : Int) < (((y : Nat) : Int) : Int))))) || ((((((x : Nat) : Int) : Int) == (240 : Int))) && (decide ((((y : Nat) : Int) : Int) < (144 : Int)))))) rfl rfl (dep 22 rfl 58 rfl) (fun hc he hw => gs_pick hw _ _ _ rfl (((((x : Nat) : Int) : Int) == (244 : Int))) (Eq.trans (dep 25 rfl 61 rfl) (vF_yes (on_g hc he) _)) (Eq.trans (pick_and2 (c := (true && (((((((((x : Nat) : Int) : Int) == (224 : Int))) && (decide ((((y : Nat) : Int) : Int) < (160 : Int)))) || ((((((x : Nat) : Int) : Int) == (237 : Int))) && (decide ((159 : Int) < (((y : Nat) : Int) : Int))))) || ((((((x : Nat) : Int) : Int) == (240 : Int))) && (decide ((((y : Nat) : Int) : Int) < (144 : Int))))) == false))) (on_g hc he) (dep 27 rfl 63 rfl)) (vF_yes (on_g hc he) _).symm)) (fun hn => vF_no hn _)) ?_
        refine Steps.cons (fun a' w' hG hB dep => gs_pick (want_none rfl) _ _ _ rfl ((((((((x : Nat) : Int) : Int) == (224 : Int))) && (decide ((((y : Nat) : Int) : Int) < (160 : Int)))) || ((((((x : Nat) : Int) : Int) == (237 : Int))) && (decide ((159 : Int) < (((y : Nat) : Int) : Int))))) || ((((((x : Nat) : Int) : Int) == (240 : Int))) && (decide ((((y : Nat) : Int) : Int) < (144 : Int))))) (dep 22 rfl 58 rfl) (id (pick_or2 (c := true) rfl (dep 28 rfl 64 rfl)))) ?_
        exact Steps.nil
      intro u w6 hw6 ans
      have hus65 : u 65 = (.bool (((((((((x : Nat) : Int) : Int) == (224 : Int))) && (decide ((((y : Nat) : Int) : Int) < (160 : Int)))) || ((((((x : Nat) : Int) : Int) == (237 : Int))) && (decide ((159 : Int) < (((y : Nat) : Int) : Int))))) || ((((((x : Nat) : Int) : Int) == (240 : Int))) && (decide ((((y : Nat) : Int) : Int) < (144 : Int))))) || ((((((x : Nat) : Int) : Int) == (244 : Int))) && (decide ((143 : Int) < (((y : Nat) : Int) : Int)))))) := ans 29 65 (by decide) rfl
      clear ans
      simp only [putAll, List.foldl_cons, List.foldl_nil, Act.put, List.setIfInBounds_toArray, List.set_cons_zero, List.set_cons_succ, hus65]
      clear hus65
      simp only [List.drop]
      refine wpList_nil ?_
      rw [hob'.out]
      have hBc : Below w.heap.size w w6 := (hBb.trans (hw5.mono hBb.size)).trans (hw6.mono (hBb.trans (hw5.mono hBb.size)).size)
      cases ob with
      | true =>
        go_wp2_with (fail)
        go_ret
        exact ⟨by rw [hv.out]; rfl, hBc⟩
      | false =>
        go_wp2_with (fail)
        go_ret
        exact ⟨by rw [hv.out]; rfl, hBc⟩
  · have hK : wideK x = 3 := hk3 (by omega)
    rw [hK] at hV2
    rw [if_neg (by omega)] at hV2
    have b1 : decide (194 ≤ x ∧ x ≤ 223) = false := decide_eq_false (by omega)
    rw [b1] at kb1
    clear b1
    have b2 : decide (224 ≤ x ∧ x ≤ 239) = true := decide_eq_true (by omega)
    rw [b2] at kb2
    clear b2
    have kt := fun W => tails_any q hq (i + 1) 2 (by omega) (by omega) W
    rw [show tailsL (tl q) (i + 1) 2 = decide (tailN 3 ((tl q).drop i).length (((tl q).drop i).getD 1 0).toNat (((tl q).drop i).getD 2 0).toNat (((tl q).drop i).getD 3 0).toNat) from tails_N (tl q) i 3 (by omega) (by omega) (by omega)] at kt
    have hkn : tailN 3 ((tl q).drop i).length (((tl q).drop i).getD 1 0).toNat (((tl q).drop i).getD 2 0).toNat (((tl q).drop i).getD 3 0).toNat → i + 1 < q.size := fun h => by
      have h1 := h.1
      rw [List.length_drop] at h1
      omega
    rw [show ((i + 1 : Nat) : Int) = (i : Int) + 1 from by omega] at kt
    by_cases hT : tailN 3 ((tl q).drop i).length (((tl q).drop i).getD 1 0).toNat (((tl q).drop i).getD 2 0).toNat (((tl q).drop i).getD 3 0).toNat
    case neg =>
      rw [decide_eq_false hT] at kt
      have hv : Hid (V = 0) := Lib.hid (by rw [hV2, if_neg fun h => hT h.1])
      clear hV2 hT c0 hc hkn hI1 hK kb3 hk2 hk3 hk4 hyN
      go_enter Tryz.func39, Tryz.ntmps39
      go_wp2_with (first
        | (go_at_call 66; refine (kb1 w).mono ?_; clear kb1; rintro e w1 ⟨rfl, hB1⟩)
        | (go_at_call 66; refine (kb2 _).mono ?_; clear kb2; rintro e w2 ⟨rfl, hB2⟩)
        | (go_at_call 67; refine (kt _).mono ?_; clear kt; rintro e w4 ⟨rfl, hB4⟩))
      go_ret
      exact ⟨by rw [hv.out]; rfl, (hB1.trans (hB2.mono hB1.size)).trans (hB4.mono (hB1.trans (hB2.mono hB1.size)).size)⟩
    case pos =>
      rw [decide_eq_true hT] at kt
      have hi1 := hkn hT
      obtain ⟨yb, hyb, hyD⟩ := hyN hi1
      obtain ⟨y, hy⟩ : ∃ y, yb.toNat = y := ⟨_, rfl⟩
      rw [hyD] at hT hV2
      rw [hy] at hT hV2
      obtain ⟨ob, hob⟩ : ∃ ob, (((((((((x : Nat) : Int) : Int) == (224 : Int))) && (decide ((((y : Nat) : Int) : Int) < (160 : Int)))) || ((((((x : Nat) : Int) : Int) == (237 : Int))) && (decide ((159 : Int) < (((y : Nat) : Int) : Int))))) || ((((((x : Nat) : Int) : Int) == (240 : Int))) && (decide ((((y : Nat) : Int) : Int) < (144 : Int))))) || ((((((x : Nat) : Int) : Int) == (244 : Int))) && (decide ((143 : Int) < (((y : Nat) : Int) : Int))))) = ob := ⟨_, rfl⟩
      have hodd : oddN x y ↔ ob = true := by
        rw [← hob]
        unfold oddN
        simp only [Bool.or_eq_true, Bool.and_eq_true, beq_iff_eq, decide_eq_true_eq]
        omega
      have hv : Hid (V = if ob then 0 else 3) := Lib.hid (by
        rw [hV2]
        cases ob with
        | true => rw [if_neg (fun h => h.2 (hodd.2 rfl))]; rfl
        | false => rw [if_pos ⟨hT, fun h => by have := hodd.1 h; cases this⟩]; rfl)
      have hob' := Lib.hid hob
      have hxH := Lib.hid hx
      have hyH := Lib.hid hy
      have hyb' := Lib.hid hyb
      clear hV2 hT c0 hc hkn hI1 hK kb3 hk2 hk3 hk4 hyN hodd hob hyD hyb hy
      go_enter Tryz.func39, Tryz.ntmps39
      go_upto_region 15 with (first
        | (go_at_call 66; refine (kb1 w).mono ?_; clear kb1; rintro e w1 ⟨rfl, hB1⟩)
        | (go_at_call 66; refine (kb2 _).mono ?_; clear kb2; rintro e w2 ⟨rfl, hB2⟩)
        | (go_at_call 67; refine (kt _).mono ?_; clear kt; rintro e w4 ⟨rfl, hB4⟩))
      have hBb : Below w.heap.size w w4 := (hB1.trans (hB2.mono hB1.size)).trans (hB4.mono (hB1.trans (hB2.mono hB1.size)).size)
      have hyb := hyb'.out
      have hy := hyH.out
      refine wp_region_text 5 [eqS (.string q), eqS (.int .i64 (((i : Nat) : Int))), eqS (.int .i64 (((i + 1 : Nat) : Int))), eqS (.int .u8 (((y : Nat) : Int))), eqS (.int .u8 (((y : Nat) : Int)))] [32, 33, 34, 35, 8] (by kernel_rfl) (by kernel_rfl) ?_ ?_
      · skip
        refine Steps.cons (fun a' w' hG hB dep => gs_move (want_none rfl) _ rfl (id (hG.other 0 rfl))) ?_
        refine Steps.cons (fun a' w' hG hB dep => gs_move (want_none rfl) _ rfl (id (hG.other 1 rfl))) ?_
        refine Steps.cons (fun a' w' hG hB dep => gs_add_nat (want_none rfl) _ _ _ _ rfl i 1 (i + 1) (dep 1 rfl 33 rfl) rfl rfl (by omega) rfl) ?_
        refine Steps.cons (fun a' w' hG hB dep => gs_istr (want_none rfl) _ _ rfl q (i + 1) yb (dep 0 rfl 32 rfl) (dep 2 rfl 34 rfl) hyb (id (congrArg (fun n : Nat => Value.int .u8 (n : Int)) hy))) ?_
        refine Steps.cons (fun a' w' hG hB dep => gs_assign (want_none rfl) _ rfl (id (dep 3 rfl 35 rfl))) ?_
        exact Steps.nil
      intro u w5 hw5 ans
      have hus8 : u 8 = (.int .u8 (((y : Nat) : Int))) := ans 4 8 (by decide) rfl
      clear ans
      simp only [putAll, List.foldl_cons, List.foldl_nil, Act.put, List.setIfInBounds_toArray, List.set_cons_zero, List.set_cons_succ, hus8]
      clear hus8
      simp only [List.drop]
      refine wpList_nil ?_
      go_upto_region 16 with (fail)
      clear hy hyb
      refine wp_region_text 30 [eqS (.int .u8 (((x : Nat) : Int))), eqS (.bool (((((x : Nat) : Int) : Int) == (224 : Int)))), eqS (.bool (((((x : Nat) : Int) : Int) == (224 : Int)))), eqS (vF (true && ((((((x : Nat) : Int) : Int) == (224 : Int))) == true)) (.int .u8 (((y : Nat) : Int)))), eqS (vF (true && ((((((x : Nat) : Int) : Int) == (224 : Int))) == true)) (.bool (decide ((((y : Nat) : Int) : Int) < (160 : Int))))), eqS (.bool ((((((x : Nat) : Int) : Int) == (224 : Int))) && (decide ((((y : Nat) : Int) : Int) < (160 : Int))))), eqS (.bool ((((((x : Nat) : Int) : Int) == (224 : Int))) && (decide ((((y : Nat) : Int) : Int) < (160 : Int))))), eqS (vF (true && (((((((x : Nat) : Int) : Int) == (224 : Int))) && (decide ((((y : Nat) : Int) : Int) < (160 : Int)))) == false)) (.int .u8 (((x : Nat) : Int)))), eqS (vF (true && (((((((x : Nat) : Int) : Int) == (224 : Int))) && (decide ((((y : Nat) : Int) : Int) < (160 : Int)))) == false)) (.bool (((((x : Nat) : Int) : Int) == (237 : Int))))), eqS (vF (true && (((((((x : Nat) : Int) : Int) == (224 : Int))) && (decide ((((y : Nat) : Int) : Int) < (160 : Int)))) == false)) (.bool (((((x : Nat) : Int) : Int) == (237 : Int))))), eqS (vF ((true && (((((((x : Nat) : Int) : Int) == (224 : Int))) && (decide ((((y : Nat) : Int) : Int) < (160 : Int)))) == false)) && ((((((x : Nat) : Int) : Int) == (237 : Int))) == true)) (.int .u8 (((y : Nat) : Int)))), eqS (vF ((true && (((((((x : Nat) : Int) : Int) == (224 : Int))) && (decide ((((y : Nat) : Int) : Int) < (160 : Int)))) == false)) && ((((((x : Nat) : Int) : Int) == (237 : Int))) == true)) (.bool (decide ((159 : Int) < (((y : Nat) : Int) : Int))))), eqS (vF (true && (((((((x : Nat) : Int) : Int) == (224 : Int))) && (decide ((((y : Nat) : Int) : Int) < (160 : Int)))) == false)) (.bool ((((((x : Nat) : Int) : Int) == (237 : Int))) && (decide ((159 : Int) < (((y : Nat) : Int) : Int)))))), eqS (.bool (((((((x : Nat) : Int) : Int) == (224 : Int))) && (decide ((((y : Nat) : Int) : Int) < (160 : Int)))) || ((((((x : Nat) : Int) : Int) == (237 : Int))) && (decide ((159 : Int) < (((y : Nat) : Int) : Int)))))), eqS (.bool (((((((x : Nat) : Int) : Int) == (224 : Int))) && (decide ((((y : Nat) : Int) : Int) < (160 : Int)))) || ((((((x : Nat) : Int) : Int) == (237 : Int))) && (decide ((159 : Int) < (((y : Nat) : Int) : Int)))))), eqS (vF (true && ((((((((x : Nat) : Int) : Int) == (224 : Int))) && (decide ((((y : Nat) : Int) : Int) < (160 : Int)))) || ((((((x : Nat) : Int) : Int) == (237 : Int))) && (decide ((159 : Int) < (((y : Nat) : Int) : Int))))) == false)) (.int .u8 (((x : Nat) : Int)))), eqS (vF (true && ((((((((x : Nat) : Int) : Int) == (224 : Int))) && (decide ((((y : Nat) : Int) : Int) < (160 : Int)))) || ((((((x : Nat) : Int) : Int) == (237 : Int))) && (decide ((159 : Int) < (((y : Nat) : Int) : Int))))) == false)) (.bool (((((x : Nat) : Int) : Int) == (240 : Int))))), eqS (vF (true && ((((((((x : Nat) : Int) : Int) == (224 : Int))) && (decide ((((y : Nat) : Int) : Int) < (160 : Int)))) || ((((((x : Nat) : Int) : Int) == (237 : Int))) && (decide ((159 : Int) < (((y : Nat) : Int) : Int))))) == false)) (.bool (((((x : Nat) : Int) : Int) == (240 : Int))))), eqS (vF ((true && ((((((((x : Nat) : Int) : Int) == (224 : Int))) && (decide ((((y : Nat) : Int) : Int) < (160 : Int)))) || ((((((x : Nat) : Int) : Int) == (237 : Int))) && (decide ((159 : Int) < (((y : Nat) : Int) : Int))))) == false)) && ((((((x : Nat) : Int) : Int) == (240 : Int))) == true)) (.int .u8 (((y : Nat) : Int)))), eqS (vF ((true && ((((((((x : Nat) : Int) : Int) == (224 : Int))) && (decide ((((y : Nat) : Int) : Int) < (160 : Int)))) || ((((((x : Nat) : Int) : Int) == (237 : Int))) && (decide ((159 : Int) < (((y : Nat) : Int) : Int))))) == false)) && ((((((x : Nat) : Int) : Int) == (240 : Int))) == true)) (.bool (decide ((((y : Nat) : Int) : Int) < (144 : Int))))), eqS (vF (true && ((((((((x : Nat) : Int) : Int) == (224 : Int))) && (decide ((((y : Nat) : Int) : Int) < (160 : Int)))) || ((((((x : Nat) : Int) : Int) == (237 : Int))) && (decide ((159 : Int) < (((y : Nat) : Int) : Int))))) == false)) (.bool ((((((x : Nat) : Int) : Int) == (240 : Int))) && (decide ((((y : Nat) : Int) : Int) < (144 : Int)))))), eqS (.bool ((((((((x : Nat) : Int) : Int) == (224 : Int))) && (decide ((((y : Nat) : Int) : Int) < (160 : Int)))) || ((((((x : Nat) : Int) : Int) == (237 : Int))) && (decide ((159 : Int) < (((y : Nat) : Int) : Int))))) || ((((((x : Nat) : Int) : Int) == (240 : Int))) && (decide ((((y : Nat) : Int) : Int) < (144 : Int)))))), eqS (.bool ((((((((x : Nat) : Int) : Int) == (224 : Int))) && (decide ((((y : Nat) : Int) : Int) < (160 : Int)))) || ((((((x : Nat) : Int) : Int) == (237 : Int))) && (decide ((159 : Int) < (((y : Nat) : Int) : Int))))) || ((((((x : Nat) : Int) : Int) == (240 : Int))) && (decide ((((y : Nat) : Int) : Int) < (144 : Int)))))), eqS (vF (true && (((((((((x : Nat) : Int) : Int) == (224 : Int))) && (decide ((((y : Nat) : Int) : Int) < (160 : Int)))) || ((((((x : Nat) : Int) : Int) == (237 : Int))) && (decide ((159 : Int) < (((y : Nat) : Int) : Int))))) || ((((((x : Nat) : Int) : Int) == (240 : Int))) && (decide ((((y : Nat) : Int) : Int) < (144 : Int))))) == false)) (.int .u8 (((x : Nat) : Int)))), eqS (vF (true && (((((((((x : Nat) : Int) : Int) == (224 : Int))) && (decide ((((y : Nat) : Int) : Int) < (160 : Int)))) || ((((((x : Nat) : Int) : Int) == (237 : Int))) && (decide ((159 : Int) < (((y : Nat) : Int) : Int))))) || ((((((x : Nat) : Int) : Int) == (240 : Int))) && (decide ((((y : Nat) : Int) : Int) < (144 : Int))))) == false)) (.bool (((((x : Nat) : Int) : Int) == (244 : Int))))), eqS (vF (true && (((((((((x : Nat) : Int) : Int) == (224 : Int))) && (decide ((((y : Nat) : Int) : Int) < (160 : Int)))) || ((((((x : Nat) : Int) : Int) == (237 : Int))) && (decide ((159 : Int) < (((y : Nat) : Int) : Int))))) || ((((((x : Nat) : Int) : Int) == (240 : Int))) && (decide ((((y : Nat) : Int) : Int) < (144 : Int))))) == false)) (.bool (((((x : Nat) : Int) : Int) == (244 : Int))))), eqS (vF ((true && (((((((((x : Nat) : Int) : Int) == (224 : Int))) && (decide ((((y : Nat) : Int) : Int) < (160 : Int)))) || ((((((x : Nat) : Int) : Int) == (237 : Int))) && (decide ((159 : Int) < (((y : Nat) : Int) : Int))))) || ((((((x : Nat) : Int) : Int) == (240 : Int))) && (decide ((((y : Nat) : Int) : Int) < (144 : Int))))) == false)) && ((((((x : Nat) : Int) : Int) == (244 : Int))) == true)) (.int .u8 (((y : Nat) : Int)))), eqS (vF ((true && (((((((((x : Nat) : Int) : Int) == (224 : Int))) && (decide ((((y : Nat) : Int) : Int) < (160 : Int)))) || ((((((x : Nat) : Int) : Int) == (237 : Int))) && (decide ((159 : Int) < (((y : Nat) : Int) : Int))))) || ((((((x : Nat) : Int) : Int) == (240 : Int))) && (decide ((((y : Nat) : Int) : Int) < (144 : Int))))) == false)) && ((((((x : Nat) : Int) : Int) == (244 : Int))) == true)) (.bool (decide ((143 : Int) < (((y : Nat) : Int) : Int))))), eqS (vF (true && (((((((((x : Nat) : Int) : Int) == (224 : Int))) && (decide ((((y : Nat) : Int) : Int) < (160 : Int)))) || ((((((x : Nat) : Int) : Int) == (237 : Int))) && (decide ((159 : Int) < (((y : Nat) : Int) : Int))))) || ((((((x : Nat) : Int) : Int) == (240 : Int))) && (decide ((((y : Nat) : Int) : Int) < (144 : Int))))) == false)) (.bool ((((((x : Nat) : Int) : Int) == (244 : Int))) && (decide ((143 : Int) < (((y : Nat) : Int) : Int)))))), eqS (.bool (((((((((x : Nat) : Int) : Int) == (224 : Int))) && (decide ((((y : Nat) : Int) : Int) < (160 : Int)))) || ((((((x : Nat) : Int) : Int) == (237 : Int))) && (decide ((159 : Int) < (((y : Nat) : Int) : Int))))) || ((((((x : Nat) : Int) : Int) == (240 : Int))) && (decide ((((y : Nat) : Int) : Int) < (144 : Int))))) || ((((((x : Nat) : Int) : Int) == (244 : Int))) && (decide ((143 : Int) < (((y : Nat) : Int) : Int))))))] [36, 37, 38, 39, 40, 41, 42, 43, 44, 45, 46, 47, 48, 49, 50, 51, 52, 53, 54, 55, 56, 57, 58, 59, 60, 61, 62, 63, 64, 65] (by kernel_rfl) (by kernel_rfl) ?_ ?_
      · skip
        refine Steps.cons (fun a' w' hG hB dep => gs_move (want_none rfl) _ rfl (id (hG.other 5 rfl))) ?_
        refine Steps.cons (fun a' w' hG hB dep => gs_eql_int (want_none rfl) _ _ _ _ rfl _ _ _ (dep 0 rfl 36 rfl) rfl (id (congrArg Value.bool rfl))) ?_
        refine Steps.cons (fun a' w' hG hB dep => gs_move (want_none rfl) _ rfl (id (dep 1 rfl 37 rfl))) ?_
        refine Steps.cons (fun a' w' hG hB dep => gs_guard (c := true) (b' := (((((x : Nat) : Int) : Int) == (224 : Int)))) rfl rfl (dep 2 rfl 38 rfl) (fun hc he hw => gs_move hw _ rfl (Eq.trans (hG.other 8 rfl) (vF_yes (on_g hc he) _).symm)) (fun hn => vF_no hn _)) ?_
        refine Steps.cons (fun a' w' hG hB dep => gs_guard (c := true) (b' := (((((x : Nat) : Int) : Int) == (224 : Int)))) rfl rfl (dep 2 rfl 38 rfl) (fun hc he hw => gs_lss_int hw _ _ _ _ rfl _ _ _ (Eq.trans (dep 3 rfl 39 rfl) (vF_yes (on_g hc he) _)) rfl (Eq.trans (congrArg Value.bool rfl) (vF_yes (on_g hc he) _).symm)) (fun hn => vF_no hn _)) ?_
        refine Steps.cons (fun a' w' hG hB dep => gs_pick (want_none rfl) _ _ _ rfl (((((x : Nat) : Int) : Int) == (224 : Int))) (dep 2 rfl 38 rfl) (id (pick_and2 (c := true) rfl (dep 4 rfl 40 rfl)))) ?_
        refine Steps.cons (fun a' w' hG hB dep => gs_move (want_none rfl) _ rfl (id (dep 5 rfl 41 rfl))) ?_
        refine Steps.cons (fun a' w' hG hB dep => gs_guard (c := true) (b' := ((((((x : Nat) : Int) : Int) == (224 : Int))) && (decide ((((y : Nat) : Int) : Int) < (160 : Int))))) rfl rfl (dep 6 rfl 42 rfl) (fun hc he hw => gs_move hw _ rfl (Eq.trans (hG.other 5 rfl) (vF_yes (on_g hc he) _).symm)) (fun hn => vF_no hn _)) ?_
        refine Steps.cons (fun a' w' hG hB dep => gs_guard (c := true) (b' := ((((((x : Nat) : Int) : Int) == (224 : Int))) && (decide ((((y : Nat) : Int) : Int) < (160 : Int))))) rfl rfl (dep 6 rfl 42 rfl) (fun hc he hw => gs_eql_int hw _ _ _ _ rfl _ _ _ (Eq.trans (dep 7 rfl 43 rfl) (vF_yes (on_g hc he) _)) rfl (Eq.trans (congrArg Value.bool rfl) (vF_yes (on_g hc he) _).symm)) (fun hn => vF_no hn _)) ?_
        refine Steps.cons (fun a' w' hG hB dep => gs_guard (c := true) (b' := ((((((x : Nat) : Int) : Int) == (224 : Int))) && (decide ((((y : Nat) : Int) : Int) < (160 : Int))))) rfl rfl (dep 6 rfl 42 rfl) (fun hc he hw => gs_move hw _ rfl (Eq.trans (Eq.trans (dep 8 rfl 44 rfl) (vF_yes (on_g hc he) _)) (vF_yes (on_g hc he) _).symm)) (fun hn => vF_no hn _)) ?_
        refine Steps.cons (fun a' w' hG hB dep => gs_guard (c := (true && (((((((x : Nat) : Int) : Int) == (224 : Int))) && (decide ((((y : Nat) : Int) : Int) < (160 : Int)))) == false))) (b' := (((((x : Nat) : Int) : Int) == (237 : Int)))) rfl rfl (dep 9 rfl 45 rfl) (fun hc he hw => gs_move hw _ rfl (Eq.trans (hG.other 8 rfl) (vF_yes (on_g hc he) _).symm)) (fun hn => vF_no hn _)) ?_
        refine Steps.cons (fun a' w' hG hB dep => gs_guard (c := (true && (((((((x : Nat) : Int) : Int) == (224 : Int))) && (decide ((((y : Nat) : Int) : Int) < (160 : Int)))) == false))) (b' := (((((x : Nat) : Int) : Int) == (237 : Int)))) rfl rfl (dep 9 rfl 45 rfl) (fun hc he hw => gs_gtr_int hw _ _ _ _ rfl _ _ _ (Eq.trans (dep 10 rfl 46 rfl) (vF_yes (on_g hc he) _)) rfl (Eq.trans (congrArg Value.bool rfl) (vF_yes (on_g hc he) _).symm)) (fun hn => vF_no hn _)) ?_
        refine Steps.cons (fun a' w' hG hB dep => gs_guard (c := true) (b' := ((((((x : Nat) : Int) : Int) == (224 : Int))) && (decide ((((y : Nat) : Int) : Int) < (160 : Int))))) rfl rfl (dep 6 rfl 42 rfl) (fun hc he hw => gs_pick hw _ _ _ rfl (((((x : Nat) : Int) : Int) == (237 : Int))) (Eq.trans (dep 9 rfl 45 rfl) (vF_yes (on_g hc he) _)) (Eq.trans (pick_and2 (c := (true && (((((((x : Nat) : Int) : Int) == (224 : Int))) && (decide ((((y : Nat) : Int) : Int) < (160 : Int)))) == false))) (on_g hc he) (dep 11 rfl 47 rfl)) (vF_yes (on_g hc he) _).symm)) (fun hn => vF_no hn _)) ?_
        refine Steps.cons (fun a' w' hG hB dep => gs_pick (want_none rfl) _ _ _ rfl ((((((x : Nat) : Int) : Int) == (224 : Int))) && (decide ((((y : Nat) : Int) : Int) < (160 : Int)))) (dep 6 rfl 42 rfl) (id (pick_or2 (c := true) rfl (dep 12 rfl 48 rfl)))) ?_
        refine Steps.cons (fun a' w' hG hB dep => gs_move (want_none rfl) _ rfl (id (dep 13 rfl 49 rfl))) ?_
        refine Steps.cons (fun a' w' hG hB dep => gs_guard (c := true) (b' := (((((((x : Nat) : Int) : Int) == (224 : Int))) && (decide ((((y : Nat) : Int) : Int) < (160 : Int)))) || ((((((x : Nat) : Int) : Int) == (237 : Int))) && (decide ((159 : Int) < (((y : Nat) : Int) : Int)))))) rfl rfl (dep 14 rfl 50 rfl) (fun hc he hw => gs_move hw _ rfl (Eq.trans (hG.other 5 rfl) (vF_yes (on_g hc he) _).symm)) (fun hn => vF_no hn _)) ?_
        refine Steps.cons (fun a' w' hG hB dep => gs_guard (c := true) (b' := (((((((x : Nat) : Int) : Int) == (224 : Int))) && (decide ((((y : Nat) : Int) : Int) < (160 : Int)))) || ((((((x : Nat) : Int) : Int) == (237 : Int))) && (decide ((159 : Int) < (((y : Nat) : Int) : Int)))))) rfl rfl (dep 14 rfl 50 rfl) (fun hc he hw => gs_eql_int hw _ _ _ _ rfl _ _ _ (Eq.trans (dep 15 rfl 51 rfl) (vF_yes (on_g hc he) _)) rfl (Eq.trans (congrArg Value.bool rfl) (vF_yes (on_g hc he) _).symm)) (fun hn => vF_no hn _)) ?_
        refine Steps.cons (fun a' w' hG hB dep => gs_guard (c := true) (b' := (((((((x : Nat) : Int) : Int) == (224 : Int))) && (decide ((((y : Nat) : Int) : Int) < (160 : Int)))) || ((((((x : Nat) : Int) : Int) == (237 : Int))) && (decide ((159 : Int) < (((y : Nat) : Int) : Int)))))) rfl rfl (dep 14 rfl 50 rfl) (fun hc he hw => gs_move hw _ rfl (Eq.trans (Eq.trans (dep 16 rfl 52 rfl) (vF_yes (on_g hc he) _)) (vF_yes (on_g hc he) _).symm)) (fun hn => vF_no hn _)) ?_
        refine Steps.cons (fun a' w' hG hB dep => gs_guard (c := (true && ((((((((x : Nat) : Int) : Int) == (224 : Int))) && (decide ((((y : Nat) : Int) : Int) < (160 : Int)))) || ((((((x : Nat) : Int) : Int) == (237 : Int))) && (decide ((159 : Int) < (((y : Nat) : Int) : Int))))) == false))) (b' := (((((x : Nat) : Int) : Int) == (240 : Int)))) rfl rfl (dep 17 rfl 53 rfl) (fun hc he hw => gs_move hw _ rfl (Eq.trans (hG.other 8 rfl) (vF_yes (on_g hc he) _).symm)) (fun hn => vF_no hn _)) ?_
        refine Steps.cons (fun a' w' hG hB dep => gs_guard (c := (true && ((((((((x : Nat) : Int) : Int) == (224 : Int))) && (decide ((((y : Nat) : Int) : Int) < (160 : Int)))) || ((((((x : Nat) : Int) : Int) == (237 : Int))) && (decide ((159 : Int) < (((y : Nat) : Int) : Int))))) == false))) (b' := (((((x : Nat) : Int) : Int) == (240 : Int)))) rfl rfl (dep 17 rfl 53 rfl) (fun hc he hw => gs_lss_int hw _ _ _ _ rfl _ _ _ (Eq.trans (dep 18 rfl 54 rfl) (vF_yes (on_g hc he) _)) rfl (Eq.trans (congrArg Value.bool rfl) (vF_yes (on_g hc he) _).symm)) (fun hn => vF_no hn _)) ?_
        refine Steps.cons (fun a' w' hG hB dep => gs_guard (c := true) (b' := (((((((x : Nat) : Int) : Int) == (224 : Int))) && (decide ((((y : Nat) : Int) : Int) < (160 : Int)))) || ((((((x : Nat) : Int) : Int) == (237 : Int))) && (decide ((159 : Int) < (((y : Nat) : Int) : Int)))))) rfl rfl (dep 14 rfl 50 rfl) (fun hc he hw => gs_pick hw _ _ _ rfl (((((x : Nat) : Int) : Int) == (240 : Int))) (Eq.trans (dep 17 rfl 53 rfl) (vF_yes (on_g hc he) _)) (Eq.trans (pick_and2 (c := (true && ((((((((x : Nat) : Int) : Int) == (224 : Int))) && (decide ((((y : Nat) : Int) : Int) < (160 : Int)))) || ((((((x : Nat) : Int) : Int) == (237 : Int))) && (decide ((159 : Int) < (((y : Nat) : Int) : Int))))) == false))) (on_g hc he) (dep 19 rfl 55 rfl)) (vF_yes (on_g hc he) _).symm)) (fun hn => vF_no hn _)) ?_
        refine Steps.cons (fun a' w' hG hB dep => gs_pick (want_none rfl) _ _ _ rfl (((((((x : Nat) : Int) : Int) == (224 : Int))) && (decide ((((y : Nat) : Int) : Int) < (160 : Int)))) || ((((((x : Nat) : Int) : Int) == (237 : Int))) && (decide ((159 : Int) < (((y : Nat) : Int) : Int))))) (dep 14 rfl 50 rfl) (id (pick_or2 (c := true) rfl (dep 20 rfl 56 rfl)))) ?_
        refine Steps.cons (fun a' w' hG hB dep => gs_move (want_none rfl) _ rfl (id (dep 21 rfl 57 rfl))) ?_
        refine Steps.cons (fun a' w' hG hB dep => gs_guard (c := true) (b' := ((((((((x : Nat) : Int) : Int) == (224 : Int))) && (decide ((((y : Nat) : Int) : Int) < (160 : Int)))) || ((((((x : Nat) : Int) : Int) == (237 : Int))) && (decide ((159 : Int) < (((y : Nat) : Int) : Int))))) || ((((((x : Nat) : Int) : Int) == (240 : Int))) && (decide ((((y : Nat) : Int) : Int) < (144 : Int)))))) rfl rfl (dep 22 rfl 58 rfl) (fun hc he hw => gs_move hw _ rfl (Eq.trans (hG.other 5 rfl) (vF_yes (on_g hc he) _).symm)) (fun hn => vF_no hn _)) ?_
        refine Steps.cons (fun a' w' hG hB dep => gs_guard (c := true) (b' := ((((((((x : Nat) : Int) : Int) == (224 : Int))) && (decide ((((y : Nat) : Int) : Int) < (160 : Int)))) || ((((((x : Nat) : Int) : Int) == (237 : Int))) && (decide ((159 : Int) < (((y : Nat) : Int) : Int))))) || ((((((x : Nat) : Int) : Int) == (240 : Int))) && (decide ((((y : Nat) : Int) : Int) < (144 : Int)))))) rfl rfl (dep 22 rfl 58 rfl) (fun hc he hw => gs_eql_int hw _ _ _ _ rfl _ _ _ (Eq.trans (dep 23 rfl 59 rfl) (vF_yes (on_g hc he) _)) rfl (Eq.trans (congrArg Value.bool rfl) (vF_yes (on_g hc he) _).symm)) (fun hn => vF_no hn _)) ?_
        refine Steps.cons (fun a' w' hG hB dep => gs_guard (c := true) (b' := ((((((((x : Nat) : Int) : Int) == (224 : Int))) && (decide ((((y : Nat) : Int) : Int) < (160 : Int)))) || ((((((x : Nat) : Int) : Int) == (237 : Int))) && (decide ((159 : Int) < (((y : Nat) : Int) : Int))))) || ((((((x : Nat) : Int) : Int) == (240 : Int))) && (decide ((((y : Nat) : Int) : Int) < (144 : Int)))))) rfl rfl (dep 22 rfl 58 rfl) (fun hc he hw => gs_move hw _ rfl (Eq.trans (Eq.trans (dep 24 rfl 60 rfl) (vF_yes (on_g hc he) _)) (vF_yes (on_g hc he) _).symm)) (fun hn => vF_no hn _)) ?_
        refine Steps.cons (fun a' w' hG hB dep => gs_guard (c := (true && (((((((((x : Nat) : Int) : Int) == (224 : Int))) && (decide ((((y : Nat) : Int) : Int) < (160 : Int)))) || ((((((x : Nat) : Int) : Int) == (237 : Int))) && (decide ((159 : Int) < (((y : Nat) : Int) : Int))))) || ((((((x : Nat) : Int) : Int) == (240 : Int))) && (decide ((((y : Nat) : Int) : Int) < (144 : Int))))) == false))) (b' := (((((x : Nat) : Int) : Int) == (244 : Int)))) rfl rfl (dep 25 rfl 61 rfl) (fun hc he hw => gs_move hw _ rfl (Eq.trans (hG.other 8 rfl) (vF_yes (on_g hc he) _).symm)) (fun hn => vF_no hn _)) ?_
        refine Steps.cons (fun a' w' hG hB dep => gs_guard (c := (true && (((((((((x : Nat) : Int) : Int) == (224 : Int))) && (decide ((((y : Nat) : Int) : Int) < (160 : Int)))) || ((((((x : Nat) : Int) : Int) == (237 : Int))) && (decide ((159 : Int) < (((y : Nat) : Int) : Int))))) || ((((((x : Nat) : Int) : Int) == (240 : Int))) && (decide ((((y : Nat) : Int) : Int) < (144 : Int))))) == false))) (b' := (((((x : Nat) : Int) : Int) == (244 : Int)))) rfl rfl (dep 25 rfl 61 rfl) (fun hc he hw => gs_gtr_int hw _ _ _ _ rfl _ _ _ (Eq.trans (dep 26 rfl 62 rfl) (vF_yes (on_g hc he) _)) rfl (Eq.trans (congrArg Value.bool rfl) (vF_yes (on_g hc he) _).symm)) (fun hn => vF_no hn _)) ?_
        refine Steps.cons (fun a' w' hG hB dep => gs_guard (c := true) (b' := ((((((((x : Nat) : Int) : Int) == (224 : Int))) && (decide ((((y : Nat) : Int) : Int) < (160 : Int)))) || ((((((x : Nat) : Int) : Int) == (237 : Int))) && (decide ((159 : Int) < (((y : Nat) : Int) : Int))))) || ((((((x : Nat) : Int) : Int) == (240 : Int))) && (decide ((((y : Nat) : Int) : Int) < (144 : Int)))))) rfl rfl (dep 22 rfl 58 rfl) (fun hc he hw => gs_pick hw _ _ _ rfl (((((x : Nat) : Int) : Int) == (244 : Int))) (Eq.trans (dep 25 rfl 61 rfl) (vF_yes (on_g hc he) _)) (Eq.trans (pick_and2 (c := (true && (((((((((x : Nat) : Int) : Int) == (224 : Int))) && (decide ((((y : Nat) : Int) : Int) < (160 : Int)))) || ((((((x : Nat) : Int) : Int) == (237 : Int))) && (decide ((159 : Int) < (((y : Nat) : Int) : Int))))) || ((((((x : Nat) : Int) : Int) == (240 : Int))) && (decide ((((y : Nat) : Int) : Int) < (144 : Int))))) == false))) (on_g hc he) (dep 27 rfl 63 rfl)) (vF_yes (on_g hc he) _).symm)) (fun hn => vF_no hn _)) ?_
        refine Steps.cons (fun a' w' hG hB dep => gs_pick (want_none rfl) _ _ _ rfl ((((((((x : Nat) : Int) : Int) == (224 : Int))) && (decide ((((y : Nat) : Int) : Int) < (160 : Int)))) || ((((((x : Nat) : Int) : Int) == (237 : Int))) && (decide ((159 : Int) < (((y : Nat) : Int) : Int))))) || ((((((x : Nat) : Int) : Int) == (240 : Int))) && (decide ((((y : Nat) : Int) : Int) < (144 : Int))))) (dep 22 rfl 58 rfl) (id (pick_or2 (c := true) rfl (dep 28 rfl 64 rfl)))) ?_
        exact Steps.nil
      intro u w6 hw6 ans
      have hus65 : u 65 = (.bool (((((((((x : Nat) : Int) : Int) == (224 : Int))) && (decide ((((y : Nat) : Int) : Int) < (160 : Int)))) || ((((((x : Nat) : Int) : Int) == (237 : Int))) && (decide ((159 : Int) < (((y : Nat) : Int) : Int))))) || ((((((x : Nat) : Int) : Int) == (240 : Int))) && (decide ((((y : Nat) : Int) : Int) < (144 : Int))))) || ((((((x : Nat) : Int) : Int) == (244 : Int))) && (decide ((143 : Int) < (((y : Nat) : Int) : Int)))))) := ans 29 65 (by decide) rfl
      clear ans
      simp only [putAll, List.foldl_cons, List.foldl_nil, Act.put, List.setIfInBounds_toArray, List.set_cons_zero, List.set_cons_succ, hus65]
      clear hus65
      simp only [List.drop]
      refine wpList_nil ?_
      rw [hob'.out]
      have hBc : Below w.heap.size w w6 := (hBb.trans (hw5.mono hBb.size)).trans (hw6.mono (hBb.trans (hw5.mono hBb.size)).size)
      cases ob with
      | true =>
        go_wp2_with (fail)
        go_ret
        exact ⟨by rw [hv.out]; rfl, hBc⟩
      | false =>
        go_wp2_with (fail)
        go_ret
        exact ⟨by rw [hv.out]; rfl, hBc⟩
  · have hK : wideK x = 4 := hk4 (by omega)
    rw [hK] at hV2
    rw [if_neg (by omega)] at hV2
    have b1 : decide (194 ≤ x ∧ x ≤ 223) = false := decide_eq_false (by omega)
    rw [b1] at kb1
    clear b1
    have b2 : decide (224 ≤ x ∧ x ≤ 239) = false := decide_eq_false (by omega)
    rw [b2] at kb2
    clear b2
    have b3 : decide (240 ≤ x ∧ x ≤ 244) = true := decide_eq_true (by omega)
    rw [b3] at kb3
    clear b3
    have kt := fun W => tails_any q hq (i + 1) 3 (by omega) (by omega) W
    rw [show tailsL (tl q) (i + 1) 3 = decide (tailN 4 ((tl q).drop i).length (((tl q).drop i).getD 1 0).toNat (((tl q).drop i).getD 2 0).toNat (((tl q).drop i).getD 3 0).toNat) from tails_N (tl q) i 4 (by omega) (by omega) (by omega)] at kt
    have hkn : tailN 4 ((tl q).drop i).length (((tl q).drop i).getD 1 0).toNat (((tl q).drop i).getD 2 0).toNat (((tl q).drop i).getD 3 0).toNat → i + 1 < q.size := fun h => by
      have h1 := h.1
      rw [List.length_drop] at h1
      omega
    rw [show ((i + 1 : Nat) : Int) = (i : Int) + 1 from by omega] at kt
    by_cases hT : tailN 4 ((tl q).drop i).length (((tl q).drop i).getD 1 0).toNat (((tl q).drop i).getD 2 0).toNat (((tl q).drop i).getD 3 0).toNat
    case neg =>
      rw [decide_eq_false hT] at kt
      have hv : Hid (V = 0) := Lib.hid (by rw [hV2, if_neg fun h => hT h.1])
      clear hV2 hT c0 hc hkn hI1 hK  hk2 hk3 hk4 hyN
      go_enter Tryz.func39, Tryz.ntmps39
      go_wp2_with (first
        | (go_at_call 66; refine (kb1 w).mono ?_; clear kb1; rintro e w1 ⟨rfl, hB1⟩)
        | (go_at_call 66; refine (kb2 _).mono ?_; clear kb2; rintro e w2 ⟨rfl, hB2⟩)
        | (go_at_call 66; refine (kb3 _).mono ?_; clear kb3; rintro e w3 ⟨rfl, hB3⟩)
        | (go_at_call 67; refine (kt _).mono ?_; clear kt; rintro e w4 ⟨rfl, hB4⟩))
      go_ret
      exact ⟨by rw [hv.out]; rfl, ((hB1.trans (hB2.mono hB1.size)).trans (hB3.mono (hB1.trans (hB2.mono hB1.size)).size)).trans (hB4.mono ((hB1.trans (hB2.mono hB1.size)).trans (hB3.mono (hB1.trans (hB2.mono hB1.size)).size)).size)⟩
    case pos =>
      rw [decide_eq_true hT] at kt
      have hi1 := hkn hT
      obtain ⟨yb, hyb, hyD⟩ := hyN hi1
      obtain ⟨y, hy⟩ : ∃ y, yb.toNat = y := ⟨_, rfl⟩
      rw [hyD] at hT hV2
      rw [hy] at hT hV2
      obtain ⟨ob, hob⟩ : ∃ ob, (((((((((x : Nat) : Int) : Int) == (224 : Int))) && (decide ((((y : Nat) : Int) : Int) < (160 : Int)))) || ((((((x : Nat) : Int) : Int) == (237 : Int))) && (decide ((159 : Int) < (((y : Nat) : Int) : Int))))) || ((((((x : Nat) : Int) : Int) == (240 : Int))) && (decide ((((y : Nat) : Int) : Int) < (144 : Int))))) || ((((((x : Nat) : Int) : Int) == (244 : Int))) && (decide ((143 : Int) < (((y : Nat) : Int) : Int))))) = ob := ⟨_, rfl⟩
      have hodd : oddN x y ↔ ob = true := by
        rw [← hob]
        unfold oddN
        simp only [Bool.or_eq_true, Bool.and_eq_true, beq_iff_eq, decide_eq_true_eq]
        omega
      have hv : Hid (V = if ob then 0 else 4) := Lib.hid (by
        rw [hV2]
        cases ob with
        | true => rw [if_neg (fun h => h.2 (hodd.2 rfl))]; rfl
        | false => rw [if_pos ⟨hT, fun h => by have := hodd.1 h; cases this⟩]; rfl)
      have hob' := Lib.hid hob
      have hxH := Lib.hid hx
      have hyH := Lib.hid hy
      have hyb' := Lib.hid hyb
      clear hV2 hT c0 hc hkn hI1 hK  hk2 hk3 hk4 hyN hodd hob hyD hyb hy
      go_enter Tryz.func39, Tryz.ntmps39
      go_upto_region 15 with (first
        | (go_at_call 66; refine (kb1 w).mono ?_; clear kb1; rintro e w1 ⟨rfl, hB1⟩)
        | (go_at_call 66; refine (kb2 _).mono ?_; clear kb2; rintro e w2 ⟨rfl, hB2⟩)
        | (go_at_call 66; refine (kb3 _).mono ?_; clear kb3; rintro e w3 ⟨rfl, hB3⟩)
        | (go_at_call 67; refine (kt _).mono ?_; clear kt; rintro e w4 ⟨rfl, hB4⟩))
      have hBb : Below w.heap.size w w4 := ((hB1.trans (hB2.mono hB1.size)).trans (hB3.mono (hB1.trans (hB2.mono hB1.size)).size)).trans (hB4.mono ((hB1.trans (hB2.mono hB1.size)).trans (hB3.mono (hB1.trans (hB2.mono hB1.size)).size)).size)
      have hyb := hyb'.out
      have hy := hyH.out
      refine wp_region_text 5 [eqS (.string q), eqS (.int .i64 (((i : Nat) : Int))), eqS (.int .i64 (((i + 1 : Nat) : Int))), eqS (.int .u8 (((y : Nat) : Int))), eqS (.int .u8 (((y : Nat) : Int)))] [32, 33, 34, 35, 8] (by kernel_rfl) (by kernel_rfl) ?_ ?_
      · skip
        refine Steps.cons (fun a' w' hG hB dep => gs_move (want_none rfl) _ rfl (id (hG.other 0 rfl))) ?_
        refine Steps.cons (fun a' w' hG hB dep => gs_move (want_none rfl) _ rfl (id (hG.other 1 rfl))) ?_
        refine Steps.cons (fun a' w' hG hB dep => gs_add_nat (want_none rfl) _ _ _ _ rfl i 1 (i + 1) (dep 1 rfl 33 rfl) rfl rfl (by omega) rfl) ?_
        refine Steps.cons (fun a' w' hG hB dep => gs_istr (want_none rfl) _ _ rfl q (i + 1) yb (dep 0 rfl 32 rfl) (dep 2 rfl 34 rfl) hyb (id (congrArg (fun n : Nat => Value.int .u8 (n : Int)) hy))) ?_
        refine Steps.cons (fun a' w' hG hB dep => gs_assign (want_none rfl) _ rfl (id (dep 3 rfl 35 rfl))) ?_
        exact Steps.nil
      intro u w5 hw5 ans
      have hus8 : u 8 = (.int .u8 (((y : Nat) : Int))) := ans 4 8 (by decide) rfl
      clear ans
      simp only [putAll, List.foldl_cons, List.foldl_nil, Act.put, List.setIfInBounds_toArray, List.set_cons_zero, List.set_cons_succ, hus8]
      clear hus8
      simp only [List.drop]
      refine wpList_nil ?_
      go_upto_region 16 with (fail)
      clear hy hyb
      refine wp_region_text 30 [eqS (.int .u8 (((x : Nat) : Int))), eqS (.bool (((((x : Nat) : Int) : Int) == (224 : Int)))), eqS (.bool (((((x : Nat) : Int) : Int) == (224 : Int)))), eqS (vF (true && ((((((x : Nat) : Int) : Int) == (224 : Int))) == true)) (.int .u8 (((y : Nat) : Int)))), eqS (vF (true && ((((((x : Nat) : Int) : Int) == (224 : Int))) == true)) (.bool (decide ((((y : Nat) : Int) : Int) < (160 : Int))))), eqS (.bool ((((((x : Nat) : Int) : Int) == (224 : Int))) && (decide ((((y : Nat) : Int) : Int) < (160 : Int))))), eqS (.bool ((((((x : Nat) : Int) : Int) == (224 : Int))) && (decide ((((y : Nat) : Int) : Int) < (160 : Int))))), eqS (vF (true && (((((((x : Nat) : Int) : Int) == (224 : Int))) && (decide ((((y : Nat) : Int) : Int) < (160 : Int)))) == false)) (.int .u8 (((x : Nat) : Int)))), eqS (vF (true && (((((((x : Nat) : Int) : Int) == (224 : Int))) && (decide ((((y : Nat) : Int) : Int) < (160 : Int)))) == false)) (.bool (((((x : Nat) : Int) : Int) == (237 : Int))))), eqS (vF (true && (((((((x : Nat) : Int) : Int) == (224 : Int))) && (decide ((((y : Nat) : Int) : Int) < (160 : Int)))) == false)) (.bool (((((x : Nat) : Int) : Int) == (237 : Int))))), eqS (vF ((true && (((((((x : Nat) : Int) : Int) == (224 : Int))) && (decide ((((y : Nat) : Int) : Int) < (160 : Int)))) == false)) && ((((((x : Nat) : Int) : Int) == (237 : Int))) == true)) (.int .u8 (((y : Nat) : Int)))), eqS (vF ((true && (((((((x : Nat) : Int) : Int) == (224 : Int))) && (decide ((((y : Nat) : Int) : Int) < (160 : Int)))) == false)) && ((((((x : Nat) : Int) : Int) == (237 : Int))) == true)) (.bool (decide ((159 : Int) < (((y : Nat) : Int) : Int))))), eqS (vF (true && (((((((x : Nat) : Int) : Int) == (224 : Int))) && (decide ((((y : Nat) : Int) : Int) < (160 : Int)))) == false)) (.bool ((((((x : Nat) : Int) : Int) == (237 : Int))) && (decide ((159 : Int) < (((y : Nat) : Int) : Int)))))), eqS (.bool (((((((x : Nat) : Int) : Int) == (224 : Int))) && (decide ((((y : Nat) : Int) : Int) < (160 : Int)))) || ((((((x : Nat) : Int) : Int) == (237 : Int))) && (decide ((159 : Int) < (((y : Nat) : Int) : Int)))))), eqS (.bool (((((((x : Nat) : Int) : Int) == (224 : Int))) && (decide ((((y : Nat) : Int) : Int) < (160 : Int)))) || ((((((x : Nat) : Int) : Int) == (237 : Int))) && (decide ((159 : Int) < (((y : Nat) : Int) : Int)))))), eqS (vF (true && ((((((((x : Nat) : Int) : Int) == (224 : Int))) && (decide ((((y : Nat) : Int) : Int) < (160 : Int)))) || ((((((x : Nat) : Int) : Int) == (237 : Int))) && (decide ((159 : Int) < (((y : Nat) : Int) : Int))))) == false)) (.int .u8 (((x : Nat) : Int)))), eqS (vF (true && ((((((((x : Nat) : Int) : Int) == (224 : Int))) && (decide ((((y : Nat) : Int) : Int) < (160 : Int)))) || ((((((x : Nat) : Int) : Int) == (237 : Int))) && (decide ((159 : Int) < (((y : Nat) : Int) : Int))))) == false)) (.bool (((((x : Nat) : Int) : Int) == (240 : Int))))), eqS (vF (true && ((((((((x : Nat) : Int) : Int) == (224 : Int))) && (decide ((((y : Nat) : Int) : Int) < (160 : Int)))) || ((((((x : Nat) : Int) : Int) == (237 : Int))) && (decide ((159 : Int) < (((y : Nat) : Int) : Int))))) == false)) (.bool (((((x : Nat) : Int) : Int) == (240 : Int))))), eqS (vF ((true && ((((((((x : Nat) : Int) : Int) == (224 : Int))) && (decide ((((y : Nat) : Int) : Int) < (160 : Int)))) || ((((((x : Nat) : Int) : Int) == (237 : Int))) && (decide ((159 : Int) < (((y : Nat) : Int) : Int))))) == false)) && ((((((x : Nat) : Int) : Int) == (240 : Int))) == true)) (.int .u8 (((y : Nat) : Int)))), eqS (vF ((true && ((((((((x : Nat) : Int) : Int) == (224 : Int))) && (decide ((((y : Nat) : Int) : Int) < (160 : Int)))) || ((((((x : Nat) : Int) : Int) == (237 : Int))) && (decide ((159 : Int) < (((y : Nat) : Int) : Int))))) == false)) && ((((((x : Nat) : Int) : Int) == (240 : Int))) == true)) (.bool (decide ((((y : Nat) : Int) : Int) < (144 : Int))))), eqS (vF (true && ((((((((x : Nat) : Int) : Int) == (224 : Int))) && (decide ((((y : Nat) : Int) : Int) < (160 : Int)))) || ((((((x : Nat) : Int) : Int) == (237 : Int))) && (decide ((159 : Int) < (((y : Nat) : Int) : Int))))) == false)) (.bool ((((((x : Nat) : Int) : Int) == (240 : Int))) && (decide ((((y : Nat) : Int) : Int) < (144 : Int)))))), eqS (.bool ((((((((x : Nat) : Int) : Int) == (224 : Int))) && (decide ((((y : Nat) : Int) : Int) < (160 : Int)))) || ((((((x : Nat) : Int) : Int) == (237 : Int))) && (decide ((159 : Int) < (((y : Nat) : Int) : Int))))) || ((((((x : Nat) : Int) : Int) == (240 : Int))) && (decide ((((y : Nat) : Int) : Int) < (144 : Int)))))), eqS (.bool ((((((((x : Nat) : Int) : Int) == (224 : Int))) && (decide ((((y : Nat) : Int) : Int) < (160 : Int)))) || ((((((x : Nat) : Int) : Int) == (237 : Int))) && (decide ((159 : Int) < (((y : Nat) : Int) : Int))))) || ((((((x : Nat) : Int) : Int) == (240 : Int))) && (decide ((((y : Nat) : Int) : Int) < (144 : Int)))))), eqS (vF (true && (((((((((x : Nat) : Int) : Int) == (224 : Int))) && (decide ((((y : Nat) : Int) : Int) < (160 : Int)))) || ((((((x : Nat) : Int) : Int) == (237 : Int))) && (decide ((159 : Int) < (((y : Nat) : Int) : Int))))) || ((((((x : Nat) : Int) : Int) == (240 : Int))) && (decide ((((y : Nat) : Int) : Int) < (144 : Int))))) == false)) (.int .u8 (((x : Nat) : Int)))), eqS (vF (true && (((((((((x : Nat) : Int) : Int) == (224 : Int))) && (decide ((((y : Nat) : Int) : Int) < (160 : Int)))) || ((((((x : Nat) : Int) : Int) == (237 : Int))) && (decide ((159 : Int) < (((y : Nat) : Int) : Int))))) || ((((((x : Nat) : Int) : Int) == (240 : Int))) && (decide ((((y : Nat) : Int) : Int) < (144 : Int))))) == false)) (.bool (((((x : Nat) : Int) : Int) == (244 : Int))))), eqS (vF (true && (((((((((x : Nat) : Int) : Int) == (224 : Int))) && (decide ((((y : Nat) : Int) : Int) < (160 : Int)))) || ((((((x : Nat) : Int) : Int) == (237 : Int))) && (decide ((159 : Int) < (((y : Nat) : Int) : Int))))) || ((((((x : Nat) : Int) : Int) == (240 : Int))) && (decide ((((y : Nat) : Int) : Int) < (144 : Int))))) == false)) (.bool (((((x : Nat) : Int) : Int) == (244 : Int))))), eqS (vF ((true && (((((((((x : Nat) : Int) : Int) == (224 : Int))) && (decide ((((y : Nat) : Int) : Int) < (160 : Int)))) || ((((((x : Nat) : Int) : Int) == (237 : Int))) && (decide ((159 : Int) < (((y : Nat) : Int) : Int))))) || ((((((x : Nat) : Int) : Int) == (240 : Int))) && (decide ((((y : Nat) : Int) : Int) < (144 : Int))))) == false)) && ((((((x : Nat) : Int) : Int) == (244 : Int))) == true)) (.int .u8 (((y : Nat) : Int)))), eqS (vF ((true && (((((((((x : Nat) : Int) : Int) == (224 : Int))) && (decide ((((y : Nat) : Int) : Int) < (160 : Int)))) || ((((((x : Nat) : Int) : Int) == (237 : Int))) && (decide ((159 : Int) < (((y : Nat) : Int) : Int))))) || ((((((x : Nat) : Int) : Int) == (240 : Int))) && (decide ((((y : Nat) : Int) : Int) < (144 : Int))))) == false)) && ((((((x : Nat) : Int) : Int) == (244 : Int))) == true)) (.bool (decide ((143 : Int) < (((y : Nat) : Int) : Int))))), eqS (vF (true && (((((((((x : Nat) : Int) : Int) == (224 : Int))) && (decide ((((y : Nat) : Int) : Int) < (160 : Int)))) || ((((((x : Nat) : Int) : Int) == (237 : Int))) && (decide ((159 : Int) < (((y : Nat) : Int) : Int))))) || ((((((x : Nat) : Int) : Int) == (240 : Int))) && (decide ((((y : Nat) : Int) : Int) < (144 : Int))))) == false)) (.bool ((((((x : Nat) : Int) : Int) == (244 : Int))) && (decide ((143 : Int) < (((y : Nat) : Int) : Int)))))), eqS (.bool (((((((((x : Nat) : Int) : Int) == (224 : Int))) && (decide ((((y : Nat) : Int) : Int) < (160 : Int)))) || ((((((x : Nat) : Int) : Int) == (237 : Int))) && (decide ((159 : Int) < (((y : Nat) : Int) : Int))))) || ((((((x : Nat) : Int) : Int) == (240 : Int))) && (decide ((((y : Nat) : Int) : Int) < (144 : Int))))) || ((((((x : Nat) : Int) : Int) == (244 : Int))) && (decide ((143 : Int) < (((y : Nat) : Int) : Int))))))] [36, 37, 38, 39, 40, 41, 42, 43, 44, 45, 46, 47, 48, 49, 50, 51, 52, 53, 54, 55, 56, 57, 58, 59, 60, 61, 62, 63, 64, 65] (by kernel_rfl) (by kernel_rfl) ?_ ?_
      · skip
        refine Steps.cons (fun a' w' hG hB dep => gs_move (want_none rfl) _ rfl (id (hG.other 5 rfl))) ?_
        refine Steps.cons (fun a' w' hG hB dep => gs_eql_int (want_none rfl) _ _ _ _ rfl _ _ _ (dep 0 rfl 36 rfl) rfl (id (congrArg Value.bool rfl))) ?_
        refine Steps.cons (fun a' w' hG hB dep => gs_move (want_none rfl) _ rfl (id (dep 1 rfl 37 rfl))) ?_
        refine Steps.cons (fun a' w' hG hB dep => gs_guard (c := true) (b' := (((((x : Nat) : Int) : Int) == (224 : Int)))) rfl rfl (dep 2 rfl 38 rfl) (fun hc he hw => gs_move hw _ rfl (Eq.trans (hG.other 8 rfl) (vF_yes (on_g hc he) _).symm)) (fun hn => vF_no hn _)) ?_
        refine Steps.cons (fun a' w' hG hB dep => gs_guard (c := true) (b' := (((((x : Nat) : Int) : Int) == (224 : Int)))) rfl rfl (dep 2 rfl 38 rfl) (fun hc he hw => gs_lss_int hw _ _ _ _ rfl _ _ _ (Eq.trans (dep 3 rfl 39 rfl) (vF_yes (on_g hc he) _)) rfl (Eq.trans (congrArg Value.bool rfl) (vF_yes (on_g hc he) _).symm)) (fun hn => vF_no hn _)) ?_
        refine Steps.cons (fun a' w' hG hB dep => gs_pick (want_none rfl) _ _ _ rfl (((((x : Nat) : Int) : Int) == (224 : Int))) (dep 2 rfl 38 rfl) (id (pick_and2 (c := true) rfl (dep 4 rfl 40 rfl)))) ?_
        refine Steps.cons (fun a' w' hG hB dep => gs_move (want_none rfl) _ rfl (id (dep 5 rfl 41 rfl))) ?_
        refine Steps.cons (fun a' w' hG hB dep => gs_guard (c := true) (b' := ((((((x : Nat) : Int) : Int) == (224 : Int))) && (decide ((((y : Nat) : Int) : Int) < (160 : Int))))) rfl rfl (dep 6 rfl 42 rfl) (fun hc he hw => gs_move hw _ rfl (Eq.trans (hG.other 5 rfl) (vF_yes (on_g hc he) _).symm)) (fun hn => vF_no hn _)) ?_
        refine Steps.cons (fun a' w' hG hB dep => gs_guard (c := true) (b' := ((((((x : Nat) : Int) : Int) == (224 : Int))) && (decide ((((y : Nat) : Int) : Int) < (160 : Int))))) rfl rfl (dep 6 rfl 42 rfl) (fun hc he hw => gs_eql_int hw _ _ _ _ rfl _ _ _ (Eq.trans (dep 7 rfl 43 rfl) (vF_yes (on_g hc he) _)) rfl (Eq.trans (congrArg Value.bool rfl) (vF_yes (on_g hc he) _).symm)) (fun hn => vF_no hn _)) ?_
        refine Steps.cons (fun a' w' hG hB dep => gs_guard (c := true) (b' := ((((((x : Nat) : Int) : Int) == (224 : Int))) && (decide ((((y : Nat) : Int) : Int) < (160 : Int))))) rfl rfl (dep 6 rfl 42 rfl) (fun hc he hw => gs_move hw _ rfl (Eq.trans (Eq.trans (dep 8 rfl 44 rfl) (vF_yes (on_g hc he) _)) (vF_yes (on_g hc he) _).symm)) (fun hn => vF_no hn _)) ?_
        refine Steps.cons (fun a' w' hG hB dep => gs_guard (c := (true && (((((((x : Nat) : Int) : Int) == (224 : Int))) && (decide ((((y : Nat) : Int) : Int) < (160 : Int)))) == false))) (b' := (((((x : Nat) : Int) : Int) == (237 : Int)))) rfl rfl (dep 9 rfl 45 rfl) (fun hc he hw => gs_move hw _ rfl (Eq.trans (hG.other 8 rfl) (vF_yes (on_g hc he) _).symm)) (fun hn => vF_no hn _)) ?_
        refine Steps.cons (fun a' w' hG hB dep => gs_guard (c := (true && (((((((x : Nat) : Int) : Int) == (224 : Int))) && (decide ((((y : Nat) : Int) : Int) < (160 : Int)))) == false))) (b' := (((((x : Nat) : Int) : Int) == (237 : Int)))) rfl rfl (dep 9 rfl 45 rfl) (fun hc he hw => gs_gtr_int hw _ _ _ _ rfl _ _ _ (Eq.trans (dep 10 rfl 46 rfl) (vF_yes (on_g hc he) _)) rfl (Eq.trans (congrArg Value.bool rfl) (vF_yes (on_g hc he) _).symm)) (fun hn => vF_no hn _)) ?_
        refine Steps.cons (fun a' w' hG hB dep => gs_guard (c := true) (b' := ((((((x : Nat) : Int) : Int) == (224 : Int))) && (decide ((((y : Nat) : Int) : Int) < (160 : Int))))) rfl rfl (dep 6 rfl 42 rfl) (fun hc he hw => gs_pick hw _ _ _ rfl (((((x : Nat) : Int) : Int) == (237 : Int))) (Eq.trans (dep 9 rfl 45 rfl) (vF_yes (on_g hc he) _)) (Eq.trans (pick_and2 (c := (true && (((((((x : Nat) : Int) : Int) == (224 : Int))) && (decide ((((y : Nat) : Int) : Int) < (160 : Int)))) == false))) (on_g hc he) (dep 11 rfl 47 rfl)) (vF_yes (on_g hc he) _).symm)) (fun hn => vF_no hn _)) ?_
        refine Steps.cons (fun a' w' hG hB dep => gs_pick (want_none rfl) _ _ _ rfl ((((((x : Nat) : Int) : Int) == (224 : Int))) && (decide ((((y : Nat) : Int) : Int) < (160 : Int)))) (dep 6 rfl 42 rfl) (id (pick_or2 (c := true) rfl (dep 12 rfl 48 rfl)))) ?_
        refine Steps.cons (fun a' w' hG hB dep => gs_move (want_none rfl) _ rfl (id (dep 13 rfl 49 rfl))) ?_
        refine Steps.cons (fun a' w' hG hB dep => gs_guard (c := true) (b' := (((((((x : Nat) : Int) : Int) == (224 : Int))) && (decide ((((y : Nat) : Int) : Int) < (160 : Int)))) || ((((((x : Nat) : Int) : Int) == (237 : Int))) && (decide ((159 : Int) < (((y : Nat) : Int) : Int)))))) rfl rfl (dep 14 rfl 50 rfl) (fun hc he hw => gs_move hw _ rfl (Eq.trans (hG.other 5 rfl) (vF_yes (on_g hc he) _).symm)) (fun hn => vF_no hn _)) ?_
        refine Steps.cons (fun a' w' hG hB dep => gs_guard (c := true) (b' := (((((((x : Nat) : Int) : Int) == (224 : Int))) && (decide ((((y : Nat) : Int) : Int) < (160 : Int)))) || ((((((x : Nat) : Int) : Int) == (237 : Int))) && (decide ((159 : Int) < (((y : Nat) : Int) : Int)))))) rfl rfl (dep 14 rfl 50 rfl) (fun hc he hw => gs_eql_int hw _ _ _ _ rfl _ _ _ (Eq.trans (dep 15 rfl 51 rfl) (vF_yes (on_g hc he) _)) rfl (Eq.trans (congrArg Value.bool rfl) (vF_yes (on_g hc he) _).symm)) (fun hn => vF_no hn _)) ?_
        refine Steps.cons (fun a' w' hG hB dep => gs_guard (c := true) (b' := (((((((x : Nat) : Int) : Int) == (224 : Int))) && (decide ((((y : Nat) : Int) : Int) < (160 : Int)))) || ((((((x : Nat) : Int) : Int) == (237 : Int))) && (decide ((159 : Int) < (((y : Nat) : Int) : Int)))))) rfl rfl (dep 14 rfl 50 rfl) (fun hc he hw => gs_move hw _ rfl (Eq.trans (Eq.trans (dep 16 rfl 52 rfl) (vF_yes (on_g hc he) _)) (vF_yes (on_g hc he) _).symm)) (fun hn => vF_no hn _)) ?_
        refine Steps.cons (fun a' w' hG hB dep => gs_guard (c := (true && ((((((((x : Nat) : Int) : Int) == (224 : Int))) && (decide ((((y : Nat) : Int) : Int) < (160 : Int)))) || ((((((x : Nat) : Int) : Int) == (237 : Int))) && (decide ((159 : Int) < (((y : Nat) : Int) : Int))))) == false))) (b' := (((((x : Nat) : Int) : Int) == (240 : Int)))) rfl rfl (dep 17 rfl 53 rfl) (fun hc he hw => gs_move hw _ rfl (Eq.trans (hG.other 8 rfl) (vF_yes (on_g hc he) _).symm)) (fun hn => vF_no hn _)) ?_
        refine Steps.cons (fun a' w' hG hB dep => gs_guard (c := (true && ((((((((x : Nat) : Int) : Int) == (224 : Int))) && (decide ((((y : Nat) : Int) : Int) < (160 : Int)))) || ((((((x : Nat) : Int) : Int) == (237 : Int))) && (decide ((159 : Int) < (((y : Nat) : Int) : Int))))) == false))) (b' := (((((x : Nat) : Int) : Int) == (240 : Int)))) rfl rfl (dep 17 rfl 53 rfl) (fun hc he hw => gs_lss_int hw _ _ _ _ rfl _ _ _ (Eq.trans (dep 18 rfl 54 rfl) (vF_yes (on_g hc he) _)) rfl (Eq.trans (congrArg Value.bool rfl) (vF_yes (on_g hc he) _).symm)) (fun hn => vF_no hn _)) ?_
        refine Steps.cons (fun a' w' hG hB dep => gs_guard (c := true) (b' := (((((((x : Nat) : Int) : Int) == (224 : Int))) && (decide ((((y : Nat) : Int) : Int) < (160 : Int)))) || ((((((x : Nat) : Int) : Int) == (237 : Int))) && (decide ((159 : Int) < (((y : Nat) : Int) : Int)))))) rfl rfl (dep 14 rfl 50 rfl) (fun hc he hw => gs_pick hw _ _ _ rfl (((((x : Nat) : Int) : Int) == (240 : Int))) (Eq.trans (dep 17 rfl 53 rfl) (vF_yes (on_g hc he) _)) (Eq.trans (pick_and2 (c := (true && ((((((((x : Nat) : Int) : Int) == (224 : Int))) && (decide ((((y : Nat) : Int) : Int) < (160 : Int)))) || ((((((x : Nat) : Int) : Int) == (237 : Int))) && (decide ((159 : Int) < (((y : Nat) : Int) : Int))))) == false))) (on_g hc he) (dep 19 rfl 55 rfl)) (vF_yes (on_g hc he) _).symm)) (fun hn => vF_no hn _)) ?_
        refine Steps.cons (fun a' w' hG hB dep => gs_pick (want_none rfl) _ _ _ rfl (((((((x : Nat) : Int) : Int) == (224 : Int))) && (decide ((((y : Nat) : Int) : Int) < (160 : Int)))) || ((((((x : Nat) : Int) : Int) == (237 : Int))) && (decide ((159 : Int) < (((y : Nat) : Int) : Int))))) (dep 14 rfl 50 rfl) (id (pick_or2 (c := true) rfl (dep 20 rfl 56 rfl)))) ?_
        refine Steps.cons (fun a' w' hG hB dep => gs_move (want_none rfl) _ rfl (id (dep 21 rfl 57 rfl))) ?_
        refine Steps.cons (fun a' w' hG hB dep => gs_guard (c := true) (b' := ((((((((x : Nat) : Int) : Int) == (224 : Int))) && (decide ((((y : Nat) : Int) : Int) < (160 : Int)))) || ((((((x : Nat) : Int) : Int) == (237 : Int))) && (decide ((159 : Int) < (((y : Nat) : Int) : Int))))) || ((((((x : Nat) : Int) : Int) == (240 : Int))) && (decide ((((y : Nat) : Int) : Int) < (144 : Int)))))) rfl rfl (dep 22 rfl 58 rfl) (fun hc he hw => gs_move hw _ rfl (Eq.trans (hG.other 5 rfl) (vF_yes (on_g hc he) _).symm)) (fun hn => vF_no hn _)) ?_
        refine Steps.cons (fun a' w' hG hB dep => gs_guard (c := true) (b' := ((((((((x : Nat) : Int) : Int) == (224 : Int))) && (decide ((((y : Nat) : Int) : Int) < (160 : Int)))) || ((((((x : Nat) : Int) : Int) == (237 : Int))) && (decide ((159 : Int) < (((y : Nat) : Int) : Int))))) || ((((((x : Nat) : Int) : Int) == (240 : Int))) && (decide ((((y : Nat) : Int) : Int) < (144 : Int)))))) rfl rfl (dep 22 rfl 58 rfl) (fun hc he hw => gs_eql_int hw _ _ _ _ rfl _ _ _ (Eq.trans (dep 23 rfl 59 rfl) (vF_yes (on_g hc he) _)) rfl (Eq.trans (congrArg Value.bool rfl) (vF_yes (on_g hc he) _).symm)) (fun hn => vF_no hn _)) ?_
        refine Steps.cons (fun a' w' hG hB dep => gs_guard (c := true) (b' := ((((((((x : Nat) : Int) : Int) == (224 : Int))) && (decide ((((y : Nat) : Int) : Int) < (160 : Int)))) || ((((((x : Nat) : Int) : Int) == (237 : Int))) && (decide ((159 : Int) < (((y : Nat) : Int) : Int))))) || ((((((x : Nat) : Int) : Int) == (240 : Int))) && (decide ((((y : Nat) : Int) : Int) < (144 : Int)))))) rfl rfl (dep 22 rfl 58 rfl) (fun hc he hw => gs_move hw _ rfl (Eq.trans (Eq.trans (dep 24 rfl 60 rfl) (vF_yes (on_g hc he) _)) (vF_yes (on_g hc he) _).symm)) (fun hn => vF_no hn _)) ?_
        refine Steps.cons (fun a' w' hG hB dep => gs_guard (c := (true && (((((((((x : Nat) : Int) : Int) == (224 : Int))) && (decide ((((y : Nat) : Int) : Int) < (160 : Int)))) || ((((((x : Nat) : Int) : Int) == (237 : Int))) && (decide ((159 : Int) < (((y : Nat) : Int) : Int))))) || ((((((x : Nat) : Int) : Int) == (240 : Int))) && (decide ((((y : Nat) : Int) : Int) < (144 : Int))))) == false))) (b' := (((((x : Nat) : Int) : Int) == (244 : Int)))) rfl rfl (dep 25 rfl 61 rfl) (fun hc he hw => gs_move hw _ rfl (Eq.trans (hG.other 8 rfl) (vF_yes (on_g hc he) _).symm)) (fun hn => vF_no hn _)) ?_
        refine Steps.cons (fun a' w' hG hB dep => gs_guard (c := (true && (((((((((x : Nat) : Int) : Int) == (224 : Int))) && (decide ((((y : Nat) : Int) : Int) < (160 : Int)))) || ((((((x : Nat) : Int) : Int) == (237 : Int))) && (decide ((159 : Int) < (((y : Nat) : Int) : Int))))) || ((((((x : Nat) : Int) : Int) == (240 : Int))) && (decide ((((y : Nat) : Int) : Int) < (144 : Int))))) == false))) (b' := (((((x : Nat) : Int) : Int) == (244 : Int)))) rfl rfl (dep 25 rfl 61 rfl) (fun hc he hw => gs_gtr_int hw _ _ _ _ rfl _ _ _ (Eq.trans (dep 26 rfl 62 rfl) (vF_yes (on_g hc he) _)) rfl (Eq.trans (congrArg Value.bool rfl) (vF_yes (on_g hc he) _).symm)) (fun hn => vF_no hn _)) ?_
        refine Steps.cons (fun a' w' hG hB dep => gs_guard (c := true) (b' := ((((((((x : Nat) : Int) : Int) == (224 : Int))) && (decide ((((y : Nat) : Int) : Int) < (160 : Int)))) || ((((((x : Nat) : Int) : Int) == (237 : Int))) && (decide ((159 : Int) < (((y : Nat) : Int) : Int))))) || ((((((x : Nat) : Int) : Int) == (240 : Int))) && (decide ((((y : Nat) : Int) : Int) < (144 : Int)))))) rfl rfl (dep 22 rfl 58 rfl) (fun hc he hw => gs_pick hw _ _ _ rfl (((((x : Nat) : Int) : Int) == (244 : Int))) (Eq.trans (dep 25 rfl 61 rfl) (vF_yes (on_g hc he) _)) (Eq.trans (pick_and2 (c := (true && (((((((((x : Nat) : Int) : Int) == (224 : Int))) && (decide ((((y : Nat) : Int) : Int) < (160 : Int)))) || ((((((x : Nat) : Int) : Int) == (237 : Int))) && (decide ((159 : Int) < (((y : Nat) : Int) : Int))))) || ((((((x : Nat) : Int) : Int) == (240 : Int))) && (decide ((((y : Nat) : Int) : Int) < (144 : Int))))) == false))) (on_g hc he) (dep 27 rfl 63 rfl)) (vF_yes (on_g hc he) _).symm)) (fun hn => vF_no hn _)) ?_
        refine Steps.cons (fun a' w' hG hB dep => gs_pick (want_none rfl) _ _ _ rfl ((((((((x : Nat) : Int) : Int) == (224 : Int))) && (decide ((((y : Nat) : Int) : Int) < (160 : Int)))) || ((((((x : Nat) : Int) : Int) == (237 : Int))) && (decide ((159 : Int) < (((y : Nat) : Int) : Int))))) || ((((((x : Nat) : Int) : Int) == (240 : Int))) && (decide ((((y : Nat) : Int) : Int) < (144 : Int))))) (dep 22 rfl 58 rfl) (id (pick_or2 (c := true) rfl (dep 28 rfl 64 rfl)))) ?_
        exact Steps.nil
      intro u w6 hw6 ans
      have hus65 : u 65 = (.bool (((((((((x : Nat) : Int) : Int) == (224 : Int))) && (decide ((((y : Nat) : Int) : Int) < (160 : Int)))) || ((((((x : Nat) : Int) : Int) == (237 : Int))) && (decide ((159 : Int) < (((y : Nat) : Int) : Int))))) || ((((((x : Nat) : Int) : Int) == (240 : Int))) && (decide ((((y : Nat) : Int) : Int) < (144 : Int))))) || ((((((x : Nat) : Int) : Int) == (244 : Int))) && (decide ((143 : Int) < (((y : Nat) : Int) : Int)))))) := ans 29 65 (by decide) rfl
      clear ans
      simp only [putAll, List.foldl_cons, List.foldl_nil, Act.put, List.setIfInBounds_toArray, List.set_cons_zero, List.set_cons_succ, hus65]
      clear hus65
      simp only [List.drop]
      refine wpList_nil ?_
      rw [hob'.out]
      have hBc : Below w.heap.size w w6 := (hBb.trans (hw5.mono hBb.size)).trans (hw6.mono (hBb.trans (hw5.mono hBb.size)).size)
      cases ob with
      | true =>
        go_wp2_with (fail)
        go_ret
        exact ⟨by rw [hv.out]; rfl, hBc⟩
      | false =>
        go_wp2_with (fail)
        go_ret
        exact ⟨by rw [hv.out]; rfl, hBc⟩
  · have hK : wideK x = 0 := by unfold wideK; rw [if_neg (by omega), if_neg (by omega), if_neg (by omega)]
    rw [hK, if_pos rfl] at hV2
    replace hV2 := Lib.hid hV2
    rw [show decide (194 ≤ x ∧ x ≤ 223) = false from decide_eq_false (by omega)] at kb1
    rw [show decide (224 ≤ x ∧ x ≤ 239) = false from decide_eq_false (by omega)] at kb2
    rw [show decide (240 ≤ x ∧ x ≤ 244) = false from decide_eq_false (by omega)] at kb3
    clear c0 hc hI1 hK hk2 hk3 hk4 hyN
    go_enter Tryz.func39, Tryz.ntmps39
    go_wp2_with (first
      | (go_at_call 66; refine (kb1 _).mono ?_; clear kb1; rintro e w1 ⟨rfl, hB1⟩)
      | (go_at_call 66; refine (kb2 _).mono ?_; clear kb2; rintro e w2 ⟨rfl, hB2⟩)
      | (go_at_call 66; refine (kb3 _).mono ?_; clear kb3; rintro e w3 ⟨rfl, hB3⟩))
    go_ret
    exact ⟨by rw [hV2.out]; rfl, (hB1.trans (hB2.mono hB1.size)).trans (hB3.mono (hB1.trans (hB2.mono hB1.size)).size)⟩
end Go.Proofs.YtjplgcmfifoefaaGreatDoor
