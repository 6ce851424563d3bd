/- Part 8 of a proof; packed: the texts that it was made of follow one another. No condition beyond those named in each lemma. -/
import Derived.Test.YtkedgombccdamaaGreatDoorPm2
import Derived.Test.YtkedgombccdamaaGreatDoorPm4
import Derived.Test.YtkedgombccdamaaGreatDoorPm7
import Derived.Laws.CopyOwn
namespace Go.Proofs.YtkedgombccdamaaGreatDoor
set_option linter.unusedVariables false
set_option linter.unusedSimpArgs false
namespace Mt
noncomputable def mpre (E : List Edg) (N : Nat) (q : ByteArray) : Nat → Nat
 | 0 => 1
 | k + 1 => byteN E N (zzf E N (decide (k = 0)) (decide (k = q.size)) (mpre E N q k)) (Ere.chr q k)
noncomputable def mx (E : List Edg) (N : Nat) (q : ByteArray) (k : Nat) : Nat := zzf E N (decide (k = 0)) (decide (k = q.size)) (mpre E N q k)
theorem mpre_below {E : List Edg} {N : Nat} (hN : 1 ≤ N) (q : ByteArray) : ∀ k, below (mpre E N q k) N
 | 0 => below_pow (n := 0) hN
 | k + 1 => byte_below _ _ _ _
theorem mpre_zero {E : List Edg} {N : Nat} (hN : 1 ≤ N) (q : ByteArray) : ∀ k, (mpre E N q k).testBit 0 = true
 | 0 => by simp [mpre]
 | k + 1 => (byte_bit _ _ _ _ _).2 ⟨hN, .inl rfl⟩
noncomputable def mV (E : List Edg) (R : List Nat) (N : Nat) (q : ByteArray) : Nat → Nat
 | 0 => 0
 | k + 1 => mV E R N q k ||| metN R (mx E N q k) N
theorem mV_bit (E : List Edg) (R : List Nat) (N : Nat) (q : ByteArray) (j : Nat) : ∀ k, (mV E R N q k).testBit j = true ↔ ∃ i s, i < k ∧ s < N ∧ (mx E N q i).testBit s = true ∧ (R.getD s 0).testBit j = true
 | 0 => by simp [mV]
 | k + 1 => by
   show ((mV E R N q k ||| metN R (mx E N q k) N).testBit j = true) ↔ _
   rw [Nat.testBit_or, Bool.or_eq_true, mV_bit E R N q j k, met_bit]
   constructor
   ·rintro (⟨i, s, h1, h2⟩ | ⟨s, h2⟩)
    ·exact ⟨i, s, by omega, h2⟩
    ·exact ⟨k, s, by omega, h2⟩
   ·rintro ⟨i, s, h1, h2⟩
    by_cases e : i = k
    ·subst e; exact .inr ⟨s, h2⟩
    ·exact .inl ⟨i, s, by omega, h2⟩
theorem mx_least {E : List Edg} {N : Nat} (hN : 1 ≤ N) (hE : ∀ d ∈ E, (0 ≤ d.fr ∧ d.fr < N) ∧ 0 ≤ d.tt ∧ d.tt < N) (q : ByteArray) (k s : Nat) (hk : k ≤ q.size) : (mx E N q k).testBit s = true ↔ Least q E s k := by
 have htt : ∀ d ∈ E, 0 ≤ d.tt ∧ d.tt < N := fun d hd => (hE d hd).2
 have hmx : ∀ k s, (mx E N q k).testBit s = true ↔ Reach E (decide (k = 0)) (decide (k = q.size)) (mpre E N q k) s := fun k s => spread_bit htt (mpre_below hN q k) s
 constructor
 ·revert s
  induction k with
  | zero =>
    intro s h
    rw [hmx] at h
    intro L hL h0
    induction h with
    | @base n' h =>
      have e : n' = 0 := by
       have h2 : (2 ^ 0 : Nat).testBit n' = true := h
       rw [Nat.testBit_two_pow, decide_eq_true_eq] at h2
       exact h2.symm
      rw [e]
      exact h0 0 (by omega)
    | @step d hd hm _ ih =>
      have hd2 := hL d hd
      simp only [may, Bool.or_eq_true, Bool.and_eq_true, beq_iff_eq, decide_eq_true_eq] at hm
      rcases hm with (h | h) | h
      ·exact hd2.free h 0 (by omega) ih
      ·exact hd2.begin_ h.2 ih
      ·rw [h.1] at ih ⊢
       exact hd2.end_ h.2 ih
  | succ k ihk =>
    intro s h
    rw [hmx] at h
    intro L hL h0
    induction h with
    | base h =>
      rw [mpre, byte_bit] at h
      rcases h.2 with rfl | ⟨d, hd, h1, h2, h3, h4⟩
      ·exact h0 _ hk
      ·rw [← h4]
       exact (hL d hd).byte h1 k (by omega) (ihk (by omega) _ h2 L hL h0) h3
    | @step d hd hm _ ih =>
      have hd2 := hL d hd
      simp only [may, Bool.or_eq_true, Bool.and_eq_true, beq_iff_eq, decide_eq_true_eq] at hm
      rcases hm with (h | h) | h
      ·exact hd2.free h _ hk ih
      ·exact absurd h.1 (by omega)
      ·rw [h.1] at ih ⊢
       exact hd2.end_ h.2 ih
 ·intro h
  have := h (fun s i => i ≤ q.size ∧ (mx E N q i).testBit s = true) (fun d hd => ?_) (fun i hi => ⟨hi, (hmx i 0).2 (.base (mpre_zero hN q i))⟩)
  ·exact this.2
  ·refine ⟨fun hk1 i hi h1 => ⟨hi, (hmx _ _).2 (.step hd (by simp [may, hk1]) ((hmx _ _).1 h1.2))⟩, fun hk2 i hi h1 hb => ⟨by omega, (hmx _ _).2 (.base ?_)⟩, fun hk3 h1 => ⟨Nat.zero_le _, (hmx _ _).2 (.step hd (by simp [may, hk3]) ((hmx _ _).1 h1.2))⟩, fun hk4 h1 => ⟨Nat.le_refl _, (hmx _ _).2 (.step hd (by simp [may, hk4]) ((hmx _ _).1 h1.2))⟩⟩
   rw [mpre, byte_bit]
   have hb2 := hE d hd
   exact ⟨by omega, .inr ⟨d, hd, hk2, h1.2, hb, rfl⟩⟩
theorem mV_least {E : List Edg} {R : List Nat} {N : Nat} (hN : 1 ≤ N) (hE : ∀ d ∈ E, (0 ≤ d.fr ∧ d.fr < N) ∧ 0 ≤ d.tt ∧ d.tt < N) (q : ByteArray) (j : Nat) : (mV E R N q (q.size + 1)).testBit j = true ↔ ∃ i s, i ≤ q.size ∧ s < N ∧ Least q E s i ∧ (R.getD s 0).testBit j = true := by
 rw [mV_bit]
 constructor
 ·rintro ⟨i, s, h1, h2, h3, h4⟩
  exact ⟨i, s, by omega, h2, (mx_least hN hE q i s (by omega)).1 h3, h4⟩
 ·rintro ⟨i, s, h1, h2, h3, h4⟩
  exact ⟨i, s, by omega, h2, (mx_least hN hE q i s h1).2 h3, h4⟩
end Mt
end Go.Proofs.YtkedgombccdamaaGreatDoor
namespace Go.Proofs.YtkedgombccdamaaGreatDoor
open Go.RowKit Go.Shelf Go.Maps
set_option linter.unusedVariables false
set_option linter.unusedSimpArgs false
attribute [local go_sem] Oper.semAt_some
theorem own_grown' {α : Type} {enc : α → Array Value} {size base b r n c : Nat} {e : TypeId} {w w' : World} {ys : List α} (h : Own w base e size enc (.slice (some ⟨b, 0, none⟩) n c) ys) (k : w.grownBy w' (some r)) (hb : b ≠ r) : Own w' base e size enc (.slice (some ⟨b, 0, none⟩) n c) ys :=
 own_block h fun g hg => by
  have : b = g := by simpa [Value.ownBlock] using hg
  subst this
  exact k.block b (h.lt b rfl).2 (by simp; exact hb)
end Go.Proofs.YtkedgombccdamaaGreatDoor
namespace Go.Proofs.YtkedgombccdamaaGreatDoor
open Go.RowKit Go.Maps
set_option linter.unusedVariables false
set_option linter.unusedSimpArgs false
attribute [local go_sem] Oper.semAt_some
def arrB (l : List UInt8) : Array Value := (l.map fun b => Value.int .u8 b.toNat).toArray
theorem arrB_size (l : List UInt8) : (arrB l).size = l.length := by simp [arrB]
theorem arrB_set (l : List UInt8) (i : Nat) (b : UInt8) (h : i < l.length) : (arrB l).setIfInBounds i (.int .u8 (b.toNat : Int)) = arrB (l.set i b) := by
 unfold arrB
 rw [List.setIfInBounds_toArray, List.map_set]
theorem put_digit (i : Nat) (b : UInt8) (suf : List UInt8) : ((List.replicate (i + 1) (0 : UInt8)) ++ suf).set i b = List.replicate i 0 ++ b :: suf := by
 rw [List.replicate_succ', List.append_assoc, List.set_append_right _ _ (by simp)]
 simp
def digStr : ByteArray := ⟨#[48, 49, 50, 51, 52, 53, 54, 55, 56, 57, 97, 98, 99, 100, 101, 102, 103, 104, 105, 106, 107, 108, 109, 110, 111, 112, 113, 114, 115, 116, 117, 118, 119, 120, 121, 122]⟩
theorem digStr_get : ∀ n, n < 36 → digStr.data.getD n 0 = dg n := by decide
theorem digStr_at (n : Nat) (h : n < 36) (h2 : n < digStr.size) : digStr[n] = dg n := by
 rw [← digStr_get n h]
 show digStr.data[n] = _
 have h3 : n < digStr.data.size := h2
 rw [Array.getD_eq_getD_getElem?, Array.getElem?_eq_getElem h3]
 rfl
theorem run_digit (w : World) (k : IntKind) (n : Nat) (h : n < 36) : (Instr.index 9 (.string digStr) (.int k (n : Int))).run Tryz.prog w = .ok (.int .u8 ((dg n).toNat : Int)) w := by
 rw [run_index_string w 9 digStr k (n : Int) Tryz.underlying9, dif_pos ⟨by omega, by show (n : Int) < 36; omega⟩]
 rw [← digStr_at n h h]
 rfl
theorem zeros65 : Tryz.zeroCells151 = arrB (List.replicate 65 0) := by kernel_rfl
section
variable {ops : Array Oper} {rest : List Oper} {o : Oper} {a : Act} {w : World} {Q : Exit → Act → World → Prop}
theorem wl_digit (hgd : o.guard = none) (x y : Operand) (ho : o.op = .index 9 x y) (hx : a.eval x = .string digStr) (k : IntKind) (n : Nat) (h : n < 36) (hy : a.eval y = .int k (n : Int))
  (hK : wpList Tryz.prog ops Q rest (a.put o.dst (.int .u8 ((dg n).toNat : Int))) w) : wpList Tryz.prog ops Q (o :: rest) a w :=
 wl_run hgd (v := .int .u8 ((dg n).toNat : Int)) (by unfold execOp; simp only [ho, hx, hy, Sem.run_bind, run_digit w k n h, Result.andThen_ok, Sem.run_pure]) hK
end
theorem under_a65 : Tryz.prog.underlying 151 = some (.array (Tryz.prog.arrayLen 151) (Tryz.prog.elem 151)) := by kernel_rfl
theorem len_a65 : Tryz.prog.arrayLen 151 = 65 := by kernel_rfl
theorem size_a65 (w : World) : (sizeOf (Tryz.prog.elem 151)).run Tryz.prog w = .ok 1 w := by kernel_rfl
theorem run_arrfrom (w : World) (ga j : Nat) (h : j < 65) : (Instr.sliceAt 151 (.pointer (some ⟨ga, 0, none⟩)) (some (.int .i64 (j : Int))) none none).run Tryz.prog w = .ok (.slice (some ⟨ga, j, none⟩) (65 - j) (65 - j)) w := by
 rw [run_sliceAt_array_l (P := Tryz.prog) w 151 ⟨ga, 0, none⟩ under_a65 .i64 (j : Int) (by omega) (by rw [len_a65]; omega), size_a65, Result.andThen_ok, len_a65]
 unfold slicedAt
 rw [if_neg (by omega)]
 simp [Addr.add]
 exact fun h => h.symm
section
variable {ops : Array Oper} {rest : List Oper} {o : Oper} {a : Act} {w : World} {Q : Exit → Act → World → Prop}
theorem wl_arrfrom (hgd : o.guard = none) (x y : Operand) (ho : o.op = .slice 151 x (some y) none none) (ga j : Nat) (h : j < 65) (hx : a.eval x = .pointer (some ⟨ga, 0, none⟩)) (hy : a.eval y = .int .i64 (j : Int))
  (hK : wpList Tryz.prog ops Q rest (a.put o.dst (.slice (some ⟨ga, j, none⟩) (65 - j) (65 - j))) w) : wpList Tryz.prog ops Q (o :: rest) a w :=
 wl_run hgd (v := .slice (some ⟨ga, j, none⟩) (65 - j) (65 - j)) (by unfold execOp; simp only [ho, Option.map_none, Option.map_some, hx, hy, Sem.run_bind, run_arrfrom w ga j h, Result.andThen_ok, Sem.run_pure]) hK
end
theorem arrB_slice {w : World} {ga j : Nat} {t : TypeId} {suf : List UInt8} (h : Blk w ga t (arrB (List.replicate j 0 ++ suf))) : SliceOf w w.heap.size 1 enc8 (some ⟨ga, j, none⟩) suf := by
 refine .inr ⟨ga, j, rfl, h.lt, fun i hi k v hv => ?_⟩
 have hk : k = 0 := by
  have : k < (enc8 suf[i]).size := by
   rcases Nat.lt_or_ge k (enc8 suf[i]).size with h1 | h1
   ·exact h1
   ·rw [Array.getElem?_eq_none h1] at hv; cases hv
  simpa [enc8] using this
 subst hk
 refine h.cellv ?_
 rw [← hv]
 have e : (List.replicate j (0 : UInt8) ++ suf)[j + i * 1 + 0]? = some suf[i] := by
  rw [List.getElem?_append_right (by simp)]
  simp
 unfold arrB
 rw [List.getElem?_toArray, List.getElem?_map, e]
 rfl
theorem info_u8s : (Tryz.prog.info? 5).map (·.size) = some 1 := by kernel_rfl
theorem pow36_any (w : World) : Calls Tryz.prog 87 #[.int .i64 36] w fun e w' => e = .returned (.bool false) ∧ w' = w := by
 go_enter Tryz.func87, Tryz.ntmps87
 go_wp2_with (fail)
 go_ret
 exact ⟨rfl, rfl⟩
set_option maxRecDepth 100000 in
set_option maxHeartbeats 4000000 in
theorem bits36_any (u : Nat) (hu : u < 18446744073709551616) (w : World) :
  Calls Tryz.prog 74 #[.slice none 0 0, .int .u64 (u : Int), .int .i64 36, .bool false, .bool false] w fun e w' => e = .returned (.tuple #[.slice none 0 0, .string ⟨(dig36 u).toArray⟩]) ∧ Below w.heap.size w w' := by
 go_enter Tryz.func74, Tryz.ntmps74
 go_upto_region 4 with (fail)
 rw [zeros65]
 have hA := Blk.new w 151 (arrB (List.replicate 65 0))
 have hB1 : Below w.heap.size w (w.alloc (.cells (arrB (List.replicate 65 0)) 151)) := zqc (Below.refl _ _) _
 obtain ⟨W1, hW1⟩ : ∃ y, y = w.alloc (.cells (arrB (List.replicate 65 0)) 151) := ⟨_, rfl⟩
 obtain ⟨ga, hga⟩ : ∃ y, y = w.heap.size := ⟨_, rfl⟩
 have hgw : w.heap.size ≤ ga := by omega
 rw [← hga, ← hW1] at hA
 rw [← hW1] at hB1
 rw [← hga, ← hW1]
 clear hga hW1
 have hpow : u < 36 ^ 14 := Nat.lt_of_lt_of_le hu (by decide)
 have h0 : Hid (u < 36 ^ 14 ∧ dig36 u = (rev36 14 u).reverse ++ []) := Lib.hid ⟨hpow, by simp [dig36]⟩
 have hA' : Blk W1 ga 151 (arrB (List.replicate 65 0 ++ [])) := by rw [List.append_nil]; exact hA
 clear hpow hA
 go_wp2_with (go_at_call 87; refine (pow36_any _).mono ?_; rintro en wp ⟨rfl, hwp⟩; rw [hwp]; clear hwp)
 go_loopw [1, 13] (fun uv iv wr => ∃ (f v i : Nat) (suf : List UInt8), 1 ≤ f ∧ f ≤ 14 ∧ i = f + 51 ∧ uv = .int .u64 v ∧ iv = .int .i64 i ∧ v ≤ u ∧ suf.length + i = 65 ∧ Hid (v < 36 ^ f ∧ dig36 u = (rev36 f v).reverse ++ suf) ∧ Blk wr ga 151 (arrB (List.replicate i 0 ++ suf)) ∧ Below w.heap.size w wr) (fun uv _ _ => (intOf uv).toNat)
 case atStart => exact ⟨14, u, 65, [], by omega, by omega, rfl, rfl, rfl, by omega, rfl, h0, hA', hB1⟩
 case round =>
  clear h0 hA' hB1
  obtain ⟨f, v, i, suf, hf1, hf2, hi, rfl, rfl, hvu, hsl, Hr, hA, hB⟩ := hrel
  obtain ⟨j, hj⟩ : ∃ j, i = j + 1 := ⟨i - 1, by omega⟩
  have Hj := Lib.hid (And.intro hj (And.intro hi hsl))
  have hj1 : (i : Int) - 1 = (j : Int) := by omega
  have hj64 : j < 65 := by omega
  have hjI : (j : Int) < 65 := by omega
  have hj0 : ¬ (j : Int) < 0 := by omega
  have hA2 : Blk wr ga 151 (arrB (List.replicate (j + 1) 0 ++ suf)) := by rw [← hj]; exact hA
  have hsz : j < (arrB (List.replicate (j + 1) (0 : UInt8) ++ suf)).size := by rw [arrB_size]; simp; omega
  have hput := fun b : UInt8 => (arrB_set (List.replicate (j + 1) 0 ++ suf) j b (by simp; omega)).trans (congrArg arrB (put_digit j b suf))
  replace hput := Lib.hid hput
  clear hA hj hi hsl
  by_cases hv : v < 36
  ·have hvI : (v : Int) < 36 := by omega
   have hfin : Hid (dig36 u = dg v :: suf) := by
    obtain ⟨r1, r2⟩ := Hr.out
    obtain ⟨f', rfl⟩ : ∃ f', f = f' + 1 := ⟨f - 1, by omega⟩
    rw [rev36, if_pos hv] at r2
    exact Lib.hid (by simpa using r2)
   have hlen : Hid (65 - j = (dg v :: suf).length) := Lib.hid (by have := Hj.out; simp; omega)
   go_wp2_with (first
    | (refine wl_digit rfl _ _ rfl rfl .u64 v hv rfl ?_)
    | (refine zqt rfl _ _ _ rfl ga j rfl 151 _ (arrB (List.replicate j 0 ++ dg v :: suf)) hA2 hsz info_u8s rfl rfl (hput.out _) ?_; intro w5 hA5 hg5)
    | (refine wl_arrfrom rfl _ _ rfl ga j hj64 rfl rfl ?_)
    | (refine wl_conv_str rfl _ rfl (dg v :: suf) rfl hlen.out (arrB_slice hA5) ?_))
   go_ret2
   exact ⟨by rw [hfin.out]; rfl, zqh hB hg5 hgw⟩
  ·have hvI : ¬ (v : Int) < 36 := by omega
   obtain ⟨d, hd⟩ : ∃ d, d = v % 36 := ⟨_, rfl⟩
   obtain ⟨v', hv'⟩ : ∃ x, x = v / 36 := ⟨_, rfl⟩
   have hd36 : d < 36 := by rw [hd]; exact Nat.mod_lt _ (by omega)
   have hdv : (v : Int) - (v' : Int) * 36 = (d : Int) := by omega
   have hdv2 : (v : Int) / 36 = (v' : Int) := by omega
   have hvl : v' < v := by omega
   have hdd := Lib.hid (And.intro hd hv')
   clear hd hv'
   go_wp2_with (first
    | (refine wl_digit rfl _ _ rfl rfl .u64 d hd36 rfl ?_)
    | (refine zqt rfl _ _ _ rfl ga j rfl 151 _ (arrB (List.replicate j 0 ++ dg d :: suf)) hA2 hsz info_u8s rfl rfl (hput.out _) ?_; intro w5 hA5 hg5))
   obtain ⟨e1, e2⟩ := hdd.out
   obtain ⟨q1, q2, q3⟩ := Hj.out
   obtain ⟨r1, r2⟩ := Hr.out
   have hf : 1 < f := by
    rcases Nat.lt_or_ge 1 f with h | h
    ·exact h
    ·have : f = 1 := by omega
     subst this
     simp at r1
     omega
   refine ⟨⟨f - 1, v', j, dg d :: suf, by omega, by omega, by omega, rfl, rfl, by omega, by simp; omega, Lib.hid ⟨?_, ?_⟩, hA5, zqh hB hg5 hgw⟩, by simp only [intOf]; omega⟩
   ·obtain ⟨f', rfl⟩ : ∃ f', f = f' + 1 := ⟨f - 1, by omega⟩
    rw [Nat.pow_succ] at r1
    rw [e2]
    exact Nat.div_lt_of_lt_mul (by simpa [Nat.mul_comm] using r1)
   ·obtain ⟨f', rfl⟩ : ∃ f', f = f' + 1 := ⟨f - 1, by omega⟩
    rw [rev36, if_neg hv] at r2
    rw [r2, ← e1, ← e2]
    simp
theorem uint36_any (u : Nat) (hu : u < 18446744073709551616) (w : World) :
  Calls Tryz.prog 44 #[.int .u64 (u : Int), .int .i64 36] w fun e w' => e = .returned (.string ⟨(dig36 u).toArray⟩) ∧ Below w.heap.size w w' := by
 have k1 : Calls Tryz.prog 59 #[.int .u64 (u : Int), .int .i64 36] w fun e w' => e = .returned (.string ⟨(dig36 u).toArray⟩) ∧ Below w.heap.size w w' := by
  go_enter Tryz.func59, Tryz.ntmps59
  go_wp2_with (go_at_call 74; refine (bits36_any u hu w).mono ?_; rintro en w1 ⟨rfl, hB1⟩)
  go_ret
  exact ⟨rfl, hB1⟩
 go_enter Tryz.func44, Tryz.ntmps44
 go_wp2_with (go_at_call 59; refine k1.mono ?_; rintro en w1 ⟨rfl, hB1⟩)
 go_ret
 exact ⟨rfl, hB1⟩
end Go.Proofs.YtkedgombccdamaaGreatDoor
namespace Go.Proofs.YtkedgombccdamaaGreatDoor
set_option linter.unusedVariables false
set_option linter.unusedSimpArgs false
namespace Mt
noncomputable def im (n : Nat) (T : Rel) (x : Nat) : Nat := ofPred (fun j => ∃ i, x.testBit i = true ∧ T i j) (n + 1)
end Mt
namespace Mt
def EgN (e : Edg) : Prop := 0 ≤ e.fr ∧ 0 ≤ e.tt ∧ 1 ≤ e.kd ∧ e.kd ≤ 4 ∧ (e.kd ≠ 2 → e.st = 0)
def AllN (m : Ly) : Prop := ∀ e ∈ m.e, EgN e
def KeepsN (f : LayF) : Prop := ∀ m a, AllN m → AllN (f m a).1
theorem AllN.edge {m : Ly} (h : AllN m) (kd : Int) (fr tt : Nat) (st : BSet) (h1 : 1 ≤ kd) (h2 : kd ≤ 4) (h3 : kd ≠ 2 → st = 0) : AllN (m.edge kd fr tt st) := by
 intro e he
 rcases List.mem_append.1 he with he | he
 ·exact h e he
 ·rw [List.mem_singleton] at he
  subst he
  exact ⟨by simp, by simp, h1, h2, h3⟩
theorem AllN.free {m : Ly} (h : AllN m) (fr tt : Nat) : AllN (m.free fr tt) := h.edge 1 fr tt 0 (by omega) (by omega) (fun _ => rfl)
theorem AllN.new {m : Ly} (h : AllN m) : AllN m.new := h
theorem AllN.frees (z : Nat) : ∀ (l : List Nat) (m : Ly), AllN m → AllN (m.frees z l)
 | [], m, h => h
 | x :: l, m, h => AllN.frees z l (m.free x z) (h.free x z)
theorem AllN.joined {m : Ly} (h : AllN m) (l : List Nat) : AllN (m.joined l).1 := AllN.frees _ l _ h.new
theorem KeepsN.reps {f : LayF} (h : KeepsN f) (r : Ly × Nat) (hr : AllN r.1) : ∀ n, AllN (reps f n r).1
 | 0 => hr
 | n + 1 => h _ _ (h.reps r hr n)
theorem KeepsN.opts {f : LayF} (h : KeepsN f) (r : (Ly × Nat) × List Nat) (hr : AllN r.1.1) : ∀ n, AllN (opts f n r).1.1
 | 0 => hr
 | n + 1 => h _ _ (h.opts r hr n)
theorem KeepsN.times {f : LayF} (h : KeepsN f) (u : Nat) (mi ma : Int) : KeepsN (zzy f u mi ma) := by
 intro m a hm
 unfold zzy
 split
 ·exact hm
 split
 ·exact ((h _ _ ((h.reps (m, a) hm _).new.free _ _)).free _ _).joined _
 split
 ·exact (h.opts (_, _) (h.reps (m, a) hm _) _).joined _
 ·exact h.reps (m, a) hm _
theorem row_keepsN : ∀ l : List Nd, (∀ x ∈ l, KeepsN x.lay) → ∀ r : Ly × Nat, AllN r.1 → AllN (Nd.row l r).1
 | [], _, r, hr => by simpa [Nd.row] using hr
 | x :: l, h, r, hr => by
   simp only [Nd.row]
   exact row_keepsN l (fun y hy => h y (by simp [hy])) _ (h x (by simp) _ _ hr)
theorem alt_keepsN : ∀ l : List Nd, (∀ x ∈ l, KeepsN x.lay) → ∀ (a : Nat) (r : Ly × List Nat), AllN r.1 → AllN (Nd.alt l a r).1
 | [], _, a, r, hr => by simpa [Nd.alt] using hr
 | x :: l, h, a, r, hr => by
   simp only [Nd.alt]
   exact alt_keepsN l (fun y hy => h y (by simp [hy])) a _ (h x (by simp) _ _ (hr.new.free _ _))
theorem lay_keepsN (nd : Nd) : KeepsN nd.lay := by
 induction nd using Nd.ind with
 | h kd st l mi ma ih =>
 intro m a hm
 simp only [Nd.lay]
 split
 ·exact hm.new.edge 2 _ _ _ (by omega) (by omega) (fun h => absurd rfl h)
 split
 ·exact hm.new.edge 3 _ _ _ (by omega) (by omega) (fun _ => rfl)
 split
 ·exact hm.new.edge 4 _ _ _ (by omega) (by omega) (fun _ => rfl)
 split
 ·exact row_keepsN l ih (m, a) hm
 split
 ·exact (alt_keepsN l ih a (m, []) hm).joined _
 split
 ·match l, ih with
  | [], _ => simpa [Nd.tim] using hm
  | x :: l, ih =>
    simp only [Nd.tim]
    exact (ih x (by simp)).times _ _ _ m a hm
 ·exact hm
theorem layF_edges {nd : Nd} (hT : nd.isT = true) : ∀ d ∈ (layF nd).1.e, EgN d ∧ d.fr < (layF nd).1.s ∧ d.tt < (layF nd).1.s := by
 intro d hd
 have h1 : EgN d := lay_keepsN nd ⟨1, []⟩ 0 (fun e he => absurd he (by simp)) d hd
 obtain ⟨new, g⟩ := lay_ok (q := ⟨#[]⟩) nd hT ⟨1, []⟩ 0 (by show 0 < 1; omega)
 have he : (layF nd).1.e = new := by
  have := g.e
  simpa [layF] using this
 have hb := g.bnd d (by rw [← he]; exact hd)
 have hb1 : d.fr.toNat < (layF nd).1.s := hb.1
 have hb2 : d.tt.toNat < (layF nd).1.s := hb.2
 exact ⟨h1, by have := h1.1; omega, by have := h1.2.1; omega⟩
end Mt
end Go.Proofs.YtkedgombccdamaaGreatDoor
namespace Go.Proofs.YtkedgombccdamaaGreatDoor
open Go.RowKit Go.Maps
set_option linter.unusedVariables false
set_option linter.unusedSimpArgs false
namespace Mt
def mN (nd : Nd) : Nat := (layF nd).1.s
def mE (nd : Nd) : List Edg := (layF nd).1.e
def mR (nd : Nd) (r : Nat) : List Nat := (List.replicate (layF nd).1.s 0).set (layF nd).2 (2 ^ r)
theorem mR_len (nd : Nd) (r : Nat) : (mR nd r).length = mN nd := by simp [mR, mN]
theorem m_fits {nd : Nd} (hT : nd.isT = true) (r : Nat) : Fits (mN nd) (mE nd) (mR nd r) := by
 obtain ⟨hs, _, hend⟩ := layF_good hT
 have he := layF_edges hT
 exact ⟨by unfold mN; omega, mR_len nd r, fun d hd => ⟨(he d hd).1.2.2.1, (he d hd).1.2.2.2.1⟩, fun d hd => ⟨(he d hd).1.1, (he d hd).2.1⟩, fun d hd => ⟨(he d hd).1.2.1, (he d hd).2.2⟩, fun d hd => (he d hd).1.2.2.2.2⟩
theorem mN_eq {nd : Nd} (hT : nd.isT = true) (hU : ¬ 2048 ≤ nd.U) : mN nd = placesN nd := by
 have h := (layF_good hT).1
 unfold mN placesN
 rw [if_pos hT, h]
 omega
theorem mR_lt {nd : Nd} {r : Nat} (hr : r < 32) : ∀ x ∈ mR nd r, x < 4294967296 := by
 intro x hx
 have hp : 2 ^ r < 2 ^ 32 := Nat.pow_lt_pow_right (by omega) hr
 rcases List.mem_or_eq_of_mem_set hx with h | h
 ·have := (List.mem_replicate.1 h).2
  omega
 ·omega
end Mt
end Go.Proofs.YtkedgombccdamaaGreatDoor
namespace Go.Proofs.YtkedgombccdamaaGreatDoor
set_option linter.unusedVariables false
set_option linter.unusedSimpArgs false
namespace Mt
def FitsF (F : NF) (N : Nat) : Prop := F.s = (N : Int) ∧ Fits N F.E F.R
section
variable {F x : NF} {N M : Nat} {q : ByteArray}
theorem step_fits (hF : FitsF F N) (hx : FitsF x M) : FitsF (uStep F x) (N + M) := by
 obtain ⟨hs, f⟩ := hF
 obtain ⟨ht, g⟩ := hx
 have key : ∀ d ∈ (uStep F x).E, (1 ≤ d.kd ∧ d.kd ≤ 4) ∧ (0 ≤ d.fr ∧ d.fr < ((N + M : Nat) : Int)) ∧ (0 ≤ d.tt ∧ d.tt < ((N + M : Nat) : Int)) ∧ (d.kd ≠ 2 → d.st = 0) := by
  intro d hd
  unfold uStep at hd
  simp only [List.mem_append, List.mem_singleton, List.mem_map] at hd
  have hM := g.one
  have hN := f.one
  rcases hd with (hd | hd) | ⟨c, hc, hd⟩
  ·have := f.fr d hd
   have := f.tt d hd
   exact ⟨f.kinds d hd, by omega, by omega, f.sets d hd⟩
  ·subst hd
   exact ⟨by simp, by simp; omega, by simp only; omega, fun _ => rfl⟩
  ·subst hd
   have := g.fr c hc
   have := g.tt c hc
   simp only [shiftE]
   exact ⟨g.kinds c hc, by omega, by omega, g.sets c hc⟩
 refine ⟨by show F.s + x.s = _; omega, ⟨by have := f.one; omega, ?_, fun d hd => (key d hd).1, fun d hd => (key d hd).2.1, fun d hd => (key d hd).2.2.1, fun d hd => (key d hd).2.2.2⟩⟩
 show (F.R ++ x.R).length = _
 rw [List.length_append, f.rules, g.rules]
theorem edge_shift {L L' : Lab} {d : Edg} {b : Int} (h : EdgeOk q L' d) (h1 : L (d.fr + b).toNat = L' d.fr.toNat) (h2 : L (d.tt + b).toNat = L' d.tt.toNat) : EdgeOk q L (shiftE b d) := by
 refine ⟨fun k => ?_, fun k => ?_, fun k => ?_, fun k => ?_⟩ <;> (simp only [shiftE] at k ⊢; rw [h1, h2])
 ·exact h.free k
 ·exact h.byte k
 ·exact h.begin_ k
 ·exact h.end_ k
theorem edge_unshift {L L' : Lab} {d : Edg} {b : Int} (h : EdgeOk q L (shiftE b d)) (h1 : L (d.fr + b).toNat = L' d.fr.toNat) (h2 : L (d.tt + b).toNat = L' d.tt.toNat) : EdgeOk q L' d := by
 refine ⟨fun k => ?_, fun k => ?_, fun k => ?_, fun k => ?_⟩ <;> rw [← h1, ← h2]
 ·exact h.free k
 ·exact h.byte k
 ·exact h.begin_ k
 ·exact h.end_ k
theorem step_least (hF : FitsF F N) (hx : FitsF x M) (s i : Nat) : Least q (uStep F x).E s i ↔ if s < N then Least q F.E s i else Least q x.E (s - N) i := by
 obtain ⟨hs, f⟩ := hF
 obtain ⟨ht, g⟩ := hx
 have hN := f.one
 constructor
 ·intro h
  refine h (fun s i => if s < N then Least q F.E s i else Least q x.E (s - N) i) (fun e he => ?_) (fun i hi => ?_)
  ·unfold uStep at he
   simp only [List.mem_append, List.mem_singleton, List.mem_map] at he
   rcases he with (he | he) | ⟨c, hc, he⟩
   ·have h1 := f.fr e he
    have h2 := f.tt e he
    refine ((least_closed q F.E).1 e he).agree ?_ ?_
    ·funext i
     rw [if_pos (by omega)]
    ·funext i
     rw [if_pos (by omega)]
   ·subst he
    refine ⟨fun _ i hi _ => ?_, fun k => ?_, fun k => ?_, fun k => ?_⟩
    ·simp only [hs]
     rw [if_neg (by omega), show ((N : Int)).toNat - N = 0 by omega]
     exact (least_closed q x.E).2 i hi
    all_goals (simp at k)
   ·subst he
    have h1 := g.fr c hc
    have h2 := g.tt c hc
    refine edge_shift ((least_closed q x.E).1 c hc) ?_ ?_
    ·funext i
     rw [if_neg (by omega), show (c.fr + F.s).toNat - N = c.fr.toNat by omega]
    ·funext i
     rw [if_neg (by omega), show (c.tt + F.s).toNat - N = c.tt.toNat by omega]
  ·rw [if_pos (by omega)]
   exact (least_closed q F.E).2 i hi
 ·intro h L hL h0
  by_cases hsN : s < N
  ·rw [if_pos hsN] at h
   exact h L (fun e he => hL e (by unfold uStep; simp [he])) h0
  ·rw [if_neg hsN] at h
   have := h (fun s i => L (s + N) i) (fun e he => ?_) (fun i hi => ?_)
   ·rwa [show s - N + N = s by omega] at this
   ·have h1 := g.fr e he
    have h2 := g.tt e he
    refine edge_unshift (b := F.s) (hL (shiftE F.s e) (by unfold uStep; simp only [List.mem_append, List.mem_map]; exact .inr ⟨e, he, rfl⟩)) ?_ ?_
    ·funext i
     rw [show (e.fr + F.s).toNat = e.fr.toNat + N by omega]
    ·funext i
     rw [show (e.tt + F.s).toNat = e.tt.toNat + N by omega]
   ·have := (hL ⟨1, 0, F.s, 0⟩ (by unfold uStep; simp)).free rfl i hi (h0 i hi)
    simp only [hs] at this
    rwa [show ((N : Int)).toNat = 0 + N by omega] at this
theorem fits_bounds (hF : FitsF F N) : 1 ≤ N ∧ ∀ d ∈ F.E, (0 ≤ d.fr ∧ d.fr < N) ∧ 0 ≤ d.tt ∧ d.tt < N := ⟨hF.2.one, fun d hd => ⟨hF.2.fr d hd, hF.2.tt d hd⟩⟩
theorem step_met (hF : FitsF F N) (hx : FitsF x M) : mV (uStep F x).E (uStep F x).R (N + M) q (q.size + 1) = mV F.E F.R N q (q.size + 1) ||| mV x.E x.R M q (q.size + 1) := by
 have hu := fits_bounds (step_fits hF hx)
 have h1 := fits_bounds hF
 have h2 := fits_bounds hx
 have hR : ∀ s, (uStep F x).R.getD s 0 = if s < N then F.R.getD s 0 else x.R.getD (s - N) 0 := fun s => by
  show (F.R ++ x.R).getD s 0 = _
  rw [List.getD_eq_getElem?_getD, List.getD_eq_getElem?_getD, List.getD_eq_getElem?_getD, List.getElem?_append, hF.2.rules]
  split <;> rfl
 apply bits_ext
 intro j
 rw [Nat.testBit_or, Bool.or_eq_true, mV_least hu.1 hu.2, mV_least h1.1 h1.2, mV_least h2.1 h2.2]
 constructor
 ·rintro ⟨i, s, a1, a2, a3, a4⟩
  rw [step_least hF hx] at a3
  rw [hR] at a4
  by_cases hs : s < N
  ·rw [if_pos hs] at a3 a4
   exact .inl ⟨i, s, a1, hs, a3, a4⟩
  ·rw [if_neg hs] at a3 a4
   exact .inr ⟨i, s - N, a1, by omega, a3, a4⟩
 ·rintro (⟨i, s, a1, a2, a3, a4⟩ | ⟨i, s, a1, a2, a3, a4⟩)
  ·refine ⟨i, s, a1, by omega, ?_, ?_⟩
   ·rw [step_least hF hx, if_pos a2]; exact a3
   ·rw [hR, if_pos a2]; exact a4
  ·refine ⟨i, s + N, a1, by omega, ?_, ?_⟩
   ·rw [step_least hF hx, if_neg (by omega), Nat.add_sub_cancel]; exact a3
   ·rw [hR, if_neg (by omega), Nat.add_sub_cancel]; exact a4
end
def orM (l : List Nat) : Nat := l.foldr (· ||| ·) 0
theorem orM_bit (j : Nat) : ∀ l : List Nat, (orM l).testBit j = true ↔ ∃ x ∈ l, x.testBit j = true
 | [] => by simp [orM]
 | x :: l => by
   show (x ||| orM l).testBit j = true ↔ _
   rw [Nat.testBit_or, Bool.or_eq_true, orM_bit j l]
   simp
theorem orM_app (l k : List Nat) : orM (l ++ k) = orM l ||| orM k := by
 apply bits_ext
 intro j
 rw [Nat.testBit_or, Bool.or_eq_true, orM_bit, orM_bit, orM_bit]
 simp only [List.mem_append]
 constructor
 ·rintro ⟨x, h | h, hx⟩
  ·exact .inl ⟨x, h, hx⟩
  ·exact .inr ⟨x, h, hx⟩
 ·rintro (⟨x, h, hx⟩ | ⟨x, h, hx⟩)
  ·exact ⟨x, .inl h, hx⟩
  ·exact ⟨x, .inr h, hx⟩
noncomputable def vF (q : ByteArray) (F : NF) : Nat := mV F.E F.R F.s.toNat q (q.size + 1)
theorem fold_fits (q : ByteArray) (l : List NF) (h : ∀ x ∈ l, FitsF x x.s.toNat) : FitsF (uFold l) (1 + (l.map (fun x => x.s.toNat)).sum) ∧ vF q (uFold l) = orM (l.map (vF q)) := by
 obtain ⟨r, hr⟩ : ∃ r, r = l.reverse := ⟨_, rfl⟩
 have : l = r.reverse := by rw [hr, List.reverse_reverse]
 clear hr
 subst this
 induction r with
 | nil =>
   have f0 : FitsF (uFold []) 1 := ⟨rfl, ⟨by omega, rfl, fun d hd => absurd hd (by simp [uFold]), fun d hd => absurd hd (by simp [uFold]), fun d hd => absurd hd (by simp [uFold]), fun d hd => absurd hd (by simp [uFold])⟩⟩
   refine ⟨by simpa using f0, ?_⟩
   have hb := fits_bounds f0
   apply bits_ext
   intro j
   show (mV (uFold []).E (uFold []).R 1 q (q.size + 1)).testBit j = true ↔ _
   rw [mV_least hb.1 hb.2]
   constructor
   ·rintro ⟨i, s, a1, a2, a3, a4⟩
    have hs : s = 0 := by omega
    subst hs
    simp [uFold] at a4
   ·intro h
    simp [orM] at h
 | cons x r ih =>
   rw [List.reverse_cons] at h ⊢
   obtain ⟨i1, i2⟩ := ih (fun y hy => h y (by simp at hy ⊢; exact .inl hy))
   have hx := h x (by simp)
   have s1 := step_fits i1 hx
   have s2 := step_met (q := q) i1 hx
   rw [uFold_snoc, List.map_append, List.map_append, List.sum_append, orM_app]
   have e : 1 + (List.map (fun x => x.s.toNat) r.reverse).sum + x.s.toNat = 1 + ((List.map (fun x => x.s.toNat) r.reverse).sum + (List.map (fun x => x.s.toNat) [x]).sum) := by simp; omega
   rw [e] at s1 s2
   refine ⟨s1, ?_⟩
   have e1 : (uStep (uFold r.reverse) x).s.toNat = 1 + ((List.map (fun x => x.s.toNat) r.reverse).sum + (List.map (fun x => x.s.toNat) [x]).sum) := by rw [s1.1]; omega
   have e2 : (uFold r.reverse).s.toNat = 1 + (List.map (fun x => x.s.toNat) r.reverse).sum := by rw [i1.1]; omega
   unfold vF at i2 ⊢
   rw [e2] at i2
   rw [e1, s2, i2]
   simp [orM]
end Mt
end Go.Proofs.YtkedgombccdamaaGreatDoor
namespace Go.Proofs.YtkedgombccdamaaGreatDoor
open Go.RowKit Go.Maps
set_option linter.unusedVariables false
set_option linter.unusedSimpArgs false
attribute [local go_sem] Oper.semAt_some
def NfaOw (B : Nat) (w : World) (v : Value) (F : NF) : Prop :=
 ∃ A c B' d, v = .agg (nfaC F.s A F.E.length c B' F.R.length d) ∧ Own w B 69 7 edgC (.slice A F.E.length c) F.E ∧ Own w B 42 1 encR (.slice B' F.R.length d) F.R
theorem NfaOw.none_ (B : Nat) (w : World) : NfaOw B w (.agg (nfaC 0 none 0 0 none 0 0)) .none := ⟨_, _, _, _, rfl, Own.nil_ _ _ _ _ _, Own.nil_ _ _ _ _ _⟩
set_option maxRecDepth 100000 in
set_option maxHeartbeats 8000000 in
theorem build_own (nd : Nd) (rule : Int) (B : Nat) (w : World) (cs : Array Value) (hin : NdIn w B nd cs) (hB : B ≤ w.heap.size) :
  Calls Tryz.prog 16 #[.agg cs, .int .i64 rule] w fun e w' => Below w.heap.size w w' ∧ ∃ v, e = .returned (.tuple #[v, .int .i64 (buildF nd rule).2]) ∧ NfaOw w.heap.size w' v (buildF nd rule).1 := by
 have hpl := fun W h1 h2 => placesE_any nd B W _ (NdIn.keep (w' := W) h1 hin) h2
 have hlay := lay_ok nd
 have hgood := fun h => layF_good (nd := nd) h
 obtain ⟨V, hV⟩ : ∃ V, placesN nd = V := ⟨_, rfl⟩
 rw [hV] at hpl
 have hV0 : nd.isT = false → V = 0 := fun h => by rw [← hV]; unfold placesN; rw [if_neg (by simp [h])]
 have hV1 : nd.isT = true → V = min (nd.U + 1) 2049 := fun h => by rw [← hV]; unfold placesN; rw [if_pos h]
 have hb0 := fun h => buildF_tree (nd := nd) (rule := rule) h
 have hb1 := fun h h2 => buildF_big (nd := nd) (rule := rule) h h2
 have hb2 := fun h h2 h3 => buildF_rule (nd := nd) (rule := rule) h h2 h3
 obtain ⟨bf, hbf⟩ : ∃ b, buildF nd rule = b := ⟨_, rfl⟩
 rw [hbf] at hb0 hb1 hb2 ⊢
 obtain ⟨⟨kd, st, l, mi, ma⟩, hx⟩ : ∃ y, y = nd := ⟨_, rfl⟩
 obtain ⟨A, n, c, cl, rfl, -⟩ := (hx ▸ hin : NdIn w B (Nd.mk kd st l mi ma) cs).inv
 have Hx := Lib.hid hx
 have Hbf := Lib.hid hbf
 have Hin := Lib.hid hin
 have Hpl := Lib.hid hpl
 have Hlay := Lib.hid hlay
 have Hgood := Lib.hid hgood
 have HV0 := Lib.hid hV0
 have HV1 := Lib.hid hV1
 have HB0 := Lib.hid hb0
 have HB1 := Lib.hid hb1
 have HB2 := Lib.hid hb2
 clear hpl hlay hgood hV hV0 hV1 hb0 hb1 hb2 hin hx hbf
 go_enter Tryz.func16, Tryz.ntmps16
 have h1 := (Blk.new w 56 (nodeC kd st A n c mi ma)).alloc (.cells #[.int .i64 0, .slice none 0 0, .slice none 0 0] 26)
 have h4 : Blk ((w.alloc (.cells (nodeC kd st A n c mi ma) 56)).alloc (.cells #[.int .i64 0, .slice none 0 0, .slice none 0 0] 26)) (w.heap.size + 1) 26 (nfaC 0 none 0 0 none 0 0) := Blk.new' _ _ _ (by simp)
 have hBw := zqc (zqc (Below.refl w.heap.size w) (.cells (nodeC kd st A n c mi ma) 56)) (.cells #[.int .i64 0, .slice none 0 0, .slice none 0 0] 26)
 go_upto_region 1 with (fail)
 obtain ⟨w1, hw1⟩ : ∃ y, y = (w.alloc (.cells (nodeC kd st A n c mi ma) 56)).alloc (.cells #[.int .i64 0, .slice none 0 0, .slice none 0 0] 26) := ⟨_, rfl⟩
 rw [← hw1] at h1 h4 hBw ⊢
 clear hw1
 obtain ⟨g4, hg4⟩ : ∃ g, g = w.heap.size + 1 := ⟨_, rfl⟩
 rw [← hg4] at h4
 have hg4b : w.heap.size ≤ g4 := by omega
 try rw [← hg4]
 clear hg4
 have hp := Hpl.out w1 (fun j hj => hBw.block j (by omega)) (by have := hBw.size; omega)
 have Hp := Lib.hid hp
 clear hp Hpl
 go_upto_block 0 with (first | (refine zzp rfl _ rfl _ rfl _ _ _ _ _ _ _ h1 ?_) | (go_at_call 39; refine Hp.out.mono ?_; rintro e w4 ⟨rfl, hB4⟩) | (go_at_call 39; refine park ?_))
 replace h1 := zqb h1 hB4
 replace h4 := zqb h4 hB4
 replace hBw := zqd hBw hB4
 clear hB4 Hp
 by_cases hT : nd.isT = false
 ·have HE := Lib.hid (HB0.out hT)
  obtain rfl : V = 0 := HV0.out hT
  clear hT HV0 HV1 HB0 HB1 HB2
  go_wp2_with (first | (refine wl_build_nfa0 rfl rfl ?_) | (refine zzw rfl _ _ rfl g4 0 none 0 0 none 0 0 rfl rfl _ _ _ _ _ _ _ h4 ?_; intro w5 h5 hg5))
  have hBe := hBw.grown hg5 (by have := hBw.size; omega) (fun j e => by injection e with e; omega)
  refine ret_nfa2 rfl rfl h5 rfl ?_
  refine ⟨hBe, .agg (nfaC 0 none 0 0 none 0 0), ?_, ?_⟩
  ·rw [HE.out]; rfl
  ·rw [HE.out]; exact NfaOw.none_ _ _
 have hT : nd.isT = true := by simpa using hT
 have hV := HV1.out hT
 have hV0b : ((V : Int) == 0) = false := by simp; omega
 by_cases hU : 2048 ≤ nd.U
 ·have HE := Lib.hid (HB1.out hT hU)
  have hVb : decide ((2048 : Int) < (V : Int)) = true := by simp; omega
  clear hT HV0 HV1 HB0 HB1 HB2 hV hU
  go_wp2_with (first | (refine wl_build_nfa0 rfl rfl ?_) | (refine zzw rfl _ _ rfl g4 0 none 0 0 none 0 0 rfl rfl _ _ _ _ _ _ _ h4 ?_; intro w5 h5 hg5))
  have hBe := hBw.grown hg5 (by have := hBw.size; omega) (fun j e => by injection e with e; omega)
  refine ret_nfa2 rfl rfl h5 rfl ?_
  refine ⟨hBe, .agg (nfaC 0 none 0 0 none 0 0), ?_, ?_⟩
  ·rw [HE.out]; rfl
  ·rw [HE.out]; exact NfaOw.none_ _ _
 have hVb : decide ((2048 : Int) < (V : Int)) = false := by simp; omega
 clear hV HV0 HV1 HB0 HB1
 by_cases hr0 : rule < 0
 ·have HE := Lib.hid (HB2.out hT hU (.inl hr0))
  have hrb : decide (rule < 0) = true := by simpa using hr0
  clear HB2 hT
  go_wp2_with (first | (refine wl_build_nfa0 rfl rfl ?_) | (refine zzw rfl _ _ rfl g4 0 none 0 0 none 0 0 rfl rfl _ _ _ _ _ _ _ h4 ?_; intro w5 h5 hg5))
  have hBe := hBw.grown hg5 (by have := hBw.size; omega) (fun j e => by injection e with e; omega)
  refine ret_nfa2 rfl rfl h5 rfl ?_
  refine ⟨hBe, .agg (nfaC 0 none 0 0 none 0 0), ?_, ?_⟩
  ·rw [HE.out]; rfl
  ·rw [HE.out]; exact NfaOw.none_ _ _
 have hrb : decide (rule < 0) = false := by simpa using hr0
 by_cases hr1 : 32 ≤ rule
 ·have HE := Lib.hid (HB2.out hT hU (.inr hr1))
  have hrb1 : decide (32 ≤ rule) = true := by simpa using hr1
  clear HB2 hT
  go_wp2_with (first | (refine wl_build_nfa0 rfl rfl ?_) | (refine zzw rfl _ _ rfl g4 0 none 0 0 none 0 0 rfl rfl _ _ _ _ _ _ _ h4 ?_; intro w5 h5 hg5))
  have hBe := hBw.grown hg5 (by have := hBw.size; omega) (fun j e => by injection e with e; omega)
  refine ret_nfa2 rfl rfl h5 rfl ?_
  refine ⟨hBe, .agg (nfaC 0 none 0 0 none 0 0), ?_, ?_⟩
  ·rw [HE.out]; rfl
  ·rw [HE.out]; exact NfaOw.none_ _ _
 have hrb1 : decide (32 ≤ rule) = false := by simpa using hr1
 obtain ⟨r, rfl⟩ := Int.eq_ofNat_of_zero_le (show 0 ≤ rule by omega)
 have hr32 : r < 32 := by omega
 have hbo := Hbf.out.symm.trans (buildF_ok hT hU hr32)
 have HBO := Lib.hid hbo
 obtain ⟨hg1, hg2, hg3⟩ := Hgood.out hT
 clear hbo HB2 Hbf Hgood
 go_upto_region 9 with (first | (refine wl_build_mkP rfl rfl ?_) | (refine wl_box_mkP rfl _ rfl rfl ?_))
 have hk := Blk.new w4 116 (mkP 0 (.slice none 0 0))
 have hB5 : Below w4.heap.size w4 (w4.alloc (.cells (mkP 0 (.slice none 0 0)) 116)) := zqc (Below.refl _ _) _
 obtain ⟨w5, hw5⟩ : ∃ y, y = w4.alloc (.cells (mkP 0 (.slice none 0 0)) 116) := ⟨_, rfl⟩
 rw [← hw5] at hk hB5 ⊢
 clear hw5
 replace h1 := zqb h1 hB5
 replace h4 := zqb h4 hB5
 have hsz4 := hBw.size
 replace hBw := zqd hBw hB5
 obtain ⟨gk, hgk⟩ : ∃ g, g = w4.heap.size := ⟨_, rfl⟩
 rw [← hgk] at hk hsz4
 try rw [← hgk]
 clear hgk hB5 hrb hrb1 hVb hV0b
 have hgl := hk.lt
 have hne1 : some w.heap.size ≠ some gk := fun e => Blk.ne_ h1 hk (by decide) (by injection e)
 have hne4 : some g4 ≠ some gk := fun e => Blk.ne_ h4 hk (by decide) (by injection e)
 refine zzv (rw := some gk) (i0 := 3) 4 [eqS (.pointer (some ⟨gk, 0, none⟩)), eqS (.agg (nodeC kd st A n c mi ma)), eqS (.pointer (some ⟨gk, 0, none⟩)), stS gk (.slice none 0 0)] [29, 30, 31, 32] rfl ?_ (by kernel_rfl) rfl ?_ ?_
 ·intro j hj v wa wb hp hg
  match j, hj, hp with
  | 0, _, hp => exact hp
  | 1, _, hp => exact hp
  | 2, _, hp => exact hp
  | 3, hj, _ => exact absurd rfl hj
  | j + 4, _, hp => exact hp
 ·skip
  refine StepsR.cons (fun a' w' hG hW hP dep => GStepR.of (zqi (zqa rfl) _ rfl (hG.other 7 rfl))) ?_
  refine StepsR.cons (fun a' w' hG hW hP dep => GStepR.of (zyi (zqa rfl) _ rfl w.heap.size (hG.other 2 rfl) kd st A n c mi ma (h1.grown hW hne1) rfl)) ?_
  refine StepsR.cons (fun a' w' hG hW hP dep => GStepR.of (zqi (zqa rfl) _ rfl (hG.other 7 rfl))) ?_
  refine StepsR.cons (fun a' w' hG hW hP dep => GStepR.call (zqa rfl) _ _ _ rfl enter_pstate _ (map1 (dep 2 rfl 31 rfl)) ((pstate_g gk 0 (.slice none 0 0) w' (zqb hk (hP rfl)) (by omega)).mono fun e w2 ⟨he, hb, hg⟩ => ⟨_, he, hg, ⟨rfl, hb⟩⟩)) ?_
  exact StepsR.nil
 intro uf w6 hW6 ans
 have v29 : uf 29 = .pointer (some ⟨gk, 0, none⟩) := ans 0 29 (by decide) rfl
 have v30 : uf 30 = .agg (nodeC kd st A n c mi ma) := ans 1 30 (by decide) rfl
 obtain ⟨v32, hk6⟩ := ans 3 32 (by decide) rfl
 clear ans
 simp only [zqr, List.foldl_cons, List.foldl_nil, Act.put, List.setIfInBounds_toArray, List.set_cons_zero, List.set_cons_succ, v29, v30, v32]
 clear v29 v30 v32
 simp only [List.drop]
 have hBw6 := hBw.grown hW6 (by have := hBw.size; omega) (fun j e => by injection e with e; omega)
 have h46 : Blk w6 g4 26 _ := h4.grown hW6 hne4
 have hMk : MkIs 116 mkP w6 gk gk ⟨1, []⟩ := ⟨_, hk6, Own.nil_ _ _ _ _ _, Nat.le_refl _⟩
 have hin6 := NdIn.keep (w' := w6) (fun j hj => hBw6.block j (by omega)) Hin.out
 have hcl := Hlay.out gk gk B ⟨1, []⟩ 0 w6 _ hin6 (by omega) hT hMk (by show 1 + nd.U ≤ _; omega) (by show 0 + 3 * nd.U ≤ _; omega)
 refine wl_call rfl _ _ _ rfl enter_play #[.pointer (some ⟨gk, 0, none⟩), .agg (nodeC kd st A n c mi ma), .int .i64 ((0 : Nat) : Int)] (map3 rfl rfl rfl) ?_
 refine hcl.mono ?_
 rintro e w7 ⟨rfl, hM7, hF7⟩
 refine ⟨_, rfl, ?_⟩
 have hlay : nd.lay ⟨1, []⟩ 0 = layF nd := rfl
 rw [hlay] at hM7
 obtain ⟨m, hm⟩ : ∃ m, m = layF nd := ⟨_, rfl⟩
 simp only [hlay]
 rw [← hm] at hM7 hg1 hg2 hg3
 have hbo := HBO.out
 rw [← hm] at hbo
 rw [← hm]
 replace HBO := Lib.hid hbo
 have hBw7 := Below.fr hBw6 hF7 (by omega) (by have := hBw6.size; omega)
 have h47 := blk_fr h46 hF7 (.inr ⟨by decide, by decide⟩)
 have hms : m.1.s ≤ 2048 := by omega
 have hme : m.1.e.length ≤ 6144 := by omega
 clear hbo hm hlay hcl hin6 hMk hk6 hW6 hF7 h46 hBw6 hBw h1 h4 hk hg1 hg2 hT hU Hlay hne1 hne4 hr0 hr1
 simp only [Act.put, List.setIfInBounds_toArray, List.set_cons_zero, List.set_cons_succ]
 obtain ⟨v, hk7, hE7, -⟩ := hM7
 have c0 : w7.cell? ⟨gk, 0, none⟩ = some (.int .i64 (m.1.s : Int)) := hk7.cellv (i := 0) rfl
 go_upto_region 10 with (fail)
 obtain ⟨Ae, ke, rfl, _, _⟩ := hE7.shape
 have hgl7 := hk7.lt
 go_upto_region 11 with (first | (refine wl_makeR rfl _ _ rfl m.1.s w7.heap.size rfl rfl (by omega) (Nat.le_refl _) ?_; intro w8 hR8 hB8; have hk8 := zqb hk7 hB8) | (refine zqt rfl _ _ _ rfl gk 2 rfl _ _ (nfaC (m.1.s : Int) Ae m.1.e.length ke (some ⟨w7.heap.size, 0, none⟩) m.1.s m.1.s) hk8 (by simp [mkP]) info_rules1 rfl rfl rfl ?_; intro w9 hk9 hg9))
 have hR9 := zxb hR8 hk8 hg9 (by decide)
 have hE9 := zxb (hE7.then_ hB8) hk8 hg9 (by decide)
 have h48 := zqb h47 hB8
 have h49 : Blk w9 g4 26 _ := h48.grown hg9 (fun e => Blk.ne_ h48 hk8 (by decide) (by injection e))
 have hBw9 := (zqd hBw7 hB8).grown hg9 (by have := hBw7.size; have := hB8.size; omega) (fun j e => by injection e with e; omega)
 obtain ⟨gR, hgR⟩ : ∃ g, g = w7.heap.size := ⟨_, rfl⟩
 rw [← hgR] at hR9 hk9
 try rw [← hgR]
 have hgR1 : gk < gR := by omega
 clear hR8 hk8 hg9 hE7 hB8 hk7 h47 h48 c0 hBw7 hgR hgl7
 refine zql 9 [eqS (.pointer (some ⟨gk, 0, none⟩)), eqS (.pointer (some ⟨gk, 0, none⟩)), eqS (.pointer (some ⟨gk, 0, none⟩)), eqS (.pointer (some ⟨gk, 2, none⟩)), eqS (.slice (some ⟨gR, 0, none⟩) m.1.s m.1.s), eqS (.int .i64 (m.2 : Int)), eqS (.int .i64 (r : Int)), eqS (.int .u32 ((2 ^ r : Nat) : Int)), eqS (.pointer (some ⟨gR, m.2, none⟩))] [44, 45, 46, 47, 48, 49, 50, 51, 52] rfl (by kernel_rfl) rfl ?_ ?_
 ·skip
  refine Steps.cons (fun a' w' hG hB dep => zqi (zqa rfl) _ rfl (hG.other 7 rfl)) ?_
  refine Steps.cons (fun a' w' hG hB dep => gs_nil (zqa rfl) _ rfl _ (dep 0 rfl 44 rfl) rfl) ?_
  refine Steps.cons (fun a' w' hG hB dep => zqn (zqa rfl) _ _ _ rfl gk 0 0 (dep 1 rfl 45 rfl) (fun wz => field_maker_0 gk 0 wz) rfl) ?_
  refine Steps.cons (fun a' w' hG hB dep => zqn (zqa rfl) _ _ _ rfl gk 0 2 (dep 2 rfl 46 rfl) (fun wz => field_nfa_2 gk 0 wz) rfl) ?_
  refine Steps.cons (fun a' w' hG hB dep => zqj (zqa rfl) _ _ rfl gk 2 (dep 3 rfl 47 rfl) (.slice (some ⟨gR, 0, none⟩) m.1.s m.1.s) ((zqb hk9 hB).cellv (i := 2) rfl) _ Tryz.underlying24 rfl rfl) ?_
  refine Steps.cons (fun a' w' hG hB dep => zqi (zqa rfl) _ rfl (hG.other 8 rfl)) ?_
  refine Steps.cons (fun a' w' hG hB dep => zqi (zqa rfl) _ rfl (hG.other 1 rfl)) ?_
  refine Steps.cons (fun a' w' hG hB dep => gs_shl_u32 (zqa rfl) _ _ _ rfl r hr32 rfl (dep 6 rfl 50 rfl) rfl) ?_
  refine Steps.cons (fun a' w' hG hB dep => zxu (zqa rfl) _ _ _ rfl zxa 1 size_ruleE gR 0 m.1.s m.1.s m.2 (dep 4 rfl 48 rfl) (dep 5 rfl 49 rfl) hg3 (congrArg (fun q => Value.pointer (some ⟨gR, q, none⟩)) (by omega))) ?_
  exact Steps.nil
 intro uz w10 hB10 ans
 have v51 : uz 51 = .int .u32 ((2 ^ r : Nat) : Int) := ans 7 51 (by decide) rfl
 have v52 : uz 52 = .pointer (some ⟨gR, m.2, none⟩) := ans 8 52 (by decide) rfl
 clear ans
 simp only [zqr, List.foldl_cons, List.foldl_nil, Act.put, List.setIfInBounds_toArray, List.set_cons_zero, List.set_cons_succ, v51, v52]
 clear v51 v52
 simp only [List.drop]
 have hR10 := hR9.then_ hB10
 refine wl_store_rule rfl _ _ rfl gR m.2 m.1.s m.1.s rfl (2 ^ r) rfl hR10 (by rw [List.length_replicate]; exact hg3) ?_
 intro w11 hR11 hg11
 refine wpList_nil ?_
 have hE11 := zxw (hE9.then_ hB10) hR10 hg11 (by decide)
 have hk11 : Blk w11 gk 116 _ := (zqb hk9 hB10).grown hg11 (fun e => by injection e with e; omega)
 have h411 : Blk w11 g4 26 _ := (zqb h49 hB10).grown hg11 (fun e => zzm hR10 (zqb h49 hB10) (by decide) e.symm)
 have hBw11 := (zqd hBw9 hB10).grown hg11 (by have := hBw9.size; have := hB10.size; omega) (fun j e => by injection e with e; omega)
 clear hR10 hR9 hE9 hk9 h49 hBw9 hB10 hg11
 go_wp2_with (first | (refine wl_load_nfa_at rfl _ rfl gk 0 rfl _ _ _ _ _ _ _ (RowAt.of_blk hk11) ?_) | (refine zzw rfl _ _ rfl g4 _ _ _ _ _ _ _ rfl rfl _ _ _ _ _ _ _ h411 ?_; intro w12 h412 hg12))
 have hR12 := zxb hR11 h411 hg12 (by decide)
 have hE12 := zxb hE11 h411 hg12 (by decide)
 have hBe := hBw11.grown hg12 (by have := hBw11.size; omega) (fun j e => by injection e with e; omega)
 refine ret_nfa2 rfl rfl h412 rfl ?_
 refine ⟨hBe, .agg (nfaC (m.1.s : Int) Ae m.1.e.length ke (some ⟨gR, 0, none⟩) m.1.s m.1.s), ?_, ?_⟩
 ·rw [HBO.out]; rfl
 ·rw [HBO.out]
  refine ⟨Ae, ke, some ⟨gR, 0, none⟩, m.1.s, by simp, hE12.mono (by omega), ?_⟩
  simp only [List.length_set, List.length_replicate]
  exact hR12.mono (by omega)
set_option maxRecDepth 100000 in
set_option maxHeartbeats 16000000 in
theorem union_own (A : Option Addr) (n c : Nat) (l : List MV) (hn : n = l.length) (hn2 : n ≤ 1048576) (w : World) (hs : SliceOf w w.heap.size 3 MV.C A l) (hM : MsIn w w.heap.size l) :
  Calls Tryz.prog 17 #[.slice A n c] w fun e w' => Below w.heap.size w w' ∧ ∃ v, e = .returned (.tuple #[v, .int .i64 (unionF (l.map MV.F)).2]) ∧ NfaOw w.heap.size w' v (unionF (l.map MV.F)).1 := by
 have hright : ∀ x ∈ l, ∀ W : World, Below w.heap.size w W → Calls Tryz.prog 19 #[.agg x.C] W fun e w' => e = .returned (.bool (rightF x.F)) ∧ Below W.heap.size W w' := fun x hx W hb =>
  right_any x.F.s x.A _ x.c x.B _ x.d x.F.E rfl (by have := (hM x hx).2.2.1; omega) W (((hM x hx).1.below hb).more hb.size)
 have huno : (l.map MV.F).all rightF = false → unionF (l.map MV.F) = (.none, 70) := fun h => by unfold unionF; rw [h]; rfl
 have huyes : (l.map MV.F).all rightF = true → unionF (l.map MV.F) = (uFold (l.map MV.F), 0) := fun h => by unfold unionF; rw [h]; rfl
 obtain ⟨bf, hbf⟩ : ∃ b, unionF (l.map MV.F) = b := ⟨_, rfl⟩
 rw [hbf] at huno huyes ⊢
 have Hn := Lib.hid hn
 have HM := Lib.hid hM
 have HR := Lib.hid hright
 have Hno := Lib.hid huno
 have Hyes := Lib.hid huyes
 clear hn hM hright huno huyes hbf
 go_enter Tryz.func17, Tryz.ntmps17
 have h2 : Blk (w.alloc (.cells #[.int .i64 0, .slice none 0 0, .slice none 0 0] 26)) w.heap.size 26 (nfaC 0 none 0 0 none 0 0) := Blk.new _ _ _
 have hB1 : Below w.heap.size w (w.alloc (.cells #[.int .i64 0, .slice none 0 0, .slice none 0 0] 26)) := zqc (Below.refl _ _) _
 go_upto_region 1 with (fail)
 obtain ⟨w1, hw1⟩ : ∃ y, y = w.alloc (.cells #[.int .i64 0, .slice none 0 0, .slice none 0 0] 26) := ⟨_, rfl⟩
 rw [← hw1] at h2 hB1 ⊢
 clear hw1
 have hl1 := h2.lt
 go_wp2_with (fail)
 go_loopw [14] (fun i wr => ∃ k : Nat, k ≤ n ∧ i = .int .i64 k ∧ Hid ((l.take k).all (fun x => rightF x.F) = true) ∧ Below w.heap.size w wr ∧ Blk wr w.heap.size 26 (nfaC 0 none 0 0 none 0 0)) (fun i _ => n - (intOf i).toNat)
 case atStart => exact ⟨0, by omega, rfl, Lib.hid rfl, hB1, h2⟩
 case round =>
  clear h2 hB1
  obtain ⟨k, hk, rfl, hall, hBw, h2⟩ := hrel
  have hszw := hBw.size
  by_cases hkn : k < n
  ·have hkI : (k : Int) < n := by omega
   have hkl : k < l.length := by rw [← Hn.out]; exact hkn
   obtain ⟨ba, off, rfl, hba, hrows⟩ := hs.at_ (by omega)
   have hrow := (hrows k hkl).keep (hBw.block ba (by omega))
   have hmem : l[k] ∈ l := List.getElem_mem hkl
   obtain ⟨x, hx⟩ : ∃ x, x = l[k] := ⟨_, rfl⟩
   rw [← hx] at hrow hmem
   obtain ⟨y, hy⟩ : ∃ y, rightF x.F = y := ⟨_, rfl⟩
   have hst : (l.take (k + 1)).all (fun x => rightF x.F) = y := by
    rw [List.take_succ_eq_append_getElem hkl, List.all_append, hall.out, ← hx]
    simp [hy]
   have hno : y = false → (l.map MV.F).all rightF = false := fun h => by
    rw [List.all_eq_false]
    exact ⟨x.F, List.mem_map_of_mem hmem, by rw [hy, h]; decide⟩
   have hcall := fun W h => HR.out x hmem W h
   rw [hy] at hcall
   have Hcall := Lib.hid hcall
   have Hst := Lib.hid hst
   have Hno2 := Lib.hid hno
   have hkb : k < 1099511628000 := by omega
   clear hcall hst hno hy hx hrows
   go_upto_region 4 with (first | (refine wl_load_nfa_row rfl _ rfl _ _ rfl x hrow ?_) | (refine wl_store_mv rfl _ _ rfl _ x rfl rfl _ rfl (Blk.new _ _ _) ?_; intro w3 h5 hg3))
   have hB3 := zqh (zqc (Below.refl _ wr) (.cells #[.int .i64 0, .slice none 0 0, .slice none 0 0] 26)) hg3 (Nat.le_refl _)
   have hB3w := zqd hBw hB3
   have h23 := zqb h2 hB3
   clear hg3 hrow
   cases y
   ·go_wp2_with (first | (refine wl_load_mv rfl _ rfl _ rfl x h5 ?_) | (go_at_call 19; refine (Hcall.out _ hB3w).mono ?_; rintro e w4 ⟨rfl, hB4⟩; have hBw4 := zqd hB3w hB4; have h24 := zqb h23 hB4) | (go_at_call 19; refine park ?_) | (refine wl_build_nfa0 rfl rfl ?_) | (refine zzw rfl _ _ rfl w.heap.size 0 none 0 0 none 0 0 rfl rfl _ _ _ _ _ _ _ h24 ?_; intro w7 h7 hg7))
    have hBe := hBw4.grown hg7 (by have := hBw4.size; omega) (fun j e => by injection e with e; omega)
    refine ret_nfa2 rfl rfl h7 rfl ?_
    refine ⟨hBe, .agg (nfaC 0 none 0 0 none 0 0), ?_, ?_⟩
    ·rw [Hno.out (Hno2.out (by first | rfl | trivial))]; rfl
    ·rw [Hno.out (Hno2.out (by first | rfl | trivial))]; exact NfaOw.none_ _ _
   ·go_wp2_with (first | (refine wl_load_mv rfl _ rfl _ rfl x h5 ?_) | (go_at_call 19; refine (Hcall.out _ hB3w).mono ?_; rintro e w4 ⟨rfl, hB4⟩; have hBw4 := zqd hB3w hB4; have h24 := zqb h23 hB4) | (go_at_call 19; refine park ?_))
    exact ⟨⟨k + 1, by omega, rfl, Lib.hid Hst.out, hBw4, h24⟩, by simp only [intOf]; omega⟩
  ·have hkI : ¬ (k : Int) < n := by omega
   have hke : l.take k = l := List.take_of_length_le (by have := Hn.out; omega)
   have hallr : ∀ x ∈ l, rightF x.F = true := fun x hx => by
    have := hall.out
    rw [hke, List.all_eq_true] at this
    exact this x hx
   have hye := Hyes.out (by rw [List.all_eq_true]; intro z hz; obtain ⟨x, hx, rfl⟩ := List.mem_map.1 hz; exact hallr x hx)
   have HE := Lib.hid hye
   have HA := Lib.hid hallr
   clear hke hallr hye hall
   go_upto_region 7 with (fail)
   obtain ⟨WA, hWA⟩ : ∃ y, y = wr := ⟨_, rfl⟩
   rw [← hWA] at hBw h2 ⊢
   clear hWA
   have hBA := hBw
   have o1 : Own (WA.alloc (.cells (encR 0) 42)) w.heap.size 42 1 encR (.slice (some ⟨WA.heap.size, 0, none⟩) 1 1) [0] := ⟨rfl, .inr ⟨WA.heap.size, 1, encR 0, rfl, hBA.size, heap_alloc_new WA _, Nat.le_refl _, by unfold maxLen; omega, rfl, rfl⟩⟩
   have hBa : Below WA.heap.size WA (WA.alloc (.cells (encR 0) 42)) := zqc (Below.refl _ _) _
   go_upto_region 8 with (first | (refine wl_bs0 rfl rfl ?_) | (refine wl_buildN1 rfl _ rfl _ _ _ rfl ?_) | (refine zzw rfl _ _ rfl _ _ _ _ _ _ _ _ rfl rfl 0 none 0 0 none 0 0 (Blk.new' _ _ _ (by simp)) ?_; intro w5 h6 hg6))
   have hBb := zqh (zqc (Below.refl _ (WA.alloc (.cells (encR 0) 42))) (.cells #[.int .i64 0, .slice none 0 0, .slice none 0 0] 26)) hg6 (by simp)
   have o5 := o1.then_ hBb
   have hB5 := zqd (zqd hBA hBa) hBb
   have h25 := zqb (zqb h2 hBa) hBb
   obtain ⟨g6, hg6e⟩ : ∃ g, g = WA.heap.size + 1 := ⟨_, rfl⟩
   rw [← hg6e] at h6
   try rw [← hg6e]
   have hg6b : w.heap.size < g6 := by have := hBA.size; omega
   obtain ⟨gz, hgz⟩ : ∃ g, g = WA.heap.size := ⟨_, rfl⟩
   rw [← hgz] at o5 h6
   clear o1 hBa hg6 hBb hg6e hgz
   clear hBA hBw h2
   go_wp2_with (fail)
   go_loopw [27] (fun i wr => ∃ k : Nat, k ≤ n ∧ i = .int .i64 k ∧ (∃ vE vR, Blk wr g6 26 #[.int .i64 (uFold ((l.take k).map MV.F)).s, vE, vR] ∧ Own wr w.heap.size 69 7 edgC vE (uFold ((l.take k).map MV.F)).E ∧ Own wr w.heap.size 42 1 encR vR (uFold ((l.take k).map MV.F)).R) ∧ Blk wr w.heap.size 26 (nfaC 0 none 0 0 none 0 0) ∧ Below w.heap.size w wr) (fun i _ => n - (intOf i).toNat)
   case atStart => exact ⟨0, by omega, rfl, ⟨_, _, h6, Own.nil_ _ _ _ _ _, o5⟩, h25, hB5⟩
   case round =>
    clear h6 o5 h25 hB5
    obtain ⟨k, hk, rfl, ⟨vE, vR, hk6, hE, hR⟩, h2, hBw⟩ := hrel
    have hszw := hBw.size
    have hgk6 := hk6.lt
    have hbd := uFold_bound ((l.take k).map MV.F) (fun x hx => by
     obtain ⟨y, hy, rfl⟩ := List.mem_map.1 hx
     have hy2 := List.mem_of_mem_take hy
     exact ⟨HA.out y hy2, (HM.out y hy2).2.2⟩)
    rw [List.length_map, List.length_take, ← Hn.out, Nat.min_eq_left hk] at hbd
    by_cases hkn : k < n
    ·have hkI : (k : Int) < n := by omega
     have hkl : k < l.length := by rw [← Hn.out]; exact hkn
     have hst : uFold ((l.take (k + 1)).map MV.F) = uStep (uFold ((l.take k).map MV.F)) l[k].F := by
      rw [List.take_succ_eq_append_getElem hkl, List.map_append, List.map_cons, List.map_nil, uFold_snoc]
     obtain ⟨F, hF⟩ : ∃ F, F = uFold ((l.take k).map MV.F) := ⟨_, rfl⟩
     rw [← hF] at hk6 hE hR hbd hst
     obtain ⟨hb1, hb2, hb3, hb4⟩ := hbd
     obtain ⟨ba, off, rfl, hba, hrows⟩ := hs.at_ (by omega)
     have hrow := (hrows k hkl).keep (hBw.block ba (by omega))
     have hmem : l[k] ∈ l := List.getElem_mem hkl
     obtain ⟨x, hx⟩ : ∃ x, x = l[k] := ⟨_, rfl⟩
     rw [← hx] at hrow hmem hst
     obtain ⟨hx1, hx2, hx3, hx4⟩ := HM.out x hmem
     obtain ⟨hx5, hx6⟩ := right_parts (HA.out x hmem)
     obtain ⟨⟨xs, xE, xR⟩, xA, xc, xB, xd⟩ := x
     simp only [MV.C] at hrow
     simp only at hx1 hx2 hx3 hx4 hx5 hx6 hst
     have Hst := Lib.hid hst
     have Hx6 := Lib.hid hx6
     clear hst hF hx hmem hrows hx6
     obtain ⟨ne, hne⟩ : ∃ q, q = xE.length := ⟨_, rfl⟩
     obtain ⟨nr, hnr⟩ : ∃ q, q = xR.length := ⟨_, rfl⟩
     rw [← hne, ← hnr] at hrow
     rw [← hne] at hx3
     rw [← hnr] at hx4 hx5
     have Hne := Lib.hid hne
     have Hnr := Lib.hid hnr
     have hkb : k < 1099511628000 := by omega
     have hxs0 : 0 ≤ xs := by omega
     have hxs1 : xs ≤ 1048576 := by omega
     clear hne hnr hx5
     go_upto_region 11 with (first | (refine wl_load_nfa_at rfl _ rfl _ _ rfl _ _ _ _ _ _ _ hrow ?_) | (refine zzw rfl _ _ rfl _ _ _ _ _ _ _ _ rfl rfl 0 none 0 0 none 0 0 (Blk.new _ _ _) ?_; intro w3 h5 hg3))
     have hB3 := zqh (zqc (Below.refl _ wr) (.cells #[.int .i64 0, .slice none 0 0, .slice none 0 0] 26)) hg3 (Nat.le_refl _)
     replace hBw := zqd hBw hB3
     replace h2 := zqb h2 hB3
     replace hk6 := zqb hk6 hB3
     replace hE := hE.then_ hB3
     replace hR := hR.then_ hB3
     obtain ⟨g8, hg8⟩ : ∃ g, g = wr.heap.size := ⟨_, rfl⟩
     rw [← hg8] at h5
     try rw [← hg8]
     have hg68 : g6 < g8 := by omega
     clear hB3 hg3 hrow hg8
     have c60 : w3.cell? ⟨g6, 0, none⟩ = some (.int .i64 F.s) := hk6.cellv (i := 0) rfl
     go_upto_region 12 with (fail)
     clear c60
     have hBq : Below w3.heap.size w3 (w3.alloc (.cells (edgC ⟨1, 0, F.s, 0⟩) 69)) := zqc (Below.refl _ _) _
     obtain ⟨Ae, ke, rfl, _, _⟩ := hE.shape
     obtain ⟨en, hen⟩ : ∃ x, x = (F.E).length := ⟨_, rfl⟩
     rw [← hen] at hE hk6
     try rw [← hen]
     have henb : en ≤ 1099513724928 := by omega
     have Hen := Lib.hid hen
     clear hen
     have c61 : w3.cell? ⟨g6, 1, none⟩ = some (.slice Ae en ke) := hk6.cellv (i := 1) rfl
     go_upto_region 13 with (first | (refine wl_buildE0 rfl _ rfl F.s rfl ?_) | (refine wl_one (d := ⟨1, 0, F.s, 0⟩) rfl _ rfl rfl ?_) | (at_builtin; refine park ?_))
     refine Parked.mk ?_
     clear c61
     have hEq := hE.then_ hBq
     have hRq := hR.then_ hBq
     have hkq := zqb hk6 hBq
     have hBwq := zqd hBw hBq
     have hone := zxk (enc := edgC) (size := 7) (y := ⟨1, 0, F.s, 0⟩) (w := w3.alloc (.cells (edgC ⟨1, 0, F.s, 0⟩) 69)) (g := w3.heap.size) (t := 69) (Blk.new _ _ _)
     obtain ⟨ie, hie, hye0, hye1, hye2⟩ := info_parts info_edge3
     refine zxh _ rfl _ _ 23 rfl w.heap.size 69 ie _ 7 56 Tryz.underlying23 hie hye0 hye1 hye2 rfl (by decide) zxt edgC_one (.slice Ae _ ke) _ rfl hEq _ _ 1 1 [⟨1, 0, F.s, 0⟩] rfl rfl hone (by rw [← Hen.out]; unfold maxLen; omega) (by rw [← Hen.out]; omega) hBwq.size ?_
     intro v8 w8 hE8 hg8 _
     have hk8 : Blk w8 g6 26 _ := hkq.grown hg8 (fun e => zzm hEq hkq (by decide) e.symm)
     have hR8 := zxw hRq hEq hg8 (by decide)
     have h28 : Blk w8 w.heap.size 26 _ := (zqb h2 hBq).grown hg8 (fun e => zzm hEq (zqb h2 hBq) (by decide) e.symm)
     have h58 : Blk w8 g8 26 _ := (zqb h5 hBq).grown hg8 (fun e => zzm hEq (zqb h5 hBq) (by decide) e.symm)
     have hBw8 := hBwq.grown hg8 hBwq.size (fun j e => (hEq.lt j e).1)
     obtain ⟨A8, k8, rfl, _, _⟩ := hE8.shape
     obtain ⟨en8, hen8⟩ : ∃ q, q = ((F.E : List Edg) ++ [(⟨1, 0, F.s, 0⟩ : Edg)]).length := ⟨_, rfl⟩
     rw [← hen8] at hE8
     rw [← hen8]
     simp only [Act.put, List.setIfInBounds_toArray, List.set_cons_zero, List.set_cons_succ]
     clear hen8 hone hie hye0 hye1 hye2 hEq hRq hkq hg8 hE hR hk6 hBwq hBq
     go_upto_region 13 with (refine zqt rfl _ _ _ rfl g6 1 rfl _ _ #[.int .i64 F.s, .slice A8 en8 k8, vR] hk8 (by simp) info_edges1 rfl rfl rfl ?_; intro w9 hk9 hg9)
     have hE9 := zxb hE8 hk8 hg9 (by decide)
     have hR9 := zxb hR8 hk8 hg9 (by decide)
     have hBw9 := hBw8.grown hg9 (by have := hBw8.size; omega) (fun j e => by injection e with e; omega)
     have h29 := zqk h28 hg9 (by omega)
     have h59 := zqk h58 hg9 (by omega)
     clear hE8 hR8 hBw8 h28 h58 hk8 hg9 h5 h2
     have c81 : w9.cell? ⟨g8, 1, none⟩ = some (.slice xA ne xc) := h59.cellv (i := 1) rfl
     go_wp2_with (fail)
     clear c81
     obtain ⟨E0, hE0⟩ : ∃ q, q = F.E ++ [⟨1, 0, F.s, 0⟩] := ⟨_, rfl⟩
     have hE0l : E0.length ≤ 1099512676352 := by rw [hE0, List.length_append]; simp only [List.length_cons, List.length_nil]; omega
     rw [← hE0] at hE9
     have HE0 := Lib.hid hE0
     clear hE0
     go_loopw [43] (fun i wr => ∃ j : Nat, j ≤ ne ∧ i = .int .i64 j ∧ (∃ vE, Blk wr g6 26 #[.int .i64 F.s, vE, vR] ∧ Own wr w.heap.size 69 7 edgC vE (E0 ++ (xE.take j).map (shiftE F.s)) ∧ Own wr w.heap.size 42 1 encR vR F.R) ∧ Blk wr w.heap.size 26 (nfaC 0 none 0 0 none 0 0) ∧ Blk wr g8 26 (nfaC xs xA ne xc xB nr xd) ∧ Below w.heap.size w wr) (fun i _ => ne - (intOf i).toNat)
     case atStart => exact ⟨0, by omega, rfl, ⟨_, hk9, by rw [List.take_zero, List.map_nil, List.append_nil]; exact hE9, hR9⟩, h29, h59, hBw9⟩
     case round =>
      clear hk9 hE9 hR9 h29 h59 hBw9 hBw
      obtain ⟨j, hj, rfl, ⟨vE2, hk6, hE, hR⟩, h2, h5, hBw⟩ := hrel
      have hszz := hBw.size
      have hgk6 := hk6.lt
      have hgk8 := h5.lt
      have c81 : wr.cell? ⟨g8, 1, none⟩ = some (.slice xA ne xc) := h5.cellv (i := 1) rfl
      by_cases hjn : j < ne
      ·have hjI : (j : Int) < ne := by omega
       have hjl : j < xE.length := by rw [← Hne.out]; exact hjn
       obtain ⟨be, oe, rfl, hbe, hre⟩ := hx1.at_ (by omega)
       have hrowe := (hre j hjl).keep (hBw.block be (by omega))
       obtain ⟨dd, hdd⟩ : ∃ q, q = xE[j] := ⟨_, rfl⟩
       have hst2 : (xE.take (j + 1)).map (shiftE F.s) = (xE.take j).map (shiftE F.s) ++ [shiftE F.s dd] := by
        rw [List.take_succ_eq_append_getElem hjl, List.map_append, ← hdd]; rfl
       rw [← hdd] at hrowe
       obtain ⟨q1, q2, q3, q4⟩ := Hx6.out dd (by rw [hdd]; exact List.getElem_mem hjl)
       have hlE : (E0 ++ (xE.take j).map (shiftE F.s)).length ≤ 1099513724928 := by
        rw [List.length_append, List.length_map, List.length_take]; omega
       have Hst2 := Lib.hid hst2
       have hjb : j < 1099511628000 := by omega
       clear hst2 hdd hre
       go_upto_region 16 with (first | (refine zzs rfl _ rfl _ _ rfl dd hrowe ?_) | (refine zxm rfl _ _ rfl _ _ rfl rfl edge0 (Blk.new _ _ _) ?_; intro w3 h11 hg3))
       have hB3 := zqh (zqc (Below.refl _ wr) (.cells #[.int .i64 0, .int .i64 0, .int .i64 0, .int .u64 0, .int .u64 0, .int .u64 0, .int .u64 0] 69)) hg3 (Nat.le_refl _)
       replace hBw := zqd hBw hB3
       replace h2 := zqb h2 hB3
       replace h5 := zqb h5 hB3
       replace hk6 := zqb hk6 hB3
       have hltE := fun q hq => (hE.lt q hq).2
       replace hE := hE.then_ hB3
       replace hR := hR.then_ hB3
       obtain ⟨g11, hg11⟩ : ∃ g, g = wr.heap.size := ⟨_, rfl⟩
       rw [← hg11] at h11 hltE
       try rw [← hg11]
       have hg611 : g6 < g11 := by omega
       have hg811 : g8 < g11 := by omega
       clear hB3 hg3 hrowe c81 hg11
       have c111 : w3.cell? ⟨g11, 1, none⟩ = some (.int .i64 dd.fr) := h11.cellv (i := 1) rfl
       have c112 : w3.cell? ⟨g11, 2, none⟩ = some (.int .i64 dd.tt) := h11.cellv (i := 2) rfl
       have f111 := h11.frozen 1
       have f112 := h11.frozen 2
       go_upto_region 17 with (fail)
       have h11x : Blk ((w3.setCell ⟨g11, 1, none⟩ (.int .i64 (dd.fr + F.s))).setCell ⟨g11, 2, none⟩ (.int .i64 (dd.tt + F.s))) g11 69 (edgC (shiftE F.s dd)) := (h11.set_eq (i := 1) (u := .int .i64 (dd.fr + F.s)) rfl).set_eq (i := 2) (u := .int .i64 (dd.tt + F.s)) rfl
       have hgx : w3.grownBy ((w3.setCell ⟨g11, 1, none⟩ (.int .i64 (dd.fr + F.s))).setCell ⟨g11, 2, none⟩ (.int .i64 (dd.tt + F.s))) (some g11) := zzi (zzi (zzk w3 (some g11)) (p := ⟨g11, 1, none⟩) (.inl rfl) _) (p := ⟨g11, 2, none⟩) (.inl rfl) _
       obtain ⟨w4, hw4⟩ : ∃ y, y = (w3.setCell ⟨g11, 1, none⟩ (.int .i64 (dd.fr + F.s))).setCell ⟨g11, 2, none⟩ (.int .i64 (dd.tt + F.s)) := ⟨_, rfl⟩
       rw [← hw4] at h11x hgx ⊢
       clear hw4
       replace hk6 := zqk hk6 hgx (by omega)
       replace h2 := zqk h2 hgx (by omega)
       replace h5 := zqk h5 hgx (by omega)
       replace hR := zxb hR h11 hgx (by decide)
       replace hE := hE.kept_ hgx (fun q e1 e2 => by have := hltE q e1; injection e2; omega)
       replace hBw := hBw.grown hgx (by have := hBw.size; omega) (fun q e => by injection e; omega)
       clear c111 c112 f111 f112 hgx h11 hltE
       have hBq : Below w4.heap.size w4 (w4.alloc (.cells (edgC (shiftE F.s dd)) 69)) := zqc (Below.refl _ _) _
       obtain ⟨Ae, ke, rfl, _, _⟩ := hE.shape
       obtain ⟨en, hen⟩ : ∃ x, x = (E0 ++ (xE.take j).map (shiftE F.s)).length := ⟨_, rfl⟩
       rw [← hen] at hE hk6
       try rw [← hen]
       have henb : en ≤ 1099513724928 := by omega
       have Hen := Lib.hid hen
       clear hen
       have c61 : w4.cell? ⟨g6, 1, none⟩ = some (.slice Ae en ke) := hk6.cellv (i := 1) rfl
       go_upto_region 18 with (first | (refine wl_load_edge rfl _ rfl g11 rfl _ h11x ?_) | (refine wl_one (d := (shiftE F.s dd)) rfl _ rfl rfl ?_) | (at_builtin; refine park ?_))
       refine Parked.mk ?_
       clear c61
       have hEq := hE.then_ hBq
       have hRq := hR.then_ hBq
       have hkq := zqb hk6 hBq
       have hBwq := zqd hBw hBq
       have hone := zxk (enc := edgC) (size := 7) (y := (shiftE F.s dd)) (w := w4.alloc (.cells (edgC (shiftE F.s dd)) 69)) (g := w4.heap.size) (t := 69) (Blk.new _ _ _)
       obtain ⟨ie, hie, hye0, hye1, hye2⟩ := info_parts info_edge3
       refine zxh _ rfl _ _ 23 rfl w.heap.size 69 ie _ 7 56 Tryz.underlying23 hie hye0 hye1 hye2 rfl (by decide) zxt edgC_one (.slice Ae _ ke) _ rfl hEq _ _ 1 1 [(shiftE F.s dd)] rfl rfl hone (by rw [← Hen.out]; unfold maxLen; omega) (by rw [← Hen.out]; omega) hBwq.size ?_
       intro v8 w8 hE8 hg8 _
       have hk8 : Blk w8 g6 26 _ := hkq.grown hg8 (fun e => zzm hEq hkq (by decide) e.symm)
       have hR8 := zxw hRq hEq hg8 (by decide)
       have h28 : Blk w8 w.heap.size 26 _ := (zqb h2 hBq).grown hg8 (fun e => zzm hEq (zqb h2 hBq) (by decide) e.symm)
       have h58 : Blk w8 g8 26 _ := (zqb h5 hBq).grown hg8 (fun e => zzm hEq (zqb h5 hBq) (by decide) e.symm)
       have hBw8 := hBwq.grown hg8 hBwq.size (fun j e => (hEq.lt j e).1)
       obtain ⟨A8, k8, rfl, _, _⟩ := hE8.shape
       obtain ⟨en8, hen8⟩ : ∃ q, q = ((E0 ++ (xE.take j).map (shiftE F.s) : List Edg) ++ [((shiftE F.s dd) : Edg)]).length := ⟨_, rfl⟩
       rw [← hen8] at hE8
       rw [← hen8]
       simp only [Act.put, List.setIfInBounds_toArray, List.set_cons_zero, List.set_cons_succ]
       clear hen8 hone hie hye0 hye1 hye2 hEq hRq hkq hg8 hE hR hk6 hBwq hBq
       go_upto_region 18 with (refine zqt rfl _ _ _ rfl g6 1 rfl _ _ #[.int .i64 F.s, .slice A8 en8 k8, vR] hk8 (by simp) info_edges1 rfl rfl rfl ?_; intro w9 hk9 hg9)
       have hE9 := zxb hE8 hk8 hg9 (by decide)
       have hR9 := zxb hR8 hk8 hg9 (by decide)
       have hBw9 := hBw8.grown hg9 (by have := hBw8.size; omega) (fun j e => by injection e with e; omega)
       have h29 := zqk h28 hg9 (by omega)
       have h59 := zqk h58 hg9 (by omega)
       clear hE8 hR8 hBw8 h28 h58 hk8 hg9 h5 h2 h11x
       go_wp2_with (fail)
       exact ⟨⟨j + 1, by omega, rfl, ⟨_, hk9, by rw [Hst2.out, ← List.append_assoc]; exact hE9, hR9⟩, h29, h59, hBw9⟩, by simp only [intOf]; omega⟩
      ·have hjI : ¬ (j : Int) < ne := by omega
       have hke : xE.take j = xE := List.take_of_length_le (by have := Hne.out; omega)
       rw [hke] at hE
       obtain ⟨Ar, kr, rfl, _, _⟩ := hR.shape
       obtain ⟨mr, hmr⟩ : ∃ q, q = F.R.length := ⟨_, rfl⟩
       rw [← hmr] at hR hk6
       try rw [← hmr]
       have hmrb : mr ≤ 1099513724928 := by omega
       have Hmr := Lib.hid hmr
       have c62 : wr.cell? ⟨g6, 2, none⟩ = some (.slice Ar mr kr) := hk6.cellv (i := 2) rfl
       have c82 : wr.cell? ⟨g8, 2, none⟩ = some (.slice xB nr xd) := h5.cellv (i := 2) rfl
       obtain ⟨iu, hiu, hyu0, hyu1, hyu2⟩ := info_parts info_r3
       clear hke hmr
       go_upto_region 20 with (at_builtin; refine park ?_)
       refine Parked.mk ?_
       clear c62 c82 c81
       refine zxh _ rfl _ _ 24 rfl w.heap.size 42 iu _ 1 4 Tryz.underlying24 hiu hyu0 hyu1 hyu2 rfl (by decide) zya encR_one (.slice Ar _ kr) _ rfl hR _ xB nr xd xR rfl Hnr.out (hx2.below hBw) (by rw [← Hmr.out]; unfold maxLen; omega) (by rw [← Hmr.out]; omega) hBw.size ?_
       intro v8 w8 hR8 hg8 _
       have hk8 : Blk w8 g6 26 _ := hk6.grown hg8 (fun e => zzm hR hk6 (by decide) e.symm)
       have hE8 := zxw hE hR hg8 (by decide)
       have h28 : Blk w8 w.heap.size 26 _ := h2.grown hg8 (fun e => zzm hR h2 (by decide) e.symm)
       have h58 : Blk w8 g8 26 _ := h5.grown hg8 (fun e => zzm hR h5 (by decide) e.symm)
       have hBw8 := hBw.grown hg8 hBw.size (fun j e => (hR.lt j e).1)
       obtain ⟨A8, k8, rfl, _, _⟩ := hR8.shape
       simp only [Act.put, List.setIfInBounds_toArray, List.set_cons_zero, List.set_cons_succ]
       clear hiu hyu0 hyu1 hyu2 hg8 hE hR hk6 h2 h5 hBw
       go_upto_region 20 with (refine zqt rfl _ _ _ rfl g6 2 rfl _ _ #[.int .i64 F.s, vE2, .slice A8 _ k8] hk8 (by simp) info_rules1 rfl rfl rfl ?_; intro w9 hk9 hg9)
       have hE9 := zxb hE8 hk8 hg9 (by decide)
       have hR9 := zxb hR8 hk8 hg9 (by decide)
       have hBw9 := hBw8.grown hg9 (by have := hBw8.size; omega) (fun j e => by injection e with e; omega)
       have h29 := zqk h28 hg9 (by omega)
       have h59 := zqk h58 hg9 (by omega)
       clear hE8 hR8 hBw8 h28 h58 hk8 hg9
       have c60 : w9.cell? ⟨g6, 0, none⟩ = some (.int .i64 F.s) := hk9.cellv (i := 0) rfl
       have c80 : w9.cell? ⟨g8, 0, none⟩ = some (.int .i64 xs) := h59.cellv (i := 0) rfl
       have f60 := hk9.frozen 0
       go_upto_region 21 with (fail)
       have hk10 : Blk (w9.setCell ⟨g6, 0, none⟩ (.int .i64 (F.s + xs))) g6 26 #[.int .i64 (F.s + xs), vE2, .slice A8 _ k8] := hk9.set_eq (i := 0) (u := .int .i64 (F.s + xs)) rfl
       have hg10 : w9.grownBy (w9.setCell ⟨g6, 0, none⟩ (.int .i64 (F.s + xs))) (some g6) := zzi (zzk w9 (some g6)) (p := ⟨g6, 0, none⟩) (.inl rfl) _
       obtain ⟨w10, hw10⟩ : ∃ y, y = w9.setCell ⟨g6, 0, none⟩ (.int .i64 (F.s + xs)) := ⟨_, rfl⟩
       rw [← hw10] at hk10 hg10 ⊢
       clear hw10 c60 c80 f60
       have hE10 := zxb hE9 hk9 hg10 (by decide)
       have hR10 := zxb hR9 hk9 hg10 (by decide)
       have hBw10 := hBw9.grown hg10 (by have := hBw9.size; omega) (fun j e => by injection e with e; omega)
       have h210 := zqk h29 hg10 (by omega)
       rw [HE0.out] at hE10
       clear hE9 hR9 hBw9 h29 h59 hk9 hg10
       go_wp2_with (fail)
       exact ⟨⟨k + 1, by omega, rfl, ⟨_, _, by rw [Hst.out]; exact hk10, by rw [Hst.out]; exact hE10, by rw [Hst.out]; exact hR10⟩, h210, hBw10⟩, by simp only [intOf]; omega⟩
    ·have hkI : ¬ (k : Int) < n := by omega
     have hke : l.take k = l := List.take_of_length_le (by have := Hn.out; omega)
     rw [hke] at hk6 hE hR
     obtain ⟨F, hF⟩ : ∃ F, F = uFold (l.map MV.F) := ⟨_, rfl⟩
     have he := HE.out
     rw [← hF] at hk6 hE hR he
     have HEF := Lib.hid he
     obtain ⟨Ae, ke, rfl, _, _⟩ := hE.shape
     obtain ⟨Ar, kr, rfl, _, _⟩ := hR.shape
     have hk6n : Blk wr g6 26 (nfaC F.s Ae F.E.length ke Ar F.R.length kr) := hk6
     clear hke hF hbd he hk6
     go_wp2_with (first | (refine wl_load_nfa rfl _ rfl g6 rfl _ _ _ _ _ _ _ hk6n ?_) | (refine zzw rfl _ _ rfl w.heap.size _ _ _ _ _ _ _ rfl rfl 0 none 0 0 none 0 0 h2 ?_; intro w7 h7 hg7))
     have hE7 := zxb hE h2 hg7 (by decide)
     have hR7 := zxb hR h2 hg7 (by decide)
     have hBe := hBw.grown hg7 (by omega) (fun j e => by injection e with e; omega)
     refine ret_nfa2 rfl rfl h7 rfl ?_
     refine ⟨hBe, .agg (nfaC F.s Ae F.E.length ke Ar F.R.length kr), ?_, ?_⟩
     ·rw [HEF.out]; rfl
     ·rw [HEF.out]
      exact ⟨Ae, ke, Ar, kr, rfl, hE7, hR7⟩
theorem info_nfaR3 : (Tryz.prog.info? 26).map (fun i => (i.zero, i.size, i.bytes)) = some (some (.agg #[.int .i64 0, .slice none 0 0, .slice none 0 0]), 3, 56) := by kernel_rfl
theorem MV.C_one (x : MV) : x.C.all (·.oneCell') = true := by simp [MV.C, nfaC, Value.oneCell']
theorem bs_nfaR1 (w : World) (s : Int) (A : Option Addr) (n c : Nat) (B : Option Addr) (m d : Nat) : (Instr.buildSlice 50 1 #[(0, .agg (nfaC s A n c B m d))]).run Tryz.prog w = .ok (.slice (some ⟨w.heap.size, 0, none⟩) 1 1) (w.alloc (.cells (nfaC s A n c B m d) 26)) := by kernel_rfl
section
variable {ops : Array Oper} {rest : List Oper} {o : Oper} {a : Act} {w : World} {Q : Exit → Act → World → Prop}
theorem wl_bs_mv (hgd : o.guard = none) (x : Operand) (ho : o.op = .buildSlice 50 1 #[(0, x)]) (y : MV) (hx : a.eval x = .agg y.C)
  (h : wpList Tryz.prog ops Q rest (a.put o.dst (.slice (some ⟨w.heap.size, 0, none⟩) 1 1)) (w.alloc (.cells y.C 26))) : wpList Tryz.prog ops Q (o :: rest) a w :=
 wl_run hgd (v := .slice (some ⟨w.heap.size, 0, none⟩) 1 1) (by unfold execOp; simp only [ho, List.map_toArray, List.map_cons, List.map_nil, hx, Sem.run_bind, MV.C, bs_nfaR1, Result.andThen_ok, Sem.run_pure]) h
theorem sliced_any (A : Option Addr) (m c s : Nat) : sliced A 0 m c s = .slice A m c := by
 unfold sliced
 cases A <;> split <;> simp [Addr.add]
theorem wl_front {P : Program} (hgd : o.guard = none) (t : TypeId) (x y : Operand) (ho : o.op = .slice t x none (some y) none)
  (hu : P.underlying t = some (.slice (P.elem t))) (sz : Nat) (hsz : ∀ w, (sizeOf (P.elem t)).run P w = .ok sz w) (A : Option Addr) (n c k : Nat) (hx : a.eval x = .slice A n c) (hy : a.eval y = .int .i64 (k : Int)) (hk : k ≤ c)
  (h : wpList P ops Q rest (a.put o.dst (.slice A k c)) w) : wpList P ops Q (o :: rest) a w :=
 wl_run hgd (v := .slice A k c) (by
  unfold execOp
  have e := run_slice_h (P := P) w t A n c hu .i64 (k : Int) (by omega) (by omega)
  simp only [Int.toNat_natCast, hsz, Result.andThen_ok, sliced_any] at e
  simp only [ho, Option.map_none, Option.map_some, hx, hy, Sem.run_bind, run_sliceAt_slice (P := P) w t _ _ _ _ hu, e, Result.andThen_ok, Sem.run_pure]) h
end
theorem own_row {α : Type} {enc : α → Array Value} {size base : Nat} {e : TypeId} {w w' : World} {v : Value} {ys : List α} {row : Option Nat} (h : Own w base e size enc v ys) (k : w.grownBy w' row) (hne : ∀ g, v.ownBlock = some g → row ≠ some g) : Own w' base e size enc v ys :=
 own_block h fun g hg => k.block g (h.lt g hg).2 (fun e => hne g hg e.symm)
def MO (w : World) (B : Nat) (x : MV) : Prop := Own w B 69 7 edgC (.slice x.A x.F.E.length x.c) x.F.E ∧ Own w B 42 1 encR (.slice x.B x.F.R.length x.d) x.F.R
theorem MO.then_ {w w' : World} {B : Nat} {x : MV} (h : MO w B x) (hb : Below w.heap.size w w') : MO w' B x := ⟨h.1.then_ hb, h.2.then_ hb⟩
theorem MO.mono {w : World} {B B' : Nat} {x : MV} (h : MO w B x) (hb : B' ≤ B) : MO w B' x := ⟨h.1.mono hb, h.2.mono hb⟩
theorem MO.row {w w' : World} {B b2 : Nat} {x : MV} {v : Value} {ys : List MV} (h : MO w B x) (ho : Own w b2 26 3 MV.C v ys) (hg : w.grownBy w' v.ownBlock) : MO w' B x := ⟨zxw h.1 ho hg (by decide), zxw h.2 ho hg (by decide)⟩
theorem MO.box {w w' : World} {B g : Nat} {x : MV} {cs : Array Value} (h : MO w B x) (hb : Blk w g 26 cs) (hg : w.grownBy w' (some g)) : MO w' B x := ⟨zxb h.1 hb hg (by decide), zxb h.2 hb hg (by decide)⟩
structure MGood (x : MV) : Prop where
 fit : Mt.FitsF x.F x.F.s.toNat
 few : x.F.s.toNat ≤ 2100
 ed : x.F.E.length ≤ 6144
 lt : ∀ r ∈ x.F.R, r < 4294967296
theorem fits_right7 {F : NF} {N : Nat} (h : Mt.FitsF F N) : rightF F = true := by
 obtain ⟨hs, f⟩ := h
 unfold rightF rightB
 have h1 := f.one
 rw [Bool.and_eq_true, Bool.and_eq_true, decide_eq_true_eq, decide_eq_true_eq, List.all_eq_true]
 refine ⟨⟨by omega, by rw [f.rules, hs]⟩, fun d hd => ?_⟩
 have h2 := f.kinds d hd
 have h3 := f.fr d hd
 have h4 := f.tt d hd
 have h5 := f.sets d hd
 unfold badE inS
 have h5' : ((d.kd != 2) && !decide (d.st = 0)) = false := by
  by_cases e : d.kd = 2
  ·simp [e]
  ·rw [h5 e]; simp
 rw [h5', hs]
 simp only [Bool.not_eq_true', Bool.or_eq_false_iff, decide_eq_false_iff_not, Bool.and_eq_true, decide_eq_true_eq, Bool.not_eq_false']
 exact ⟨⟨⟨⟨by omega, by omega⟩, h3⟩, h4⟩, trivial⟩
def sizesM (ms : List MV) : Nat := (ms.map fun x => x.F.s.toNat).sum
theorem sizesM_snoc (ms : List MV) (x : MV) : sizesM (ms ++ [x]) = sizesM ms + x.F.s.toNat := by simp [sizesM]
theorem sizesM_le {ms : List MV} (h : ∀ x ∈ ms, MGood x) : sizesM ms ≤ 2100 * ms.length := by
 induction ms with
 | nil => simp [sizesM]
 | cons x l ih =>
   have h1 := (h x (by simp)).few
   have h2 := ih fun y hy => h y (by simp [hy])
   unfold sizesM at h2 ⊢
   rw [List.map_cons, List.sum_cons, List.length_cons]
   omega
noncomputable def metM (q : ByteArray) (ms : List MV) : Nat := Mt.orM (ms.map fun x => Mt.vF q x.F)
theorem build_mo (nd : Nd) (hT : nd.isT = true) (hU : ¬ 2048 ≤ nd.U) (r : Nat) (hr : r < 32) (B : Nat) (w : World) (cs : Array Value) (hin : NdIn w B nd cs) (hB : B ≤ w.heap.size) :
  Calls Tryz.prog 16 #[.agg cs, .int .i64 (r : Int)] w fun e w' => Below w.heap.size w w' ∧ ∃ x : MV, x.F = ⟨(Mt.mN nd : Nat), Mt.mE nd, Mt.mR nd r⟩ ∧ e = .returned (.tuple #[.agg x.C, .int .i64 0]) ∧ MO w' w.heap.size x := by
 refine (build_own nd (r : Int) B w cs hin hB).mono ?_
 rintro e w' ⟨hb, v, rfl, A, c, B', d, rfl, hE, hR⟩
 rw [buildF_ok hT hU hr] at hE hR ⊢
 exact ⟨hb, ⟨⟨(Mt.mN nd : Nat), Mt.mE nd, Mt.mR nd r⟩, A, c, B', d⟩, rfl, rfl, hE, hR⟩
theorem m_good {nd : Nd} (hT : nd.isT = true) (hU : ¬ 2048 ≤ nd.U) {r : Nat} (hr : r < 32) {x : MV} (hx : x.F = ⟨(Mt.mN nd : Nat), Mt.mE nd, Mt.mR nd r⟩) : Mt.FitsF x.F (Mt.mN nd) ∧ x.F.s.toNat = Mt.mN nd ∧ x.F.E.length ≤ 6144 ∧ ∀ r ∈ x.F.R, r < 4294967296 := by
 obtain ⟨hs, hel, hend⟩ := layF_good hT
 rw [hx]
 refine ⟨⟨rfl, Mt.m_fits hT r⟩, by simp, ?_, Mt.mR_lt hr⟩
 have : (Mt.mE nd).length ≤ 3 * nd.U := hel
 show (Mt.mE nd).length ≤ 6144
 omega
theorem union_mo (A : Option Addr) (c : Nat) (ms : List MV) (hl : ms.length ≤ 12) (hG : ∀ x ∈ ms, MGood x) {base : Nat} (w : World) (ho : Own w base 26 3 MV.C (.slice A ms.length c) ms) (hm : ∀ x ∈ ms, MO w base x) :
  Calls Tryz.prog 17 #[.slice A ms.length c] w fun e w' => Below w.heap.size w w' ∧ ∃ x : MV, x.F = uFold (ms.map MV.F) ∧ e = .returned (.tuple #[.agg x.C, .int .i64 0]) ∧ MO w' w.heap.size x := by
 have hM : MsIn w w.heap.size ms := fun x hx => by
  have h1 := (hG x hx).ed
  have h2 := (hG x hx).few
  have h3 := (hG x hx).fit.2.rules
  exact ⟨(hm x hx).1.slice_all zxt, (hm x hx).2.slice_all zya, by omega, by omega⟩
 refine (union_own A ms.length c ms rfl (by omega) w (ho.slice_all MV.C_size) hM).mono ?_
 rintro e w' ⟨hb, v, rfl, A', c', B', d, rfl, hE, hR⟩
 have hall : (ms.map MV.F).all rightF = true := by
  rw [List.all_eq_true]
  intro F hF
  obtain ⟨x, hx, rfl⟩ := List.mem_map.1 hF
  exact fits_right7 (hG x hx).fit
 have hu : unionF (ms.map MV.F) = (uFold (ms.map MV.F), 0) := by unfold unionF; rw [hall]; rfl
 rw [hu] at hE hR ⊢
 exact ⟨hb, ⟨uFold (ms.map MV.F), A', c', B', d⟩, rfl, rfl, hE, hR⟩
theorem union_fits (q : ByteArray) (ms : List MV) (hl : ms.length ≤ 12) (hG : ∀ x ∈ ms, MGood x) : Mt.FitsF (uFold (ms.map MV.F)) (1 + sizesM ms) ∧ Mt.vF q (uFold (ms.map MV.F)) = metM q ms ∧ (uFold (ms.map MV.F)).E.length ≤ 1099511627776 ∧ (∀ r ∈ (uFold (ms.map MV.F)).R, r < 4294967296) ∧ sizesM ms ≤ 25200 := by
 have h0 : ∀ F ∈ ms.map MV.F, Mt.FitsF F F.s.toNat := fun F hF => by
  obtain ⟨x, hx, rfl⟩ := List.mem_map.1 hF
  exact (hG x hx).fit
 obtain ⟨h1, h2⟩ := Mt.fold_fits q (ms.map MV.F) h0
 rw [List.map_map] at h1 h2
 have hb := uFold_bound (ms.map MV.F) (fun F hF => by
  obtain ⟨x, hx, rfl⟩ := List.mem_map.1 hF
  have h1 := (hG x hx).ed
  have h2 := (hG x hx).few
  have h3 := (hG x hx).fit.2.rules
  exact ⟨fits_right7 (hG x hx).fit, by omega, by omega⟩)
 rw [List.length_map] at hb
 have hs := sizesM_le hG
 refine ⟨h1, h2, by omega, ?_, by omega⟩
 have key : ∀ l : List NF, (∀ F ∈ l, ∀ r ∈ F.R, r < 4294967296) → ∀ r ∈ (uFold l).R, r < 4294967296 := by
  intro l
  obtain ⟨k, hk⟩ : ∃ k, k = l.reverse := ⟨_, rfl⟩
  have : l = k.reverse := by rw [hk, List.reverse_reverse]
  clear hk
  subst this
  induction k with
  | nil =>
    intro _ r hr
    simp [uFold] at hr
    omega
  | cons F k ih =>
    intro h r hr
    rw [List.reverse_cons] at h hr
    rw [uFold_snoc] at hr
    rcases List.mem_append.1 hr with hr | hr
    ·exact ih (fun G hG => h G (by simp at hG ⊢; exact .inl hG)) r hr
    ·exact h F (by simp) r hr
 exact key _ fun F hF => by
  obtain ⟨x, hx, rfl⟩ := List.mem_map.1 hF
  exact (hG x hx).lt
end Go.Proofs.YtkedgombccdamaaGreatDoor
namespace Go.Proofs.YtkedgombccdamaaGreatDoor
set_option linter.unusedVariables false
set_option linter.unusedSimpArgs false
namespace Mt
noncomputable def wkAt (E : List Edg) (N : Nat) (R : List Nat) (q : ByteArray) : Nat → Wk
 | 0 => begW E N R
 | k + 1 => byteW E N R (wkAt E N R q k) (Ere.chr q k)
section
variable {E : List Edg} {N : Nat} {R : List Nat} {q : ByteArray}
noncomputable def wpre (E : List Edg) (N : Nat) (q : ByteArray) : Nat → Nat
 | 0 => 1
 | k + 1 => byteN E N (zzf E N (decide (k = 0)) false (wpre E N q k)) (Ere.chr q k)
theorem wpre_eq (E : List Edg) (N : Nat) (q : ByteArray) : ∀ k, k ≤ q.size → wpre E N q k = mpre E N q k
 | 0, _ => rfl
 | k + 1, h => by
   unfold wpre mpre
   rw [wpre_eq E N q k (by omega), decide_eq_false (show ¬ k = q.size by omega)]
theorem wk_at (E : List Edg) (N : Nat) (R : List Nat) (q : ByteArray) : ∀ k, (wkAt E N R q k).at_ = zzf E N (decide (k = 0)) false (wpre E N q k) ∧ (wkAt E N R q k).first = decide (k = 0)
 | 0 => ⟨rfl, rfl⟩
 | k + 1 => by
   have h := (wk_at E N R q k).1
   refine ⟨?_, by simp [wkAt, byteW]⟩
   show zzf E N false false (byteN E N (wkAt E N R q k).at_ (Ere.chr q k)) = _
   rw [h]
   rfl
theorem wk_met (E : List Edg) (N : Nat) (R : List Nat) (q : ByteArray) (j : Nat) : ∀ k, (wkAt E N R q k).met.testBit j = true ↔ ∃ i, i ≤ k ∧ (metN R (zzf E N (decide (i = 0)) false (wpre E N q i)) N).testBit j = true
 | 0 => by
   constructor
   ·intro h; exact ⟨0, Nat.le_refl _, h⟩
   ·rintro ⟨i, hi, h⟩
    obtain rfl : i = 0 := by omega
    exact h
 | k + 1 => by
   have ih := wk_met E N R q j k
   have ha := (wk_at E N R q (k + 1)).1
   have hm : (wkAt E N R q (k + 1)).met = (wkAt E N R q k).met ||| metN R (wkAt E N R q (k + 1)).at_ N := rfl
   rw [hm, Nat.testBit_or, Bool.or_eq_true, ih, ha]
   constructor
   ·rintro (⟨i, h1, h2⟩ | h)
    ·exact ⟨i, by omega, h2⟩
    ·exact ⟨k + 1, Nat.le_refl _, h⟩
   ·rintro ⟨i, h1, h2⟩
    by_cases e : i = k + 1
    ·subst e; exact .inr h2
    ·exact .inl ⟨i, by omega, h2⟩
theorem reach_more {b e : Bool} {x i : Nat} (h : Reach E b e x i) : Reach E b true x i := by
 induction h with
 | base h => exact .base h
 | step hd hm _ ih =>
   refine .step hd ?_ ih
   unfold may at hm ⊢
   revert hm
   cases e <;> simp (config := { contextual := true })
theorem spread_true (hE : ∀ d ∈ E, 0 ≤ d.tt ∧ d.tt < N) {b : Bool} {x : Nat} (hx : below x N) : zzf E N b true (zzf E N b false x) = zzf E N b true x := by
 apply bits_ext
 intro i
 rw [spread_bit hE (spread_below _ _ _ _ _), spread_bit hE hx]
 constructor
 ·intro h
  induction h with
  | base h => exact reach_more ((spread_bit hE hx _).1 h)
  | step hd hm _ ih => exact .step hd hm ih
 ·intro h
  induction h with
  | base h => exact .base ((spread_bit hE hx _).2 (.base h))
  | step hd hm _ ih => exact .step hd hm ih
theorem wpre_below (hN : 1 ≤ N) (q : ByteArray) {k : Nat} (hk : k ≤ q.size) : below (wpre E N q k) N := by
 rw [wpre_eq E N q k hk]
 exact mpre_below hN q k
theorem endW_mV (hN : 1 ≤ N) (hE : ∀ d ∈ E, 0 ≤ d.tt ∧ d.tt < N) (R : List Nat) (q : ByteArray) : endW E N R (wkAt E N R q q.size) = mV E R N q (q.size + 1) := by
 apply bits_ext
 intro j
 obtain ⟨h1, h2⟩ := wk_at E N R q q.size
 unfold endW
 rw [h1, h2, Nat.testBit_or, Bool.or_eq_true, wk_met, spread_true hE (wpre_below hN q (Nat.le_refl _)), mV_bit]
 have hlast : zzf E N (decide (q.size = 0)) true (wpre E N q q.size) = mx E N q q.size := by
  unfold mx
  rw [wpre_eq E N q _ (Nat.le_refl _), decide_eq_true (rfl : q.size = q.size)]
 have hin : ∀ i, i < q.size → zzf E N (decide (i = 0)) false (wpre E N q i) = mx E N q i := fun i hi => by
  unfold mx
  rw [wpre_eq E N q _ (by omega), decide_eq_false (show ¬ i = q.size by omega)]
 rw [hlast]
 constructor
 ·rintro (⟨i, hi, h⟩ | h)
  ·by_cases hl : i < q.size
   ·rw [hin i hl, met_bit] at h
    obtain ⟨n, a1, a2, a3⟩ := h
    exact ⟨i, n, by omega, a1, a2, a3⟩
   ·obtain rfl : i = q.size := by omega
    rw [met_bit] at h
    obtain ⟨n, a1, a2, a3⟩ := h
    refine ⟨q.size, n, by omega, a1, ?_, a3⟩
    rw [← hlast, spread_bit hE (wpre_below hN q (Nat.le_refl _))]
    rw [spread_bit hE (wpre_below hN q (Nat.le_refl _))] at a2
    exact reach_more a2
  ·rw [met_bit] at h
   obtain ⟨n, a1, a2, a3⟩ := h
   exact ⟨q.size, n, by omega, a1, a2, a3⟩
 ·rintro ⟨i, n, a0, a1, a2, a3⟩
  by_cases hl : i < q.size
  ·left
   refine ⟨i, by omega, ?_⟩
   rw [hin i hl, met_bit]
   exact ⟨n, a1, a2, a3⟩
  ·right
   obtain rfl : i = q.size := by omega
   rw [met_bit]
   exact ⟨n, a1, a2, a3⟩
end
end Mt
namespace Ere
structure Emb (p q : ByteArray) (a : Nat) : Prop where
 le : a + p.size ≤ q.size
 at_ : ∀ k, k < p.size → chr q (a + k) = chr p k
 fol : ∀ c, c = 42 ∨ c = 43 ∨ c = 63 ∨ c = 123 → isAt q (a + p.size) c = false
section
variable {p q : ByteArray} {a : Nat}
theorem Emb.isAt (A : Emb p q a) {k c : Nat} (h : k < p.size) : isAt q (a + k) c = isAt p k c := by
 unfold Ere.isAt
 rw [A.at_ k h, decide_eq_true h, decide_eq_true (show a + k < q.size by have := A.le; omega)]
theorem Emb.isAtR (A : Emb p q a) {k c : Nat} (h : k ≤ p.size) (hc : c = 42 ∨ c = 43 ∨ c = 63 ∨ c = 123) : Ere.isAt q (a + k) c = Ere.isAt p k c := by
 by_cases hk : k < p.size
 ·exact A.isAt hk
 ·obtain rfl : k = p.size := by omega
  rw [A.fol c hc]
  unfold Ere.isAt
  rw [decide_eq_false (by omega), Bool.false_and]
theorem Emb.oneOf (A : Emb p q a) {k : Nat} {l : List Nat} (h : k < p.size) : oneOf q (a + k) l = oneOf p k l := by
 unfold Ere.oneOf
 rw [A.at_ k h, decide_eq_true h, decide_eq_true (show a + k < q.size by have := A.le; omega)]
theorem Emb.digits (A : Emb p q a) : ∀ k i n c, (digits p k i n c).2.1 < p.size → digits q k (a + i) n c = ((digits p k i n c).1, a + (digits p k i n c).2.1, (digits p k i n c).2.2)
 | 0, i, n, c, h => rfl
 | k + 1, i, n, c, h => by
   have hi : i < p.size := by
    have := (digits_le p (k + 1) i n c).2
    omega
   unfold Ere.digits at h ⊢
   rw [decide_eq_true hi] at h ⊢
   rw [decide_eq_true (show a + i < q.size by have := A.le; omega), A.at_ i hi]
   split
   ·rename_i h1
    rw [if_pos h1] at h
    exact A.digits k (i + 1) _ _ h
   ·rfl
theorem Emb.countsR (A : Emb p q a) {i j : Nat} {c : Nat × Int} (h : countsR p i = .got c j) : countsR q (a + i) = .got c (a + j) := by
 have hf := countsR_fwd h
 have e1 := A.digits 4 (i + 1) 0 0
 have e2 := A.digits 4 ((Ere.digits p 4 (i + 1) 0 0).2.1 + 1) 0 0
 have l2 := (digits_le p 4 ((Ere.digits p 4 (i + 1) 0 0).2.1 + 1) 0 0).2
 unfold Ere.countsR at h ⊢
 simp only at h ⊢
 obtain ⟨⟨d1, d2, d3⟩, hd⟩ : ∃ d, Ere.digits p 4 (i + 1) 0 0 = d := ⟨_, rfl⟩
 rw [hd] at h e1 e2 l2
 simp only at h e1 e2 l2
 have key : d2 ≤ j := by
  split at h
  ·split at h
   ·injection h with _ h; omega
   ·split at h
    ·cases h
    ·injection h with _ h; omega
  ·split at h
   ·cases h
   ·injection h with _ h; omega
 rw [show a + i + 1 = a + (i + 1) from rfl, e1 (by omega)]
 simp only
 rw [A.isAt (show d2 < p.size by omega), A.isAt (show d2 < p.size by omega)]
 split at h
 ·rename_i h1
  have h1' : (cntOk (d1, a + d2, d3) && Ere.isAt p d2 44) = true := h1
  rw [if_pos h1']
  have k2 : d2 + 1 ≤ j := by
   split at h
   ·injection h with _ h; omega
   ·split at h
    ·cases h
    ·injection h with _ h; omega
  rw [show a + d2 + 1 = a + (d2 + 1) from rfl, A.isAt (show d2 + 1 < p.size by omega)]
  split at h
  ·rename_i h2
   rw [if_pos h2]
   injection h with h4 h5
   rw [h4, ← h5]
  ·rename_i h2
   rw [if_neg h2]
   split at h
   ·cases h
   ·rename_i h3
    injection h with h4 h5
    rw [e2 (by omega)]
    simp only
    rw [A.isAt (show (Ere.digits p 4 (d2 + 1) 0 0).2.1 < p.size by omega)]
    have h3' : ¬ (((!cntOk ((Ere.digits p 4 (d2 + 1) 0 0).1, a + (Ere.digits p 4 (d2 + 1) 0 0).2.1, (Ere.digits p 4 (d2 + 1) 0 0).2.2) || !Ere.isAt p (Ere.digits p 4 (d2 + 1) 0 0).2.1 125) || decide ((Ere.digits p 4 (d2 + 1) 0 0).1 < d1)) = true) := h3
    rw [if_neg h3', h4, h5]
 ·rename_i h1
  have h1' : ¬ ((cntOk (d1, a + d2, d3) && Ere.isAt p d2 44) = true) := h1
  rw [if_neg h1']
  split at h
  ·cases h
  ·rename_i h2
   have h2' : ¬ ((!cntOk (d1, a + d2, d3) || !Ere.isAt p d2 125) = true) := h2
   injection h with h4 h5
   rw [if_neg h2', h4, h5]
theorem Emb.repeatR (A : Emb p q a) {t u : Nd} {i j : Nat} (hi : i ≤ p.size) (h : repeatR p t i = .got u j) : repeatR q t (a + i) = .got u (a + j) := by
 unfold Ere.repeatR at h ⊢
 rw [A.isAtR hi (by omega), A.isAtR hi (by omega), A.isAtR hi (by omega), A.isAtR hi (by omega)]
 split at h
 ·rename_i h1; rw [if_pos h1]; injection h with h1 h2; rw [h1, ← h2]; rfl
 rename_i h1
 rw [if_neg h1]
 split at h
 ·rename_i h2; rw [if_pos h2]; injection h with h1 h2; rw [h1, ← h2]; rfl
 rename_i h2
 rw [if_neg h2]
 split at h
 ·rename_i h3; rw [if_pos h3]; injection h with h1 h2; rw [h1, ← h2]; rfl
 rename_i h3
 rw [if_neg h3]
 split at h
 ·rename_i h4
  rw [if_pos h4]
  cases hc : Ere.countsR p i with
  | fault e a => rw [hc] at h; cases h
  | got c k =>
    rw [hc] at h
    injection h with h5 h6
    rw [A.countsR hc]
    simp only [Res.bind]
    rw [h5, ← h6]
    rfl
 ·rename_i h4
  rw [if_neg h4]
  injection h with h5 h6
  rw [h5, h6]
theorem Emb.hit (A : Emb p q a) {k : Nat} (h : k + 1 < p.size) : hit q (a + k) ↔ hit p k := by
 unfold Ere.hit
 rw [A.at_ k (by omega), show a + k + 1 = a + (k + 1) from rfl, A.at_ (k + 1) h]
 have := A.le
 constructor
 ·rintro ⟨_, b, c⟩; exact ⟨by omega, b, c⟩
 ·rintro ⟨_, b, c⟩; exact ⟨by omega, b, c⟩
theorem Emb.endAt (A : Emb p q a) {i j : Nat} (h : endAt p p.size i = some j) : endAt q q.size (a + i) = some (a + j) := by
 obtain ⟨h1, h2, h3⟩ := endAt_some p _ _ _ h
 have hj : j + 1 < p.size := h2.1
 cases hq : Ere.endAt q q.size (a + i) with
 | none => exact absurd ((A.hit hj).2 h2) (endAt_none q _ _ (by omega) hq (a + j) (by omega))
 | some k =>
   obtain ⟨k1, k2, k3⟩ := endAt_some q _ _ _ hq
   obtain ⟨k, rfl⟩ : ∃ k', k = a + k' := ⟨k - a, by omega⟩
   rcases Nat.lt_trichotomy k j with e | e | e
   ·exact absurd ((A.hit (by omega)).1 k2) (h3 k (by omega) e)
   ·rw [e]
   ·exact absurd ((A.hit hj).2 h2) (k3 (a + j) (by omega) (by omega))
theorem Emb.sub (A : Emb p q a) {i j : Nat} (hj : j ≤ p.size) : sub q (a + i) (a + j) = sub p i j := by
 unfold Ere.sub
 rw [show a + j - (a + i) = j - i by omega]
 apply List.map_congr_left
 intro k hk
 rw [List.mem_range] at hk
 rw [Nat.add_assoc]
 exact A.at_ _ (by omega)
theorem Emb.classR (A : Emb p q a) {s s' i j : Nat} {x : BSet} (h : classR p s i = .got x j) : classR q s' (a + i) = .got x (a + j) := by
 unfold Ere.classR at h ⊢
 cases he : Ere.endAt p p.size (i + 2) with
 | none => rw [he] at h; cases h
 | some k =>
   rw [he] at h
   simp only at h
   have hk : k + 1 < p.size := (endAt_some p _ _ _ he).2.1.1
   rw [show a + i + 2 = a + (i + 2) from rfl, A.endAt he]
   simp only
   rw [A.sub (show k ≤ p.size by omega)]
   split at h
   ·cases h
   ·injection h with h1 h2
    rw [h1, ← h2]
    rfl
theorem isAt_eq {p : ByteArray} {i c : Nat} (h : isAt p i c = true) : chr p i = c := by
 unfold isAt at h
 simp only [Bool.and_eq_true, decide_eq_true_eq] at h
 exact h.2
theorem Emb.itemR (A : Emb p q a) {s s' i j k : Nat} {x : BSet} (hi : i < p.size) (h : itemR p s i = .got x j) (hjk : j ≤ k) (hk : Ere.isAt p k 93 = true) : itemR q s' (a + i) = .got x (a + j) := by
 have hf := itemR_fwd h hi
 have hks := isAt_lt hk
 have e1 : ∀ c, Ere.isAt q (a + i + 1) c = Ere.isAt p (i + 1) c := fun c => by rw [Nat.add_assoc]; exact A.isAt (by omega)
 have o1 : ∀ l, Ere.oneOf q (a + i + 1) l = Ere.oneOf p (i + 1) l := fun c => by rw [Nat.add_assoc]; exact A.oneOf (by omega)
 unfold Ere.itemR at h ⊢
 rw [A.isAt hi, e1, e1, o1]
 split at h
 ·rename_i h1
  rw [if_pos h1]
  exact A.classR h
 rename_i h1
 rw [if_neg h1]
 split at h
 ·cases h
 rename_i h2
 rw [if_neg h2]
 by_cases h45 : Ere.isAt p (i + 1) 45 = true
 ·have hne : i + 1 ≠ k := fun e => by
   have q1 := isAt_eq h45
   have q2 := isAt_eq hk
   rw [← e, q1] at q2
   omega
  have hlast : i + 2 < p.size := by
   have hij : i + 1 ≤ k := by omega
   omega
  have e2 : Ere.isAt q (a + i + 2) 93 = Ere.isAt p (i + 2) 93 := by rw [Nat.add_assoc]; exact A.isAt hlast
  rw [e2, decide_eq_false (show ¬ q.size ≤ a + i + 2 by have := A.le; omega), A.at_ i hi, show chr q (a + i + 2) = chr p (i + 2) by rw [Nat.add_assoc]; exact A.at_ (i + 2) hlast]
  rw [decide_eq_false (show ¬ p.size ≤ i + 2 by omega)] at h
  split at h
  ·rename_i h3
   rw [if_pos h3]
   injection h with h4 h5
   rw [h4, ← h5]
   rfl
  rename_i h3
  rw [if_neg h3]
  split at h
  ·cases h
  rename_i h4
  injection h with h5 h6
  have o3 : Ere.oneOf q (a + i + 3) [58, 46, 61] = Ere.oneOf p (i + 3) [58, 46, 61] := by rw [Nat.add_assoc]; exact A.oneOf (by omega)
  rw [o3, if_neg h4, h5, ← h6]
  rfl
 ·have e45 : Ere.isAt p (i + 1) 45 = false := by simpa using h45
  rw [e45, A.at_ i hi]
  rw [e45] at h
  simp only [Bool.not_false, Bool.true_or, if_true] at h ⊢
  injection h with h5 h6
  rw [h5, ← h6]
  rfl
theorem itemsR_end {p : ByteArray} {s : Nat} : ∀ n first i x y k, itemsR p s n first i x = .got y k → isAt p k 93 = true
 | 0, _, _, _, _, _, h => by cases h
 | n + 1, first, i, x, y, k, h => by
   unfold itemsR at h
   split at h
   ·rename_i h1
    injection h with _ h
    simp only [Bool.and_eq_true] at h1
    rw [← h]
    exact h1.2
   ·split at h
    ·cases h
    ·cases hc : itemR p s i with
     | fault e a => rw [hc] at h; cases h
     | got t j =>
       rw [hc] at h
       exact itemsR_end n _ _ _ _ _ h
theorem Emb.itemsR (A : Emb p q a) {s s' : Nat} : ∀ n n' first i x y k, i ≤ p.size → itemsR p s n first i x = .got y k → k + 1 ≤ n' + i → itemsR q s' n' first (a + i) x = .got y (a + k)
 | 0, _, _, _, _, _, _, _, h, _ => by cases h
 | n + 1, n', first, i, x, y, k, hi, h, hn => by
   have hf := itemsR_fwd _ _ _ _ _ _ h
   have he := itemsR_end _ _ _ _ _ _ h
   obtain ⟨n', rfl⟩ : ∃ c, n' = c + 1 := ⟨n' - 1, by omega⟩
   unfold Ere.itemsR at h ⊢
   rw [A.isAt (show i < p.size by omega)]
   split at h
   ·rename_i h1
    rw [if_pos h1]
    injection h with h2 h3
    rw [h2, h3]
   ·rename_i h1
    rw [if_neg h1]
    split at h
    ·cases h
    ·rename_i h2
     rw [if_neg (by have := A.le; omega)]
     cases hc : Ere.itemR p s i with
     | fault e a => rw [hc] at h; cases h
     | got t j =>
       rw [hc] at h
       simp only [Res.bind] at h
       have hj := itemR_fwd hc (by omega)
       have hjk := itemsR_fwd _ _ _ _ _ _ h
       rw [A.itemR (s' := s') (by omega) hc hjk.1 he]
       simp only [Res.bind]
       exact A.itemsR n n' false j _ y k hj.2 h (by omega)
theorem Emb.setR (A : Emb p q a) {s s' i j : Nat} {t : Nd} (hi : i < p.size) (h : setR p s i = .got t j) : setR q s' (a + i) = .got t (a + j) := by
 unfold Ere.setR at h ⊢
 rw [A.isAt hi]
 cases hc : Ere.itemsR p s (p.size + 2) true (if Ere.isAt p i 94 then i + 1 else i) 0 with
 | fault e a => rw [hc] at h; cases h
 | got y k =>
   rw [hc] at h
   injection h with h1 h2
   have hf := itemsR_fwd _ _ _ _ _ _ hc
   have := A.itemsR (s' := s') (p.size + 2) (q.size + 2) true _ 0 y k (by split <;> omega) hc (by have := A.le; omega)
   rw [show (if Ere.isAt p i 94 = true then a + i + 1 else a + i) = a + (if Ere.isAt p i 94 = true then i + 1 else i) by split <;> rfl, this]
   simp only [Res.bind]
   rw [h1, ← h2]
   rfl
end
end Ere
end Go.Proofs.YtkedgombccdamaaGreatDoor
