/- Part 8 of a proof; packed: the texts that it was made of follow one another. No condition beyond those named in each lemma. -/
import Derived.Test.YtkedgombccdamaaDoorPs2
import Derived.Test.YtkedgombccdamaaDoorPs4
import Derived.Test.YtkedgombccdamaaDoorPs7
import Derived.Laws.CopyOwn
namespace Go.Proofs.YtkedgombccdamaaDoor
open Go.RowKit Go.Maps
set_option linter.unusedVariables false
set_option linter.unusedSimpArgs false
attribute [local go_sem] Oper.semAt_some

/-- a block of lists of nodes -/
def LsBlk (w : World) (k : Nat) : Prop := ∃ cs, Blk w k 48 cs
/-- what may turn: blocks of lists of nodes from lo on -/
structure QT (lo : Nat) (w w' : World) : Prop where
  os : w'.os = w.os
  tape : w'.tape = w.tape
  output : w'.output = w.output
  size : w.heap.size ≤ w'.heap.size
  block : ∀ k, k < w.heap.size → (k < lo ∨ ¬ LsBlk w k) → w'.heap[k]? = w.heap[k]?
section
variable {lo : Nat} {w w' w2 : World}
theorem QT.refl (lo : Nat) (w : World) : QT lo w w := ⟨rfl, rfl, rfl, Nat.le_refl _, fun _ _ _ => rfl⟩
theorem QT.trans (h : QT lo w w') (k : QT lo w' w2) : QT lo w w2 :=
  ⟨k.os.trans h.os, k.tape.trans h.tape, k.output.trans h.output, Nat.le_trans h.size k.size, fun j hj hh => by
    have e := h.block j hj hh
    refine (k.block j (Nat.lt_of_lt_of_le hj h.size) ?_).trans e
    rcases hh with hh | hh
    · exact .inl hh
    · exact .inr fun ⟨cs, hI⟩ => hh ⟨cs, e.symm.trans hI⟩⟩
theorem QT.of_below (h : Below w.heap.size w w') : QT lo w w' := ⟨h.os, h.tape, h.output, h.size, fun k hk _ => h.block k hk⟩
theorem QT.then_ (h : QT lo w w') (k : Below w'.heap.size w' w2) : QT lo w w2 := h.trans (QT.of_below k)
theorem QT.grown {row : Option Nat} (h : QT lo w w') (hg : w'.grownBy w2 row) (hr : ∀ b, row = some b → w.heap.size ≤ b ∨ (lo ≤ b ∧ LsBlk w' b)) : QT lo w w2 :=
  ⟨hg.os.trans h.os, hg.tape.trans h.tape, hg.output.trans h.output, Nat.le_trans h.size hg.size, fun j hj hh => by
    have e := h.block j hj hh
    refine (hg.block j (Nat.lt_of_lt_of_le hj h.size) (fun er => ?_)).trans e
    rcases hr j er.symm with h1 | ⟨h1, ⟨cs, h2⟩⟩
    · omega
    · rcases hh with hh | hh
      · omega
      · exact hh ⟨cs, e.symm.trans h2⟩⟩
theorem QT.below {N : Nat} (h : QT lo w w') (h2 : N ≤ lo) (h3 : N ≤ w.heap.size) : Below N w w' := ⟨h.os, h.tape, h.output, h.size, fun k hk => h.block k (by omega) (.inl (by omega))⟩
end
/-- a list of nodes that fills a block from its start -/
structure SL where
  blk : Nat
  n : Nat
  c : Nat
def SL.v (s : SL) : Value := .slice (some ⟨s.blk, 0, none⟩) s.n s.c
/-- such a list, in memory of its own -/
def OwnS (w : World) (B : Nat) (s : SL) : Prop := s.n ≤ 1099511627776 ∧ ∃ ys : List NV, Own w B 54 8 NV.C s.v ys
/-- lists of lists, no two in one block -/
def GL (w : World) (B : Nat) (L : List SL) (bs : List Nat) : Prop := (L.map SL.blk).Nodup ∧ ∀ s ∈ L, s.blk ∈ bs ∧ OwnS w B s
section
variable {w w' : World} {B lo : Nat} {L M : List SL} {bs cs : List Nat}
theorem GL.nil (w : World) (B : Nat) (bs : List Nat) : GL w B [] bs := ⟨List.nodup_nil, fun s h => by cases h⟩
theorem GL.sub (h : GL w B L bs) (hb : ∀ b ∈ bs, b ∈ cs) : GL w B L cs := ⟨h.1, fun s hs => ⟨hb _ (h.2 s hs).1, (h.2 s hs).2⟩⟩
theorem GL.append (h : GL w B L bs) (k : GL w B M cs) (hd : ∀ b ∈ bs, b ∉ cs) : GL w B (L ++ M) (bs ++ cs) := by
  refine ⟨?_, fun s hs => ?_⟩
  · rw [List.map_append, List.nodup_append]
    refine ⟨h.1, k.1, fun a ha b hb e => ?_⟩
    subst e
    obtain ⟨s, hs, rfl⟩ := List.mem_map.1 ha
    obtain ⟨t, ht, e⟩ := List.mem_map.1 hb
    exact hd _ (h.2 s hs).1 (e ▸ (k.2 t ht).1)
  · rcases List.mem_append.1 hs with hs | hs
    · exact ⟨List.mem_append_left _ (h.2 s hs).1, (h.2 s hs).2⟩
    · exact ⟨List.mem_append_right _ (k.2 s hs).1, (k.2 s hs).2⟩
theorem GL.one {s : SL} (h : OwnS w B s) : GL w B [s] [s.blk] := ⟨by simp, fun t ht => by rw [List.mem_singleton.1 ht]; exact ⟨by simp, h⟩⟩
end
end Go.Proofs.YtkedgombccdamaaDoor
namespace Go.Proofs.YtkedgombccdamaaDoor
open Go.RowKit Go.Shelf Go.Maps
set_option linter.unusedVariables false
set_option linter.unusedSimpArgs false

def orL (R : List Nat) (l : List Nat) : Nat := l.foldl (fun r n => r ||| R.getD n 0) 0
theorem orL_snoc (R l : List Nat) (n : Nat) : orL R (l ++ [n]) = orL R l ||| R.getD n 0 := by simp [orL]
theorem ruleD_lt {R : List Nat} (hR : ∀ r ∈ R, r < 4294967296) (n : Nat) : R.getD n 0 < 4294967296 := by
  rw [List.getD_eq_getElem?_getD]
  by_cases h : n < R.length
  · rw [List.getElem?_eq_getElem h]
    exact hR _ (List.getElem_mem h)
  · rw [List.getElem?_eq_none (Nat.le_of_not_lt h)]
    decide
theorem or_lt32 {a b : Nat} (ha : a < 4294967296) (hb : b < 4294967296) : a ||| b < 4294967296 := Nat.or_lt_two_pow (n := 32) ha hb
theorem orL_lt {R : List Nat} (hR : ∀ r ∈ R, r < 4294967296) (l : List Nat) : orL R l < 4294967296 := by
  have key : ∀ (l : List Nat) (r : Nat), r < 4294967296 → l.foldl (fun r n => r ||| R.getD n 0) r < 4294967296 := by
    intro l
    induction l with
    | nil => intro r h; exact h
    | cons n l ih => intro r h; exact ih _ (or_lt32 h (ruleD_lt hR n))
  exact key l 0 (by decide)
theorem bits_low {x y n : Nat} (h : ∀ i, i < n → x.testBit i = y.testBit i) : bitsTo x n = bitsTo y n := by
  induction n with
  | zero => rfl
  | succ n ih => rw [bitsTo_succ, bitsTo_succ, ih fun i hi => h i (by omega), h n (by omega)]
theorem bits_add {y t N : Nat} (ht : t < N) (hy : y.testBit t = false) : (bitsTo (y ||| 2 ^ t) N).length = (bitsTo y N).length + 1 := by
  induction N with
  | zero => omega
  | succ N ih =>
    rw [bitsTo_succ, bitsTo_succ, testBit_or_pow]
    by_cases e : t = N
    · subst e
      rw [hy, bits_low (x := y ||| 2 ^ t) (y := y) (n := t) (fun i hi => by rw [testBit_or_pow]; have : ¬ t = i := by omega
                                                                            simp [this])]
      simp
    · have := ih (by omega)
      simp only [e, decide_false, Bool.or_false]
      split
      · simp [this]
      · exact this
def encB (b : Bool) : Array Value := #[.bool b]
theorem encB_size (b : Bool) : (encB b).size = 1 := rfl
def boolsN (x N : Nat) : List Bool := (List.range N).map x.testBit
theorem boolsN_length (x N : Nat) : (boolsN x N).length = N := by simp [boolsN]
theorem boolsN_get (x N i : Nat) (h : i < (boolsN x N).length) : (boolsN x N)[i] = x.testBit i := by simp [boolsN]
theorem boolsN_zero (N : Nat) : boolsN 0 N = List.replicate N false := by
  apply List.ext_getElem
  · simp [boolsN]
  · intro i h1 h2
    simp [boolsN]
theorem boolsN_set (x N q : Nat) : (boolsN x N).set q true = boolsN (x ||| 2 ^ q) N := by
  apply List.ext_getElem
  · simp [boolsN]
  · intro i h1 h2
    rw [List.getElem_set, boolsN_get, boolsN_get, testBit_or_pow]
    by_cases e : q = i
    · simp [e]
    · simp [e]
theorem info_bool3 : (Tryd.prog.info? 4).map (fun i => (i.zero, i.size, i.bytes)) = some (some (.bool false), 1, 1) := by kernel_rfl
/-- a store of one cell into a row of the call's own -/
theorem wl_store_one {α : Type} {enc : α → Array Value} {base : Nat} {e : TypeId} {w : World} {ys : List α} {ops : Array Oper} {rest : List Oper} {o : Oper} {a : Act} {Q : Exit → Act → World → Prop} (hsE : ∀ y, (enc y).size = 1) (hgd : o.guard = none) (t : TypeId) (hsz : (Tryd.prog.info? t).map (·.size) = some 1) (x y : Operand) (ho : o.op = .store t x y)
    (g k n cap : Nat) (hx : a.eval x = .pointer (some ⟨g, k, none⟩)) (z : α) (hy : (enc z).toList = [a.eval y]) (hyc : (a.eval y).cells = #[a.eval y]) (hy1 : (a.eval y).oneCell' = true) (hown : Own w base e 1 enc (.slice (some ⟨g, 0, none⟩) n cap) ys) (hk : k < ys.length)
    (h : ∀ w', Own w' base e 1 enc (.slice (some ⟨g, 0, none⟩) n cap) (ys.set k z) → w.grownBy w' (some g) → wpList Tryd.prog ops Q rest (a.put o.dst undef) w') : wpList Tryd.prog ops Q (o :: rest) a w := by
  have hcell : ∃ u, w.cell? ⟨g, k, none⟩ = some u ∧ (enc ys[k]).toList = [u] := by
    have h0 : 0 < (enc ys[k]).size := by rw [hsE]; decide
    have := hown.row hsE k hk 0 _ (Array.getElem?_eq_getElem h0)
    rw [Nat.mul_one] at this
    refine ⟨_, this, ?_⟩
    apply List.ext_getElem
    · simp [hsE]
    · intro i h1 h2
      have : i = 0 := by simpa using h2
      subst this
      simp
  obtain ⟨u, hcell, hu⟩ := hcell
  have hfr := hown.frozen k
  obtain ⟨v, hv⟩ : ∃ v, a.eval y = v := ⟨_, rfl⟩
  rw [hv] at hy hyc hy1
  have hrun : (storeVar t ⟨g, k, none⟩ v).run Tryd.prog w = .ok () (w.setCell ⟨g, k, none⟩ v) := by
    cases hq : Tryd.prog.info? t with
    | none => rw [hq] at hsz; cases hsz
    | some j =>
      have hs : j.size = 1 := by rw [hq] at hsz; simpa using hsz
      have e := run_store Tryd.prog w ⟨g, k, none⟩ v .plain hy1
      simp only [hcell, hfr, Bool.false_eq_true, if_false] at e
      have e0 : (⟨g, k, none⟩ : Addr).add 0 = ⟨g, k, none⟩ := rfl
      simp [storeVar, sizeOf, typeInfo, hq, hs, hyc, storeCells, e0, e]
  refine wpList_plain hgd fun _ hK => ?_
  unfold Oper.wp execOp
  simp only [ho, hx, hv, Instr.storeAt, Instr.sureAddr, Sem.run_bind, Sem.run_pure, Result.andThen_ok, hrun]
  have o1 := hown.setCell (i := k) (q := 0) (y' := z) (u := v) hsE hk (by decide) (by rw [hu, hy]; rfl)
  rw [Nat.mul_one, Nat.add_zero] at o1
  exact hK _ _ (h _ o1 (only_setCell (only_refl _ _) (.inl rfl) _))
/-- the machine that a caller handed in, in memory that stays -/
structure RMach (B0 : Nat) (W : World) (N : Nat) (E : List Edg) (R : List Nat) (A : Option Addr) (n : Nat) (B : Option Addr) (m : Nat) : Prop where
  fits : Fits N E R
  nE : n = E.length
  mR : m = N
  lE : E.length ≤ 1099511627776
  lN : N ≤ 1099511627776
  lt : ∀ r ∈ R, r < 4294967296
  edges : SliceOf W B0 7 edgC A E
  rules : SliceOf W B0 1 encR B R
  low : B0 ≤ W.heap.size
theorem RMach.then_ {B0 N n m : Nat} {W W' : World} {E : List Edg} {R : List Nat} {A B : Option Addr} (h : RMach B0 W N E R A n B m) (hb : Below W.heap.size W W') : RMach B0 W' N E R A n B m :=
  ⟨h.fits, h.nE, h.mR, h.lE, h.lN, h.lt, h.edges.keep (fun k hk => hb.block k (Nat.lt_of_lt_of_le hk h.low)), h.rules.keep (fun k hk => hb.block k (Nat.lt_of_lt_of_le hk h.low)), Nat.le_trans h.low hb.size⟩
theorem RMach.grown {B0 N n m r : Nat} {W W' : World} {E : List Edg} {R : List Nat} {A B : Option Addr} (h : RMach B0 W N E R A n B m) (hg : W.grownBy W' (some r)) (hr : B0 ≤ r) : RMach B0 W' N E R A n B m :=
  ⟨h.fits, h.nE, h.mR, h.lE, h.lN, h.lt, h.edges.keep (fun k hk => hg.block k (Nat.lt_of_lt_of_le hk h.low) (by simp; omega)), h.rules.keep (fun k hk => hg.block k (Nat.lt_of_lt_of_le hk h.low) (by simp; omega)), Nat.le_trans h.low hg.size⟩
section
variable {w : World} {ops : Array Oper} {rest : List Oper} {o : Oper} {a : Act} {Q : Exit → Act → World → Prop}
theorem wl_makeB (hgd : o.guard = none) (x y : Operand) (ho : o.op = .makeSlice 68 x y) (N base : Nat) (hx : a.eval x = .int .i64 N) (hy : a.eval y = .int .i64 N) (hN : N ≤ 1099511627776) (hb : base ≤ w.heap.size)
    (h : ∀ w', Own w' base 4 1 encB (.slice (some ⟨w.heap.size, 0, none⟩) N N) (boolsN 0 N) → Below w.heap.size w w' → wpList Tryd.prog ops Q rest (a.put o.dst (.slice (some ⟨w.heap.size, 0, none⟩) N N)) w') : wpList Tryd.prog ops Q (o :: rest) a w := by
  obtain ⟨i0, hi0, hz0, hz1, hz2⟩ := info_parts info_bool3
  refine wpList_make_full w hgd x y _ ho base 4 i0 _ 1 Tryd.underlying68 hi0 hz0 hz1 _ _ _ _ N hx hy rfl rfl (by rw [hz2]; omega) (by unfold maxLen; omega) hb fun w' r1 r2 => ?_
  have e1 : (madeCells (Value.bool false).cells (N * 1)).toList = flat encB (boolsN 0 N) := by
    rw [boolsN_zero]
    apply List.ext_getElem
    · rw [Array.length_toList, size_madeCells]
      simp [flat, encB]
    · intro j h1 h2
      simp [madeCells, Value.cells, flat, encB, List.flatMap_replicate]
      rw [Nat.mod_one]
      rfl
  rw [e1] at r1
  refine h w' ?_ ⟨r2.os, r2.tape, r2.output, r2.size, fun k hk => r2.block k hk (by simp)⟩
  unfold Own
  rw [boolsN_length]
  exact r1
end
theorem info_bool1 : (Tryd.prog.info? 4).map (·.size) = some 1 := by kernel_rfl
end Go.Proofs.YtkedgombccdamaaDoor
namespace Go.Proofs.YtkedgombccdamaaDoor
open Go.RowKit Go.Shelf Go.Maps
set_option linter.unusedVariables false
set_option linter.unusedSimpArgs false
attribute [local go_sem] Oper.semAt_some

theorem own_turn {α : Type} {enc : α → Array Value} {size base lo hi b n c : Nat} {e : TypeId} {w w' : World} {ys : List α} (h : Own w base e size enc (.slice (some ⟨b, 0, none⟩) n c) ys) (k : Turn lo hi w w') (hb : b < lo ∨ hi ≤ b) : Own w' base e size enc (.slice (some ⟨b, 0, none⟩) n c) ys :=
  own_block h fun g hg => by
    have : b = g := by simpa [Value.ownBlock] using hg
    subst this
    exact k.block b (h.lt b rfl).2 hb
theorem RMach.turn {B0 N n m lo hi : Nat} {W W' : World} {E : List Edg} {R : List Nat} {A B : Option Addr} (h : RMach B0 W N E R A n B m) (k : Turn lo hi W W') (hl : B0 ≤ lo) : RMach B0 W' N E R A n B m :=
  ⟨h.fits, h.nE, h.mR, h.lE, h.lN, h.lt, h.edges.keep (fun j hj => k.block j (Nat.lt_of_lt_of_le hj h.low) (by omega)), h.rules.keep (fun j hj => k.block j (Nat.lt_of_lt_of_le hj h.low) (by omega)), Nat.le_trans h.low k.size⟩
end Go.Proofs.YtkedgombccdamaaDoor
namespace Go.Proofs.YtkedgombccdamaaDoor
set_option linter.unusedVariables false
set_option linter.unusedSimpArgs false

namespace Mt
/-- the states at place k of the line, ahead of the free moves -/
noncomputable def mpre (E : List Edg) (N : Nat) (q : ByteArray) : Nat → Nat
  | 0 => 1
  | k + 1 => byteN E N (spreadN E N (decide (k = 0)) (decide (k = q.size)) (mpre E N q k)) (Ere.chr q k)
noncomputable def mx (E : List Edg) (N : Nat) (q : ByteArray) (k : Nat) : Nat := spreadN E N (decide (k = 0)) (decide (k = q.size)) (mpre E N q k)
theorem mpre_below {E : List Edg} {N : Nat} (hN : 1 ≤ N) (q : ByteArray) : ∀ k, below (mpre E N q k) N
  | 0 => below_pow (n := 0) hN
  | k + 1 => byte_below _ _ _ _
theorem mpre_zero {E : List Edg} {N : Nat} (hN : 1 ≤ N) (q : ByteArray) : ∀ k, (mpre E N q k).testBit 0 = true
  | 0 => by simp [mpre]
  | k + 1 => (byte_bit _ _ _ _ _).2 ⟨hN, .inl rfl⟩
/-- the rules that are met at the places ahead of k -/
noncomputable def mV (E : List Edg) (R : List Nat) (N : Nat) (q : ByteArray) : Nat → Nat
  | 0 => 0
  | k + 1 => mV E R N q k ||| metN R (mx E N q k) N
theorem mV_lt {E : List Edg} {R : List Nat} (hR : ∀ r ∈ R, r < 2 ^ 32) (N : Nat) (q : ByteArray) : ∀ k, mV E R N q k < 2 ^ 32
  | 0 => Nat.two_pow_pos 32
  | k + 1 => Nat.or_lt_two_pow (mV_lt hR N q k) (met_lt hR _ _)
theorem mV_bit (E : List Edg) (R : List Nat) (N : Nat) (q : ByteArray) (j : Nat) : ∀ k, (mV E R N q k).testBit j = true ↔ ∃ i s, i < k ∧ s < N ∧ (mx E N q i).testBit s = true ∧ (R.getD s 0).testBit j = true
  | 0 => by simp [mV]
  | k + 1 => by
    show ((mV E R N q k ||| metN R (mx E N q k) N).testBit j = true) ↔ _
    rw [Nat.testBit_or, Bool.or_eq_true, mV_bit E R N q j k, met_bit]
    constructor
    · rintro (⟨i, s, h1, h2⟩ | ⟨s, h2⟩)
      · exact ⟨i, s, by omega, h2⟩
      · exact ⟨k, s, by omega, h2⟩
    · rintro ⟨i, s, h1, h2⟩
      by_cases e : i = k
      · subst e; exact .inr ⟨s, h2⟩
      · exact .inl ⟨i, s, by omega, h2⟩
theorem mx_least {E : List Edg} {N : Nat} (hN : 1 ≤ N) (hE : ∀ d ∈ E, (0 ≤ d.fr ∧ d.fr < N) ∧ 0 ≤ d.tt ∧ d.tt < N) (q : ByteArray) (k s : Nat) (hk : k ≤ q.size) : (mx E N q k).testBit s = true ↔ Least q E s k := by
  have htt : ∀ d ∈ E, 0 ≤ d.tt ∧ d.tt < N := fun d hd => (hE d hd).2
  have hmx : ∀ k s, (mx E N q k).testBit s = true ↔ Reach E (decide (k = 0)) (decide (k = q.size)) (mpre E N q k) s := fun k s => spread_bit htt (mpre_below hN q k) s
  constructor
  · revert s
    induction k with
    | zero =>
      intro s h
      rw [hmx] at h
      intro L hL h0
      induction h with
      | @base n' h =>
        have e : n' = 0 := by
          have h2 : (2 ^ 0 : Nat).testBit n' = true := h
          rw [Nat.testBit_two_pow, decide_eq_true_eq] at h2
          exact h2.symm
        rw [e]
        exact h0 0 (by omega)
      | @step d hd hm _ ih =>
        have hd2 := hL d hd
        simp only [may, Bool.or_eq_true, Bool.and_eq_true, beq_iff_eq, decide_eq_true_eq] at hm
        rcases hm with (h | h) | h
        · exact hd2.free h 0 (by omega) ih
        · exact hd2.begin_ h.2 ih
        · rw [h.1] at ih ⊢
          exact hd2.end_ h.2 ih
    | succ k ihk =>
      intro s h
      rw [hmx] at h
      intro L hL h0
      induction h with
      | base h =>
        rw [mpre, byte_bit] at h
        rcases h.2 with rfl | ⟨d, hd, h1, h2, h3, h4⟩
        · exact h0 _ hk
        · rw [← h4]
          exact (hL d hd).byte h1 k (by omega) (ihk (by omega) _ h2 L hL h0) h3
      | @step d hd hm _ ih =>
        have hd2 := hL d hd
        simp only [may, Bool.or_eq_true, Bool.and_eq_true, beq_iff_eq, decide_eq_true_eq] at hm
        rcases hm with (h | h) | h
        · exact hd2.free h _ hk ih
        · exact absurd h.1 (by omega)
        · rw [h.1] at ih ⊢
          exact hd2.end_ h.2 ih
  · intro h
    have := h (fun s i => i ≤ q.size ∧ (mx E N q i).testBit s = true) (fun d hd => ?_) (fun i hi => ⟨hi, (hmx i 0).2 (.base (mpre_zero hN q i))⟩)
    · exact this.2
    · refine ⟨fun hk1 i hi h1 => ⟨hi, (hmx _ _).2 (.step hd (by simp [may, hk1]) ((hmx _ _).1 h1.2))⟩, fun hk2 i hi h1 hb => ⟨by omega, (hmx _ _).2 (.base ?_)⟩, fun hk3 h1 => ⟨Nat.zero_le _, (hmx _ _).2 (.step hd (by simp [may, hk3]) ((hmx _ _).1 h1.2))⟩, fun hk4 h1 => ⟨Nat.le_refl _, (hmx _ _).2 (.step hd (by simp [may, hk4]) ((hmx _ _).1 h1.2))⟩⟩
      rw [mpre, byte_bit]
      have hb2 := hE d hd
      exact ⟨by omega, .inr ⟨d, hd, hk2, h1.2, hb, rfl⟩⟩
/-- a rule is met just where one of its states is, at some place -/
theorem mV_least {E : List Edg} {R : List Nat} {N : Nat} (hN : 1 ≤ N) (hE : ∀ d ∈ E, (0 ≤ d.fr ∧ d.fr < N) ∧ 0 ≤ d.tt ∧ d.tt < N) (q : ByteArray) (j : Nat) : (mV E R N q (q.size + 1)).testBit j = true ↔ ∃ i s, i ≤ q.size ∧ s < N ∧ Least q E s i ∧ (R.getD s 0).testBit j = true := by
  rw [mV_bit]
  constructor
  · rintro ⟨i, s, h1, h2, h3, h4⟩
    exact ⟨i, s, by omega, h2, (mx_least hN hE q i s (by omega)).1 h3, h4⟩
  · rintro ⟨i, s, h1, h2, h3, h4⟩
    exact ⟨i, s, by omega, h2, (mx_least hN hE q i s h1).2 h3, h4⟩
end Mt
end Go.Proofs.YtkedgombccdamaaDoor
namespace Go.Proofs.YtkedgombccdamaaDoor
open Go.RowKit Go.Shelf Go.Maps
set_option linter.unusedVariables false
set_option linter.unusedSimpArgs false
attribute [local go_sem] Oper.semAt_some

theorem own_grown' {α : Type} {enc : α → Array Value} {size base b r n c : Nat} {e : TypeId} {w w' : World} {ys : List α} (h : Own w base e size enc (.slice (some ⟨b, 0, none⟩) n c) ys) (k : w.grownBy w' (some r)) (hb : b ≠ r) : Own w' base e size enc (.slice (some ⟨b, 0, none⟩) n c) ys :=
  own_block h fun g hg => by
    have : b = g := by simpa [Value.ownBlock] using hg
    subst this
    exact k.block b (h.lt b rfl).2 (by simp; exact hb)
end Go.Proofs.YtkedgombccdamaaDoor
namespace Go.Proofs.YtkedgombccdamaaDoor
open Go.RowKit Go.Shelf Go.Maps
set_option linter.unusedVariables false
set_option linter.unusedSimpArgs false
attribute [local go_sem] Oper.semAt_some

theorem own_bits {w : World} {base g N c x : Nat} (h : Own w base 4 1 encB (.slice (some ⟨g, 0, none⟩) N c) (boolsN x N)) : ∀ j, j < N → w.cell? ⟨g, j, none⟩ = some (.bool (x.testBit j)) := fun j hj => by
  have hl : j < (boolsN x N).length := by rw [boolsN_length]; exact hj
  have := h.row encB_size j hl 0 _ rfl
  rw [boolsN_get, Nat.mul_one] at this
  exact this
end Go.Proofs.YtkedgombccdamaaDoor
namespace Go.Proofs.YtkedgombccdamaaDoor
set_option linter.unusedVariables false
set_option linter.unusedSimpArgs false

namespace Mt
/-- the places that a relation leads to from a set of places -/
noncomputable def im (n : Nat) (T : Rel) (x : Nat) : Nat := ofPred (fun j => ∃ i, x.testBit i = true ∧ T i j) (n + 1)
theorem im_below (n : Nat) (T : Rel) (x : Nat) : below (im n T x) (n + 1) := fun i hi => ((ofPred_bit _ _ i).1 hi).1
theorem im_bit {n : Nat} {T : Rel} {x : Nat} (hT : InR n T) (hx : below x (n + 1)) (j : Nat) : (im n T x).testBit j = true ↔ ∃ i, x.testBit i = true ∧ T i j := by
  unfold im
  rw [ofPred_bit]
  refine ⟨fun h => h.2, fun h => ⟨?_, h⟩⟩
  obtain ⟨i, h1, h2⟩ := h
  have := hT i j (by have := hx i h1; omega) h2
  omega
theorem im_ext {n : Nat} {T : Rel} {x y : Nat} (hT : InR n T) (hx : below x (n + 1)) (h : ∀ j, y.testBit j = true ↔ ∃ i, x.testBit i = true ∧ T i j) : y = im n T x := by
  apply bits_ext
  intro j
  rw [im_bit hT hx, h]
theorem inR_id (n : Nat) : InR n (fun i j => i = j) := fun i j h e => by simp only at e; omega
theorem inR_comp {n : Nat} {A B : Rel} (hA : InR n A) (hB : InR n B) : InR n (rcomp A B) := fun i j hi ⟨k, h1, h2⟩ => hB k j (hA i k hi h1) h2
theorem inR_riter {n : Nat} {T : Rel} (hT : InR n T) : ∀ k, InR n (riter T k)
  | 0 => inR_id n
  | k + 1 => inR_comp (inR_riter hT k) hT
theorem im_id {n x : Nat} (hx : below x (n + 1)) : im n (fun i j => i = j) x = x := (im_ext (inR_id n) hx (fun j => ⟨fun h => ⟨j, h, rfl⟩, fun ⟨i, h, e⟩ => by rw [← e]; exact h⟩)).symm
theorem im_comp {n : Nat} {A B : Rel} {x : Nat} (hA : InR n A) (hB : InR n B) (hx : below x (n + 1)) : im n B (im n A x) = im n (rcomp A B) x := by
  refine im_ext (inR_comp hA hB) hx fun j => ?_
  rw [im_bit hB (im_below _ _ _)]
  constructor
  · rintro ⟨k, h1, h2⟩
    obtain ⟨i, h3, h4⟩ := (im_bit hA hx k).1 h1
    exact ⟨i, h3, k, h4, h2⟩
  · rintro ⟨i, h3, k, h4, h2⟩
    exact ⟨k, (im_bit hA hx k).2 ⟨i, h3, h4⟩, h2⟩
theorem tk_in (q : ByteArray) {nd : Nd} (hT : nd.isT = true) : InR q.size (tk q nd) := by
  obtain ⟨new, g⟩ := lay_ok (q := q) nd hT ⟨1, []⟩ 0 (by show 0 < 1; omega)
  exact g.rg _ (List.mem_singleton.2 rfl)
theorem tkS_in (q : ByteArray) : ∀ l : List Nd, (∀ x ∈ l, x.isT = true) → InR q.size (tkS q l)
  | [], _ => by
    have : tkS q [] = fun i j => i = j := by unfold tkS; rfl
    rw [this]; exact inR_id _
  | x :: l, h => by
    simp only [tkS]
    exact inR_comp (tk_in q (h x (by simp))) (tkS_in q l fun y hy => h y (by simp [hy]))
theorem tkS_snoc (q : ByteArray) (x : Nd) : ∀ l : List Nd, ∀ i j, tkS q (l ++ [x]) i j ↔ rcomp (tkS q l) (tk q x) i j
  | [], i, j => by simp [tkS, rcomp]
  | y :: l, i, j => by
    simp only [List.cons_append, tkS]
    constructor
    · rintro ⟨k, h1, h2⟩
      obtain ⟨m, h3, h4⟩ := (tkS_snoc q x l k j).1 h2
      exact ⟨m, ⟨k, h1, h3⟩, h4⟩
    · rintro ⟨m, ⟨k, h1, h3⟩, h4⟩
      exact ⟨k, h1, (tkS_snoc q x l k j).2 ⟨m, h3, h4⟩⟩
/-- a row, one tree further -/
theorem im_row (q : ByteArray) (l : List Nd) (hl : ∀ x ∈ l, x.isT = true) (k : Nat) (hk : k < l.length) {x : Nat} (hx : below x (q.size + 1)) : im q.size (tk q l[k]) (im q.size (tkS q (l.take k)) x) = im q.size (tkS q (l.take (k + 1))) x := by
  rw [im_comp (tkS_in q _ fun y hy => hl y (List.mem_of_mem_take hy)) (tk_in q (hl _ (List.getElem_mem hk))) hx, List.take_succ_eq_append_getElem hk]
  congr 1
  funext i j
  exact propext (tkS_snoc q _ _ i j).symm
theorem tkA_snoc (q : ByteArray) (x : Nd) : ∀ l : List Nd, ∀ i j, tkA q (l ++ [x]) i j ↔ tkA q l i j ∨ tk q x i j
  | [], i, j => by simp [tkA]
  | y :: l, i, j => by
    simp only [List.cons_append, tkA, tkA_snoc q x l i j, or_assoc]
theorem tkA_in (q : ByteArray) : ∀ l : List Nd, (∀ x ∈ l, x.isT = true) → InR q.size (tkA q l)
  | [], _ => fun i j _ h => by simp [tkA] at h
  | x :: l, h => fun i j hi hT => by
    simp only [tkA] at hT
    rcases hT with hT | hT
    · exact tk_in q (h x (by simp)) i j hi hT
    · exact tkA_in q l (fun y hy => h y (by simp [hy])) i j hi hT
/-- ways beside each other, one tree further -/
theorem im_alt (q : ByteArray) (l : List Nd) (hl : ∀ x ∈ l, x.isT = true) (k : Nat) (hk : k < l.length) {x : Nat} (hx : below x (q.size + 1)) : im q.size (tkA q (l.take k)) x ||| im q.size (tk q l[k]) x = im q.size (tkA q (l.take (k + 1))) x := by
  refine im_ext (tkA_in q _ fun y hy => hl y (List.mem_of_mem_take hy)) hx fun j => ?_
  rw [Nat.testBit_or, Bool.or_eq_true, im_bit (tkA_in q _ fun y hy => hl y (List.mem_of_mem_take hy)) hx, im_bit (tk_in q (hl _ (List.getElem_mem hk))) hx, List.take_succ_eq_append_getElem hk]
  constructor
  · rintro (⟨i, h1, h2⟩ | ⟨i, h1, h2⟩)
    · exact ⟨i, h1, (tkA_snoc q _ _ i j).2 (.inl h2)⟩
    · exact ⟨i, h1, (tkA_snoc q _ _ i j).2 (.inr h2)⟩
  · rintro ⟨i, h1, h2⟩
    rcases (tkA_snoc q _ _ i j).1 h2 with h2 | h2
    · exact .inl ⟨i, h1, h2⟩
    · exact .inr ⟨i, h1, h2⟩
/-- what the times from a to b lead to -/
def span (T : Rel) (a b : Nat) : Rel := fun i j => ∃ k, a ≤ k ∧ k ≤ b ∧ riter T k i j
theorem span_in {n : Nat} {T : Rel} (hT : InR n T) (a b : Nat) : InR n (span T a b) := fun i j hi ⟨k, _, _, h⟩ => inR_riter hT k i j hi h
theorem im_span_one {n : Nat} {T : Rel} (a x : Nat) : im n (span T a a) x = im n (riter T a) x := by
  congr 1
  funext i j
  apply propext
  constructor
  · rintro ⟨k, h1, h2, h3⟩
    obtain rfl : k = a := by omega
    exact h3
  · intro h
    exact ⟨a, Nat.le_refl _, Nat.le_refl _, h⟩
theorem im_span {n : Nat} {T : Rel} (hT : InR n T) {a b x : Nat} (hab : a ≤ b) (hx : below x (n + 1)) : im n (span T a b) x ||| im n (riter T (b + 1)) x = im n (span T a (b + 1)) x := by
  refine im_ext (span_in hT _ _) hx fun j => ?_
  rw [Nat.testBit_or, Bool.or_eq_true, im_bit (span_in hT _ _) hx, im_bit (inR_riter hT _) hx]
  constructor
  · rintro (⟨i, h1, k, h2, h3, h4⟩ | ⟨i, h1, h2⟩)
    · exact ⟨i, h1, k, h2, by omega, h4⟩
    · exact ⟨i, h1, b + 1, by omega, Nat.le_refl _, h2⟩
  · rintro ⟨i, h1, k, h2, h3, h4⟩
    by_cases e : k = b + 1
    · subst e; exact .inr ⟨i, h1, h4⟩
    · exact .inl ⟨i, h1, k, h2, by omega, h4⟩
/-- where one time more adds nothing, no more times add anything -/
theorem im_full {n : Nat} {T : Rel} (hT : InR n T) {a b x : Nat} (hab : a ≤ b) (hx : below x (n + 1)) (h : im n (span T a b) x ||| im n (riter T (b + 1)) x = im n (span T a b) x) : ∀ d, im n (span T a (b + d)) x = im n (span T a b) x := by
  have hc : ∀ k, a ≤ k → ∀ j, (im n (riter T k) x).testBit j = true → (im n (span T a b) x).testBit j = true := by
    intro k hk
    induction k with
    | zero =>
      intro j hj
      obtain ⟨i, h1, h2⟩ := (im_bit (inR_riter hT _) hx j).1 hj
      exact (im_bit (span_in hT _ _) hx j).2 ⟨i, h1, 0, hk, by omega, h2⟩
    | succ k ih =>
      intro j hj
      by_cases e : k + 1 ≤ b
      · obtain ⟨i, h1, h2⟩ := (im_bit (inR_riter hT _) hx j).1 hj
        exact (im_bit (span_in hT _ _) hx j).2 ⟨i, h1, k + 1, hk, e, h2⟩
      · obtain ⟨i, h1, m, h2, h3⟩ := (im_bit (inR_riter hT _) hx j).1 hj
        have h4 := ih (by omega) m ((im_bit (inR_riter hT _) hx m).2 ⟨i, h1, h2⟩)
        obtain ⟨i', h5, k', h6, h7, h8⟩ := (im_bit (span_in hT _ _) hx m).1 h4
        by_cases e2 : k' = b
        · subst e2
          have h9 : (im n (riter T (k' + 1)) x).testBit j = true := (im_bit (inR_riter hT _) hx j).2 ⟨i', h5, m, h8, h3⟩
          rw [← h, Nat.testBit_or, h9, Bool.or_true]
        · exact (im_bit (span_in hT _ _) hx j).2 ⟨i', h5, k' + 1, by omega, by omega, m, h8, h3⟩
  intro d
  apply bits_ext
  intro j
  rw [im_bit (span_in hT _ _) hx]
  constructor
  · rintro ⟨i, h1, k, h2, h3, h4⟩
    exact hc k h2 j ((im_bit (inR_riter hT _) hx j).2 ⟨i, h1, h4⟩)
  · intro hj
    obtain ⟨i, h1, k, h2, h3, h4⟩ := (im_bit (span_in hT _ _) hx j).1 hj
    exact ⟨i, h1, k, h2, by omega, h4⟩
end Mt
end Go.Proofs.YtkedgombccdamaaDoor
namespace Go.Proofs.YtkedgombccdamaaDoor
open Go.RowKit Go.Shelf Go.Maps
set_option linter.unusedVariables false
set_option linter.unusedSimpArgs false
attribute [local go_sem] Oper.semAt_some

theorem im_congr {n : Nat} {T U : Mt.Rel} (x : Nat) (h : ∀ i j, T i j ↔ U i j) : Mt.im n T x = Mt.im n U x := by
  congr 1
  funext i j
  exact propext (h i j)
theorem tkA_nil (q : ByteArray) (n x : Nat) : Mt.im n (Mt.tkA q []) x = 0 := by
  apply bits_ext
  intro j
  unfold Mt.im
  rw [Nat.zero_testBit, ofPred_bit]
  constructor
  · rintro ⟨_, i, _, h⟩
    simp [Mt.tkA] at h
  · intro h
    cases h
theorem boolsN_put (N k : Nat) (b : Bool) : (boolsN 0 N).set k b = boolsN (if b = true then 2 ^ k else 0) N := by
  cases b with
  | true => rw [boolsN_set, Nat.zero_or]; rfl
  | false =>
    apply List.ext_getElem
    · simp [boolsN]
    · intro i h1 h2
      simp [List.getElem_set, boolsN]
theorem im_edge_begin {q : ByteArray} {x : Nat} (hx : below x (q.size + 1)) : Mt.im q.size (Mt.edgeT q 3 0) x = if x.testBit 0 = true then 2 ^ 0 else 0 := by
  refine (Mt.im_ext (Mt.edgeT_in q 3 0) hx fun j => ?_).symm
  unfold Mt.edgeT
  by_cases h : x.testBit 0 = true
  · rw [if_pos h, Nat.testBit_two_pow, decide_eq_true_eq]
    constructor
    · rintro rfl
      exact ⟨0, h, .inr (.inr (.inl ⟨rfl, rfl, rfl⟩))⟩
    · rintro ⟨i, _, h2⟩
      omega
  · rw [if_neg h, Nat.zero_testBit]
    constructor
    · intro h; cases h
    · rintro ⟨i, h1, h2⟩
      obtain rfl : i = 0 := by omega
      exact absurd h1 h
theorem im_edge_end {q : ByteArray} {x : Nat} (hx : below x (q.size + 1)) : Mt.im q.size (Mt.edgeT q 4 0) x = if x.testBit q.size = true then 2 ^ q.size else 0 := by
  refine (Mt.im_ext (Mt.edgeT_in q 4 0) hx fun j => ?_).symm
  unfold Mt.edgeT
  by_cases h : x.testBit q.size = true
  · rw [if_pos h, Nat.testBit_two_pow, decide_eq_true_eq]
    constructor
    · rintro rfl
      exact ⟨q.size, h, .inr (.inr (.inr ⟨rfl, rfl, rfl⟩))⟩
    · rintro ⟨i, _, h2⟩
      omega
  · rw [if_neg h, Nat.zero_testBit]
    constructor
    · intro h; cases h
    · rintro ⟨i, h1, h2⟩
      obtain rfl : i = q.size := by omega
      exact absurd h1 h
end Go.Proofs.YtkedgombccdamaaDoor
namespace Go.Proofs.YtkedgombccdamaaDoor
set_option linter.unusedVariables false
set_option linter.unusedSimpArgs false

namespace Mt
theorem meets_plain {q : ByteArray} {nd : Nd} (hT : nd.isT = true) (rule : Nat) (hE : ∀ d ∈ (layF nd).1.e, (0 ≤ d.fr ∧ d.fr < (layF nd).1.s) ∧ 0 ≤ d.tt ∧ d.tt < (layF nd).1.s) (V : Bool) (hV : V = true ↔ ∃ i j, i ≤ q.size ∧ tk q nd i j) :
    mV (layF nd).1.e ((List.replicate (layF nd).1.s 0).set (layF nd).2 (2 ^ rule)) (layF nd).1.s q (q.size + 1) = if V = true then 2 ^ rule else 0 := by
  obtain ⟨hs, _, hend⟩ := layF_good hT
  apply bits_ext
  intro b
  rw [mV_least (by omega) hE]
  have hget : ∀ s, s < (layF nd).1.s → (((List.replicate (layF nd).1.s 0).set (layF nd).2 (2 ^ rule)).getD s 0).testBit b = (decide (s = (layF nd).2) && decide (b = rule)) := fun s hs' => by
    rw [List.getD_eq_getElem?_getD, List.getElem?_eq_getElem (by simpa using hs'), Option.getD_some, List.getElem_set]
    by_cases e : (layF nd).2 = s
    · rw [if_pos e, Nat.testBit_two_pow]
      simp [e.symm, eq_comm]
    · rw [if_neg e]
      simp [Ne.symm e]
  constructor
  · rintro ⟨i, s, h1, h2, h3, h4⟩
    rw [hget s h2, Bool.and_eq_true, decide_eq_true_eq, decide_eq_true_eq] at h4
    obtain ⟨rfl, rfl⟩ := h4
    obtain ⟨i', h5, h6⟩ := (layF_least hT i).1 h3
    rw [if_pos (hV.2 ⟨i', i, h5, h6⟩), Nat.testBit_two_pow]
    simp
  · intro h
    by_cases hv : V = true
    · rw [if_pos hv, Nat.testBit_two_pow, decide_eq_true_eq] at h
      obtain ⟨i, j, h1, h2⟩ := hV.1 hv
      have hj := tk_in q hT i j h1 h2
      exact ⟨j, (layF nd).2, hj, hend, (layF_least hT j).2 ⟨i, h1, h2⟩, by rw [hget _ hend]; simp [h]⟩
    · rw [if_neg hv] at h
      simp at h
end Mt
end Go.Proofs.YtkedgombccdamaaDoor
namespace Go.Proofs.YtkedgombccdamaaDoor
set_option linter.unusedVariables false
set_option linter.unusedSimpArgs false

namespace Mt
/-- an edge between two numbers of states, of a kind that there is -/
def EgN (e : Edg) : Prop := 0 ≤ e.fr ∧ 0 ≤ e.tt ∧ 1 ≤ e.kd ∧ e.kd ≤ 4 ∧ (e.kd ≠ 2 → e.st = 0)
def AllN (m : Ly) : Prop := ∀ e ∈ m.e, EgN e
def KeepsN (f : LayF) : Prop := ∀ m a, AllN m → AllN (f m a).1
theorem AllN.edge {m : Ly} (h : AllN m) (kd : Int) (fr tt : Nat) (st : BSet) (h1 : 1 ≤ kd) (h2 : kd ≤ 4) (h3 : kd ≠ 2 → st = 0) : AllN (m.edge kd fr tt st) := by
  intro e he
  rcases List.mem_append.1 he with he | he
  · exact h e he
  · rw [List.mem_singleton] at he
    subst he
    exact ⟨by simp, by simp, h1, h2, h3⟩
theorem AllN.free {m : Ly} (h : AllN m) (fr tt : Nat) : AllN (m.free fr tt) := h.edge 1 fr tt 0 (by omega) (by omega) (fun _ => rfl)
theorem AllN.new {m : Ly} (h : AllN m) : AllN m.new := h
theorem AllN.frees (z : Nat) : ∀ (l : List Nat) (m : Ly), AllN m → AllN (m.frees z l)
  | [], m, h => h
  | x :: l, m, h => AllN.frees z l (m.free x z) (h.free x z)
theorem AllN.joined {m : Ly} (h : AllN m) (l : List Nat) : AllN (m.joined l).1 := AllN.frees _ l _ h.new
theorem KeepsN.reps {f : LayF} (h : KeepsN f) (r : Ly × Nat) (hr : AllN r.1) : ∀ n, AllN (reps f n r).1
  | 0 => hr
  | n + 1 => h _ _ (h.reps r hr n)
theorem KeepsN.opts {f : LayF} (h : KeepsN f) (r : (Ly × Nat) × List Nat) (hr : AllN r.1.1) : ∀ n, AllN (opts f n r).1.1
  | 0 => hr
  | n + 1 => h _ _ (h.opts r hr n)
theorem KeepsN.times {f : LayF} (h : KeepsN f) (u : Nat) (mi ma : Int) : KeepsN (timesP f u mi ma) := by
  intro m a hm
  unfold timesP
  split
  · exact hm
  split
  · exact ((h _ _ ((h.reps (m, a) hm _).new.free _ _)).free _ _).joined _
  split
  · exact (h.opts (_, _) (h.reps (m, a) hm _) _).joined _
  · exact h.reps (m, a) hm _
theorem row_keepsN : ∀ l : List Nd, (∀ x ∈ l, KeepsN x.lay) → ∀ r : Ly × Nat, AllN r.1 → AllN (Nd.row l r).1
  | [], _, r, hr => by simpa [Nd.row] using hr
  | x :: l, h, r, hr => by
    simp only [Nd.row]
    exact row_keepsN l (fun y hy => h y (by simp [hy])) _ (h x (by simp) _ _ hr)
theorem alt_keepsN : ∀ l : List Nd, (∀ x ∈ l, KeepsN x.lay) → ∀ (a : Nat) (r : Ly × List Nat), AllN r.1 → AllN (Nd.alt l a r).1
  | [], _, a, r, hr => by simpa [Nd.alt] using hr
  | x :: l, h, a, r, hr => by
    simp only [Nd.alt]
    exact alt_keepsN l (fun y hy => h y (by simp [hy])) a _ (h x (by simp) _ _ (hr.new.free _ _))
theorem lay_keepsN (nd : Nd) : KeepsN nd.lay := by
  induction nd using Nd.ind with
  | h kd st l mi ma ih =>
  intro m a hm
  simp only [Nd.lay]
  split
  · exact hm.new.edge 2 _ _ _ (by omega) (by omega) (fun h => absurd rfl h)
  split
  · exact hm.new.edge 3 _ _ _ (by omega) (by omega) (fun _ => rfl)
  split
  · exact hm.new.edge 4 _ _ _ (by omega) (by omega) (fun _ => rfl)
  split
  · exact row_keepsN l ih (m, a) hm
  split
  · exact (alt_keepsN l ih a (m, []) hm).joined _
  split
  · match l, ih with
    | [], _ => simpa [Nd.tim] using hm
    | x :: l, ih =>
      simp only [Nd.tim]
      exact (ih x (by simp)).times _ _ _ m a hm
  · exact hm
theorem layF_edges {nd : Nd} (hT : nd.isT = true) : ∀ d ∈ (layF nd).1.e, EgN d ∧ d.fr < (layF nd).1.s ∧ d.tt < (layF nd).1.s := by
  intro d hd
  have h1 : EgN d := lay_keepsN nd ⟨1, []⟩ 0 (fun e he => absurd he (by simp)) d hd
  obtain ⟨new, g⟩ := lay_ok (q := ⟨#[]⟩) nd hT ⟨1, []⟩ 0 (by show 0 < 1; omega)
  have he : (layF nd).1.e = new := by
    have := g.e
    simpa [layF] using this
  have hb := g.bnd d (by rw [← he]; exact hd)
  have hb1 : d.fr.toNat < (layF nd).1.s := hb.1
  have hb2 : d.tt.toNat < (layF nd).1.s := hb.2
  exact ⟨h1, by have := h1.1; omega, by have := h1.2.1; omega⟩
end Mt
end Go.Proofs.YtkedgombccdamaaDoor
namespace Go.Proofs.YtkedgombccdamaaDoor
open Go.RowKit Go.Maps
set_option linter.unusedVariables false
set_option linter.unusedSimpArgs false

namespace Mt
/-- the machine of a tree: how many states, which edges, which rules -/
def mN (nd : Nd) : Nat := (layF nd).1.s
def mE (nd : Nd) : List Edg := (layF nd).1.e
def mR (nd : Nd) (r : Nat) : List Nat := (List.replicate (layF nd).1.s 0).set (layF nd).2 (2 ^ r)
theorem mR_len (nd : Nd) (r : Nat) : (mR nd r).length = mN nd := by simp [mR, mN]
theorem m_fits {nd : Nd} (hT : nd.isT = true) (r : Nat) : Fits (mN nd) (mE nd) (mR nd r) := by
  obtain ⟨hs, _, hend⟩ := layF_good hT
  have he := layF_edges hT
  exact ⟨by unfold mN; omega, mR_len nd r, fun d hd => ⟨(he d hd).1.2.2.1, (he d hd).1.2.2.2.1⟩, fun d hd => ⟨(he d hd).1.1, (he d hd).2.1⟩, fun d hd => ⟨(he d hd).1.2.1, (he d hd).2.2⟩, fun d hd => (he d hd).1.2.2.2.2⟩
theorem mN_eq {nd : Nd} (hT : nd.isT = true) (hU : ¬ 2048 ≤ nd.U) : mN nd = placesN nd := by
  have h := (layF_good hT).1
  unfold mN placesN
  rw [if_pos hT, h]
  omega
theorem mR_lt {nd : Nd} {r : Nat} (hr : r < 32) : ∀ x ∈ mR nd r, x < 4294967296 := by
  intro x hx
  have hp : 2 ^ r < 2 ^ 32 := Nat.pow_lt_pow_right (by omega) hr
  rcases List.mem_or_eq_of_mem_set hx with h | h
  · have := (List.mem_replicate.1 h).2
    omega
  · omega
end Mt
end Go.Proofs.YtkedgombccdamaaDoor
namespace Go.Proofs.YtkedgombccdamaaDoor
set_option linter.unusedVariables false
set_option linter.unusedSimpArgs false

namespace Mt
/-- a machine that fits, of so many states -/
def FitsF (F : NF) (N : Nat) : Prop := F.s = (N : Int) ∧ Fits N F.E F.R
section
variable {F x : NF} {N M : Nat} {q : ByteArray}
theorem step_fits (hF : FitsF F N) (hx : FitsF x M) : FitsF (uStep F x) (N + M) := by
  obtain ⟨hs, f⟩ := hF
  obtain ⟨ht, g⟩ := hx
  have key : ∀ d ∈ (uStep F x).E, (1 ≤ d.kd ∧ d.kd ≤ 4) ∧ (0 ≤ d.fr ∧ d.fr < ((N + M : Nat) : Int)) ∧ (0 ≤ d.tt ∧ d.tt < ((N + M : Nat) : Int)) ∧ (d.kd ≠ 2 → d.st = 0) := by
    intro d hd
    unfold uStep at hd
    simp only [List.mem_append, List.mem_singleton, List.mem_map] at hd
    have hM := g.one
    have hN := f.one
    rcases hd with (hd | hd) | ⟨c, hc, hd⟩
    · have := f.fr d hd
      have := f.tt d hd
      exact ⟨f.kinds d hd, by omega, by omega, f.sets d hd⟩
    · subst hd
      exact ⟨by simp, by simp; omega, by simp only; omega, fun _ => rfl⟩
    · subst hd
      have := g.fr c hc
      have := g.tt c hc
      simp only [shiftE]
      exact ⟨g.kinds c hc, by omega, by omega, g.sets c hc⟩
  refine ⟨by show F.s + x.s = _; omega, ⟨by have := f.one; omega, ?_, fun d hd => (key d hd).1, fun d hd => (key d hd).2.1, fun d hd => (key d hd).2.2.1, fun d hd => (key d hd).2.2.2⟩⟩
  show (F.R ++ x.R).length = _
  rw [List.length_append, f.rules, g.rules]
theorem edge_shift {L L' : Lab} {d : Edg} {b : Int} (h : EdgeOk q L' d) (h1 : L (d.fr + b).toNat = L' d.fr.toNat) (h2 : L (d.tt + b).toNat = L' d.tt.toNat) : EdgeOk q L (shiftE b d) := by
  refine ⟨fun k => ?_, fun k => ?_, fun k => ?_, fun k => ?_⟩ <;> (simp only [shiftE] at k ⊢; rw [h1, h2])
  · exact h.free k
  · exact h.byte k
  · exact h.begin_ k
  · exact h.end_ k
theorem edge_unshift {L L' : Lab} {d : Edg} {b : Int} (h : EdgeOk q L (shiftE b d)) (h1 : L (d.fr + b).toNat = L' d.fr.toNat) (h2 : L (d.tt + b).toNat = L' d.tt.toNat) : EdgeOk q L' d := by
  refine ⟨fun k => ?_, fun k => ?_, fun k => ?_, fun k => ?_⟩ <;> rw [← h1, ← h2]
  · exact h.free k
  · exact h.byte k
  · exact h.begin_ k
  · exact h.end_ k
theorem step_least (hF : FitsF F N) (hx : FitsF x M) (s i : Nat) : Least q (uStep F x).E s i ↔ if s < N then Least q F.E s i else Least q x.E (s - N) i := by
  obtain ⟨hs, f⟩ := hF
  obtain ⟨ht, g⟩ := hx
  have hN := f.one
  constructor
  · intro h
    refine h (fun s i => if s < N then Least q F.E s i else Least q x.E (s - N) i) (fun e he => ?_) (fun i hi => ?_)
    · unfold uStep at he
      simp only [List.mem_append, List.mem_singleton, List.mem_map] at he
      rcases he with (he | he) | ⟨c, hc, he⟩
      · have h1 := f.fr e he
        have h2 := f.tt e he
        refine ((least_closed q F.E).1 e he).agree ?_ ?_
        · funext i
          rw [if_pos (by omega)]
        · funext i
          rw [if_pos (by omega)]
      · subst he
        refine ⟨fun _ i hi _ => ?_, fun k => ?_, fun k => ?_, fun k => ?_⟩
        · simp only [hs]
          rw [if_neg (by omega), show ((N : Int)).toNat - N = 0 by omega]
          exact (least_closed q x.E).2 i hi
        all_goals (simp at k)
      · subst he
        have h1 := g.fr c hc
        have h2 := g.tt c hc
        refine edge_shift ((least_closed q x.E).1 c hc) ?_ ?_
        · funext i
          rw [if_neg (by omega), show (c.fr + F.s).toNat - N = c.fr.toNat by omega]
        · funext i
          rw [if_neg (by omega), show (c.tt + F.s).toNat - N = c.tt.toNat by omega]
    · rw [if_pos (by omega)]
      exact (least_closed q F.E).2 i hi
  · intro h L hL h0
    by_cases hsN : s < N
    · rw [if_pos hsN] at h
      exact h L (fun e he => hL e (by unfold uStep; simp [he])) h0
    · rw [if_neg hsN] at h
      have := h (fun s i => L (s + N) i) (fun e he => ?_) (fun i hi => ?_)
      · rwa [show s - N + N = s by omega] at this
      · have h1 := g.fr e he
        have h2 := g.tt e he
        refine edge_unshift (b := F.s) (hL (shiftE F.s e) (by unfold uStep; simp only [List.mem_append, List.mem_map]; exact .inr ⟨e, he, rfl⟩)) ?_ ?_
        · funext i
          rw [show (e.fr + F.s).toNat = e.fr.toNat + N by omega]
        · funext i
          rw [show (e.tt + F.s).toNat = e.tt.toNat + N by omega]
      · have := (hL ⟨1, 0, F.s, 0⟩ (by unfold uStep; simp)).free rfl i hi (h0 i hi)
        simp only [hs] at this
        rwa [show ((N : Int)).toNat = 0 + N by omega] at this
theorem fits_bounds (hF : FitsF F N) : 1 ≤ N ∧ ∀ d ∈ F.E, (0 ≤ d.fr ∧ d.fr < N) ∧ 0 ≤ d.tt ∧ d.tt < N := ⟨hF.2.one, fun d hd => ⟨hF.2.fr d hd, hF.2.tt d hd⟩⟩
theorem step_met (hF : FitsF F N) (hx : FitsF x M) : mV (uStep F x).E (uStep F x).R (N + M) q (q.size + 1) = mV F.E F.R N q (q.size + 1) ||| mV x.E x.R M q (q.size + 1) := by
  have hu := fits_bounds (step_fits hF hx)
  have h1 := fits_bounds hF
  have h2 := fits_bounds hx
  have hR : ∀ s, (uStep F x).R.getD s 0 = if s < N then F.R.getD s 0 else x.R.getD (s - N) 0 := fun s => by
    show (F.R ++ x.R).getD s 0 = _
    rw [List.getD_eq_getElem?_getD, List.getD_eq_getElem?_getD, List.getD_eq_getElem?_getD, List.getElem?_append, hF.2.rules]
    split <;> rfl
  apply bits_ext
  intro j
  rw [Nat.testBit_or, Bool.or_eq_true, mV_least hu.1 hu.2, mV_least h1.1 h1.2, mV_least h2.1 h2.2]
  constructor
  · rintro ⟨i, s, a1, a2, a3, a4⟩
    rw [step_least hF hx] at a3
    rw [hR] at a4
    by_cases hs : s < N
    · rw [if_pos hs] at a3 a4
      exact .inl ⟨i, s, a1, hs, a3, a4⟩
    · rw [if_neg hs] at a3 a4
      exact .inr ⟨i, s - N, a1, by omega, a3, a4⟩
  · rintro (⟨i, s, a1, a2, a3, a4⟩ | ⟨i, s, a1, a2, a3, a4⟩)
    · refine ⟨i, s, a1, by omega, ?_, ?_⟩
      · rw [step_least hF hx, if_pos a2]; exact a3
      · rw [hR, if_pos a2]; exact a4
    · refine ⟨i, s + N, a1, by omega, ?_, ?_⟩
      · rw [step_least hF hx, if_neg (by omega), Nat.add_sub_cancel]; exact a3
      · rw [hR, if_neg (by omega), Nat.add_sub_cancel]; exact a4
end
/-- a list of machines with their numbers of states: how many states in all, what is met -/
def orM (l : List Nat) : Nat := l.foldr (· ||| ·) 0
theorem orM_bit (j : Nat) : ∀ l : List Nat, (orM l).testBit j = true ↔ ∃ x ∈ l, x.testBit j = true
  | [] => by simp [orM]
  | x :: l => by
    show (x ||| orM l).testBit j = true ↔ _
    rw [Nat.testBit_or, Bool.or_eq_true, orM_bit j l]
    simp
theorem orM_app (l k : List Nat) : orM (l ++ k) = orM l ||| orM k := by
  apply bits_ext
  intro j
  rw [Nat.testBit_or, Bool.or_eq_true, orM_bit, orM_bit, orM_bit]
  simp only [List.mem_append]
  constructor
  · rintro ⟨x, h | h, hx⟩
    · exact .inl ⟨x, h, hx⟩
    · exact .inr ⟨x, h, hx⟩
  · rintro (⟨x, h, hx⟩ | ⟨x, h, hx⟩)
    · exact ⟨x, .inl h, hx⟩
    · exact ⟨x, .inr h, hx⟩
/-- what a machine meets -/
noncomputable def vF (q : ByteArray) (F : NF) : Nat := mV F.E F.R F.s.toNat q (q.size + 1)
theorem fold_fits (q : ByteArray) (l : List NF) (h : ∀ x ∈ l, FitsF x x.s.toNat) : FitsF (uFold l) (1 + (l.map (fun x => x.s.toNat)).sum) ∧ vF q (uFold l) = orM (l.map (vF q)) := by
  obtain ⟨r, hr⟩ : ∃ r, r = l.reverse := ⟨_, rfl⟩
  have : l = r.reverse := by rw [hr, List.reverse_reverse]
  clear hr
  subst this
  induction r with
  | nil =>
    have f0 : FitsF (uFold []) 1 := ⟨rfl, ⟨by omega, rfl, fun d hd => absurd hd (by simp [uFold]), fun d hd => absurd hd (by simp [uFold]), fun d hd => absurd hd (by simp [uFold]), fun d hd => absurd hd (by simp [uFold])⟩⟩
    refine ⟨by simpa using f0, ?_⟩
    have hb := fits_bounds f0
    apply bits_ext
    intro j
    show (mV (uFold []).E (uFold []).R 1 q (q.size + 1)).testBit j = true ↔ _
    rw [mV_least hb.1 hb.2]
    constructor
    · rintro ⟨i, s, a1, a2, a3, a4⟩
      have hs : s = 0 := by omega
      subst hs
      simp [uFold] at a4
    · intro h
      simp [orM] at h
  | cons x r ih =>
    rw [List.reverse_cons] at h ⊢
    obtain ⟨i1, i2⟩ := ih (fun y hy => h y (by simp at hy ⊢; exact .inl hy))
    have hx := h x (by simp)
    have s1 := step_fits i1 hx
    have s2 := step_met (q := q) i1 hx
    rw [uFold_snoc, List.map_append, List.map_append, List.sum_append, orM_app]
    have e : 1 + (List.map (fun x => x.s.toNat) r.reverse).sum + x.s.toNat = 1 + ((List.map (fun x => x.s.toNat) r.reverse).sum + (List.map (fun x => x.s.toNat) [x]).sum) := by simp; omega
    rw [e] at s1 s2
    refine ⟨s1, ?_⟩
    have e1 : (uStep (uFold r.reverse) x).s.toNat = 1 + ((List.map (fun x => x.s.toNat) r.reverse).sum + (List.map (fun x => x.s.toNat) [x]).sum) := by rw [s1.1]; omega
    have e2 : (uFold r.reverse).s.toNat = 1 + (List.map (fun x => x.s.toNat) r.reverse).sum := by rw [i1.1]; omega
    unfold vF at i2 ⊢
    rw [e2] at i2
    rw [e1, s2, i2]
    simp [orM]
end Mt
end Go.Proofs.YtkedgombccdamaaDoor
namespace Go.Proofs.YtkedgombccdamaaDoor
open Go.RowKit Go.Maps
set_option linter.unusedVariables false
set_option linter.unusedSimpArgs false
attribute [local go_sem] Oper.semAt_some

/-- a machine in memory of one's own -/
def NfaOw (B : Nat) (w : World) (v : Value) (F : NF) : Prop :=
  ∃ A c B' d, v = .agg (nfaC F.s A F.E.length c B' F.R.length d) ∧ Own w B 76 7 edgC (.slice A F.E.length c) F.E ∧ Own w B 43 1 encR (.slice B' F.R.length d) F.R
theorem NfaOw.none_ (B : Nat) (w : World) : NfaOw B w (.agg (nfaC 0 none 0 0 none 0 0)) .none := ⟨_, _, _, _, rfl, Own.nil_ _ _ _ _ _, Own.nil_ _ _ _ _ _⟩
set_option maxRecDepth 100000 in
set_option maxHeartbeats 8000000 in
theorem build_own (nd : Nd) (rule : Int) (B : Nat) (w : World) (cs : Array Value) (hin : NdIn w B nd cs) (hB : B ≤ w.heap.size) :
    Calls Tryd.prog 22 #[.agg cs, .int .i64 rule] w fun e w' => Below w.heap.size w w' ∧ ∃ v, e = .returned (.tuple #[v, .int .i64 (buildF nd rule).2]) ∧ NfaOw w.heap.size w' v (buildF nd rule).1 := by
  have hpl := fun W h1 h2 => placesE_any nd B W _ (NdIn.keep (w' := W) h1 hin) h2
  have hlay := lay_ok nd
  have hgood := fun h => layF_good (nd := nd) h
  obtain ⟨V, hV⟩ : ∃ V, placesN nd = V := ⟨_, rfl⟩
  rw [hV] at hpl
  have hV0 : nd.isT = false → V = 0 := fun h => by rw [← hV]; unfold placesN; rw [if_neg (by simp [h])]
  have hV1 : nd.isT = true → V = min (nd.U + 1) 2049 := fun h => by rw [← hV]; unfold placesN; rw [if_pos h]
  have hb0 := fun h => buildF_tree (nd := nd) (rule := rule) h
  have hb1 := fun h h2 => buildF_big (nd := nd) (rule := rule) h h2
  have hb2 := fun h h2 h3 => buildF_rule (nd := nd) (rule := rule) h h2 h3
  obtain ⟨bf, hbf⟩ : ∃ b, buildF nd rule = b := ⟨_, rfl⟩
  rw [hbf] at hb0 hb1 hb2 ⊢
  obtain ⟨⟨kd, st, l, mi, ma⟩, hx⟩ : ∃ y, y = nd := ⟨_, rfl⟩
  obtain ⟨A, n, c, cl, rfl, -⟩ := (hx ▸ hin : NdIn w B (Nd.mk kd st l mi ma) cs).inv
  have Hx := Lib.hid hx
  have Hbf := Lib.hid hbf
  have Hin := Lib.hid hin
  have Hpl := Lib.hid hpl
  have Hlay := Lib.hid hlay
  have Hgood := Lib.hid hgood
  have HV0 := Lib.hid hV0
  have HV1 := Lib.hid hV1
  have HB0 := Lib.hid hb0
  have HB1 := Lib.hid hb1
  have HB2 := Lib.hid hb2
  clear hpl hlay hgood hV hV0 hV1 hb0 hb1 hb2 hin hx hbf
  go_enter Tryd.func22, Tryd.ntmps22
  have h1 := (Blk.new w 54 (nodeC kd st A n c mi ma)).alloc (.cells #[.int .i64 0, .slice none 0 0, .slice none 0 0] 25)
  have h4 : Blk ((w.alloc (.cells (nodeC kd st A n c mi ma) 54)).alloc (.cells #[.int .i64 0, .slice none 0 0, .slice none 0 0] 25)) (w.heap.size + 1) 25 (nfaC 0 none 0 0 none 0 0) := Blk.new' _ _ _ (by simp)
  have hBw := below_alloc (below_alloc (Below.refl w.heap.size w) (.cells (nodeC kd st A n c mi ma) 54)) (.cells #[.int .i64 0, .slice none 0 0, .slice none 0 0] 25)
  go_upto_region 1 with (fail)
  obtain ⟨w1, hw1⟩ : ∃ y, y = (w.alloc (.cells (nodeC kd st A n c mi ma) 54)).alloc (.cells #[.int .i64 0, .slice none 0 0, .slice none 0 0] 25) := ⟨_, rfl⟩
  rw [← hw1] at h1 h4 hBw ⊢
  clear hw1
  obtain ⟨g4, hg4⟩ : ∃ g, g = w.heap.size + 1 := ⟨_, rfl⟩
  rw [← hg4] at h4
  have hg4b : w.heap.size ≤ g4 := by omega
  try rw [← hg4]
  clear hg4
  have hp := Hpl.out w1 (fun j hj => hBw.block j (by omega)) (by have := hBw.size; omega)
  have Hp := Lib.hid hp
  clear hp Hpl
  go_upto_block 0 with (first | (refine wl_load_node rfl _ rfl _ rfl _ _ _ _ _ _ _ h1 ?_) | (go_at_call 58; refine Hp.out.mono ?_; rintro e w4 ⟨rfl, hB4⟩) | (go_at_call 58; refine park ?_))
  replace h1 := blk_then h1 hB4
  replace h4 := blk_then h4 hB4
  replace hBw := below_then hBw hB4
  clear hB4 Hp
  by_cases hT : nd.isT = false
  · have HE := Lib.hid (HB0.out hT)
    obtain rfl : V = 0 := HV0.out hT
    clear hT HV0 HV1 HB0 HB1 HB2
    go_wp2_with (first | (refine wl_build_nfa0 rfl rfl ?_) | (refine wl_store_nfa rfl _ _ rfl g4 0 none 0 0 none 0 0 rfl rfl _ _ _ _ _ _ _ h4 ?_; intro w5 h5 hg5))
    have hBe := hBw.grown hg5 (by have := hBw.size; omega) (fun j e => by injection e with e; omega)
    refine ret_nfa2 rfl rfl h5 rfl ?_
    refine ⟨hBe, .agg (nfaC 0 none 0 0 none 0 0), ?_, ?_⟩
    · rw [HE.out]; rfl
    · rw [HE.out]; exact NfaOw.none_ _ _
  have hT : nd.isT = true := by simpa using hT
  have hV := HV1.out hT
  have hV0b : ((V : Int) == 0) = false := by simp; omega
  by_cases hU : 2048 ≤ nd.U
  · have HE := Lib.hid (HB1.out hT hU)
    have hVb : decide ((2048 : Int) < (V : Int)) = true := by simp; omega
    clear hT HV0 HV1 HB0 HB1 HB2 hV hU
    go_wp2_with (first | (refine wl_build_nfa0 rfl rfl ?_) | (refine wl_store_nfa rfl _ _ rfl g4 0 none 0 0 none 0 0 rfl rfl _ _ _ _ _ _ _ h4 ?_; intro w5 h5 hg5))
    have hBe := hBw.grown hg5 (by have := hBw.size; omega) (fun j e => by injection e with e; omega)
    refine ret_nfa2 rfl rfl h5 rfl ?_
    refine ⟨hBe, .agg (nfaC 0 none 0 0 none 0 0), ?_, ?_⟩
    · rw [HE.out]; rfl
    · rw [HE.out]; exact NfaOw.none_ _ _
  have hVb : decide ((2048 : Int) < (V : Int)) = false := by simp; omega
  clear hV HV0 HV1 HB0 HB1
  by_cases hr0 : rule < 0
  · have HE := Lib.hid (HB2.out hT hU (.inl hr0))
    have hrb : decide (rule < 0) = true := by simpa using hr0
    clear HB2 hT
    go_wp2_with (first | (refine wl_build_nfa0 rfl rfl ?_) | (refine wl_store_nfa rfl _ _ rfl g4 0 none 0 0 none 0 0 rfl rfl _ _ _ _ _ _ _ h4 ?_; intro w5 h5 hg5))
    have hBe := hBw.grown hg5 (by have := hBw.size; omega) (fun j e => by injection e with e; omega)
    refine ret_nfa2 rfl rfl h5 rfl ?_
    refine ⟨hBe, .agg (nfaC 0 none 0 0 none 0 0), ?_, ?_⟩
    · rw [HE.out]; rfl
    · rw [HE.out]; exact NfaOw.none_ _ _
  have hrb : decide (rule < 0) = false := by simpa using hr0
  by_cases hr1 : 32 ≤ rule
  · have HE := Lib.hid (HB2.out hT hU (.inr hr1))
    have hrb1 : decide (32 ≤ rule) = true := by simpa using hr1
    clear HB2 hT
    go_wp2_with (first | (refine wl_build_nfa0 rfl rfl ?_) | (refine wl_store_nfa rfl _ _ rfl g4 0 none 0 0 none 0 0 rfl rfl _ _ _ _ _ _ _ h4 ?_; intro w5 h5 hg5))
    have hBe := hBw.grown hg5 (by have := hBw.size; omega) (fun j e => by injection e with e; omega)
    refine ret_nfa2 rfl rfl h5 rfl ?_
    refine ⟨hBe, .agg (nfaC 0 none 0 0 none 0 0), ?_, ?_⟩
    · rw [HE.out]; rfl
    · rw [HE.out]; exact NfaOw.none_ _ _
  have hrb1 : decide (32 ≤ rule) = false := by simpa using hr1
  obtain ⟨r, rfl⟩ := Int.eq_ofNat_of_zero_le (show 0 ≤ rule by omega)
  have hr32 : r < 32 := by omega
  have hbo := Hbf.out.symm.trans (buildF_ok hT hU hr32)
  have HBO := Lib.hid hbo
  obtain ⟨hg1, hg2, hg3⟩ := Hgood.out hT
  clear hbo HB2 Hbf Hgood
  go_upto_region 9 with (first | (refine wl_build_mkP rfl rfl ?_) | (refine wl_box_mkP rfl _ rfl rfl ?_))
  have hk := Blk.new w4 126 (mkP 0 (.slice none 0 0))
  have hB5 : Below w4.heap.size w4 (w4.alloc (.cells (mkP 0 (.slice none 0 0)) 126)) := below_alloc (Below.refl _ _) _
  obtain ⟨w5, hw5⟩ : ∃ y, y = w4.alloc (.cells (mkP 0 (.slice none 0 0)) 126) := ⟨_, rfl⟩
  rw [← hw5] at hk hB5 ⊢
  clear hw5
  replace h1 := blk_then h1 hB5
  replace h4 := blk_then h4 hB5
  have hsz4 := hBw.size
  replace hBw := below_then hBw hB5
  obtain ⟨gk, hgk⟩ : ∃ g, g = w4.heap.size := ⟨_, rfl⟩
  rw [← hgk] at hk hsz4
  try rw [← hgk]
  clear hgk hB5 hrb hrb1 hVb hV0b
  have hgl := hk.lt
  have hne1 : some w.heap.size ≠ some gk := fun e => Blk.ne_ h1 hk (by decide) (by injection e)
  have hne4 : some g4 ≠ some gk := fun e => Blk.ne_ h4 hk (by decide) (by injection e)
  refine wp_region_stepsR (rw := some gk) (i0 := 3) 4 [eqS (.pointer (some ⟨gk, 0, none⟩)), eqS (.agg (nodeC kd st A n c mi ma)), eqS (.pointer (some ⟨gk, 0, none⟩)), stS gk (.slice none 0 0)] [29, 30, 31, 32] rfl ?_ (by kernel_rfl) rfl ?_ ?_
  · intro j hj v wa wb hp hg
    match j, hj, hp with
    | 0, _, hp => exact hp
    | 1, _, hp => exact hp
    | 2, _, hp => exact hp
    | 3, hj, _ => exact absurd rfl hj
    | j + 4, _, hp => exact hp
  · skip
    refine StepsR.cons (fun a' w' hG hW hP dep => GStepR.of (gs_move (want_none rfl) _ rfl (hG.other 7 rfl))) ?_
    refine StepsR.cons (fun a' w' hG hW hP dep => GStepR.of (gs_load_node (want_none rfl) _ rfl w.heap.size (hG.other 2 rfl) kd st A n c mi ma (h1.grown hW hne1) rfl)) ?_
    refine StepsR.cons (fun a' w' hG hW hP dep => GStepR.of (gs_move (want_none rfl) _ rfl (hG.other 7 rfl))) ?_
    refine StepsR.cons (fun a' w' hG hW hP dep => GStepR.call (want_none rfl) _ _ _ rfl enter_pstate _ (map1 (dep 2 rfl 31 rfl)) ((pstate_g gk 0 (.slice none 0 0) w' (blk_then hk (hP rfl)) (by omega)).mono fun e w2 ⟨he, hb, hg⟩ => ⟨_, he, hg, ⟨rfl, hb⟩⟩)) ?_
    exact StepsR.nil
  intro uf w6 hW6 ans
  have v29 : uf 29 = .pointer (some ⟨gk, 0, none⟩) := ans 0 29 (by decide) rfl
  have v30 : uf 30 = .agg (nodeC kd st A n c mi ma) := ans 1 30 (by decide) rfl
  obtain ⟨v32, hk6⟩ := ans 3 32 (by decide) rfl
  clear ans
  simp only [putAll, List.foldl_cons, List.foldl_nil, Act.put, List.setIfInBounds_toArray, List.set_cons_zero, List.set_cons_succ, v29, v30, v32]
  clear v29 v30 v32
  simp only [List.drop]
  have hBw6 := hBw.grown hW6 (by have := hBw.size; omega) (fun j e => by injection e with e; omega)
  have h46 : Blk w6 g4 25 _ := h4.grown hW6 hne4
  have hMk : MkIs 126 mkP w6 gk gk ⟨1, []⟩ := ⟨_, hk6, Own.nil_ _ _ _ _ _, Nat.le_refl _⟩
  have hin6 := NdIn.keep (w' := w6) (fun j hj => hBw6.block j (by omega)) Hin.out
  have hcl := Hlay.out gk gk B ⟨1, []⟩ 0 w6 _ hin6 (by omega) hT hMk (by show 1 + nd.U ≤ _; omega) (by show 0 + 3 * nd.U ≤ _; omega)
  refine wl_call rfl _ _ _ rfl enter_play #[.pointer (some ⟨gk, 0, none⟩), .agg (nodeC kd st A n c mi ma), .int .i64 ((0 : Nat) : Int)] (map3 rfl rfl rfl) ?_
  refine hcl.mono ?_
  rintro e w7 ⟨rfl, hM7, hF7⟩
  refine ⟨_, rfl, ?_⟩
  have hlay : nd.lay ⟨1, []⟩ 0 = layF nd := rfl
  rw [hlay] at hM7
  obtain ⟨m, hm⟩ : ∃ m, m = layF nd := ⟨_, rfl⟩
  simp only [hlay]
  rw [← hm] at hM7 hg1 hg2 hg3
  have hbo := HBO.out
  rw [← hm] at hbo
  rw [← hm]
  replace HBO := Lib.hid hbo
  have hBw7 := Below.fr hBw6 hF7 (by omega) (by have := hBw6.size; omega)
  have h47 := blk_fr h46 hF7 (.inr ⟨by decide, by decide⟩)
  have hms : m.1.s ≤ 2048 := by omega
  have hme : m.1.e.length ≤ 6144 := by omega
  clear hbo hm hlay hcl hin6 hMk hk6 hW6 hF7 h46 hBw6 hBw h1 h4 hk hg1 hg2 hT hU Hlay hne1 hne4 hr0 hr1
  simp only [Act.put, List.setIfInBounds_toArray, List.set_cons_zero, List.set_cons_succ]
  obtain ⟨v, hk7, hE7, -⟩ := hM7
  have c0 : w7.cell? ⟨gk, 0, none⟩ = some (.int .i64 (m.1.s : Int)) := hk7.cellv (i := 0) rfl
  go_upto_region 10 with (fail)
  obtain ⟨Ae, ke, rfl, _, _⟩ := hE7.shape
  have hgl7 := hk7.lt
  go_upto_region 11 with (first | (refine wl_makeR rfl _ _ rfl m.1.s w7.heap.size rfl rfl (by omega) (Nat.le_refl _) ?_; intro w8 hR8 hB8; have hk8 := blk_then hk7 hB8) | (refine wl_store_cell rfl _ _ _ rfl gk 2 rfl _ _ (nfaC (m.1.s : Int) Ae m.1.e.length ke (some ⟨w7.heap.size, 0, none⟩) m.1.s m.1.s) hk8 (by simp [mkP]) info_rules1 rfl rfl rfl ?_; intro w9 hk9 hg9))
  have hR9 := own_box hR8 hk8 hg9 (by decide)
  have hE9 := own_box (hE7.then_ hB8) hk8 hg9 (by decide)
  have h48 := blk_then h47 hB8
  have h49 : Blk w9 g4 25 _ := h48.grown hg9 (fun e => Blk.ne_ h48 hk8 (by decide) (by injection e))
  have hBw9 := (below_then hBw7 hB8).grown hg9 (by have := hBw7.size; have := hB8.size; omega) (fun j e => by injection e with e; omega)
  obtain ⟨gR, hgR⟩ : ∃ g, g = w7.heap.size := ⟨_, rfl⟩
  rw [← hgR] at hR9 hk9
  try rw [← hgR]
  have hgR1 : gk < gR := by omega
  clear hR8 hk8 hg9 hE7 hB8 hk7 h47 h48 c0 hBw7 hgR hgl7
  refine wp_region_steps 9 [eqS (.pointer (some ⟨gk, 0, none⟩)), eqS (.pointer (some ⟨gk, 0, none⟩)), eqS (.pointer (some ⟨gk, 0, none⟩)), eqS (.pointer (some ⟨gk, 2, none⟩)), eqS (.slice (some ⟨gR, 0, none⟩) m.1.s m.1.s), eqS (.int .i64 (m.2 : Int)), eqS (.int .i64 (r : Int)), eqS (.int .u32 ((2 ^ r : Nat) : Int)), eqS (.pointer (some ⟨gR, m.2, none⟩))] [44, 45, 46, 47, 48, 49, 50, 51, 52] rfl (by kernel_rfl) rfl ?_ ?_
  · skip
    refine Steps.cons (fun a' w' hG hB dep => gs_move (want_none rfl) _ rfl (hG.other 7 rfl)) ?_
    refine Steps.cons (fun a' w' hG hB dep => gs_nil (want_none rfl) _ rfl _ (dep 0 rfl 44 rfl) rfl) ?_
    refine Steps.cons (fun a' w' hG hB dep => gs_field (want_none rfl) _ _ _ rfl gk 0 0 (dep 1 rfl 45 rfl) (fun wz => field_maker_0 gk 0 wz) rfl) ?_
    refine Steps.cons (fun a' w' hG hB dep => gs_field (want_none rfl) _ _ _ rfl gk 0 2 (dep 2 rfl 46 rfl) (fun wz => field_nfa_2 gk 0 wz) rfl) ?_
    refine Steps.cons (fun a' w' hG hB dep => gs_load1 (want_none rfl) _ _ rfl gk 2 (dep 3 rfl 47 rfl) (.slice (some ⟨gR, 0, none⟩) m.1.s m.1.s) ((blk_then hk9 hB).cellv (i := 2) rfl) _ Tryd.underlying23 rfl rfl) ?_
    refine Steps.cons (fun a' w' hG hB dep => gs_move (want_none rfl) _ rfl (hG.other 8 rfl)) ?_
    refine Steps.cons (fun a' w' hG hB dep => gs_move (want_none rfl) _ rfl (hG.other 1 rfl)) ?_
    refine Steps.cons (fun a' w' hG hB dep => gs_shl_u32 (want_none rfl) _ _ _ rfl r hr32 rfl (dep 6 rfl 50 rfl) rfl) ?_
    refine Steps.cons (fun a' w' hG hB dep => gs_index (want_none rfl) _ _ _ rfl under_rules 1 size_ruleE gR 0 m.1.s m.1.s m.2 (dep 4 rfl 48 rfl) (dep 5 rfl 49 rfl) hg3 (congrArg (fun q => Value.pointer (some ⟨gR, q, none⟩)) (by omega))) ?_
    exact Steps.nil
  intro uz w10 hB10 ans
  have v51 : uz 51 = .int .u32 ((2 ^ r : Nat) : Int) := ans 7 51 (by decide) rfl
  have v52 : uz 52 = .pointer (some ⟨gR, m.2, none⟩) := ans 8 52 (by decide) rfl
  clear ans
  simp only [putAll, List.foldl_cons, List.foldl_nil, Act.put, List.setIfInBounds_toArray, List.set_cons_zero, List.set_cons_succ, v51, v52]
  clear v51 v52
  simp only [List.drop]
  have hR10 := hR9.then_ hB10
  refine wl_store_rule rfl _ _ rfl gR m.2 m.1.s m.1.s rfl (2 ^ r) rfl hR10 (by rw [List.length_replicate]; exact hg3) ?_
  intro w11 hR11 hg11
  refine wpList_nil ?_
  have hE11 := own_own (hE9.then_ hB10) hR10 hg11 (by decide)
  have hk11 : Blk w11 gk 126 _ := (blk_then hk9 hB10).grown hg11 (fun e => by injection e with e; omega)
  have h411 : Blk w11 g4 25 _ := (blk_then h49 hB10).grown hg11 (fun e => own_blk_ne hR10 (blk_then h49 hB10) (by decide) e.symm)
  have hBw11 := (below_then hBw9 hB10).grown hg11 (by have := hBw9.size; have := hB10.size; omega) (fun j e => by injection e with e; omega)
  clear hR10 hR9 hE9 hk9 h49 hBw9 hB10 hg11
  go_wp2_with (first | (refine wl_load_nfa_at rfl _ rfl gk 0 rfl _ _ _ _ _ _ _ (RowAt.of_blk hk11) ?_) | (refine wl_store_nfa rfl _ _ rfl g4 _ _ _ _ _ _ _ rfl rfl _ _ _ _ _ _ _ h411 ?_; intro w12 h412 hg12))
  have hR12 := own_box hR11 h411 hg12 (by decide)
  have hE12 := own_box hE11 h411 hg12 (by decide)
  have hBe := hBw11.grown hg12 (by have := hBw11.size; omega) (fun j e => by injection e with e; omega)
  refine ret_nfa2 rfl rfl h412 rfl ?_
  refine ⟨hBe, .agg (nfaC (m.1.s : Int) Ae m.1.e.length ke (some ⟨gR, 0, none⟩) m.1.s m.1.s), ?_, ?_⟩
  · rw [HBO.out]; rfl
  · rw [HBO.out]
    refine ⟨Ae, ke, some ⟨gR, 0, none⟩, m.1.s, by simp, hE12.mono (by omega), ?_⟩
    simp only [List.length_set, List.length_replicate]
    exact hR12.mono (by omega)
end Go.Proofs.YtkedgombccdamaaDoor
namespace Go.Proofs.YtkedgombccdamaaDoor
open Go.RowKit Go.Maps
set_option linter.unusedVariables false
set_option linter.unusedSimpArgs false
attribute [local go_sem] Oper.semAt_some

set_option maxRecDepth 100000 in
set_option maxHeartbeats 16000000 in
theorem union_own (A : Option Addr) (n c : Nat) (l : List MV) (hn : n = l.length) (hn2 : n ≤ 1048576) (w : World) (hs : SliceOf w w.heap.size 3 MV.C A l) (hM : MsIn w w.heap.size l) :
    Calls Tryd.prog 23 #[.slice A n c] w fun e w' => Below w.heap.size w w' ∧ ∃ v, e = .returned (.tuple #[v, .int .i64 (unionF (l.map MV.F)).2]) ∧ NfaOw w.heap.size w' v (unionF (l.map MV.F)).1 := by
  have hright : ∀ x ∈ l, ∀ W : World, Below w.heap.size w W → Calls Tryd.prog 32 #[.agg x.C] W fun e w' => e = .returned (.bool (rightF x.F)) ∧ Below W.heap.size W w' := fun x hx W hb =>
    right_any x.F.s x.A _ x.c x.B _ x.d x.F.E rfl (by have := (hM x hx).2.2.1; omega) W (((hM x hx).1.below hb).more hb.size)
  have huno : (l.map MV.F).all rightF = false → unionF (l.map MV.F) = (.none, 70) := fun h => by unfold unionF; rw [h]; rfl
  have huyes : (l.map MV.F).all rightF = true → unionF (l.map MV.F) = (uFold (l.map MV.F), 0) := fun h => by unfold unionF; rw [h]; rfl
  obtain ⟨bf, hbf⟩ : ∃ b, unionF (l.map MV.F) = b := ⟨_, rfl⟩
  rw [hbf] at huno huyes ⊢
  have Hn := Lib.hid hn
  have HM := Lib.hid hM
  have HR := Lib.hid hright
  have Hno := Lib.hid huno
  have Hyes := Lib.hid huyes
  clear hn hM hright huno huyes hbf
  go_enter Tryd.func23, Tryd.ntmps23
  have h2 : Blk (w.alloc (.cells #[.int .i64 0, .slice none 0 0, .slice none 0 0] 25)) w.heap.size 25 (nfaC 0 none 0 0 none 0 0) := Blk.new _ _ _
  have hB1 : Below w.heap.size w (w.alloc (.cells #[.int .i64 0, .slice none 0 0, .slice none 0 0] 25)) := below_alloc (Below.refl _ _) _
  go_upto_region 1 with (fail)
  obtain ⟨w1, hw1⟩ : ∃ y, y = w.alloc (.cells #[.int .i64 0, .slice none 0 0, .slice none 0 0] 25) := ⟨_, rfl⟩
  rw [← hw1] at h2 hB1 ⊢
  clear hw1
  have hl1 := h2.lt
  go_wp2_with (fail)
  go_loopw [14] (fun i wr => ∃ k : Nat, k ≤ n ∧ i = .int .i64 k ∧ Hid ((l.take k).all (fun x => rightF x.F) = true) ∧ Below w.heap.size w wr ∧ Blk wr w.heap.size 25 (nfaC 0 none 0 0 none 0 0)) (fun i _ => n - (intOf i).toNat)
  case atStart => exact ⟨0, by omega, rfl, Lib.hid rfl, hB1, h2⟩
  case round =>
    clear h2 hB1
    obtain ⟨k, hk, rfl, hall, hBw, h2⟩ := hrel
    have hszw := hBw.size
    by_cases hkn : k < n
    · have hkI : (k : Int) < n := by omega
      have hkl : k < l.length := by rw [← Hn.out]; exact hkn
      obtain ⟨ba, off, rfl, hba, hrows⟩ := hs.at_ (by omega)
      have hrow := (hrows k hkl).keep (hBw.block ba (by omega))
      have hmem : l[k] ∈ l := List.getElem_mem hkl
      obtain ⟨x, hx⟩ : ∃ x, x = l[k] := ⟨_, rfl⟩
      rw [← hx] at hrow hmem
      obtain ⟨y, hy⟩ : ∃ y, rightF x.F = y := ⟨_, rfl⟩
      have hst : (l.take (k + 1)).all (fun x => rightF x.F) = y := by
        rw [List.take_succ_eq_append_getElem hkl, List.all_append, hall.out, ← hx]
        simp [hy]
      have hno : y = false → (l.map MV.F).all rightF = false := fun h => by
        rw [List.all_eq_false]
        exact ⟨x.F, List.mem_map_of_mem hmem, by rw [hy, h]; decide⟩
      have hcall := fun W h => HR.out x hmem W h
      rw [hy] at hcall
      have Hcall := Lib.hid hcall
      have Hst := Lib.hid hst
      have Hno2 := Lib.hid hno
      have hkb : k < 1099511628000 := by omega
      clear hcall hst hno hy hx hrows
      go_upto_region 4 with (first | (refine wl_load_nfa_row rfl _ rfl _ _ rfl x hrow ?_) | (refine wl_store_mv rfl _ _ rfl _ x rfl rfl _ rfl (Blk.new _ _ _) ?_; intro w3 h5 hg3))
      have hB3 := below_grown (below_alloc (Below.refl _ wr) (.cells #[.int .i64 0, .slice none 0 0, .slice none 0 0] 25)) hg3 (Nat.le_refl _)
      have hB3w := below_then hBw hB3
      have h23 := blk_then h2 hB3
      clear hg3 hrow
      cases y
      · go_wp2_with (first | (refine wl_load_mv rfl _ rfl _ rfl x h5 ?_) | (go_at_call 32; refine (Hcall.out _ hB3w).mono ?_; rintro e w4 ⟨rfl, hB4⟩; have hBw4 := below_then hB3w hB4; have h24 := blk_then h23 hB4) | (go_at_call 32; refine park ?_) | (refine wl_build_nfa0 rfl rfl ?_) | (refine wl_store_nfa rfl _ _ rfl w.heap.size 0 none 0 0 none 0 0 rfl rfl _ _ _ _ _ _ _ h24 ?_; intro w7 h7 hg7))
        have hBe := hBw4.grown hg7 (by have := hBw4.size; omega) (fun j e => by injection e with e; omega)
        refine ret_nfa2 rfl rfl h7 rfl ?_
        refine ⟨hBe, .agg (nfaC 0 none 0 0 none 0 0), ?_, ?_⟩
        · rw [Hno.out (Hno2.out (by first | rfl | trivial))]; rfl
        · rw [Hno.out (Hno2.out (by first | rfl | trivial))]; exact NfaOw.none_ _ _
      · go_wp2_with (first | (refine wl_load_mv rfl _ rfl _ rfl x h5 ?_) | (go_at_call 32; refine (Hcall.out _ hB3w).mono ?_; rintro e w4 ⟨rfl, hB4⟩; have hBw4 := below_then hB3w hB4; have h24 := blk_then h23 hB4) | (go_at_call 32; refine park ?_))
        exact ⟨⟨k + 1, by omega, rfl, Lib.hid Hst.out, hBw4, h24⟩, by simp only [intOf]; omega⟩
    · have hkI : ¬ (k : Int) < n := by omega
      have hke : l.take k = l := List.take_of_length_le (by have := Hn.out; omega)
      have hallr : ∀ x ∈ l, rightF x.F = true := fun x hx => by
        have := hall.out
        rw [hke, List.all_eq_true] at this
        exact this x hx
      have hye := Hyes.out (by rw [List.all_eq_true]; intro z hz; obtain ⟨x, hx, rfl⟩ := List.mem_map.1 hz; exact hallr x hx)
      have HE := Lib.hid hye
      have HA := Lib.hid hallr
      clear hke hallr hye hall
      go_upto_region 7 with (fail)
      obtain ⟨WA, hWA⟩ : ∃ y, y = wr := ⟨_, rfl⟩
      rw [← hWA] at hBw h2 ⊢
      clear hWA
      have hBA := hBw
      have o1 : Own (WA.alloc (.cells (encR 0) 43)) w.heap.size 43 1 encR (.slice (some ⟨WA.heap.size, 0, none⟩) 1 1) [0] := ⟨rfl, .inr ⟨WA.heap.size, 1, encR 0, rfl, hBA.size, heap_alloc_new WA _, Nat.le_refl _, by unfold maxLen; omega, rfl, rfl⟩⟩
      have hBa : Below WA.heap.size WA (WA.alloc (.cells (encR 0) 43)) := below_alloc (Below.refl _ _) _
      go_upto_region 8 with (first | (refine wl_bs0 rfl rfl ?_) | (refine wl_buildN1 rfl _ rfl _ _ _ rfl ?_) | (refine wl_store_nfa rfl _ _ rfl _ _ _ _ _ _ _ _ rfl rfl 0 none 0 0 none 0 0 (Blk.new' _ _ _ (by simp)) ?_; intro w5 h6 hg6))
      have hBb := below_grown (below_alloc (Below.refl _ (WA.alloc (.cells (encR 0) 43))) (.cells #[.int .i64 0, .slice none 0 0, .slice none 0 0] 25)) hg6 (by simp)
      have o5 := o1.then_ hBb
      have hB5 := below_then (below_then hBA hBa) hBb
      have h25 := blk_then (blk_then h2 hBa) hBb
      obtain ⟨g6, hg6e⟩ : ∃ g, g = WA.heap.size + 1 := ⟨_, rfl⟩
      rw [← hg6e] at h6
      try rw [← hg6e]
      have hg6b : w.heap.size < g6 := by have := hBA.size; omega
      obtain ⟨gz, hgz⟩ : ∃ g, g = WA.heap.size := ⟨_, rfl⟩
      rw [← hgz] at o5 h6
      clear o1 hBa hg6 hBb hg6e hgz
      clear hBA hBw h2
      go_wp2_with (fail)
      go_loopw [27] (fun i wr => ∃ k : Nat, k ≤ n ∧ i = .int .i64 k ∧ (∃ vE vR, Blk wr g6 25 #[.int .i64 (uFold ((l.take k).map MV.F)).s, vE, vR] ∧ Own wr w.heap.size 76 7 edgC vE (uFold ((l.take k).map MV.F)).E ∧ Own wr w.heap.size 43 1 encR vR (uFold ((l.take k).map MV.F)).R) ∧ Blk wr w.heap.size 25 (nfaC 0 none 0 0 none 0 0) ∧ Below w.heap.size w wr) (fun i _ => n - (intOf i).toNat)
      case atStart => exact ⟨0, by omega, rfl, ⟨_, _, h6, Own.nil_ _ _ _ _ _, o5⟩, h25, hB5⟩
      case round =>
        clear h6 o5 h25 hB5
        obtain ⟨k, hk, rfl, ⟨vE, vR, hk6, hE, hR⟩, h2, hBw⟩ := hrel
        have hszw := hBw.size
        have hgk6 := hk6.lt
        have hbd := uFold_bound ((l.take k).map MV.F) (fun x hx => by
          obtain ⟨y, hy, rfl⟩ := List.mem_map.1 hx
          have hy2 := List.mem_of_mem_take hy
          exact ⟨HA.out y hy2, (HM.out y hy2).2.2⟩)
        rw [List.length_map, List.length_take, ← Hn.out, Nat.min_eq_left hk] at hbd
        by_cases hkn : k < n
        · have hkI : (k : Int) < n := by omega
          have hkl : k < l.length := by rw [← Hn.out]; exact hkn
          have hst : uFold ((l.take (k + 1)).map MV.F) = uStep (uFold ((l.take k).map MV.F)) l[k].F := by
            rw [List.take_succ_eq_append_getElem hkl, List.map_append, List.map_cons, List.map_nil, uFold_snoc]
          obtain ⟨F, hF⟩ : ∃ F, F = uFold ((l.take k).map MV.F) := ⟨_, rfl⟩
          rw [← hF] at hk6 hE hR hbd hst
          obtain ⟨hb1, hb2, hb3, hb4⟩ := hbd
          obtain ⟨ba, off, rfl, hba, hrows⟩ := hs.at_ (by omega)
          have hrow := (hrows k hkl).keep (hBw.block ba (by omega))
          have hmem : l[k] ∈ l := List.getElem_mem hkl
          obtain ⟨x, hx⟩ : ∃ x, x = l[k] := ⟨_, rfl⟩
          rw [← hx] at hrow hmem hst
          obtain ⟨hx1, hx2, hx3, hx4⟩ := HM.out x hmem
          obtain ⟨hx5, hx6⟩ := right_parts (HA.out x hmem)
          obtain ⟨⟨xs, xE, xR⟩, xA, xc, xB, xd⟩ := x
          simp only [MV.C] at hrow
          simp only at hx1 hx2 hx3 hx4 hx5 hx6 hst
          have Hst := Lib.hid hst
          have Hx6 := Lib.hid hx6
          clear hst hF hx hmem hrows hx6
          obtain ⟨ne, hne⟩ : ∃ q, q = xE.length := ⟨_, rfl⟩
          obtain ⟨nr, hnr⟩ : ∃ q, q = xR.length := ⟨_, rfl⟩
          rw [← hne, ← hnr] at hrow
          rw [← hne] at hx3
          rw [← hnr] at hx4 hx5
          have Hne := Lib.hid hne
          have Hnr := Lib.hid hnr
          have hkb : k < 1099511628000 := by omega
          have hxs0 : 0 ≤ xs := by omega
          have hxs1 : xs ≤ 1048576 := by omega
          clear hne hnr hx5
          go_upto_region 11 with (first | (refine wl_load_nfa_at rfl _ rfl _ _ rfl _ _ _ _ _ _ _ hrow ?_) | (refine wl_store_nfa rfl _ _ rfl _ _ _ _ _ _ _ _ rfl rfl 0 none 0 0 none 0 0 (Blk.new _ _ _) ?_; intro w3 h5 hg3))
          have hB3 := below_grown (below_alloc (Below.refl _ wr) (.cells #[.int .i64 0, .slice none 0 0, .slice none 0 0] 25)) hg3 (Nat.le_refl _)
          replace hBw := below_then hBw hB3
          replace h2 := blk_then h2 hB3
          replace hk6 := blk_then hk6 hB3
          replace hE := hE.then_ hB3
          replace hR := hR.then_ hB3
          obtain ⟨g8, hg8⟩ : ∃ g, g = wr.heap.size := ⟨_, rfl⟩
          rw [← hg8] at h5
          try rw [← hg8]
          have hg68 : g6 < g8 := by omega
          clear hB3 hg3 hrow hg8
          have c60 : w3.cell? ⟨g6, 0, none⟩ = some (.int .i64 F.s) := hk6.cellv (i := 0) rfl
          go_upto_region 12 with (fail)
          clear c60
          have hBq : Below w3.heap.size w3 (w3.alloc (.cells (edgC ⟨1, 0, F.s, 0⟩) 76)) := below_alloc (Below.refl _ _) _
          obtain ⟨Ae, ke, rfl, _, _⟩ := hE.shape
          obtain ⟨en, hen⟩ : ∃ x, x = (F.E).length := ⟨_, rfl⟩
          rw [← hen] at hE hk6
          try rw [← hen]
          have henb : en ≤ 1099513724928 := by omega
          have Hen := Lib.hid hen
          clear hen
          have c61 : w3.cell? ⟨g6, 1, none⟩ = some (.slice Ae en ke) := hk6.cellv (i := 1) rfl
          go_upto_region 13 with (first | (refine wl_buildE0 rfl _ rfl F.s rfl ?_) | (refine wl_one (d := ⟨1, 0, F.s, 0⟩) rfl _ rfl rfl ?_) | (at_builtin; refine park ?_))
          refine Parked.mk ?_
          clear c61
          have hEq := hE.then_ hBq
          have hRq := hR.then_ hBq
          have hkq := blk_then hk6 hBq
          have hBwq := below_then hBw hBq
          have hone := slice_one (enc := edgC) (size := 7) (y := ⟨1, 0, F.s, 0⟩) (w := w3.alloc (.cells (edgC ⟨1, 0, F.s, 0⟩) 76)) (g := w3.heap.size) (t := 76) (Blk.new _ _ _)
          obtain ⟨ie, hie, hye0, hye1, hye2⟩ := info_parts info_edge3
          refine wl_append _ rfl _ _ 22 rfl w.heap.size 76 ie _ 7 56 Tryd.underlying22 hie hye0 hye1 hye2 rfl (by decide) edgC_size edgC_one (.slice Ae _ ke) _ rfl hEq _ _ 1 1 [⟨1, 0, F.s, 0⟩] rfl rfl hone (by rw [← Hen.out]; unfold maxLen; omega) (by rw [← Hen.out]; omega) hBwq.size ?_
          intro v8 w8 hE8 hg8 _
          have hk8 : Blk w8 g6 25 _ := hkq.grown hg8 (fun e => own_blk_ne hEq hkq (by decide) e.symm)
          have hR8 := own_own hRq hEq hg8 (by decide)
          have h28 : Blk w8 w.heap.size 25 _ := (blk_then h2 hBq).grown hg8 (fun e => own_blk_ne hEq (blk_then h2 hBq) (by decide) e.symm)
          have h58 : Blk w8 g8 25 _ := (blk_then h5 hBq).grown hg8 (fun e => own_blk_ne hEq (blk_then h5 hBq) (by decide) e.symm)
          have hBw8 := hBwq.grown hg8 hBwq.size (fun j e => (hEq.lt j e).1)
          obtain ⟨A8, k8, rfl, _, _⟩ := hE8.shape
          obtain ⟨en8, hen8⟩ : ∃ q, q = ((F.E : List Edg) ++ [(⟨1, 0, F.s, 0⟩ : Edg)]).length := ⟨_, rfl⟩
          rw [← hen8] at hE8
          rw [← hen8]
          simp only [Act.put, List.setIfInBounds_toArray, List.set_cons_zero, List.set_cons_succ]
          clear hen8 hone hie hye0 hye1 hye2 hEq hRq hkq hg8 hE hR hk6 hBwq hBq
          go_upto_region 13 with (refine wl_store_cell rfl _ _ _ rfl g6 1 rfl _ _ #[.int .i64 F.s, .slice A8 en8 k8, vR] hk8 (by simp) info_edges1 rfl rfl rfl ?_; intro w9 hk9 hg9)
          have hE9 := own_box hE8 hk8 hg9 (by decide)
          have hR9 := own_box hR8 hk8 hg9 (by decide)
          have hBw9 := hBw8.grown hg9 (by have := hBw8.size; omega) (fun j e => by injection e with e; omega)
          have h29 := blk_grown h28 hg9 (by omega)
          have h59 := blk_grown h58 hg9 (by omega)
          clear hE8 hR8 hBw8 h28 h58 hk8 hg9 h5 h2
          have c81 : w9.cell? ⟨g8, 1, none⟩ = some (.slice xA ne xc) := h59.cellv (i := 1) rfl
          go_wp2_with (fail)
          clear c81
          obtain ⟨E0, hE0⟩ : ∃ q, q = F.E ++ [⟨1, 0, F.s, 0⟩] := ⟨_, rfl⟩
          have hE0l : E0.length ≤ 1099512676352 := by rw [hE0, List.length_append]; simp only [List.length_cons, List.length_nil]; omega
          rw [← hE0] at hE9
          have HE0 := Lib.hid hE0
          clear hE0
          go_loopw [43] (fun i wr => ∃ j : Nat, j ≤ ne ∧ i = .int .i64 j ∧ (∃ vE, Blk wr g6 25 #[.int .i64 F.s, vE, vR] ∧ Own wr w.heap.size 76 7 edgC vE (E0 ++ (xE.take j).map (shiftE F.s)) ∧ Own wr w.heap.size 43 1 encR vR F.R) ∧ Blk wr w.heap.size 25 (nfaC 0 none 0 0 none 0 0) ∧ Blk wr g8 25 (nfaC xs xA ne xc xB nr xd) ∧ Below w.heap.size w wr) (fun i _ => ne - (intOf i).toNat)
          case atStart => exact ⟨0, by omega, rfl, ⟨_, hk9, by rw [List.take_zero, List.map_nil, List.append_nil]; exact hE9, hR9⟩, h29, h59, hBw9⟩
          case round =>
            clear hk9 hE9 hR9 h29 h59 hBw9 hBw
            obtain ⟨j, hj, rfl, ⟨vE2, hk6, hE, hR⟩, h2, h5, hBw⟩ := hrel
            have hszz := hBw.size
            have hgk6 := hk6.lt
            have hgk8 := h5.lt
            have c81 : wr.cell? ⟨g8, 1, none⟩ = some (.slice xA ne xc) := h5.cellv (i := 1) rfl
            by_cases hjn : j < ne
            · have hjI : (j : Int) < ne := by omega
              have hjl : j < xE.length := by rw [← Hne.out]; exact hjn
              obtain ⟨be, oe, rfl, hbe, hre⟩ := hx1.at_ (by omega)
              have hrowe := (hre j hjl).keep (hBw.block be (by omega))
              obtain ⟨dd, hdd⟩ : ∃ q, q = xE[j] := ⟨_, rfl⟩
              have hst2 : (xE.take (j + 1)).map (shiftE F.s) = (xE.take j).map (shiftE F.s) ++ [shiftE F.s dd] := by
                rw [List.take_succ_eq_append_getElem hjl, List.map_append, ← hdd]; rfl
              rw [← hdd] at hrowe
              obtain ⟨q1, q2, q3, q4⟩ := Hx6.out dd (by rw [hdd]; exact List.getElem_mem hjl)
              have hlE : (E0 ++ (xE.take j).map (shiftE F.s)).length ≤ 1099513724928 := by
                rw [List.length_append, List.length_map, List.length_take]; omega
              have Hst2 := Lib.hid hst2
              have hjb : j < 1099511628000 := by omega
              clear hst2 hdd hre
              go_upto_region 16 with (first | (refine wl_load_edge_at rfl _ rfl _ _ rfl dd hrowe ?_) | (refine wl_store_edge rfl _ _ rfl _ _ rfl rfl edge0 (Blk.new _ _ _) ?_; intro w3 h11 hg3))
              have hB3 := below_grown (below_alloc (Below.refl _ wr) (.cells #[.int .i64 0, .int .i64 0, .int .i64 0, .int .u64 0, .int .u64 0, .int .u64 0, .int .u64 0] 76)) hg3 (Nat.le_refl _)
              replace hBw := below_then hBw hB3
              replace h2 := blk_then h2 hB3
              replace h5 := blk_then h5 hB3
              replace hk6 := blk_then hk6 hB3
              have hltE := fun q hq => (hE.lt q hq).2
              replace hE := hE.then_ hB3
              replace hR := hR.then_ hB3
              obtain ⟨g11, hg11⟩ : ∃ g, g = wr.heap.size := ⟨_, rfl⟩
              rw [← hg11] at h11 hltE
              try rw [← hg11]
              have hg611 : g6 < g11 := by omega
              have hg811 : g8 < g11 := by omega
              clear hB3 hg3 hrowe c81 hg11
              have c111 : w3.cell? ⟨g11, 1, none⟩ = some (.int .i64 dd.fr) := h11.cellv (i := 1) rfl
              have c112 : w3.cell? ⟨g11, 2, none⟩ = some (.int .i64 dd.tt) := h11.cellv (i := 2) rfl
              have f111 := h11.frozen 1
              have f112 := h11.frozen 2
              go_upto_region 17 with (fail)
              have h11x : Blk ((w3.setCell ⟨g11, 1, none⟩ (.int .i64 (dd.fr + F.s))).setCell ⟨g11, 2, none⟩ (.int .i64 (dd.tt + F.s))) g11 76 (edgC (shiftE F.s dd)) := (h11.set_eq (i := 1) (u := .int .i64 (dd.fr + F.s)) rfl).set_eq (i := 2) (u := .int .i64 (dd.tt + F.s)) rfl
              have hgx : w3.grownBy ((w3.setCell ⟨g11, 1, none⟩ (.int .i64 (dd.fr + F.s))).setCell ⟨g11, 2, none⟩ (.int .i64 (dd.tt + F.s))) (some g11) := only_setCell (only_setCell (only_refl w3 (some g11)) (p := ⟨g11, 1, none⟩) (.inl rfl) _) (p := ⟨g11, 2, none⟩) (.inl rfl) _
              obtain ⟨w4, hw4⟩ : ∃ y, y = (w3.setCell ⟨g11, 1, none⟩ (.int .i64 (dd.fr + F.s))).setCell ⟨g11, 2, none⟩ (.int .i64 (dd.tt + F.s)) := ⟨_, rfl⟩
              rw [← hw4] at h11x hgx ⊢
              clear hw4
              replace hk6 := blk_grown hk6 hgx (by omega)
              replace h2 := blk_grown h2 hgx (by omega)
              replace h5 := blk_grown h5 hgx (by omega)
              replace hR := own_box hR h11 hgx (by decide)
              replace hE := hE.kept_ hgx (fun q e1 e2 => by have := hltE q e1; injection e2; omega)
              replace hBw := hBw.grown hgx (by have := hBw.size; omega) (fun q e => by injection e; omega)
              clear c111 c112 f111 f112 hgx h11 hltE
              have hBq : Below w4.heap.size w4 (w4.alloc (.cells (edgC (shiftE F.s dd)) 76)) := below_alloc (Below.refl _ _) _
              obtain ⟨Ae, ke, rfl, _, _⟩ := hE.shape
              obtain ⟨en, hen⟩ : ∃ x, x = (E0 ++ (xE.take j).map (shiftE F.s)).length := ⟨_, rfl⟩
              rw [← hen] at hE hk6
              try rw [← hen]
              have henb : en ≤ 1099513724928 := by omega
              have Hen := Lib.hid hen
              clear hen
              have c61 : w4.cell? ⟨g6, 1, none⟩ = some (.slice Ae en ke) := hk6.cellv (i := 1) rfl
              go_upto_region 18 with (first | (refine wl_load_edge rfl _ rfl g11 rfl _ h11x ?_) | (refine wl_one (d := (shiftE F.s dd)) rfl _ rfl rfl ?_) | (at_builtin; refine park ?_))
              refine Parked.mk ?_
              clear c61
              have hEq := hE.then_ hBq
              have hRq := hR.then_ hBq
              have hkq := blk_then hk6 hBq
              have hBwq := below_then hBw hBq
              have hone := slice_one (enc := edgC) (size := 7) (y := (shiftE F.s dd)) (w := w4.alloc (.cells (edgC (shiftE F.s dd)) 76)) (g := w4.heap.size) (t := 76) (Blk.new _ _ _)
              obtain ⟨ie, hie, hye0, hye1, hye2⟩ := info_parts info_edge3
              refine wl_append _ rfl _ _ 22 rfl w.heap.size 76 ie _ 7 56 Tryd.underlying22 hie hye0 hye1 hye2 rfl (by decide) edgC_size edgC_one (.slice Ae _ ke) _ rfl hEq _ _ 1 1 [(shiftE F.s dd)] rfl rfl hone (by rw [← Hen.out]; unfold maxLen; omega) (by rw [← Hen.out]; omega) hBwq.size ?_
              intro v8 w8 hE8 hg8 _
              have hk8 : Blk w8 g6 25 _ := hkq.grown hg8 (fun e => own_blk_ne hEq hkq (by decide) e.symm)
              have hR8 := own_own hRq hEq hg8 (by decide)
              have h28 : Blk w8 w.heap.size 25 _ := (blk_then h2 hBq).grown hg8 (fun e => own_blk_ne hEq (blk_then h2 hBq) (by decide) e.symm)
              have h58 : Blk w8 g8 25 _ := (blk_then h5 hBq).grown hg8 (fun e => own_blk_ne hEq (blk_then h5 hBq) (by decide) e.symm)
              have hBw8 := hBwq.grown hg8 hBwq.size (fun j e => (hEq.lt j e).1)
              obtain ⟨A8, k8, rfl, _, _⟩ := hE8.shape
              obtain ⟨en8, hen8⟩ : ∃ q, q = ((E0 ++ (xE.take j).map (shiftE F.s) : List Edg) ++ [((shiftE F.s dd) : Edg)]).length := ⟨_, rfl⟩
              rw [← hen8] at hE8
              rw [← hen8]
              simp only [Act.put, List.setIfInBounds_toArray, List.set_cons_zero, List.set_cons_succ]
              clear hen8 hone hie hye0 hye1 hye2 hEq hRq hkq hg8 hE hR hk6 hBwq hBq
              go_upto_region 18 with (refine wl_store_cell rfl _ _ _ rfl g6 1 rfl _ _ #[.int .i64 F.s, .slice A8 en8 k8, vR] hk8 (by simp) info_edges1 rfl rfl rfl ?_; intro w9 hk9 hg9)
              have hE9 := own_box hE8 hk8 hg9 (by decide)
              have hR9 := own_box hR8 hk8 hg9 (by decide)
              have hBw9 := hBw8.grown hg9 (by have := hBw8.size; omega) (fun j e => by injection e with e; omega)
              have h29 := blk_grown h28 hg9 (by omega)
              have h59 := blk_grown h58 hg9 (by omega)
              clear hE8 hR8 hBw8 h28 h58 hk8 hg9 h5 h2 h11x
              go_wp2_with (fail)
              exact ⟨⟨j + 1, by omega, rfl, ⟨_, hk9, by rw [Hst2.out, ← List.append_assoc]; exact hE9, hR9⟩, h29, h59, hBw9⟩, by simp only [intOf]; omega⟩
            · have hjI : ¬ (j : Int) < ne := by omega
              have hke : xE.take j = xE := List.take_of_length_le (by have := Hne.out; omega)
              rw [hke] at hE
              obtain ⟨Ar, kr, rfl, _, _⟩ := hR.shape
              obtain ⟨mr, hmr⟩ : ∃ q, q = F.R.length := ⟨_, rfl⟩
              rw [← hmr] at hR hk6
              try rw [← hmr]
              have hmrb : mr ≤ 1099513724928 := by omega
              have Hmr := Lib.hid hmr
              have c62 : wr.cell? ⟨g6, 2, none⟩ = some (.slice Ar mr kr) := hk6.cellv (i := 2) rfl
              have c82 : wr.cell? ⟨g8, 2, none⟩ = some (.slice xB nr xd) := h5.cellv (i := 2) rfl
              obtain ⟨iu, hiu, hyu0, hyu1, hyu2⟩ := info_parts info_r3
              clear hke hmr
              go_upto_region 20 with (at_builtin; refine park ?_)
              refine Parked.mk ?_
              clear c62 c82 c81
              refine wl_append _ rfl _ _ 23 rfl w.heap.size 43 iu _ 1 4 Tryd.underlying23 hiu hyu0 hyu1 hyu2 rfl (by decide) encR_size encR_one (.slice Ar _ kr) _ rfl hR _ xB nr xd xR rfl Hnr.out (hx2.below hBw) (by rw [← Hmr.out]; unfold maxLen; omega) (by rw [← Hmr.out]; omega) hBw.size ?_
              intro v8 w8 hR8 hg8 _
              have hk8 : Blk w8 g6 25 _ := hk6.grown hg8 (fun e => own_blk_ne hR hk6 (by decide) e.symm)
              have hE8 := own_own hE hR hg8 (by decide)
              have h28 : Blk w8 w.heap.size 25 _ := h2.grown hg8 (fun e => own_blk_ne hR h2 (by decide) e.symm)
              have h58 : Blk w8 g8 25 _ := h5.grown hg8 (fun e => own_blk_ne hR h5 (by decide) e.symm)
              have hBw8 := hBw.grown hg8 hBw.size (fun j e => (hR.lt j e).1)
              obtain ⟨A8, k8, rfl, _, _⟩ := hR8.shape
              simp only [Act.put, List.setIfInBounds_toArray, List.set_cons_zero, List.set_cons_succ]
              clear hiu hyu0 hyu1 hyu2 hg8 hE hR hk6 h2 h5 hBw
              go_upto_region 20 with (refine wl_store_cell rfl _ _ _ rfl g6 2 rfl _ _ #[.int .i64 F.s, vE2, .slice A8 _ k8] hk8 (by simp) info_rules1 rfl rfl rfl ?_; intro w9 hk9 hg9)
              have hE9 := own_box hE8 hk8 hg9 (by decide)
              have hR9 := own_box hR8 hk8 hg9 (by decide)
              have hBw9 := hBw8.grown hg9 (by have := hBw8.size; omega) (fun j e => by injection e with e; omega)
              have h29 := blk_grown h28 hg9 (by omega)
              have h59 := blk_grown h58 hg9 (by omega)
              clear hE8 hR8 hBw8 h28 h58 hk8 hg9
              have c60 : w9.cell? ⟨g6, 0, none⟩ = some (.int .i64 F.s) := hk9.cellv (i := 0) rfl
              have c80 : w9.cell? ⟨g8, 0, none⟩ = some (.int .i64 xs) := h59.cellv (i := 0) rfl
              have f60 := hk9.frozen 0
              go_upto_region 21 with (fail)
              have hk10 : Blk (w9.setCell ⟨g6, 0, none⟩ (.int .i64 (F.s + xs))) g6 25 #[.int .i64 (F.s + xs), vE2, .slice A8 _ k8] := hk9.set_eq (i := 0) (u := .int .i64 (F.s + xs)) rfl
              have hg10 : w9.grownBy (w9.setCell ⟨g6, 0, none⟩ (.int .i64 (F.s + xs))) (some g6) := only_setCell (only_refl w9 (some g6)) (p := ⟨g6, 0, none⟩) (.inl rfl) _
              obtain ⟨w10, hw10⟩ : ∃ y, y = w9.setCell ⟨g6, 0, none⟩ (.int .i64 (F.s + xs)) := ⟨_, rfl⟩
              rw [← hw10] at hk10 hg10 ⊢
              clear hw10 c60 c80 f60
              have hE10 := own_box hE9 hk9 hg10 (by decide)
              have hR10 := own_box hR9 hk9 hg10 (by decide)
              have hBw10 := hBw9.grown hg10 (by have := hBw9.size; omega) (fun j e => by injection e with e; omega)
              have h210 := blk_grown h29 hg10 (by omega)
              rw [HE0.out] at hE10
              clear hE9 hR9 hBw9 h29 h59 hk9 hg10
              go_wp2_with (fail)
              exact ⟨⟨k + 1, by omega, rfl, ⟨_, _, by rw [Hst.out]; exact hk10, by rw [Hst.out]; exact hE10, by rw [Hst.out]; exact hR10⟩, h210, hBw10⟩, by simp only [intOf]; omega⟩
        · have hkI : ¬ (k : Int) < n := by omega
          have hke : l.take k = l := List.take_of_length_le (by have := Hn.out; omega)
          rw [hke] at hk6 hE hR
          obtain ⟨F, hF⟩ : ∃ F, F = uFold (l.map MV.F) := ⟨_, rfl⟩
          have he := HE.out
          rw [← hF] at hk6 hE hR he
          have HEF := Lib.hid he
          obtain ⟨Ae, ke, rfl, _, _⟩ := hE.shape
          obtain ⟨Ar, kr, rfl, _, _⟩ := hR.shape
          have hk6n : Blk wr g6 25 (nfaC F.s Ae F.E.length ke Ar F.R.length kr) := hk6
          clear hke hF hbd he hk6
          go_wp2_with (first | (refine wl_load_nfa rfl _ rfl g6 rfl _ _ _ _ _ _ _ hk6n ?_) | (refine wl_store_nfa rfl _ _ rfl w.heap.size _ _ _ _ _ _ _ rfl rfl 0 none 0 0 none 0 0 h2 ?_; intro w7 h7 hg7))
          have hE7 := own_box hE h2 hg7 (by decide)
          have hR7 := own_box hR h2 hg7 (by decide)
          have hBe := hBw.grown hg7 (by omega) (fun j e => by injection e with e; omega)
          refine ret_nfa2 rfl rfl h7 rfl ?_
          refine ⟨hBe, .agg (nfaC F.s Ae F.E.length ke Ar F.R.length kr), ?_, ?_⟩
          · rw [HEF.out]; rfl
          · rw [HEF.out]
            exact ⟨Ae, ke, Ar, kr, rfl, hE7, hR7⟩
end Go.Proofs.YtkedgombccdamaaDoor
namespace Go.Proofs.YtkedgombccdamaaDoor
open Go.RowKit Go.Maps
set_option linter.unusedVariables false
set_option linter.unusedSimpArgs false
attribute [local go_sem] Oper.semAt_some

theorem info_nfaR3 : (Tryd.prog.info? 25).map (fun i => (i.zero, i.size, i.bytes)) = some (some (.agg #[.int .i64 0, .slice none 0 0, .slice none 0 0]), 3, 56) := by kernel_rfl
theorem MV.C_one (x : MV) : x.C.all (·.oneCell') = true := by simp [MV.C, nfaC, Value.oneCell']
theorem bs_nfaR1 (w : World) (s : Int) (A : Option Addr) (n c : Nat) (B : Option Addr) (m d : Nat) : (Instr.buildSlice 49 1 #[(0, .agg (nfaC s A n c B m d))]).run Tryd.prog w = .ok (.slice (some ⟨w.heap.size, 0, none⟩) 1 1) (w.alloc (.cells (nfaC s A n c B m d) 25)) := by kernel_rfl
section
variable {ops : Array Oper} {rest : List Oper} {o : Oper} {a : Act} {w : World} {Q : Exit → Act → World → Prop}
theorem wl_bs_mv (hgd : o.guard = none) (x : Operand) (ho : o.op = .buildSlice 49 1 #[(0, x)]) (y : MV) (hx : a.eval x = .agg y.C)
    (h : wpList Tryd.prog ops Q rest (a.put o.dst (.slice (some ⟨w.heap.size, 0, none⟩) 1 1)) (w.alloc (.cells y.C 25))) : wpList Tryd.prog ops Q (o :: rest) a w :=
  wl_run hgd (v := .slice (some ⟨w.heap.size, 0, none⟩) 1 1) (by unfold execOp; simp only [ho, List.map_toArray, List.map_cons, List.map_nil, hx, Sem.run_bind, MV.C, bs_nfaR1, Result.andThen_ok, Sem.run_pure]) h
end
/-- a machine whose lists are the call's own -/
def MO (w : World) (B : Nat) (x : MV) : Prop := Own w B 76 7 edgC (.slice x.A x.F.E.length x.c) x.F.E ∧ Own w B 43 1 encR (.slice x.B x.F.R.length x.d) x.F.R
theorem MO.then_ {w w' : World} {B : Nat} {x : MV} (h : MO w B x) (hb : Below w.heap.size w w') : MO w' B x := ⟨h.1.then_ hb, h.2.then_ hb⟩
theorem MO.mono {w : World} {B B' : Nat} {x : MV} (h : MO w B x) (hb : B' ≤ B) : MO w B' x := ⟨h.1.mono hb, h.2.mono hb⟩
theorem MO.row {w w' : World} {B b2 : Nat} {x : MV} {v : Value} {ys : List MV} (h : MO w B x) (ho : Own w b2 25 3 MV.C v ys) (hg : w.grownBy w' v.ownBlock) : MO w' B x := ⟨own_own h.1 ho hg (by decide), own_own h.2 ho hg (by decide)⟩
theorem MO.box {w w' : World} {B g : Nat} {x : MV} {cs : Array Value} (h : MO w B x) (hb : Blk w g 25 cs) (hg : w.grownBy w' (some g)) : MO w' B x := ⟨own_box h.1 hb hg (by decide), own_box h.2 hb hg (by decide)⟩
/-- what is asked of each machine -/
structure MGood (x : MV) : Prop where
  fit : Mt.FitsF x.F x.F.s.toNat
  few : x.F.s.toNat ≤ 2100
  ed : x.F.E.length ≤ 6144
  lt : ∀ r ∈ x.F.R, r < 4294967296
theorem fits_right7 {F : NF} {N : Nat} (h : Mt.FitsF F N) : rightF F = true := by
  obtain ⟨hs, f⟩ := h
  unfold rightF rightB
  have h1 := f.one
  rw [Bool.and_eq_true, Bool.and_eq_true, decide_eq_true_eq, decide_eq_true_eq, List.all_eq_true]
  refine ⟨⟨by omega, by rw [f.rules, hs]⟩, fun d hd => ?_⟩
  have h2 := f.kinds d hd
  have h3 := f.fr d hd
  have h4 := f.tt d hd
  have h5 := f.sets d hd
  unfold badE inS
  have h5' : ((d.kd != 2) && !decide (d.st = 0)) = false := by
    by_cases e : d.kd = 2
    · simp [e]
    · rw [h5 e]; simp
  rw [h5', hs]
  simp only [Bool.not_eq_true', Bool.or_eq_false_iff, decide_eq_false_iff_not, Bool.and_eq_true, decide_eq_true_eq, Bool.not_eq_false']
  exact ⟨⟨⟨⟨by omega, by omega⟩, h3⟩, h4⟩, trivial⟩
theorem MGood.vlt {x : MV} (h : MGood x) (q : ByteArray) : Mt.vF q x.F < 4294967296 := Mt.mV_lt (fun r hr => by have := h.lt r hr; omega) _ _ _
theorem orM_lt {l : List Nat} (h : ∀ x ∈ l, x < 4294967296) : Mt.orM l < 4294967296 := by
  induction l with
  | nil => simp [Mt.orM]
  | cons x l ih => exact Nat.or_lt_two_pow (n := 32) (h x (by simp)) (ih fun y hy => h y (by simp [hy]))
def sizesM (ms : List MV) : Nat := (ms.map fun x => x.F.s.toNat).sum
theorem sizesM_le {ms : List MV} (h : ∀ x ∈ ms, MGood x) : sizesM ms ≤ 2100 * ms.length := by
  induction ms with
  | nil => simp [sizesM]
  | cons x l ih =>
    have h1 := (h x (by simp)).few
    have h2 := ih fun y hy => h y (by simp [hy])
    unfold sizesM at h2 ⊢
    rw [List.map_cons, List.sum_cons, List.length_cons]
    omega
noncomputable def metM (q : ByteArray) (ms : List MV) : Nat := Mt.orM (ms.map fun x => Mt.vF q x.F)
theorem metM_lt {ms : List MV} (h : ∀ x ∈ ms, MGood x) (q : ByteArray) : metM q ms < 4294967296 := orM_lt fun v hv => by
  obtain ⟨x, hx, rfl⟩ := List.mem_map.1 hv
  exact (h x hx).vlt q
/-- two lists of machines under way -/
structure UI (base : Nat) (w : World) (v5 v6 : Value) (ms bs : List MV) : Prop where
  l : Own w base 25 3 MV.C v5 ms
  b : Own w base 25 3 MV.C v6 bs
  ne : ∀ g, v5.ownBlock = some g → v6.ownBlock ≠ some g
  m : ∀ x ∈ ms, MO w base x
theorem UI.then_ {base : Nat} {w w' : World} {v5 v6 : Value} {ms bs : List MV} (h : UI base w v5 v6 ms bs) (hb : Below w.heap.size w w') : UI base w' v5 v6 ms bs :=
  ⟨h.l.then_ hb, h.b.then_ hb, h.ne, fun x hx => (h.m x hx).then_ hb⟩
/-- what nfa.Build answers of a tree that may be -/
theorem build_mo (nd : Nd) (hT : nd.isT = true) (hU : ¬ 2048 ≤ nd.U) (r : Nat) (hr : r < 32) (B : Nat) (w : World) (cs : Array Value) (hin : NdIn w B nd cs) (hB : B ≤ w.heap.size) :
    Calls Tryd.prog 22 #[.agg cs, .int .i64 (r : Int)] w fun e w' => Below w.heap.size w w' ∧ ∃ x : MV, x.F = ⟨(Mt.mN nd : Nat), Mt.mE nd, Mt.mR nd r⟩ ∧ e = .returned (.tuple #[.agg x.C, .int .i64 0]) ∧ MO w' w.heap.size x := by
  refine (build_own nd (r : Int) B w cs hin hB).mono ?_
  rintro e w' ⟨hb, v, rfl, A, c, B', d, rfl, hE, hR⟩
  rw [buildF_ok hT hU hr] at hE hR ⊢
  exact ⟨hb, ⟨⟨(Mt.mN nd : Nat), Mt.mE nd, Mt.mR nd r⟩, A, c, B', d⟩, rfl, rfl, hE, hR⟩
theorem m_good {nd : Nd} (hT : nd.isT = true) (hU : ¬ 2048 ≤ nd.U) {r : Nat} (hr : r < 32) {x : MV} (hx : x.F = ⟨(Mt.mN nd : Nat), Mt.mE nd, Mt.mR nd r⟩) : Mt.FitsF x.F (Mt.mN nd) ∧ x.F.s.toNat = Mt.mN nd ∧ x.F.E.length ≤ 6144 ∧ ∀ r ∈ x.F.R, r < 4294967296 := by
  obtain ⟨hs, hel, hend⟩ := layF_good hT
  rw [hx]
  refine ⟨⟨rfl, Mt.m_fits hT r⟩, by simp, ?_, Mt.mR_lt hr⟩
  have : (Mt.mE nd).length ≤ 3 * nd.U := hel
  show (Mt.mE nd).length ≤ 6144
  omega
/-- the union of machines that fit -/
theorem union_mo (A : Option Addr) (c : Nat) (ms : List MV) (hl : ms.length ≤ 12) (hG : ∀ x ∈ ms, MGood x) {base : Nat} (w : World) (ho : Own w base 25 3 MV.C (.slice A ms.length c) ms) (hm : ∀ x ∈ ms, MO w base x) :
    Calls Tryd.prog 23 #[.slice A ms.length c] w fun e w' => Below w.heap.size w w' ∧ ∃ x : MV, x.F = uFold (ms.map MV.F) ∧ e = .returned (.tuple #[.agg x.C, .int .i64 0]) ∧ MO w' w.heap.size x := by
  have hM : MsIn w w.heap.size ms := fun x hx => by
    have h1 := (hG x hx).ed
    have h2 := (hG x hx).few
    have h3 := (hG x hx).fit.2.rules
    exact ⟨(hm x hx).1.slice_all edgC_size, (hm x hx).2.slice_all encR_size, by omega, by omega⟩
  refine (union_own A ms.length c ms rfl (by omega) w (ho.slice_all MV.C_size) hM).mono ?_
  rintro e w' ⟨hb, v, rfl, A', c', B', d, rfl, hE, hR⟩
  have hall : (ms.map MV.F).all rightF = true := by
    rw [List.all_eq_true]
    intro F hF
    obtain ⟨x, hx, rfl⟩ := List.mem_map.1 hF
    exact fits_right7 (hG x hx).fit
  have hu : unionF (ms.map MV.F) = (uFold (ms.map MV.F), 0) := by unfold unionF; rw [hall]; rfl
  rw [hu] at hE hR ⊢
  exact ⟨hb, ⟨uFold (ms.map MV.F), A', c', B', d⟩, rfl, rfl, hE, hR⟩
theorem union_fits (q : ByteArray) (ms : List MV) (hl : ms.length ≤ 12) (hG : ∀ x ∈ ms, MGood x) : Mt.FitsF (uFold (ms.map MV.F)) (1 + sizesM ms) ∧ Mt.vF q (uFold (ms.map MV.F)) = metM q ms ∧ (uFold (ms.map MV.F)).E.length ≤ 1099511627776 ∧ (∀ r ∈ (uFold (ms.map MV.F)).R, r < 4294967296) ∧ sizesM ms ≤ 25200 := by
  have h0 : ∀ F ∈ ms.map MV.F, Mt.FitsF F F.s.toNat := fun F hF => by
    obtain ⟨x, hx, rfl⟩ := List.mem_map.1 hF
    exact (hG x hx).fit
  obtain ⟨h1, h2⟩ := Mt.fold_fits q (ms.map MV.F) h0
  rw [List.map_map] at h1 h2
  have hb := uFold_bound (ms.map MV.F) (fun F hF => by
    obtain ⟨x, hx, rfl⟩ := List.mem_map.1 hF
    have h1 := (hG x hx).ed
    have h2 := (hG x hx).few
    have h3 := (hG x hx).fit.2.rules
    exact ⟨fits_right7 (hG x hx).fit, by omega, by omega⟩)
  rw [List.length_map] at hb
  have hs := sizesM_le hG
  refine ⟨h1, h2, by omega, ?_, by omega⟩
  have key : ∀ l : List NF, (∀ F ∈ l, ∀ r ∈ F.R, r < 4294967296) → ∀ r ∈ (uFold l).R, r < 4294967296 := by
    intro l
    obtain ⟨k, hk⟩ : ∃ k, k = l.reverse := ⟨_, rfl⟩
    have : l = k.reverse := by rw [hk, List.reverse_reverse]
    clear hk
    subst this
    induction k with
    | nil =>
      intro _ r hr
      simp [uFold] at hr
      omega
    | cons F k ih =>
      intro h r hr
      rw [List.reverse_cons] at h hr
      rw [uFold_snoc] at hr
      rcases List.mem_append.1 hr with hr | hr
      · exact ih (fun G hG => h G (by simp at hG ⊢; exact .inl hG)) r hr
      · exact h F (by simp) r hr
  exact key _ fun F hF => by
    obtain ⟨x, hx, rfl⟩ := List.mem_map.1 hF
    exact (hG x hx).lt
end Go.Proofs.YtkedgombccdamaaDoor
namespace Go.Proofs.YtkedgombccdamaaDoor
set_option linter.unusedVariables false
set_option linter.unusedSimpArgs false

namespace Mt
/-- how many bits there are below m -/
def cntB (m x : Nat) : Nat := ((List.range m).filter fun i => x.testBit i).length
theorem cntB_le (m x : Nat) : cntB m x ≤ m := by
  have := List.length_filter_le (fun i => x.testBit i) (List.range m)
  rw [List.length_range] at this
  exact this
theorem cntB_succ (m x : Nat) : cntB (m + 1) x = cntB m x + (if x.testBit m = true then 1 else 0) := by
  unfold cntB
  rw [List.range_succ, List.filter_append, List.length_append]
  cases h : x.testBit m <;> simp [h]
theorem cntB_mono {x y : Nat} (h : ∀ i, x.testBit i = true → y.testBit i = true) : ∀ m, cntB m x ≤ cntB m y
  | 0 => by simp [cntB]
  | m + 1 => by
    have := cntB_mono h m
    rw [cntB_succ, cntB_succ]
    by_cases hx : x.testBit m = true
    · rw [if_pos hx, if_pos (h m hx)]; omega
    · rw [if_neg hx]; split <;> omega
theorem cntB_lt {x y : Nat} (h : ∀ i, x.testBit i = true → y.testBit i = true) {k : Nat} (hy : y.testBit k = true) (hx : ¬ x.testBit k = true) : ∀ m, k < m → cntB m x < cntB m y
  | 0, hk => by omega
  | m + 1, hk => by
    rw [cntB_succ, cntB_succ]
    by_cases e : k = m
    · subst e
      rw [if_neg hx, if_pos hy]
      have := cntB_mono h k
      omega
    · have := cntB_lt h hy hx m (by omega)
      by_cases hb : x.testBit m = true
      · rw [if_pos hb, if_pos (h m hb)]; omega
      · rw [if_neg hb]; split <;> omega
section
variable {n : Nat} {T : Rel} {x : Nat}
theorem span_sub (hT : InR n T) (a d : Nat) (hx : below x (n + 1)) : ∀ i, (im n (span T a (a + d)) x).testBit i = true → (im n (span T a (a + (d + 1))) x).testBit i = true := by
  intro i hi
  rw [im_bit (span_in hT _ _) hx] at hi ⊢
  obtain ⟨j, h1, k, h2, h3, h4⟩ := hi
  exact ⟨j, h1, k, h2, by omega, h4⟩
/-- some turn, of the first ones, adds nothing -/
theorem span_stops (hT : InR n T) (a : Nat) (hx : below x (n + 1)) : ∃ d, d ≤ n ∧ im n (span T a (a + (d + 1))) x = im n (span T a (a + d)) x := by
  by_cases h : ∃ d, d ≤ n ∧ im n (span T a (a + (d + 1))) x = im n (span T a (a + d)) x
  · exact h
  exfalso
  have hne : ∀ d, d ≤ n → im n (span T a (a + (d + 1))) x ≠ im n (span T a (a + d)) x := fun d hd e => h ⟨d, hd, e⟩
  have h0 : 1 ≤ cntB (n + 1) (im n (span T a (a + 0)) x) := by
    by_cases hz : ∃ i, (im n (span T a (a + 0)) x).testBit i = true
    · obtain ⟨i, hi⟩ := hz
      have hin : i < n + 1 := im_below _ _ _ i hi
      have := cntB_lt (x := 0) (y := im n (span T a (a + 0)) x) (fun i h => by simp at h) hi (by simp) (n + 1) hin
      omega
    · exfalso
      refine hne 0 (Nat.zero_le _) ?_
      apply bits_ext
      intro j
      constructor
      · intro hj
        rw [im_bit (span_in hT _ _) hx] at hj
        obtain ⟨i, h1, k, h2, h3, h4⟩ := hj
        exfalso
        have hk : k = a ∨ k = a + 1 := by omega
        rcases hk with rfl | rfl
        · exact hz ⟨j, by rw [im_bit (span_in hT _ _) hx]; exact ⟨i, h1, k, h2, by omega, h4⟩⟩
        · obtain ⟨q, h5, h6⟩ := h4
          exact hz ⟨q, by rw [im_bit (span_in hT _ _) hx]; exact ⟨i, h1, a, Nat.le_refl _, by omega, h5⟩⟩
      · intro hj
        exact absurd ⟨j, hj⟩ hz
  have key : ∀ d, d ≤ n + 1 → d + 1 ≤ cntB (n + 1) (im n (span T a (a + d)) x) := by
    intro d
    induction d with
    | zero => intro _; exact h0
    | succ d ih =>
      intro hd
      have h1 := ih (by omega)
      have hs := span_sub hT a d hx
      have hex : ∃ k, (im n (span T a (a + (d + 1))) x).testBit k = true ∧ ¬ (im n (span T a (a + d)) x).testBit k = true := by
        refine Classical.byContradiction fun hc => hne d (by omega) ?_
        apply bits_ext
        intro j
        exact ⟨fun hj => Classical.byContradiction fun h2 => hc ⟨j, hj, h2⟩, hs j⟩
      obtain ⟨k, h2, h3⟩ := hex
      have := cntB_lt hs h2 h3 (n + 1) (im_below _ _ _ k h2)
      omega
  have := key (n + 1) (Nat.le_refl _)
  have := cntB_le (n + 1) (im n (span T a (a + (n + 1))) x)
  omega
/-- as many turns as there are places are enough -/
theorem span_enough (hT : InR n T) (a : Nat) (hx : below x (n + 1)) : ∀ e, im n (span T a (a + (n + 1) + e)) x = im n (span T a (a + (n + 1))) x := by
  obtain ⟨d, hd, he⟩ := span_stops hT a hx
  have hf := im_full hT (a := a) (b := a + d) (by omega) hx (by rw [im_span hT (by omega) hx]; exact he)
  intro e
  have h1 := hf (n + 1 + e - d)
  have h2 := hf (n + 1 - d)
  rw [show a + d + (n + 1 + e - d) = a + (n + 1) + e by omega] at h1
  rw [show a + d + (n + 1 - d) = a + (n + 1) by omega] at h2
  rw [h1, h2]
end
end Mt
end Go.Proofs.YtkedgombccdamaaDoor
namespace Go.Proofs.YtkedgombccdamaaDoor
set_option linter.unusedVariables false
set_option linter.unusedSimpArgs false

namespace Mt
section
variable {n : Nat} {T : Rel} {x : Nat}
theorem low_below (hx : below x (n + 1)) (k : Nat) : below (x % 2 ^ k) (n + 1) := fun i hi => by
  rw [Nat.testBit_mod_two_pow, Bool.and_eq_true] at hi
  exact hx i hi.2
theorem im_low_zero (hT : InR n T) : im n T (x % 2 ^ 0) = 0 := by
  apply bits_ext
  intro j
  rw [Nat.pow_zero, Nat.mod_one, im_bit hT (below_zero _)]
  simp
theorem im_low_yes (hT : InR n T) (hx : below x (n + 1)) {k : Nat} (hk : x.testBit k = true) : im n T (x % 2 ^ (k + 1)) = im n T (x % 2 ^ k) ||| im n T (2 ^ k) := by
  apply bits_ext
  intro j
  rw [Nat.testBit_or, Bool.or_eq_true, im_bit hT (low_below hx _), im_bit hT (low_below hx _), im_bit hT (below_pow (hx k hk))]
  simp only [Nat.testBit_mod_two_pow, Nat.testBit_two_pow, Bool.and_eq_true, decide_eq_true_eq]
  constructor
  · rintro ⟨i, ⟨h1, h2⟩, h3⟩
    by_cases e : i = k
    · subst e; exact .inr ⟨i, rfl, h3⟩
    · exact .inl ⟨i, ⟨by omega, h2⟩, h3⟩
  · rintro (⟨i, ⟨h1, h2⟩, h3⟩ | ⟨i, h1, h3⟩)
    · exact ⟨i, ⟨by omega, h2⟩, h3⟩
    · subst h1; exact ⟨k, ⟨by omega, hk⟩, h3⟩
theorem low_no {k : Nat} (hk : x.testBit k = false) : x % 2 ^ (k + 1) = x % 2 ^ k := by
  apply bits_ext
  intro j
  simp only [Nat.testBit_mod_two_pow, Bool.and_eq_true, decide_eq_true_eq]
  constructor
  · rintro ⟨h1, h2⟩
    by_cases e : j = k
    · subst e; rw [hk] at h2; cases h2
    · exact ⟨by omega, h2⟩
  · rintro ⟨h1, h2⟩
    exact ⟨by omega, h2⟩
theorem low_all (hx : below x (n + 1)) : x % 2 ^ (n + 1) = x := Nat.mod_eq_of_lt (below_lt hx)
/-- turns from the least number on: as many as there are places, or up to the greatest -/
theorem im_turns (hT : InR n T) (hx : below x (n + 1)) {a d : Nat} {ma : Int} (hm : ma = -1 ∨ (a : Int) ≤ ma) (hd : (a + d : Int) = ma ∨ (n + 1 ≤ d ∧ (ma = -1 ∨ (a + d : Int) ≤ ma))) :
    im n (span T a (a + d)) x = im n (fun i j => ∃ k : Nat, a ≤ k ∧ (ma = -1 ∨ (k : Int) ≤ ma) ∧ riter T k i j) x := by
  have hin : InR n (fun i j => ∃ k : Nat, a ≤ k ∧ (ma = -1 ∨ (k : Int) ≤ ma) ∧ riter T k i j) := fun i j hi ⟨k, _, _, h⟩ => inR_riter hT k i j hi h
  apply bits_ext
  intro j
  rw [im_bit hin hx]
  constructor
  · intro h
    rw [im_bit (span_in hT _ _) hx] at h
    obtain ⟨i, h1, k, h2, h3, h4⟩ := h
    refine ⟨i, h1, k, h2, ?_, h4⟩
    rcases hd with hd | ⟨_, hd | hd⟩
    · exact .inr (by omega)
    · exact .inl hd
    · exact .inr (by omega)
  · rintro ⟨i, h1, k, h2, h3, h4⟩
    by_cases hk : k ≤ a + d
    · rw [im_bit (span_in hT _ _) hx]
      exact ⟨i, h1, k, h2, hk, h4⟩
    · have hdn : n + 1 ≤ d := by
        rcases hd with hd | ⟨hd, _⟩
        · rcases h3 with h3 | h3 <;> omega
        · exact hd
      have e1 := span_enough hT a hx (d - (n + 1))
      rw [show a + (n + 1) + (d - (n + 1)) = a + d by omega] at e1
      have e2 := span_enough hT a hx (k - (a + (n + 1)))
      rw [show a + (n + 1) + (k - (a + (n + 1))) = k by omega] at e2
      rw [e1, ← e2, im_bit (span_in hT _ _) hx]
      exact ⟨i, h1, k, h2, Nat.le_refl _, h4⟩
end
end Mt
end Go.Proofs.YtkedgombccdamaaDoor
