/- Lists of booleans as sets of states; stores of one cell. No condition beyond those named in each lemma. -/
import Derived.Test.YtgahdookojbbiaaDoorRefR
namespace Go.Proofs.YtgahdookojbbiaaDoor
open Go.RowKit Go.Shelf Go.Maps
set_option linter.unusedVariables false
set_option linter.unusedSimpArgs false

def encB (b : Bool) : Array Value := #[.bool b]
theorem encB_size (b : Bool) : (encB b).size = 1 := rfl
theorem encB_one (b : Bool) : (encB b).all (·.oneCell') = true := by simp [encB, Value.oneCell']
def boolsN (x N : Nat) : List Bool := (List.range N).map x.testBit
theorem boolsN_length (x N : Nat) : (boolsN x N).length = N := by simp [boolsN]
theorem boolsN_get (x N i : Nat) (h : i < (boolsN x N).length) : (boolsN x N)[i] = x.testBit i := by simp [boolsN]
theorem boolsN_zero (N : Nat) : boolsN 0 N = List.replicate N false := by
  apply List.ext_getElem
  · simp [boolsN]
  · intro i h1 h2
    simp [boolsN]
theorem boolsN_set (x N q : Nat) : (boolsN x N).set q true = boolsN (x ||| 2 ^ q) N := by
  apply List.ext_getElem
  · simp [boolsN]
  · intro i h1 h2
    rw [List.getElem_set, boolsN_get, boolsN_get, testBit_or_pow]
    by_cases e : q = i
    · simp [e]
    · simp [e]
/-- how many of a row's cells are true -/
def trueAt (w : World) (g i : Nat) : Bool := match w.cell? ⟨g, i, none⟩ with | some (.bool true) => true | _ => false
def trues (w : World) (g N : Nat) : Nat := ((List.range N).filter (trueAt w g)).length
def litN : Value → Nat
  | .bool true => 1
  | _ => 0
theorem trues_own {w : World} {base g n c x N : Nat} (h : Own w base 4 1 encB (.slice (some ⟨g, 0, none⟩) n c) (boolsN x N)) : trues w g N = (bitsTo x N).length := by
  unfold trues bitsTo
  congr 1
  apply List.filter_congr
  intro i hi
  rw [List.mem_range] at hi
  have hl : i < (boolsN x N).length := by rw [boolsN_length]; exact hi
  have := h.row encB_size i hl 0 _ rfl
  rw [boolsN_get] at this
  unfold trueAt
  have h2 : w.cell? ⟨g, i, none⟩ = some (.bool (x.testBit i)) := by
    rw [Nat.mul_one] at this
    exact this
  rw [h2]
  cases x.testBit i <;> rfl
theorem under_bools : Tryd.prog.underlying 59 = some (.slice (Tryd.prog.elem 59)) := by kernel_rfl
theorem size_boolE (w : World) : (sizeOf (Tryd.prog.elem 59)).run Tryd.prog w = .ok 1 w := by kernel_rfl
theorem info_bool3 : (Tryd.prog.info? 4).map (fun i => (i.zero, i.size, i.bytes)) = some (some (.bool false), 1, 1) := by kernel_rfl
theorem info_bools1 : (Tryd.prog.info? 59).map (·.size) = some 1 := by kernel_rfl
/-- a store of one cell into a row of the call's own -/
theorem wl_store_one {α : Type} {enc : α → Array Value} {base : Nat} {e : TypeId} {w : World} {ys : List α} {ops : Array Oper} {rest : List Oper} {o : Oper} {a : Act} {Q : Exit → Act → World → Prop} (hsE : ∀ y, (enc y).size = 1) (hgd : o.guard = none) (t : TypeId) (hsz : (Tryd.prog.info? t).map (·.size) = some 1) (x y : Operand) (ho : o.op = .store t x y)
    (g k n cap : Nat) (hx : a.eval x = .pointer (some ⟨g, k, none⟩)) (z : α) (hy : (enc z).toList = [a.eval y]) (hyc : (a.eval y).cells = #[a.eval y]) (hy1 : (a.eval y).oneCell' = true) (hown : Own w base e 1 enc (.slice (some ⟨g, 0, none⟩) n cap) ys) (hk : k < ys.length)
    (h : ∀ w', Own w' base e 1 enc (.slice (some ⟨g, 0, none⟩) n cap) (ys.set k z) → w.grownBy w' (some g) → wpList Tryd.prog ops Q rest (a.put o.dst undef) w') : wpList Tryd.prog ops Q (o :: rest) a w := by
  have hcell : ∃ u, w.cell? ⟨g, k, none⟩ = some u ∧ (enc ys[k]).toList = [u] := by
    have h0 : 0 < (enc ys[k]).size := by rw [hsE]; decide
    have := hown.row hsE k hk 0 _ (Array.getElem?_eq_getElem h0)
    rw [Nat.mul_one] at this
    refine ⟨_, this, ?_⟩
    apply List.ext_getElem
    · simp [hsE]
    · intro i h1 h2
      have : i = 0 := by simpa using h2
      subst this
      simp
  obtain ⟨u, hcell, hu⟩ := hcell
  have hfr := hown.frozen k
  obtain ⟨v, hv⟩ : ∃ v, a.eval y = v := ⟨_, rfl⟩
  rw [hv] at hy hyc hy1
  have hrun : (storeVar t ⟨g, k, none⟩ v).run Tryd.prog w = .ok () (w.setCell ⟨g, k, none⟩ v) := by
    cases hq : Tryd.prog.info? t with
    | none => rw [hq] at hsz; cases hsz
    | some j =>
      have hs : j.size = 1 := by rw [hq] at hsz; simpa using hsz
      have e := run_store Tryd.prog w ⟨g, k, none⟩ v .plain hy1
      simp only [hcell, hfr, Bool.false_eq_true, if_false] at e
      have e0 : (⟨g, k, none⟩ : Addr).add 0 = ⟨g, k, none⟩ := rfl
      simp [storeVar, sizeOf, typeInfo, hq, hs, hyc, storeCells, e0, e]
  refine wpList_plain hgd fun _ hK => ?_
  unfold Oper.wp execOp
  simp only [ho, hx, hv, Instr.storeAt, Instr.sureAddr, Sem.run_bind, Sem.run_pure, Result.andThen_ok, hrun]
  have o1 := hown.setCell (i := k) (q := 0) (y' := z) (u := v) hsE hk (by decide) (by rw [hu, hy]; rfl)
  rw [Nat.mul_one, Nat.add_zero] at o1
  exact hK _ _ (h _ o1 (only_setCell (only_refl _ _) (.inl rfl) _))
/-- the cells of the document's walk -/
def rwalkC (N : Nat) (A : Option Addr) (n c0 : Nat) (B : Option Addr) (m d0 : Nat) (vin : Value) (met : Nat) (first : Bool) : Array Value := #[.int .i64 (N : Int), .slice A n c0, .slice B m d0, vin, .int .u32 (met : Int), .bool first]
/-- the machine that a caller handed in, in memory that stays -/
structure RMach (B0 : Nat) (W : World) (N : Nat) (E : List Edg) (R : List Nat) (A : Option Addr) (n : Nat) (B : Option Addr) (m : Nat) : Prop where
  fits : Fits N E R
  nE : n = E.length
  mR : m = N
  lE : E.length ≤ 1099511627776
  lN : N ≤ 1099511627776
  lt : ∀ r ∈ R, r < 4294967296
  edges : SliceOf W B0 7 edgC A E
  rules : SliceOf W B0 1 encR B R
  low : B0 ≤ W.heap.size
theorem RMach.then_ {B0 N n m : Nat} {W W' : World} {E : List Edg} {R : List Nat} {A B : Option Addr} (h : RMach B0 W N E R A n B m) (hb : Below W.heap.size W W') : RMach B0 W' N E R A n B m :=
  ⟨h.fits, h.nE, h.mR, h.lE, h.lN, h.lt, h.edges.keep (fun k hk => hb.block k (Nat.lt_of_lt_of_le hk h.low)), h.rules.keep (fun k hk => hb.block k (Nat.lt_of_lt_of_le hk h.low)), Nat.le_trans h.low hb.size⟩
theorem RMach.grown {B0 N n m r : Nat} {W W' : World} {E : List Edg} {R : List Nat} {A B : Option Addr} (h : RMach B0 W N E R A n B m) (hg : W.grownBy W' (some r)) (hr : B0 ≤ r) : RMach B0 W' N E R A n B m :=
  ⟨h.fits, h.nE, h.mR, h.lE, h.lN, h.lt, h.edges.keep (fun k hk => hg.block k (Nat.lt_of_lt_of_le hk h.low) (by simp; omega)), h.rules.keep (fun k hk => hg.block k (Nat.lt_of_lt_of_le hk h.low) (by simp; omega)), Nat.le_trans h.low hg.size⟩
set_option maxRecDepth 100000 in
set_option maxHeartbeats 2000000 in
theorem words_any (B0 gr N n c0 m d0 : Nat) (E : List Edg) (R : List Nat) (A B : Option Addr) (vin : Value) (met : Nat) (first : Bool) (Ai : Option Addr) (ci x Bi : Nat) (hx : below x N) (w : World) (hM : RMach B0 w N E R A n B m) (hw : Blk w gr 61 (rwalkC N A n c0 B m d0 vin met first)) (hin : SliceOf w Bi 1 encB Ai (boolsN x N)) :
    Calls Tryd.prog 26 #[.pointer (some ⟨gr, 0, none⟩), .slice Ai N ci] w fun e w' => e = .returned (.int .u32 (metN R x N : Nat)) ∧ w' = w := by
  have hN := hM.lN
  have hmN := hM.mR
  subst hmN
  obtain ⟨bi, offi, rfl, hbi, hrow⟩ := hin.at_ (by rw [boolsN_length]; exact hM.fits.one)
  obtain ⟨bR, offR, rfl, hbR, hrowR⟩ := hM.rules.at_ (by rw [hM.fits.rules]; exact hM.fits.one)
  have cR : w.cell? ⟨gr, 2, none⟩ = some (.slice (some ⟨bR, offR, none⟩) m d0) := hw.cellv (i := 2) rfl
  have hcell : ∀ k, k < m → w.cell? ⟨bi, offi + k, none⟩ = some (.bool (x.testBit k)) := fun k hk => by
    have hl : k < (boolsN x m).length := by rw [boolsN_length]; exact hk
    have := hrow k hl 0 _ rfl
    rw [boolsN_get, Nat.mul_one] at this
    exact this
  have hcellR : ∀ k, k < m → w.cell? ⟨bR, offR + k, none⟩ = some (.int .u32 (R.getD k 0 : Nat)) := fun k hk => by
    have hl : k < R.length := by rw [hM.fits.rules]; exact hk
    have := hrowR k hl 0 _ rfl
    rw [Nat.mul_one] at this
    rw [List.getD_eq_getElem?_getD, List.getElem?_eq_getElem hl, Option.getD_some]
    exact this
  have hR := hM.lt
  have Hcell := Lib.hid hcell
  have HcellR := Lib.hid hcellR
  clear hrow hrowR hM hin hw hcell hcellR
  go_enter Tryd.func26, Tryd.ntmps26
  go_wp2_with (fail)
  go_loopw [6, 5] (fun i r wr => ∃ k : Nat, k ≤ m ∧ i = .int .i64 k ∧ r = .int .u32 (orL R (bitsTo x k) : Nat) ∧ wr = w) (fun i _ _ => m - (intOf i).toNat)
  case atStart => exact ⟨0, by omega, rfl, rfl, rfl⟩
  case round =>
    obtain ⟨k, hk, rfl, rfl, rfl⟩ := hrel
    by_cases hkl : k < m
    · have hkI : (k : Int) < m := by omega
      have hc := Hcell.out k hkl
      have hcr := HcellR.out k hkl
      have hkb : k < 1099511628000 := by omega
      have hsucc := bitsTo_succ x k
      have Hs := Lib.hid hsucc
      obtain ⟨v, hv⟩ : ∃ v, v = orL R (bitsTo x k) := ⟨_, rfl⟩
      have hvl : v < 4294967296 := by rw [hv]; exact orL_lt hR _
      have hor := u32_or_nat v (R.getD k 0) hvl (ruleD_lt hR k)
      obtain ⟨rk, hrk⟩ : ∃ q, q = R.getD k 0 := ⟨_, rfl⟩
      rw [← hrk] at hor hcr
      have Hrk := Lib.hid hrk
      clear hrk
      rw [← hv]
      have Hv := Lib.hid hv
      clear hv hsucc
      cases hb : x.testBit k
      · rw [hb] at hc
        go_wp2_with (fail)
        exact ⟨⟨k + 1, by omega, rfl, by rw [Hs.out, if_neg (by rw [hb]; decide), ← Hv.out], trivial⟩, by simp only [intOf]; omega⟩
      · rw [hb] at hc
        go_wp2_with (fail)
        refine ⟨⟨k + 1, by omega, rfl, ?_, trivial⟩, by simp only [intOf]; omega⟩
        rw [Hs.out, if_pos hb, orL_snoc, ← Hv.out, ← Hrk.out]
    · have hkI : ¬ (k : Int) < m := by omega
      obtain rfl : k = m := by omega
      go_wp2_with (fail)
      go_ret
      exact ⟨rfl, rfl⟩
end Go.Proofs.YtgahdookojbbiaaDoor
