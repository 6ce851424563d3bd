/- heronlaw11.old and now; a table that a box holds and whose lists are the call's own. No condition beyond those named in each lemma. -/
import Derived.Test.YtgahdookojbbiaaLRenP
import Derived.Test.YtgahdookojbbiaaLFix
namespace Go.Proofs.Ytgahdookojbbiaa
open Go.RowKit Go.Maps
set_option linter.unusedVariables false
set_option linter.unusedSimpArgs false
attribute [local go_sem] Oper.semAt_some

theorem sub_mod_nat (a b c : Nat) (h : b ≤ a) : ((a : Int) - (b : Int)) % (c : Int) = (((a - b) % c : Nat) : Int) := by
  have e : (a : Int) - b = ((a - b : Nat) : Int) := by omega
  rw [e]; rfl
set_option maxRecDepth 100000 in
theorem old_any (i n : Nat) (hi : i < 2 * n) (hn : n ≤ 60) (w : World) :
    Calls Try.prog 30 #[.int .i64 (i : Int), .int .i64 (n : Int)] w fun e w' => e = .returned (.int .i64 ((oldN n i : Nat) : Int)) ∧ Below w.heap.size w w' := by
  go_enter Try.func30, Try.ntmps30
  have hn0 : ¬ (n : Int) = 0 := by omega
  by_cases h : i < n
  · have hI : (i : Int) < n := by omega
    go_wp2_with (fail)
    go_ret
    refine ⟨?_, Below.refl _ _⟩
    show Ending.returned (Value.int .i64 (((n : Int) - (i : Int)) % (n : Int))) = _
    unfold oldN
    rw [if_pos h, sub_mod_nat _ _ _ (by omega)]
  · have hI : ¬ (i : Int) < n := by omega
    go_wp2_with (fail)
    go_ret
    refine ⟨?_, Below.refl _ _⟩
    show Ending.returned (Value.int .i64 ((i : Int) - (n : Int))) = _
    unfold oldN
    rw [if_neg h]
    congr 2
    omega
theorem enter_old (args : Array Value) (w : World) : (callFunc 30 args).run Try.prog w = .ok (.enter 30 args) w := by kernel_rfl
set_option maxRecDepth 100000 in
theorem now_any (s n p : Nat) (hs : s < n) (hn : n ≤ 60) (w : World) :
    Calls Try.prog 31 #[.int .i64 (s : Int), .int .i64 (n : Int), .int .i64 (p : Int)] w fun e w' => e = .returned (.int .i64 ((nowN n s p : Nat) : Int)) ∧ Below w.heap.size w w' := by
  go_enter Try.func31, Try.ntmps31
  have hn0 : ¬ (n : Int) = 0 := by omega
  by_cases h : p = 0
  · have hI : (p : Int) = 0 := by omega
    go_wp2_with (fail)
    go_ret
    refine ⟨?_, Below.refl _ _⟩
    show Ending.returned (Value.int .i64 (((n : Int) - (s : Int)) % (n : Int))) = _
    unfold nowN
    rw [if_pos h, sub_mod_nat _ _ _ (by omega)]
  · have hI : ¬ (p : Int) = 0 := by omega
    go_wp2_with (fail)
    go_ret
    refine ⟨?_, Below.refl _ _⟩
    show Ending.returned (Value.int .i64 ((n : Int) + (s : Int))) = _
    unfold nowN
    rw [if_neg h]
    congr 2
theorem enter_now (args : Array Value) (w : World) : (callFunc 31 args).run Try.prog w = .ok (.enter 31 args) w := by kernel_rfl
theorem park_store {ops : Array Oper} {rest : List Oper} {o : Oper} {a : Act} {w : World} {Q : Exit → Act → World → Prop} (t : TypeId) (x y : Operand) (ho : o.op = .store t x y) (h : Parked (wpList Try.prog ops Q (o :: rest) a w)) : wpList Try.prog ops Q (o :: rest) a w := h.h
/-- a table in a box, its lists the call's own -/
structure RI (go bv : Nat) (W : World) (y : TV) : Prop where
  own : TOwn W bv y [] [] []
  out : Blk W go 47 y.C'
section
variable {go bv g c8 : Nat} {W W' W2 : World} {y : TV} {A8 : Option Addr} {cs : Array Value} {r : RV} {v : Nat} {t : TypeId}
theorem RI.then_ (h : RI go bv W y) (hb : Below W.heap.size W W') : RI go bv W' y := ⟨h.own.then_ hb, blk_then h.out hb⟩
theorem RI.low (h : RI go bv W y) (hg : W.grownBy W' (some g)) (h1 : g < bv) (h2 : go ≠ g) : RI go bv W' y := ⟨h.own.low hg h1, blk_grown h.out hg h2⟩
theorem RI.far (h : RI go bv W y) (hb : Blk W g 3 cs) (hg : W.grownBy W' (some g)) (h2 : go ≠ g) (h4 : ∀ j (hj : j < y.rs.length) a, y.rs[j].a = some a → a.block ≠ g) : RI go bv W' y := ⟨h.own.ints hb hg h4, blk_grown h.out hg h2⟩
theorem RI.addRow (h : RI go bv W y) (hg : W.grownBy W' (Value.slice y.A y.rs.length y.c).ownBlock) (ho : Own W' bv 57 1 rowC (.slice A8 (y.rs.length + 1) c8) (y.rs ++ [r])) (hr : Own W' bv 3 1 encZ (.slice r.a (r.l.length + 0) r.c) (r.l ++ []))
    (hap : ∀ i (hi : i < y.rs.length) a b, y.rs[i].a = some a → r.a = some b → a.block ≠ b.block) (hout : Blk W' go 47 y.C') (hG : W'.grownBy W2 (some go))
    (ho9 : Blk W2 go 47 ({ y with rs := y.rs ++ [r], A := A8, c := c8 } : TV).C') : RI go bv W2 { y with rs := y.rs ++ [r], A := A8, c := c8 } :=
  ⟨(h.own.addRow hg ho hr hap).box hout hG (by decide) (by decide) (by decide), ho9⟩
theorem RI.addFo (h : RI go bv W y) (hg : W.grownBy W' (Value.slice y.B y.fo.length y.d).ownBlock) (ho : Own W' bv 55 1 encR (.slice A8 (y.fo.length + 1) c8) (y.fo ++ [v]))
    (hv : (Value.slice A8 (y.fo.length + 1) c8).ownBlock = (Value.slice y.B y.fo.length y.d).ownBlock ∨ (Value.slice A8 (y.fo.length + 1) c8).ownBlock = some W.heap.size) (hout : Blk W' go 47 y.C') (hG : W'.grownBy W2 (some go))
    (ho9 : Blk W2 go 47 ({ y with fo := y.fo ++ [v], B := A8, d := c8 } : TV).C') : RI go bv W2 { y with fo := y.fo ++ [v], B := A8, d := c8 } :=
  ⟨(h.own.addFo hg ho hv).box hout hG (by decide) (by decide) (by decide), ho9⟩
theorem RI.addEn (h : RI go bv W y) (hg : W.grownBy W' (Value.slice y.C y.en.length y.e).ownBlock) (ho : Own W' bv 55 1 encR (.slice A8 (y.en.length + 1) c8) (y.en ++ [v]))
    (hv : (Value.slice A8 (y.en.length + 1) c8).ownBlock = (Value.slice y.C y.en.length y.e).ownBlock ∨ (Value.slice A8 (y.en.length + 1) c8).ownBlock = some W.heap.size) (hout : Blk W' go 47 y.C') (hG : W'.grownBy W2 (some go))
    (ho9 : Blk W2 go 47 ({ y with en := y.en ++ [v], C := A8, e := c8 } : TV).C') : RI go bv W2 { y with en := y.en ++ [v], C := A8, e := c8 } :=
  ⟨(h.own.addEn hg ho hv).box hout hG (by decide) (by decide) (by decide), ho9⟩
end
end Go.Proofs.Ytgahdookojbbiaa
