/- Further operations for regions that draw their order: fields, single cells, edges. -/
import Derived.Test.YtjpiebapemalfaaEdge
import Derived.Test.YtjpiebapemalfaaPartA
namespace Go.Proofs.Ytjpiebapemalfaa
open Go.RowKit Go.Maps Go.WideMaps
set_option linter.unusedVariables false
set_option linter.unusedSimpArgs false

theorem run_load1 {P : Program} (w : World) (a : Addr) (ty : TypeId) (d : TypeDesc) (v : Value) (hc : w.cell? a = some v) (hu : P.underlying ty = some d) (hd : (match d with | .struct _ | .array _ _ => true | _ => false) = false) :
    (loadVar ty a).run P w = .ok v w := by
  have hagg : (isAgg ty).run P w = .ok false w := by
    unfold isAgg
    rw [Sem.run_bind, run_underlying hu w]
    cases d <;> simp_all
  simp [loadVar, Sem.run_bind, hagg, hc]
theorem field_nfa_0 (b off : Nat) (w : World) : (Instr.fieldAt 25 (.pointer (some ⟨b, off, none⟩)) 0).run Try.prog w = .ok (.pointer (some ⟨b, off, none⟩)) w := by kernel_rfl
theorem field_nfa_1 (b off : Nat) (w : World) : (Instr.fieldAt 25 (.pointer (some ⟨b, off, none⟩)) 1).run Try.prog w = .ok (.pointer (some ⟨b, off + 1, none⟩)) w := by kernel_rfl
theorem field_nfa_2 (b off : Nat) (w : World) : (Instr.fieldAt 25 (.pointer (some ⟨b, off, none⟩)) 2).run Try.prog w = .ok (.pointer (some ⟨b, off + 2, none⟩)) w := by kernel_rfl
theorem field_edge_0 (b off : Nat) (w : World) : (Instr.fieldAt 33 (.pointer (some ⟨b, off, none⟩)) 0).run Try.prog w = .ok (.pointer (some ⟨b, off, none⟩)) w := by kernel_rfl
theorem field_edge_1 (b off : Nat) (w : World) : (Instr.fieldAt 33 (.pointer (some ⟨b, off, none⟩)) 1).run Try.prog w = .ok (.pointer (some ⟨b, off + 1, none⟩)) w := by kernel_rfl
theorem field_edge_2 (b off : Nat) (w : World) : (Instr.fieldAt 33 (.pointer (some ⟨b, off, none⟩)) 2).run Try.prog w = .ok (.pointer (some ⟨b, off + 2, none⟩)) w := by kernel_rfl
theorem field_edge_3 (b off : Nat) (w : World) : (Instr.fieldAt 33 (.pointer (some ⟨b, off, none⟩)) 3).run Try.prog w = .ok (.pointer (some ⟨b, off + 3, none⟩)) w := by kernel_rfl
section
variable {P : Program} {ops : Array Oper} {S : Nat → GSpec} {Q : Exit → Act → World → Prop} {i : Nat} {o : Oper} {a : Act} {w : World}
theorem gs_field (hw : Region.wanted o (yielded ops a.tmps) = true) (t : TypeId) (x : Operand) (f : Nat) (ho : o.op = .fieldAddr t x f) (b off off' : Nat) (hx : a.eval x = .pointer (some ⟨b, off, none⟩))
    (hr : ∀ w, (Instr.fieldAt t (.pointer (some ⟨b, off, none⟩)) f).run P w = .ok (.pointer (some ⟨b, off', none⟩)) w) (hp : (S i).p (.pointer (some ⟨b, off', none⟩)) w) : GStep P ops S Q i o a w :=
  gs_run hw (v := .pointer (some ⟨b, off', none⟩)) (by unfold execOp; simp only [ho, hx, Sem.run_bind, hr, Result.andThen_ok, Sem.run_pure]) (Below.refl _ _) hp
theorem gs_load1 (hw : Region.wanted o (yielded ops a.tmps) = true) (ty : TypeId) (x : Operand) (ho : o.op = .load ty x) (b off : Nat) (hx : a.eval x = .pointer (some ⟨b, off, none⟩)) (v : Value) (hc : w.cell? ⟨b, off, none⟩ = some v)
    (d : TypeDesc) (hu : P.underlying ty = some d) (hd : (match d with | .struct _ | .array _ _ => true | _ => false) = false) (hp : (S i).p v w) : GStep P ops S Q i o a w :=
  gs_run hw (v := v) (by unfold execOp; simp only [ho, hx, Instr.loadAt, Instr.sureAddr, Sem.run_bind, Sem.run_pure, Result.andThen_ok, run_load1 w _ ty d v hc hu hd]) (Below.refl _ _) hp
end
section
variable {ops : Array Oper} {S : Nat → GSpec} {Q : Exit → Act → World → Prop} {i : Nat} {o : Oper} {a : Act} {w : World}
theorem gs_load_edge_at (hw : Region.wanted o (yielded ops a.tmps) = true) (x : Operand) (ho : o.op = .load 33 x) (b off : Nat) (hx : a.eval x = .pointer (some ⟨b, off, none⟩)) (y : Edg) (hr : RowAt w b off (edgC y))
    (hp : (S i).p (.agg (edgC y)) w) : GStep Try.prog ops S Q i o a w :=
  gs_run hw (v := .agg (edgC y)) (by unfold execOp; simp only [ho, hx, Instr.loadAt, Instr.sureAddr, Sem.run_bind, Sem.run_pure, Result.andThen_ok, run_loadVar_at w b off _ _ _ hr Try.underlying33 rfl (info_edge.trans (by rw [edgC_size]))]) (Below.refl _ _) hp
theorem gs_neq_edge (hw : Region.wanted o (yielded ops a.tmps) = true) (x y : Operand) (t2 : TypeId) (ho : o.op = .binOp .neq 33 x y t2) (p q : Edg) (hx : a.eval x = .agg (edgC p)) (hy : a.eval y = .agg (edgC q))
    (hp : (S i).p (.bool (!decide (p = q))) w) : GStep Try.prog ops S Q i o a w :=
  gs_bin hw _ _ _ x y ho _ _ _ hx hy (run_eqGuard_agg w _ _ _ _ _ _ guard_edge) (run_neq_edge p q w) hp
end
theorem eqFE {p q : Edg} (h : p = q) : Value.bool (!decide (p = q)) = .bool false := by rw [decide_eq_true h]; rfl

theorem eqNI {p q : Int} (h : ¬ p = q) : Value.bool (p == q) = .bool false := by rw [beq_eq_false_iff_ne.2 h]
theorem neNI {p q : Int} (h : ¬ p = q) : Value.bool (p != q) = .bool true := by rw [bne_iff_ne.2 h]

/-! ### maps keyed by sets -/
theorem arr_set : ArrKey Try.prog 31 29 4 := ⟨Try.underlying31, by kernel_rfl, by kernel_rfl, by kernel_rfl⟩
theorem wf_word (x : BSet) (k : Nat) : (Lit.int .u64 (word x k : Int)).wf = true := by
  have h := word_lt' x k
  have h2 : IntKind.u64.min = 0 := by decide
  have h3 : IntKind.u64.max = 18446744073709551615 := by decide
  simp only [Lit.wf, Bool.and_eq_true, decide_eq_true_eq]
  exact ⟨by omega, by omega⟩
def litS (x : BSet) : Lit := .string (keyBytes ((words x).map (Lit.int .u64)))
theorem keySet : KeyEnc Try.prog 31 BSet (fun _ => True) (fun x => .agg (setC x)) litS where
  law := Keyed.of_law (deep_law_laid laid_out (m := 2) (by omega) (of_decide_eq_true (by kernel_rfl)) (by kernel_rfl) (by rw [Try.underlying31]))
  key y _ := keyOf_ints arr_set Try.underlying29 types_pos (words y) rfl (fun x hx => by
    simp only [words, List.mem_cons, List.not_mem_nil, or_false] at hx
    rcases hx with rfl | rfl | rfl | rfl <;> exact wf_word _ _)
  inj x y h := setC_inj (by injection h)
def mapS (xs : List BSet) (x : BSet) : Option Int := if x ∈ xs then some 1 else none
theorem mapS_nil : mapS [] = fun _ => none := by funext x; simp [mapS]
theorem mapS_old {xs : List BSet} {x : BSet} (h : x ∈ xs) : (mapS xs x).getD 0 = 1 := by simp [mapS, h]
theorem mapS_new {xs : List BSet} {x : BSet} (h : x ∉ xs) : (mapS xs x).getD 0 = 0 := by simp [mapS, h]
theorem mapS_none {xs : List BSet} {x : BSet} (h : x ∉ xs) : (mapS xs x).isSome = false := by simp [mapS, h]
theorem mapS_put {xs : List BSet} {x : BSet} : putM (mapS xs) x 1 = mapS (xs ++ [x]) := by
  funext y
  unfold putM mapS
  by_cases h : y = x <;> by_cases h2 : y ∈ xs <;> simp [h, h2]
theorem IntMap.grown' {P : Program} {k e : TypeId} {κ : Type} {ok : κ → Prop} {lit : κ → Lit} {w w' : World} {b n cnt : Nat} {m : κ → Option Int} {row : Option Nat} (h : IntMap P k e ok lit w b n m cnt) (hg : w.grownBy w' row) (hne : some b ≠ row) : IntMap P k e ok lit w' b n m cnt := by
  obtain ⟨D, h1, h2⟩ := h
  exact ⟨D, h1.kept hg hne, h2⟩
abbrev SMap (w : World) (b n : Nat) (xs : List BSet) : Prop := IntMap Try.prog 31 3 (fun _ => True) litS w b n (mapS xs) xs.length
section
variable {ops : Array Oper} {S : Nat → GSpec} {Q : Exit → Act → World → Prop} {i : Nat} {o : Oper} {a : Act} {w : World}
theorem gs_lookup_set (hw : Region.wanted o (yielded ops a.tmps) = true) (m x : Operand) (ho : o.op = .lookup 73 m x false) (b n : Nat) (xs : List BSet) (h : SMap w b n xs) (hm : a.eval m = .map (some b)) (y : BSet) (hx : a.eval x = .agg (setC y))
    (z : Int) (hz : (mapS xs y).getD 0 = z) (hp : (S i).p (.int .i64 z) w) : GStep Try.prog ops S Q i o a w := by
  obtain ⟨D, h1, h2, h3, h4⟩ := h
  obtain ⟨c, hrun, hat, _⟩ := h1.lookup_int keySet.law Try.underlying73 Try.underlying3 (zero_int w) (keySet.key y trivial)
  rw [h3 y trivial, hz] at hat
  injection hat with hat
  injection hat with _ hat
  subst hat
  exact gs_run hw (v := .int .i64 z) (by unfold execOp; simp only [ho, hm, hx, Sem.run_bind, hrun, Result.andThen_ok, Sem.run_pure]) (Below.refl _ _) hp
end

end Go.Proofs.Ytjpiebapemalfaa
