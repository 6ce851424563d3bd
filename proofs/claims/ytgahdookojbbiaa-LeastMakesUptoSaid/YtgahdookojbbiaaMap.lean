/- Maps of the call's own, keyed by arrays of integers, with integers for elements: a plain function says what they hold. -/
import Derived.Test.YtgahdookojbbiaaNum
import Derived.Maps.OwnSet
import Derived.Maps.OwnOps
import Derived.DeepKeys4
import Derived.WideKeyPair
namespace Go.Proofs.Ytgahdookojbbiaa
open Go.RowKit Go.Maps Go.WideMaps
set_option linter.unusedVariables false
set_option linter.unusedSimpArgs false

theorem mapM_lits {P : Program} {e : TypeId} {q : IntKind} (he : P.underlying e = some (.int q)) (d : Nat) (xs : List Int) (hw : ∀ x ∈ xs, (Lit.int q x).wf = true) :
    ∀ is : List Nat, (∀ i ∈ is, i < xs.length) → (is.mapM fun i => P.keyLits (d + 1) e (((xs.map (Value.int q)).drop (i * 1)).take 1)) = some (is.map fun i => [Lit.int q (xs.getD i 0)]) := by
  intro is
  induction is with
  | nil => intro _; rfl
  | cons i is ih =>
    intro h
    have hi : i < xs.length := h i (by simp)
    have e1 : ((xs.map (Value.int q)).drop (i * 1)).take 1 = [.int q xs[i]] := by
      rw [Nat.mul_one, List.drop_eq_getElem_cons (by simpa using hi)]
      simp
    have e2 : xs.getD i 0 = xs[i] := by simp [hi]
    have hx := hw xs[i] (List.getElem_mem hi)
    rw [List.mapM_cons, ih fun j hj => h j (by simp [hj]), e1]
    simp [Program.keyLits, he, hx, hi]
theorem flatten_ones {α β : Type} (f : α → β) : ∀ l : List α, (l.map fun i => [f i]).flatten = l.map f
  | [] => rfl
  | x :: l => by simp [flatten_ones f l]
theorem keyOf_ints {P : Program} {k e : TypeId} {q : IntKind} {n : Nat} (A : ArrKey P k e n) (he : P.underlying e = some (.int q)) (hsz : ∃ m, P.types.size = m + 1) (xs : List Int) (hn : xs.length = n) (hw : ∀ x ∈ xs, (Lit.int q x).wf = true) :
    keyOf P k (.agg (intsC q xs)) = some (.string (keyBytes (xs.map (Lit.int q)))) := by
  have hkt := A.keyType hsz
  obtain ⟨m, hm⟩ := hsz
  have hc : (Value.agg (intsC q xs)).cells.toList = xs.map (Value.int q) := by simp [Value.cells, intsC]
  have e1 : ((List.range n).map fun i => [Lit.int q (xs.getD i 0)]).flatten = xs.map (Lit.int q) := by
    rw [flatten_ones, ← hn]
    apply List.ext_getElem
    · simp
    · intro i h1 h2
      have : i < xs.length := by simpa using h2
      simp [this]
  unfold keyOf
  simp only [A.hu]
  rw [if_pos (by simp [hkt, Value.formed, A.hu, A.size, intsC, hn]), hm, hc]
  unfold Program.keyLits
  simp only [A.hu]
  rw [if_pos (by rw [A.size]; simp [hn]), A.one, mapM_lits he m xs hw _ (fun i hi => by rw [List.mem_range] at hi; omega)]
  simp only [Option.map_some, e1]
theorem intsC_inj {k : IntKind} {l l' : List Int} (h : intsC k l = intsC k l') : l = l' := by
  have h1 := congrArg Array.toList h
  simp only [intsC] at h1
  exact (List.map_inj_right (f := Value.int k) (by intro a b e; injection e)).1 h1

/-- keys that are told by a plain type -/
structure KeyEnc (P : Program) (k : TypeId) (κ : Type) (ok : κ → Prop) (kv : κ → Value) (lit : κ → Lit) : Prop where
  law : Keyed P k
  key : ∀ x, ok x → keyOf P k (kv x) = some (lit x)
  inj : ∀ x y, kv x = kv y → x = y
section
variable {P : Program} {k e : TypeId} {κ : Type} {ok : κ → Prop} {kv : κ → Value} {lit : κ → Lit}
theorem KeyEnc.lit_ne (K : KeyEnc P k κ ok kv lit) {x y : κ} (hx : ok x) (hy : ok y) (h : y ≠ x) : lit y ≠ lit x := fun e => h (K.inj _ _ (K.law.inj (K.key y hy) (e ▸ K.key x hx)))
theorem KeyEnc.isKey (K : KeyEnc P k κ ok kv lit) {x : κ} (hx : ok x) : WideAt.IsKeyLit (lit x) := K.law.key (K.key x hx)

/-- block b is a map of the call's own that holds what m says -/
def IntMap (P : Program) (k e : TypeId) (ok : κ → Prop) (lit : κ → Lit) (w : World) (b n : Nat) (m : κ → Option Int) (cnt : Nat) : Prop :=
  ∃ D : DataW Unit, w.ownsMap P k (plainElem P e) b n D ∧ (∀ x, ok x → Maps.has D (lit x) = (m x).isSome) ∧ (∀ x, ok x → D.atKey (lit x) (.lit (.int .i64 0)) = .lit (.int .i64 ((m x).getD 0))) ∧ Maps.size D = cnt

theorem IntMap.new (K : KeyEnc P k κ ok kv lit) (w : World) {g : Nat} (hg : g = w.heap.size) : IntMap P k e ok lit (w.alloc (.map #[] 0)) g 0 (fun _ => none) 0 := by
  subst hg
  exact ⟨_, World.ownsMap_made w P k _, fun x _ => rfl, fun x _ => rfl, rfl⟩
theorem IntMap.lt {w : World} {b n cnt : Nat} {m : κ → Option Int} (h : IntMap P k e ok lit w b n m cnt) : b < w.heap.size := by
  obtain ⟨D, h1, _⟩ := h; exact h1.lt
theorem IntMap.then_ {w w' : World} {b n cnt : Nat} {m : κ → Option Int} (h : IntMap P k e ok lit w b n m cnt) (hb : Below w.heap.size w w') : IntMap P k e ok lit w' b n m cnt := by
  obtain ⟨D, h1, h2⟩ := h
  exact ⟨D, h1.kept (only_of_below hb none) (by simp), h2⟩
theorem IntMap.grown {w w' : World} {b n cnt j : Nat} {m : κ → Option Int} (h : IntMap P k e ok lit w b n m cnt) (hg : w.grownBy w' (some j)) (hne : b ≠ j) : IntMap P k e ok lit w' b n m cnt := by
  obtain ⟨D, h1, h2⟩ := h
  exact ⟨D, h1.kept hg (by simpa using hne), h2⟩
theorem IntMap.drew {w : World} {b n cnt : Nat} {m : κ → Option Int} (h : IntMap P k e ok lit w b n m cnt) : IntMap P k e ok lit w.drew b n m cnt := by
  obtain ⟨D, h1, h2⟩ := h
  exact ⟨D, h1.drew, h2⟩
theorem IntMap.alloc {w : World} {b n cnt : Nat} {m : κ → Option Int} (h : IntMap P k e ok lit w b n m cnt) (o : Obj) : IntMap P k e ok lit (w.alloc o) b n m cnt := by
  obtain ⟨D, h1, h2⟩ := h
  exact ⟨D, h1.alloc o, h2⟩
theorem IntMap.setCell {w : World} {b n cnt : Nat} {m : κ → Option Int} (h : IntMap P k e ok lit w b n m cnt) {a : Addr} (ha : b ≠ a.block) (u : Value) : IntMap P k e ok lit (w.setCell a u) b n m cnt := by
  obtain ⟨D, h1, h2⟩ := h
  exact ⟨D, h1.setCell ha u, h2⟩
theorem IntMap.more {w : World} {b n n' cnt : Nat} {m : κ → Option Int} (h : IntMap P k e ok lit w b n m cnt) (hn : n ≤ n') : IntMap P k e ok lit w b n' m cnt := by
  obtain ⟨D, h1, h2⟩ := h
  exact ⟨D, h1.mono hn, h2⟩
def putM [DecidableEq κ] (m : κ → Option Int) (x : κ) (v : Int) (y : κ) : Option Int := if y = x then some v else m y

section
variable {ops : Array Oper} {rest : List Oper} {o : Oper} {a : Act} {Q : Exit → Act → World → Prop} {w : World} {t : TypeId} {b n cnt : Nat} {mf : κ → Option Int}
theorem wl_map_ok (K : KeyEnc P k κ ok kv lit) (ht : P.underlying t = some (.map k e)) (he : P.underlying e = some (.int .i64)) (hz : (zeroValue e).run P w = .ok (.int .i64 0) w)
    (h : IntMap P k e ok lit w b n mf cnt) (hg : o.guard = none) (m x : Operand) (hop : o.op = Op.lookup t m x true) (hm : a.eval m = .map (some b)) (y : κ) (hy : ok y) (hx : a.eval x = kv y)
    (hK : wpList P ops Q rest (a.put o.dst (.tuple #[.int .i64 ((mf y).getD 0), .bool (mf y).isSome])) w) : wpList P ops Q (o :: rest) a w := by
  obtain ⟨D, h1, h2, h3, h4⟩ := h
  refine wpList_lookup_own_ok_int w hg m x t hop k e .i64 K.law ht he hz b n D hm h1 (kv y) (lit y) hx (K.key y hy) fun c hc _ => ?_
  rw [h3 y hy] at hc
  rw [h2 y hy]
  injection hc with hc
  injection hc with _ hc
  rw [← hc]
  exact hK
theorem wl_map_at (K : KeyEnc P k κ ok kv lit) (ht : P.underlying t = some (.map k e)) (he : P.underlying e = some (.int .i64)) (hz : (zeroValue e).run P w = .ok (.int .i64 0) w)
    (h : IntMap P k e ok lit w b n mf cnt) (hg : o.guard = none) (m x : Operand) (hop : o.op = Op.lookup t m x false) (hm : a.eval m = .map (some b)) (y : κ) (hy : ok y) (hx : a.eval x = kv y)
    (hK : wpList P ops Q rest (a.put o.dst (.int .i64 ((mf y).getD 0))) w) : wpList P ops Q (o :: rest) a w := by
  obtain ⟨D, h1, h2, h3, h4⟩ := h
  obtain ⟨c, hrun, hat, _⟩ := h1.lookup_int K.law ht he hz (K.key y hy)
  rw [h3 y hy] at hat
  injection hat with hat
  injection hat with _ hat
  refine wpList_plain hg fun K' hK' => ?_
  unfold Oper.wp
  simp [execOp, hop, hm, hx, hrun, Result.andThen]
  rw [← hat]
  exact hK' _ _ hK
theorem wl_map_len (ht : P.underlying t = some (.map k e)) (h : IntMap P k e ok lit w b n mf cnt) (hg : o.guard = none) (m : Operand)
    (hop : o.op = Op.call { callee := Callee.builtin Builtin.len, args := #[m], argTypes := #[t] }) (hm : a.eval m = .map (some b))
    (hK : wpList P ops Q rest (a.put o.dst (.int .i64 cnt)) w) : wpList P ops Q (o :: rest) a w := by
  obtain ⟨D, h1, h2, h3, rfl⟩ := h
  exact wpList_len_own w hg m t hop k e ht _ b n D hm h1 hK
theorem wl_map_put [DecidableEq κ] (K : KeyEnc P k κ ok kv lit) (ht : P.underlying t = some (.map k e)) (he : P.underlying e = some (.int .i64))
    (h : IntMap P k e ok lit w b n mf cnt) (hn : n < maxLen) (hg : o.guard = none) (m x v : Operand) (hop : o.op = Op.mapUpdate t m x v) (hm : a.eval m = .map (some b)) (y : κ) (hy : ok y) (hx : a.eval x = kv y)
    (c : Int) (hv : a.eval v = .int .i64 c) (hc : (Lit.int .i64 c).wf = true)
    (hK : ∀ w', IntMap P k e ok lit w' b (n + 1) (putM mf y c) (if (mf y).isSome then cnt else cnt + 1) → w.grownBy w' (some b) → wpList P ops Q rest (a.put o.dst undef) w') : wpList P ops Q (o :: rest) a w := by
  obtain ⟨D, h1, h2, h3, h4⟩ := h
  refine wpList_mapUpdate_own w hg m x v t hop k e K.law ht _ b n D hm h1 hn (kv y) (.int .i64 c) (lit y) hx hv (K.key y hy) _ [] (plainElem_int he hc) fun w' h5 h6 => hK w' ?_ h6
  refine ⟨_, h5, fun z hz => ?_, fun z hz => ?_, ?_⟩
  · by_cases e1 : z = y
    · subst e1
      rw [Maps.has_put_same h1.isMap (K.isKey hy)]
      simp [putM]
    · rw [Maps.has_put_other (K.lit_ne hy hz e1), h2 z hz]
      simp [putM, e1]
  · by_cases e1 : z = y
    · subst e1
      rw [Maps.atKey_put_same h1.isMap (K.isKey hy)]
      simp [putM]
    · rw [Maps.atKey_put_other (K.lit_ne hy hz e1), h3 z hz]
      simp [putM, e1]
  · rw [Maps.size_put (h1.tidy K.law), h2 y hy, h4]
end
end
theorem types_pos : ∃ m, Try.prog.types.size = m + 1 := ⟨Try.prog.types.size - 1, by have : 0 < Try.prog.types.size := of_decide_eq_true (by kernel_rfl); omega⟩
theorem laid_out : laidOutB Try.prog = true := by kernel_rfl
theorem zero_int (w : World) : (zeroValue 3).run Try.prog w = .ok (.int .i64 0) w := by kernel_rfl

end Go.Proofs.Ytgahdookojbbiaa
