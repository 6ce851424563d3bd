/- Blocks of numbers and of flags known whole, by a function; flags counted; the plain law of the states met. -/
import Derived.Test.YtgahdookojbbiaaLRight2
namespace Go.Proofs.Ytgahdookojbbiaa
open Go.RowKit Go.Maps
set_option linter.unusedVariables false
set_option linter.unusedSimpArgs false

def upd {α : Type} (f : Nat → α) (i : Nat) (v : α) (j : Nat) : α := if j = i then v else f j
theorem upd_self {α : Type} (f : Nat → α) (i : Nat) (v : α) : upd f i v i = v := by simp [upd]
theorem upd_ne {α : Type} (f : Nat → α) {i j : Nat} (v : α) (h : j ≠ i) : upd f i v j = f j := by simp [upd, h]
def arr {α : Type} (e : α → Value) (n : Nat) (K : Nat → α) : Array Value := ((List.range n).map fun i => e (K i)).toArray
def eZ (z : Int) : Value := .int .i64 z
def eB (b : Bool) : Value := .bool b
section
variable {α : Type} (e : α → Value) (n : Nat) (K : Nat → α)
theorem arr_size : (arr e n K).size = n := by simp [arr]
theorem arr_at {i : Nat} (h : i < n) : (arr e n K)[i]? = some (e (K i)) := by simp [arr, h]
theorem arr_set {i : Nat} (v : α) : (arr e n K).setIfInBounds i (e v) = arr e n (upd K i v) := by
  apply Array.ext
  · simp [arr]
  · intro j h1 h2
    have hj : j < n := by simpa [arr] using h2
    have h3 : j < (arr e n K).size := by simpa [arr] using hj
    have e1 : (arr e n K)[j] = e (K j) := by simp [arr]
    have e2 : (arr e n (upd K i v))[j] = e (upd K i v j) := by simp [arr]
    rw [e2, Array.getElem_setIfInBounds h3, e1]
    unfold upd
    by_cases h : i = j
    · subst h; simp
    · rw [if_neg h, if_neg (fun x => h x.symm)]
theorem arr_ext {L : Nat → α} (h : ∀ i, i < n → K i = L i) : arr e n K = arr e n L := by
  unfold arr
  congr 1
  apply List.map_congr_left
  intro i hi
  rw [h i (List.mem_range.1 hi)]
theorem arr_made (z : α) (he : (e z).cells = #[e z]) : madeCells (e z).cells (n * 1) = arr e n fun _ => z := by
  rw [he]
  apply Array.ext
  · simp [arr, size_madeCells]
  · intro j h1 h2
    simp [madeCells, arr]
    rw [Nat.mod_one]
    rfl
end
attribute [irreducible] arr
section
variable {α : Type} {e : α → Value} {w : World} {g n : Nat} {K : Nat → α} {t : TypeId}
theorem blk_arr (h : Blk w g t (arr e n K)) {i : Nat} (hi : i < n) : w.cell? ⟨g, 0 + i * 1, none⟩ = some (e (K i)) := by
  rw [show 0 + i * 1 = i by omega]
  exact h.cellv (arr_at e n K hi)
theorem blk_arrv (h : Blk w g t (arr e n K)) {i : Nat} (hi : i < n) : w.cell? ⟨g, i, none⟩ = some (e (K i)) := h.cellv (arr_at e n K hi)
end
theorem info_int1 : ((Try.prog.info? 3).bind (·.zero) = some (.int .i64 0)) ∧ (Try.prog.info? 3).map (·.size) = some 1 ∧ (Try.prog.info? 3).map (·.bytes) = some 8 := ⟨by kernel_rfl, by kernel_rfl, by kernel_rfl⟩
theorem info_bool1 : ((Try.prog.info? 4).bind (·.zero) = some (.bool false)) ∧ (Try.prog.info? 4).map (·.size) = some 1 ∧ (Try.prog.info? 4).map (·.bytes) = some 1 := ⟨by kernel_rfl, by kernel_rfl, by kernel_rfl⟩
theorem info_one {t : TypeId} {z : Value} {b : Nat} (h : ((Try.prog.info? t).bind (·.zero) = some z) ∧ (Try.prog.info? t).map (·.size) = some 1 ∧ (Try.prog.info? t).map (·.bytes) = some b) : ∃ i, Try.prog.info? t = some i ∧ i.zero = some z ∧ i.size = 1 ∧ i.bytes = b := by
  obtain ⟨h1, h2, h3⟩ := h
  cases e : Try.prog.info? t with
  | none => rw [e] at h2; cases h2
  | some i => rw [e] at h1 h2 h3; exact ⟨i, rfl, h1, by simpa using h2, by simpa using h3⟩
theorem run_make1 {α : Type} (e : α → Value) (z : α) (t s : TypeId) (b N : Nat) (hu : Try.prog.underlying s = some (.slice t)) (h : ((Try.prog.info? t).bind (·.zero) = some (e z)) ∧ (Try.prog.info? t).map (·.size) = some 1 ∧ (Try.prog.info? t).map (·.bytes) = some b) (he : (e z).cells = #[e z])
    (hb : b ≤ 8) (hN : N ≤ 1048576) (w : World) : (Instr.makeSlice s (.int .i64 N) (.int .i64 N)).run Try.prog w = .ok (.slice (some ⟨w.heap.size, 0, none⟩) N N) (w.alloc (.cells (arr e N fun _ => z) t)) := by
  obtain ⟨i, h1, h2, h3, h4⟩ := info_one h
  have := run_makeSlice (P := Try.prog) w s t i _ hu h1 h2 .i64 .i64 (N : Int) (N : Int) (by omega) (by omega) (by rw [h3]; omega) (by
    rw [h4]
    have h8 : ((b * N : Nat) : Int) ≤ ((8 * 1048576 : Nat) : Int) := Int.ofNat_le.2 (Nat.mul_le_mul hb hN)
    rw [Int.natCast_mul] at h8
    omega) (by omega)
  rw [this, h3, Int.toNat_natCast, arr_made e N z he]
section
variable {ops : Array Oper} {rest : List Oper} {o : Oper} {a : Act} {w : World} {Q : Exit → Act → World → Prop}
theorem wl_makeZ (hgd : o.guard = none) (x y : Operand) (ho : o.op = .makeSlice 57 x y) (N : Nat) (hx : a.eval x = .int .i64 N) (hy : a.eval y = .int .i64 N) (hN : N ≤ 1048576)
    (h : ∀ w', Blk w' w.heap.size 3 (arr eZ N fun _ => 0) → Below w.heap.size w w' → wpList Try.prog ops Q rest (a.put o.dst (.slice (some ⟨w.heap.size, 0, none⟩) N N)) w') : wpList Try.prog ops Q (o :: rest) a w := by
  refine wpList_plain hgd fun _ hK => ?_
  unfold Oper.wp execOp
  simp only [ho, hx, hy, Sem.run_bind, run_make1 eZ 0 3 57 8 N Try.underlying57 info_int1 rfl (by omega) hN, Result.andThen_ok, Sem.run_pure]
  exact hK _ _ (h _ (Blk.new _ _ _) (below_alloc (Below.refl _ _) _))
theorem wl_makeF (hgd : o.guard = none) (x y : Operand) (ho : o.op = .makeSlice 81 x y) (N : Nat) (hx : a.eval x = .int .i64 N) (hy : a.eval y = .int .i64 N) (hN : N ≤ 1048576)
    (h : ∀ w', Blk w' w.heap.size 4 (arr eB N fun _ => false) → Below w.heap.size w w' → wpList Try.prog ops Q rest (a.put o.dst (.slice (some ⟨w.heap.size, 0, none⟩) N N)) w') : wpList Try.prog ops Q (o :: rest) a w := by
  refine wpList_plain hgd fun _ hK => ?_
  unfold Oper.wp execOp
  simp only [ho, hx, hy, Sem.run_bind, run_make1 eB false 4 81 1 N Try.underlying81 info_bool1 rfl (by omega) hN, Result.andThen_ok, Sem.run_pure]
  exact hK _ _ (h _ (Blk.new _ _ _) (below_alloc (Below.refl _ _) _))
theorem wl_store_arr {α : Type} (e : α → Value) (v : α) (hgd : o.guard = none) (ty : TypeId) (x y : Operand) (ho : o.op = .store ty x y) (g i n : Nat) (t : TypeId) (K : Nat → α) (hb : Blk w g t (arr e n K)) (hx : a.eval x = .pointer (some ⟨g, i, none⟩)) (hy : a.eval y = e v)
    (hi : i < n) (hsz : (Try.prog.info? ty).map (·.size) = some 1) (hv : (e v).cells = #[e v]) (h1 : (e v).oneCell' = true)
    (h : ∀ w', Blk w' g t (arr e n (upd K i v)) → w.grownBy w' (some g) → wpList Try.prog ops Q rest (a.put o.dst undef) w') : wpList Try.prog ops Q (o :: rest) a w :=
  wl_store_cell hgd ty x y ho g i hx t _ (arr e n (upd K i v)) hb (by rw [arr_size]; exact hi) hsz (by rw [hy]; exact hv) (by rw [hy]; exact h1) (by rw [hy]; exact arr_set e n K v) h
end
theorem info_intS : (Try.prog.info? 3).map (·.size) = some 1 := by kernel_rfl
theorem info_boolS : (Try.prog.info? 4).map (·.size) = some 1 := by kernel_rfl

/-- how many flags are set -/
def cntF (p : Nat → Bool) : Nat → Nat
  | 0 => 0
  | n + 1 => cntF p n + (if p n then 1 else 0)
theorem cntF_le (p : Nat → Bool) (n : Nat) : cntF p n ≤ n := by
  induction n with
  | zero => exact Nat.le_refl _
  | succ n ih => unfold cntF; split <;> omega
theorem cntF_congr {p q : Nat → Bool} {n : Nat} (h : ∀ i, i < n → p i = q i) : cntF p n = cntF q n := by
  induction n with
  | zero => rfl
  | succ n ih => unfold cntF; rw [ih (fun i hi => h i (by omega)), h n (by omega)]
theorem cntF_mono {p q : Nat → Bool} {n : Nat} (h : ∀ i, i < n → p i = true → q i = true) : cntF p n ≤ cntF q n := by
  induction n with
  | zero => exact Nat.le_refl _
  | succ n ih =>
    have := ih (fun i hi => h i (by omega))
    have h2 := h n (by omega)
    unfold cntF
    cases hp : p n
    · simp; omega
    · rw [h2 hp]; simp; omega
theorem cntF_lt {p q : Nat → Bool} {n j : Nat} (h : ∀ i, i < n → p i = true → q i = true) (hj : j < n) (h0 : p j = false) (h1 : q j = true) : cntF p n < cntF q n := by
  induction n with
  | zero => omega
  | succ n ih =>
    unfold cntF
    by_cases e : j = n
    · subst e
      have := cntF_mono (p := p) (q := q) (n := j) (fun i hi => h i (by omega))
      rw [h0, h1]; simp; omega
    · have := ih (fun i hi => h i (by omega)) (by omega)
      have h2 := h n (by omega)
      cases hp : p n
      · simp; omega
      · rw [h2 hp]; simp; omega
def boolAt (w : World) (g i : Nat) : Bool := match w.cell? ⟨g, i, none⟩ with | some (.bool b) => b | _ => false
theorem boolAt_blk {w : World} {g n : Nat} {t : TypeId} {p : Nat → Bool} (h : Blk w g t (arr eB n p)) {i : Nat} (hi : i < n) : boolAt w g i = p i := by
  unfold boolAt
  rw [blk_arrv h hi]
  rfl
theorem cntF_blk {w : World} {g n : Nat} {t : TypeId} {p : Nat → Bool} (h : Blk w g t (arr eB n p)) : cntF (boolAt w g) n = cntF p n := cntF_congr fun i hi => boolAt_blk h hi

/-- a round of the walk over the states met, up to pair k -/
structure MetOk (A : Au) (p0 p : Nat → Bool) (more : Bool) (k : Nat) : Prop where
  snd : ∀ i, i < A.n → p i = true → Reach A i
  zero : p 0 = true
  up : ∀ i, i < A.n → p0 i = true → p i = true
  no : more = false → (∀ i, i < A.n → p i = p0 i) ∧ ∀ s b, s < A.n → b < 256 → s * 256 + b < k → p s = true → p (A.go s b) = true
  yes : more = true → cntF p0 A.n < cntF p A.n
section
variable {A : Au} {p0 p : Nat → Bool} {more : Bool} {k : Nat}
theorem MetOk.start (h1 : ∀ i, i < A.n → p i = true → Reach A i) (h2 : p 0 = true) : MetOk A p p false 0 :=
  ⟨h1, h2, fun i _ h => h, fun _ => ⟨fun i _ => rfl, fun s b _ _ h => by omega⟩, fun h => by cases h⟩
theorem MetOk.stay (h : MetOk A p0 p more k) {s b : Nat} (hk : k = s * 256 + b) (hb : b < 256) (hp : p (A.go s b) = true) : MetOk A p0 p more (k + 1) :=
  ⟨h.snd, h.zero, h.up, fun hm => ⟨(h.no hm).1, fun s' b' hs hb' hl hp' => by
    rcases Nat.lt_or_ge (s' * 256 + b') k with h1 | h1
    · exact (h.no hm).2 s' b' hs hb' h1 hp'
    · have e1 : s' = s := by omega
      have e2 : b' = b := by omega
      rw [e1, e2]; exact hp⟩, h.yes⟩
theorem MetOk.add (h : MetOk A p0 p more k) (o : A.Ok) {s b : Nat} (hs : s < A.n) (hb : b < 256) (hps : p s = true) (hp : p (A.go s b) = false) (k' : Nat) : MetOk A p0 (upd p (A.go s b) true) true k' := by
  have hl := o.lt s b hs hb
  have hmono : ∀ i, i < A.n → p i = true → upd p (A.go s b) true i = true := fun i hi hpi => by unfold upd; split <;> simp_all
  refine ⟨fun i hi hpi => ?_, ?_, fun i hi h0 => hmono i hi (h.up i hi h0), fun hm => (by cases hm), fun _ => ?_⟩
  · unfold upd at hpi
    split at hpi
    · rename_i e; subst e; exact .step (h.snd s hs hps) hb
    · exact h.snd i hi hpi
  · exact hmono 0 o.pos h.zero
  · exact Nat.lt_of_le_of_lt (cntF_mono h.up) (cntF_lt hmono hl hp (upd_self _ _ _))
theorem MetOk.skip (h : MetOk A p0 p more k) {s b : Nat} (hk : k = s * 256 + b) (hps : p s = false) : MetOk A p0 p more (s * 256 + 256) :=
  ⟨h.snd, h.zero, h.up, fun hm => ⟨(h.no hm).1, fun s' b' hs hb' hl hp' => by
    rcases Nat.lt_or_ge (s' * 256 + b') k with h1 | h1
    · exact (h.no hm).2 s' b' hs hb' h1 hp'
    · have e1 : s' = s := by omega
      rw [e1, hps] at hp'; cases hp'⟩, h.yes⟩
theorem MetOk.done (h : MetOk A p0 p false (A.n * 256)) (o : A.Ok) : ∀ s, s < A.n → (p s = true ↔ Reach A s) := by
  intro s hs
  refine ⟨h.snd s hs, fun hr => ?_⟩
  clear hs
  induction hr with
  | zero => exact h.zero
  | @step t b ht hb ih =>
    have hl := ht.lt o
    exact (h.no rfl).2 t b hl hb (by omega) ih
end
end Go.Proofs.Ytgahdookojbbiaa
