/- A law for regions that draw their order and whose operations only read and make new memory: each operation has an answer that later growth leaves standing; whatever order is drawn, all answers hold in the end. The condition is a check on the region's edges, paid by the kernel. -/
import Derived.Test.YtjplgcmfifoefaaDoorBase
namespace Go.Proofs.YtjplgcmfifoefaaDoor
open Go.RowKit
set_option linter.unusedVariables false
set_option linter.unusedSimpArgs false
set_option linter.unnecessarySimpa false

/-- what an operation answers: a word on the value and the memory, which growth leaves standing -/
structure GSpec where
  p : Value → World → Prop
  st : ∀ (v : Value) (w w' : World), p v w → Below w.heap.size w w' → p v w'
def eqS (v : Value) : GSpec := ⟨fun u _ => u = v, fun _ _ _ h _ => h⟩
def anyS : GSpec := ⟨fun _ _ => True, fun _ _ _ h _ => h⟩
def specAt (l : List GSpec) (i : Nat) : GSpec := l.getD i anyS

def headDsts (ops : Array Oper) (n : Nat) : List Nat := (ops.toList.take n).filterMap (·.dst)
def noDup : List Nat → Bool
  | [] => true
  | a :: l => !l.contains a && noDup l
def headTrue (n g : Nat) : Array Bool := (List.replicate n true ++ List.replicate g false).toArray
def growB (ops : Array Oper) (n size : Nat) : Bool :=
  decide (n ≤ ops.size) && noDup (headDsts ops n) && (headDsts ops n).all (fun d => decide (d < size)) &&
  (List.range n).all (fun i => match ops[i]? with | some o => o.after.all fun e => !Region.binds .any e || decide (e.on < i) | none => false) &&
  (decide (n = ops.size) || (Region.sinkB .any ops n && Region.chainB .any ops n)) && Region.seqB .any ops (ops.size - n) n (headTrue n (ops.size - n))

/-- the answer of operation j stands -/
def opOk (ops : Array Oper) (S : Nat → GSpec) (a : Act) (w : World) (j : Nat) : Prop := ∀ d, (ops[j]?).bind (·.dst) = some d → (S j).p (a.tmps.getD d undef) w

structure GBase (ops : Array Oper) (n : Nat) (a0 a : Act) : Prop where
  defers : a.defers = a0.defers
  size : a.tmps.size = a0.tmps.size
  other : ∀ t, (headDsts ops n).contains t = false → a.tmps.getD t undef = a0.tmps.getD t undef

def GK (S : Nat → GSpec) (i : Nat) (o : Oper) (a : Act) (w : World) : Act → World → Prop := fun a' w' => ∃ v, a' = a.put o.dst v ∧ Below w.heap.size w w' ∧ (S i).p v w'
def GStep (P : Program) (ops : Array Oper) (S : Nat → GSpec) (Q : Exit → Act → World → Prop) (i : Nat) (o : Oper) (a : Act) (w : World) : Prop :=
  if Region.wanted o (yielded ops a.tmps) = true then o.wp P a w (GK S i o a w) Q else (S i).p undef w

theorem put_getD_same {a : Act} {d : Nat} {v : Value} (h : d < a.tmps.size) : (a.put (some d) v).tmps.getD d undef = v := by simp [Act.put, h]
theorem put_getD_ne {a : Act} {d t : Nat} {v : Value} (h : d ≠ t) : (a.put (some d) v).tmps.getD t undef = a.tmps.getD t undef := by
  simp [Act.put, Array.getElem?_setIfInBounds_ne h]
theorem put_size {a : Act} {d : Option Tmp} {v : Value} : (a.put d v).tmps.size = a.tmps.size := by cases d <;> simp [Act.put]
theorem put_defers {a : Act} {d : Option Tmp} {v : Value} : (a.put d v).defers = a.defers := by cases d <;> simp [Act.put]

theorem noDup_spec : ∀ (l : List Oper), noDup (l.filterMap (·.dst)) = true → ∀ (i j : Nat) (oi oj : Oper) (d : Nat), l[i]? = some oi → l[j]? = some oj → oi.dst = some d → oj.dst = some d → i = j
  | [], _, i, j, oi, oj, d, hi, _, _, _ => by simp at hi
  | o :: l, h, i, j, oi, oj, d, hi, hj, hdi, hdj => by
    have mem : ∀ (k : Nat) (ok : Oper), l[k]? = some ok → ok.dst = some d → d ∈ l.filterMap (·.dst) := fun k ok hk hd =>
      List.mem_filterMap.2 ⟨ok, List.mem_of_getElem? hk, hd⟩
    cases ho : o.dst with
    | none =>
      rw [List.filterMap_cons, ho] at h
      rcases i with _ | i
      · simp only [List.getElem?_cons_zero, Option.some.injEq] at hi; subst hi; rw [ho] at hdi; cases hdi
      · rcases j with _ | j
        · simp only [List.getElem?_cons_zero, Option.some.injEq] at hj; subst hj; rw [ho] at hdj; cases hdj
        · rw [List.getElem?_cons_succ] at hi hj
          rw [noDup_spec l h i j oi oj d hi hj hdi hdj]
    | some e =>
      rw [List.filterMap_cons, ho] at h
      simp only [noDup, Bool.and_eq_true, Bool.not_eq_true'] at h
      rcases i with _ | i
      · simp only [List.getElem?_cons_zero, Option.some.injEq] at hi; subst hi
        rw [hdi] at ho; injection ho with ho; subst ho
        rcases j with _ | j
        · rfl
        · rw [List.getElem?_cons_succ] at hj
          have := mem j oj hj hdj
          have h1 := h.1
          rw [List.contains_eq_mem] at h1
          simp [this] at h1
      · rcases j with _ | j
        · simp only [List.getElem?_cons_zero, Option.some.injEq] at hj; subst hj
          rw [hdj] at ho; injection ho with ho; subst ho
          rw [List.getElem?_cons_succ] at hi
          have := mem i oi hi hdi
          have h1 := h.1
          rw [List.contains_eq_mem] at h1
          simp [this] at h1
        · rw [List.getElem?_cons_succ] at hi hj
          rw [noDup_spec l h.2 i j oi oj d hi hj hdi hdj]

structure GInv (ops : Array Oper) (n : Nat) (S : Nat → GSpec) (a0 : Act) (W0 : World) (listed : Array Bool) (a : Act) (w : World) : Prop where
  head : HeadInv .any ops n listed
  base : GBase ops n a0 a
  below : Below W0.heap.size W0 w
  done : ∀ j, j < n → listed.getD j false = true → opOk ops S a w j

def unl (n : Nat) (listed : Array Bool) : Nat := ((List.range n).filter fun j => !listed.getD j false).length

theorem unl_pos {n i : Nat} {listed : Array Bool} (hi : i < n) (h : listed.getD i false = false) : 0 < unl n listed := by
  unfold unl
  apply List.length_pos_of_mem (a := i)
  simp only [List.mem_filter, List.mem_range]
  exact ⟨hi, by rw [h]; rfl⟩
theorem unl_set {n i : Nat} {listed : Array Bool} (hi : i < n) (hs : i < listed.size) (h : listed.getD i false = false) : unl n (listed.setIfInBounds i true) + 1 = unl n listed := by
  unfold unl
  induction n with
  | zero => omega
  | succ n ih =>
    rw [List.range_succ, List.filter_append, List.filter_append, List.length_append, List.length_append]
    by_cases e : i = n
    · subst e
      have e1 : (List.range i).filter (fun j => !(listed.setIfInBounds i true).getD j false) = (List.range i).filter (fun j => !listed.getD j false) := by
        apply List.filter_congr
        intro j hj
        have : j < i := by simpa using hj
        rw [getD_set_ne false (by omega)]
      rw [e1]
      have e2 : (listed.setIfInBounds i true).getD i false = true := by simp [hs]
      simp only [List.filter_cons, List.filter_nil, e2, h]
      simp
    · have := ih (by omega)
      have e2 : (listed.setIfInBounds i true).getD n false = listed.getD n false := getD_set_ne false e
      simp only [List.filter_cons, List.filter_nil, e2]
      omega

theorem wpAny_grow {P : Program} {ops : Array Oper} {n : Nat} {S : Nat → GSpec} {Q : Exit → Act → World → Prop} {a0 : Act} {W0 : World} (hB : growB ops n a0.tmps.size = true)
    (hstep : ∀ i o, i < n → ops[i]? = some o → ∀ a w, GBase ops n a0 a → Below W0.heap.size W0 w → (∀ e ∈ o.after, Region.binds .any e = true → opOk ops S a w e.on) → GStep P ops S Q i o a w)
    (hend : ∀ a w, GBase ops n a0 a → Below W0.heap.size W0 w → (∀ j, j < n → opOk ops S a w j) → wpList P ops Q (ops.toList.drop n) a w) :
    ∀ (m : Nat) (listed : Array Bool) (a : Act) (w : World), GInv ops n S a0 W0 listed a w → unl n listed = m → wpAny P .any ops Q (m + (ops.size - n)) listed a w := by
  simp only [growB, Bool.and_eq_true, Bool.or_eq_true, decide_eq_true_eq] at hB
  obtain ⟨⟨⟨⟨⟨hn, hdup⟩, hlt⟩, hedge⟩, htail⟩, hseq⟩ := hB
  have hedge' : ∀ i o, i < n → ops[i]? = some o → ∀ e ∈ o.after, Region.binds .any e = true → e.on < i := by
    intro i o hi ho e he hb
    have h1 := List.all_eq_true.1 hedge i (List.mem_range.2 hi)
    simp only [ho] at h1
    have h2 := (Array.all_eq_true_iff_forall_mem.1 h1) e he
    simpa [hb] using h2
  have hready : ∀ (listed : Array Bool) (a : Act) (w : World), GInv ops n S a0 W0 listed a w → 0 < unl n listed → ∀ j ∈ Region.ready .any ops listed, j < n := by
    intro listed a w inv hpos j hj
    rcases htail with he | ⟨hs, hc⟩
    · obtain ⟨_, o, ho, _⟩ := mem_ready.1 hj
      have := (Array.getElem?_eq_some_iff.1 ho).1
      omega
    · rcases Nat.lt_or_ge n ops.size with hlt' | hge
      · unfold unl at hpos
        obtain ⟨i, hi⟩ := List.exists_mem_of_length_pos hpos
        simp only [List.mem_filter, List.mem_range, Bool.not_eq_true'] at hi
        have hun : listed.getD i true = false := getD_in (by rw [inv.head.size]; omega) hi.2
        rcases Nat.lt_or_ge j n with h | h
        · exact h
        · exact absurd hj (tail_waits hs hc hlt' inv.head _ i rfl hi.1 hun j h)
      · obtain ⟨_, o, ho, _⟩ := mem_ready.1 hj
        have := (Array.getElem?_eq_some_iff.1 ho).1
        omega
  have hne : ∀ (listed : Array Bool) (a : Act) (w : World), GInv ops n S a0 W0 listed a w → 0 < unl n listed → Region.ready .any ops listed ≠ [] := by
    intro listed a w inv hpos hnil
    have hex : ∃ i, i < n ∧ listed.getD i false = false := by
      unfold unl at hpos
      obtain ⟨i, hi⟩ := List.exists_mem_of_length_pos hpos
      simp only [List.mem_filter, List.mem_range, Bool.not_eq_true'] at hi
      exact ⟨i, hi.1, hi.2⟩
    have hmin : ∃ i, i < n ∧ listed.getD i false = false ∧ ∀ k, k < i → listed.getD k false = true := by
      obtain ⟨i, hi, hf⟩ := hex
      clear hpos
      induction i using Nat.strongRecOn with
      | _ i ih =>
        by_cases h : ∃ k, k < i ∧ listed.getD k false = false
        · obtain ⟨k, hk, hkf⟩ := h
          exact ih k hk (by omega) hkf
        · refine ⟨i, hi, hf, fun k hk => ?_⟩
          cases hc : listed.getD k false with
          | true => rfl
          | false => exact absurd ⟨k, hk, hc⟩ h
    obtain ⟨i, hi, hf, hall⟩ := hmin
    have ho : ops[i]? = some ops[i] := Array.getElem?_eq_getElem (by omega)
    have hmem : i ∈ Region.ready .any ops listed := mem_ready.2 ⟨getD_in (by rw [inv.head.size]; omega) hf, _, ho, fun e he hb => hall _ (hedge' i _ hi ho e he hb)⟩
    rw [hnil] at hmem
    cases hmem
  intro m
  induction m with
  | zero =>
    intro listed a w inv hm
    have hall : ∀ j, j < n → listed.getD j false = true := by
      intro j hj
      cases hc : listed.getD j false with
      | true => rfl
      | false => have := unl_pos hj hc; omega
    have hlist : listed = headTrue n (ops.size - n) := by
      have hsz := inv.head.size
      apply Array.ext
      · simp [headTrue, hsz]; omega
      · intro j h1 h2
        have hj : j < ops.size := by rw [← hsz]; exact h1
        simp only [headTrue, List.getElem_toArray, List.getElem_append, List.length_replicate, List.getElem_replicate]
        by_cases hjn : j < n
        · have := hall j hjn
          simp [h1] at this
          simp [hjn, this]
        · have := inv.head.tail j (by omega) hj
          simp [h1] at this
          simp [hjn, this]
    have hw := hend a w inv.base inv.below (fun j hj => inv.done j hj (hall j hj))
    have hdl : (ops.toList.drop n).length = ops.size - n := by simp
    have := wpAny_of_seq (md := .any) (Q' := Q) (ops.toList.drop n) n listed a w (fun j => by simp [List.getElem?_drop]) (by rw [hdl, hlist]; exact hseq) hw
    rw [hdl] at this
    rw [Nat.zero_add]
    exact this
  | succ m ih =>
    intro listed a w inv hm
    rw [show m + 1 + (ops.size - n) = (m + (ops.size - n)) + 1 by omega]
    refine ⟨fun h => absurd h (hne listed a w inv (by omega)), fun i hi => ?_⟩
    have hin := hready listed a w inv (by omega) i hi
    obtain ⟨hun, o, ho, hall⟩ := mem_ready.1 hi
    have hlisted : listed.getD i false = false := getD_both hun
    have hg := hstep i o hin ho a w inv.base inv.below (fun e he hb => inv.done e.on (by have := hedge' i o hin ho e he hb; omega) (hall e he hb))
    have hsz : i < listed.size := by rw [inv.head.size]; omega
    have hnext : ∀ a' w', GK S i o a w a' w' → wpAny P .any ops Q (m + (ops.size - n)) (listed.setIfInBounds i true) a' w' := by
      rintro a' w' ⟨v, rfl, hb, hp⟩
      refine ih _ _ _ ⟨inv.head.set hi hin, ⟨by rw [put_defers]; exact inv.base.defers, by rw [put_size]; exact inv.base.size, fun t ht => ?_⟩, inv.below.trans (hb.mono inv.below.size), fun j hj hl d hd => ?_⟩ (by have := unl_set hin hsz hlisted; omega)
      · cases hd : o.dst with
        | none => exact inv.base.other t ht
        | some d =>
          have hmem : d ∈ headDsts ops n := List.mem_filterMap.2 ⟨o, by
            rw [List.mem_iff_getElem?]
            exact ⟨i, by rw [List.getElem?_take]; simp [hin, ho]⟩, hd⟩
          have hne : d ≠ t := by
            rintro rfl
            rw [List.contains_eq_mem] at ht
            simp [hmem] at ht
          rw [put_getD_ne hne]
          exact inv.base.other t ht
      · by_cases hij : i = j
        · subst hij
          rw [ho] at hd
          simp only [Option.bind_some] at hd
          rw [hd]
          have hmem : d ∈ headDsts ops n := List.mem_filterMap.2 ⟨o, by
            rw [List.mem_iff_getElem?]
            exact ⟨i, by rw [List.getElem?_take]; simp [hin, ho]⟩, hd⟩
          have hdl : d < a.tmps.size := by
            have := List.all_eq_true.1 hlt d hmem
            rw [inv.base.size]; simpa using this
          rw [put_getD_same hdl]
          exact hp
        · rw [getD_set_ne false hij] at hl
          have hold := inv.done j hj hl d hd
          have hkeep : (a.put o.dst v).tmps.getD d undef = a.tmps.getD d undef := by
            cases hod : o.dst with
            | none => rfl
            | some e =>
              apply put_getD_ne
              rintro rfl
              cases hoj : ops[j]? with
              | none => rw [hoj] at hd; cases hd
              | some oj =>
                rw [hoj] at hd
                simp only [Option.bind_some] at hd
                exact hij (noDup_spec _ hdup i j o oj e (by rw [List.getElem?_take]; simp [hin, ho]) (by rw [List.getElem?_take]; simp [hj, hoj]) hod hd)
          rw [hkeep]
          exact (S j).st _ _ _ hold hb
    unfold wpOp
    simp only [ho]
    unfold GStep at hg
    split
    · rename_i hw
      rw [if_pos hw] at hg
      exact .inl (Oper.wp_mono hnext hg)
    · rename_i hw
      rw [if_neg hw] at hg
      exact hnext _ _ ⟨undef, rfl, Below.refl _ _, hg⟩

/-- the frame behind the region: the base with each head slot at some value -/
def putAll (a : Act) (ds : List Nat) (u : Nat → Value) : Act := ds.foldl (fun a d => a.put (some d) (u d)) a
theorem putAll_spec (u : Nat → Value) : ∀ (ds : List Nat) (a : Act), (putAll a ds u).defers = a.defers ∧ (putAll a ds u).tmps.size = a.tmps.size ∧
    ∀ t, (putAll a ds u).tmps.getD t undef = if t ∈ ds ∧ t < a.tmps.size then u t else a.tmps.getD t undef
  | [], a => ⟨rfl, rfl, fun t => by simp [putAll]⟩
  | d :: ds, a => by
    obtain ⟨h1, h2, h3⟩ := putAll_spec u ds (a.put (some d) (u d))
    refine ⟨h1.trans put_defers, h2.trans put_size, fun t => ?_⟩
    rw [show putAll a (d :: ds) u = putAll (a.put (some d) (u d)) ds u from rfl, h3 t, put_size]
    by_cases ht : t < a.tmps.size
    · by_cases hm : t ∈ ds
      · simp [hm, ht]
      · by_cases e : d = t
        · subst e
          rw [if_neg (by simp [hm]), put_getD_same ht, if_pos ⟨by simp, ht⟩]
        · have e' : ¬ t = d := fun h => e h.symm
          rw [put_getD_ne e, if_neg (by simp [hm]), if_neg (by simp [hm, e'])]
    · have h0 : ∀ b : Act, b.tmps.size = a.tmps.size → b.tmps.getD t undef = undef := fun b hb => by
        simp [Array.getElem?_eq_none (xs := b.tmps) (i := t) (by omega)]
      rw [if_neg (by simp [ht]), if_neg (by simp [ht]), h0 _ put_size, h0 _ rfl]
theorem getD_lt {l : Array Value} {t : Nat} (h : t < l.size) : l.getD t undef = l[t] := by simp [h]
theorem act_eq {ops : Array Oper} {n : Nat} {a0 a : Act} (h : GBase ops n a0 a) : a = putAll a0 (headDsts ops n) fun d => a.tmps.getD d undef := by
  obtain ⟨h1, h2, h3⟩ := putAll_spec (fun d => a.tmps.getD d undef) (headDsts ops n) a0
  have ht : a.tmps = (putAll a0 (headDsts ops n) fun d => a.tmps.getD d undef).tmps := by
    apply Array.ext
    · rw [h2, h.size]
    · intro t ht1 ht2
      rw [← getD_lt ht1, ← getD_lt ht2, h3 t]
      by_cases hm : t ∈ headDsts ops n
      · rw [if_pos ⟨hm, by rw [← h.size]; exact ht1⟩]
      · rw [if_neg (fun hh => hm hh.1)]
        exact h.other t (by rw [List.contains_eq_mem]; simp [hm])
  cases a
  cases hh : putAll a0 (headDsts ops n) _
  rw [hh] at ht h1
  simp only [Act.mk.injEq]
  exact ⟨ht, h.defers.trans h1.symm⟩

/-- THE LAW. -/
theorem wp_region_grow {P : Program} {id : Nat} {l : List Oper} {Q : Exit → Act → World → Prop} {a : Act} {w : World} (n : Nat) (S : List GSpec) (hm : P.follows .mixedOrders = true) (hB : growB l.toArray n a.tmps.size = true)
    (hstep : ∀ i o, i < n → l[i]? = some o → ∀ a' w', GBase l.toArray n a a' → Below w.heap.size w w' → (∀ e ∈ o.after, Region.binds .any e = true → opOk l.toArray (specAt S) a' w' e.on) → GStep P l.toArray (specAt S) Q i o a' w')
    (hend : ∀ (u : Nat → Value) w', Below w.heap.size w w' → (∀ j d, j < n → (l[j]?).bind (·.dst) = some d → (specAt S j).p (u d) w') → wpList P l.toArray Q (l.drop n) (putAll a (headDsts l.toArray n) u) w') :
    (Code.region id l.toArray true).wp P Q a w := by
  refine wp_region_any hm ?_
  have hdr : ∀ {x : World}, Below w.heap.size w x → Below w.heap.size w.drew x := fun h => ⟨h.os, h.tape, h.output, h.size, h.block⟩
  have hrd : ∀ {x : World}, Below w.heap.size w.drew x → Below w.heap.size w x := fun h => ⟨h.os, h.tape, h.output, h.size, h.block⟩
  have hn : n ≤ l.length := by
    simp only [growB, Bool.and_eq_true, decide_eq_true_eq] at hB
    simpa using hB.1.1.1.1.1
  have key := wpAny_grow (P := P) (ops := l.toArray) (n := n) (S := specAt S) (Q := Q) (a0 := a) (W0 := w.drew) hB
    (fun i o hi ho a' w' hb hw hd => hstep i o hi (by simpa using ho) a' w' hb (hrd hw) hd)
    (fun a' w' hb hw hd => by
      rw [act_eq hb]
      have := hend (fun d => a'.tmps.getD d undef) w' (hrd hw) (fun j d hj hd' => hd j hj d (by simpa using hd'))
      simpa using this)
    n (Array.replicate l.toArray.size false) a w.drew
    ⟨⟨by simp, fun j oj _ hl => (by rw [getD_replicate_false] at hl; cases hl), fun t _ ht => getD_in (by simpa using ht) (getD_replicate_false _ _)⟩, ⟨rfl, rfl, fun _ _ => rfl⟩, Below.refl _ _, fun j _ hl => (by rw [getD_replicate_false] at hl; cases hl)⟩
    (by
      unfold unl
      rw [List.filter_eq_self.2 (fun j _ => by rw [getD_replicate_false]; rfl), List.length_range])
  rw [show n + (l.toArray.size - n) = l.toArray.size by simp; omega] at key
  exact key

/-- the steps, one behind the other -/
def Steps (P : Program) (ops : Array Oper) (S : Nat → GSpec) (Q : Exit → Act → World → Prop) (n : Nat) (a : Act) (w : World) : List Oper → Nat → Prop
  | [], _ => True
  | o :: l, i => (∀ a' w', GBase ops n a a' → Below w.heap.size w w' → (∀ j, (o.after.toList.any fun e => Region.binds .any e && e.on == j) = true → opOk ops S a' w' j) → GStep P ops S Q i o a' w') ∧ Steps P ops S Q n a w l (i + 1)
theorem Steps.nil {P : Program} {ops : Array Oper} {S : Nat → GSpec} {Q : Exit → Act → World → Prop} {n : Nat} {a : Act} {w : World} {i : Nat} : Steps P ops S Q n a w [] i := trivial
theorem Steps.cons {P : Program} {ops : Array Oper} {S : Nat → GSpec} {Q : Exit → Act → World → Prop} {n : Nat} {a : Act} {w : World} {o : Oper} {l : List Oper} {i : Nat}
    (h : ∀ a' w', GBase ops n a a' → Below w.heap.size w w' → (∀ j, (o.after.toList.any fun e => Region.binds .any e && e.on == j) = true → opOk ops S a' w' j) → GStep P ops S Q i o a' w')
    (hl : Steps P ops S Q n a w l (i + 1)) : Steps P ops S Q n a w (o :: l) i := ⟨h, hl⟩
theorem Steps.at_ {P : Program} {ops : Array Oper} {S : Nat → GSpec} {Q : Exit → Act → World → Prop} {n : Nat} {a : Act} {w : World} : ∀ {l : List Oper} {i : Nat}, Steps P ops S Q n a w l i → ∀ (k : Nat) (o : Oper), l[k]? = some o →
    ∀ a' w', GBase ops n a a' → Below w.heap.size w w' → (∀ j, (o.after.toList.any fun e => Region.binds .any e && e.on == j) = true → opOk ops S a' w' j) → GStep P ops S Q (i + k) o a' w'
  | [], _, _, k, o, hk => by simp at hk
  | o' :: l, i, h, k, o, hk => by
    rcases k with _ | k
    · simp only [List.getElem?_cons_zero, Option.some.injEq] at hk
      subst hk
      exact h.1
    · rw [List.getElem?_cons_succ] at hk
      have := Steps.at_ h.2 k o hk
      rw [show i + (k + 1) = i + 1 + k by omega]
      exact this

/-- THE LAW, as it is used: S the answers, ds the head's slots. -/
theorem wp_region_steps {P : Program} {id : Nat} {l : List Oper} {Q : Exit → Act → World → Prop} {a : Act} {w : World} (n : Nat) (S : List GSpec) (ds : List Nat) (hm : P.follows .mixedOrders = true) (hB : growB l.toArray n a.tmps.size = true)
    (hds : headDsts l.toArray n = ds) (hstep : Steps P l.toArray (specAt S) Q n a w (l.take n) 0)
    (hend : ∀ (u : Nat → Value) w', Below w.heap.size w w' → (∀ j d, j < n → (l[j]?).bind (·.dst) = some d → (specAt S j).p (u d) w') → wpList P l.toArray Q (l.drop n) (putAll a ds u) w') :
    (Code.region id l.toArray true).wp P Q a w := by
  subst hds
  refine wp_region_grow n S hm hB (fun i o hi ho a' w' hb hw hd => ?_) hend
  have := hstep.at_ i o (by rw [List.getElem?_take, if_pos hi]; exact ho) a' w' hb hw (fun j hj => by
    obtain ⟨e, he, hh⟩ := List.any_eq_true.1 hj
    simp only [Bool.and_eq_true, beq_iff_eq] at hh
    rw [← hh.2]
    exact hd e (Array.mem_toList_iff.1 he) hh.1)
  rw [Nat.zero_add] at this
  exact this

/-- the same for a region that goes in the text's order -/
theorem wpList_grow {P : Program} {l : List Oper} {n : Nat} {S : Nat → GSpec} {Q : Exit → Act → World → Prop} {a0 : Act} {W0 : World} (hn : n ≤ l.length) (hdup : noDup (headDsts l.toArray n) = true)
    (hlt : (headDsts l.toArray n).all (fun d => decide (d < a0.tmps.size)) = true)
    (hedge : (List.range n).all (fun i => match l.toArray[i]? with | some o => o.after.all fun e => !Region.binds .any e || decide (e.on < i) | none => false) = true)
    (hstep : ∀ i o, i < n → l[i]? = some o → ∀ a w, GBase l.toArray n a0 a → Below W0.heap.size W0 w → (∀ e ∈ o.after, Region.binds .any e = true → opOk l.toArray S a w e.on) → GStep P l.toArray S Q i o a w)
    (hend : ∀ a w, GBase l.toArray n a0 a → Below W0.heap.size W0 w → (∀ j, j < n → opOk l.toArray S a w j) → wpList P l.toArray Q (l.drop n) a w) :
    ∀ (m k : Nat) (a : Act) (w : World), k + m = n → GBase l.toArray n a0 a → Below W0.heap.size W0 w → (∀ j, j < k → opOk l.toArray S a w j) → wpList P l.toArray Q (l.drop k) a w := by
  intro m
  induction m with
  | zero =>
    intro k a w hk hb hw hd
    obtain rfl : k = n := by omega
    exact hend a w hb hw hd
  | succ m ih =>
    intro k a w hk hb hw hd
    have hkl : k < l.length := by omega
    have ho : l[k]? = some l[k] := List.getElem?_eq_getElem hkl
    have hoA : l.toArray[k]? = some l[k] := by simp
    rw [List.drop_eq_getElem_cons hkl]
    have hed : ∀ e ∈ l[k].after, Region.binds .any e = true → e.on < k := by
      intro e he hbd
      have h1 := List.all_eq_true.1 hedge k (List.mem_range.2 (by omega))
      simp only [hoA] at h1
      have h2 := (Array.all_eq_true_iff_forall_mem.1 h1) e he
      simpa [hbd] using h2
    have hg := hstep k l[k] (by omega) ho a w hb hw (fun e he hbd => hd e.on (hed e he hbd))
    have hnext : ∀ a' w', GK S k l[k] a w a' w' → wpList P l.toArray Q (l.drop (k + 1)) a' w' := by
      rintro a' w' ⟨v, rfl, hbw, hp⟩
      have hmem : ∀ d, l[k].dst = some d → d ∈ headDsts l.toArray n := fun d hd' => List.mem_filterMap.2 ⟨l[k], by
        rw [List.mem_iff_getElem?]
        exact ⟨k, by rw [List.getElem?_take, if_pos (by omega)]; exact ho⟩, hd'⟩
      refine ih (k + 1) _ _ (by omega) ⟨by rw [put_defers]; exact hb.defers, by rw [put_size]; exact hb.size, fun t ht => ?_⟩ (hw.trans (hbw.mono hw.size)) (fun j hj d hdj => ?_)
      · cases hdd : l[k].dst with
        | none => exact hb.other t ht
        | some d =>
          have hne : d ≠ t := by
            rintro rfl
            rw [List.contains_eq_mem] at ht
            simp [hmem d hdd] at ht
          rw [put_getD_ne hne]
          exact hb.other t ht
      · by_cases hkj : k = j
        · subst hkj
          rw [hoA] at hdj
          simp only [Option.bind_some] at hdj
          rw [hdj]
          have hdl : d < a.tmps.size := by
            have := List.all_eq_true.1 hlt d (hmem d hdj)
            rw [hb.size]; simpa using this
          rw [put_getD_same hdl]
          exact hp
        · have hold := hd j (by omega) d hdj
          have hkeep : (a.put l[k].dst v).tmps.getD d undef = a.tmps.getD d undef := by
            cases hod : l[k].dst with
            | none => rfl
            | some e =>
              apply put_getD_ne
              rintro rfl
              cases hoj : l.toArray[j]? with
              | none => rw [hoj] at hdj; cases hdj
              | some oj =>
                rw [hoj] at hdj
                simp only [Option.bind_some] at hdj
                exact hkj (noDup_spec _ hdup k j l[k] oj e (by rw [List.getElem?_take, if_pos (by omega)]; exact ho) (by rw [List.getElem?_take, if_pos (by omega)]; simpa using hoj) hod hdj)
          rw [hkeep]
          exact (S j).st _ _ _ hold hbw
    unfold GStep at hg
    unfold wpList
    split
    · rename_i hwn
      rw [if_pos hwn] at hg
      exact .inl (Oper.wp_mono hnext hg)
    · rename_i hwn
      rw [if_neg hwn] at hg
      exact hnext _ _ ⟨undef, rfl, Below.refl _ _, hg⟩

def textB (ops : Array Oper) (n size : Nat) : Bool :=
  decide (n ≤ ops.size) && noDup (headDsts ops n) && (headDsts ops n).all (fun d => decide (d < size)) &&
  (List.range n).all (fun i => match ops[i]? with | some o => o.after.all fun e => !Region.binds .any e || decide (e.on < i) | none => false)

theorem wp_region_text {P : Program} {id : Nat} {l : List Oper} {Q : Exit → Act → World → Prop} {a : Act} {w : World} (n : Nat) (S : List GSpec) (ds : List Nat) (hB : textB l.toArray n a.tmps.size = true)
    (hds : headDsts l.toArray n = ds) (hstep : Steps P l.toArray (specAt S) Q n a w (l.take n) 0)
    (hend : ∀ (u : Nat → Value) w', Below w.heap.size w w' → (∀ j d, j < n → (l[j]?).bind (·.dst) = some d → (specAt S j).p (u d) w') → wpList P l.toArray Q (l.drop n) (putAll a ds u) w') :
    (Code.region id l.toArray false).wp P Q a w := by
  subst hds
  simp only [textB, Bool.and_eq_true, decide_eq_true_eq] at hB
  refine wp_region_list ?_
  have := wpList_grow (P := P) (l := l) (n := n) (S := specAt S) (Q := Q) (a0 := a) (W0 := w) (by simpa using hB.1.1.1) hB.1.1.2 hB.1.2 hB.2
    (fun i o hi ho a' w' hb hw hd => by
      have := hstep.at_ i o (by rw [List.getElem?_take, if_pos hi]; exact ho) a' w' hb hw (fun j hj => by
        obtain ⟨e, he, hh⟩ := List.any_eq_true.1 hj
        simp only [Bool.and_eq_true, beq_iff_eq] at hh
        rw [← hh.2]
        exact hd e (Array.mem_toList_iff.1 he) hh.1)
      rw [Nat.zero_add] at this
      exact this)
    (fun a' w' hb hw hd => by
      rw [act_eq hb]
      exact hend (fun d => a'.tmps.getD d undef) w' hw (fun j d hj hd' => hd j hj d (by simpa using hd')))
    n 0 a w (by omega) ⟨rfl, rfl, fun _ _ => rfl⟩ (Below.refl _ _) (fun j hj => by omega)
  simpa using this

end Go.Proofs.YtjplgcmfifoefaaDoor
