/- Part 4 of a proof; packed: the texts that it was made of follow one another. No condition beyond those named in each lemma. -/
import Derived.Test.YtjplgcmfifoefaaGreatDoorPr3
import Derived.Deep.CutRange
namespace Go.Proofs.YtjplgcmfifoefaaGreatDoor
open Go.RowKit Go.Maps
set_option linter.unusedVariables false
set_option linter.unusedSimpArgs false

section
variable {rw : Option Nat} {i0 : Nat}
structure GInvW (rw : Option Nat) (i0 : Nat) (ops : Array Oper) (n : Nat) (S : Nat → GSpec) (a0 : Act) (W0 : World) (listed : Array Bool) (a : Act) (w : World) : Prop where
  head : HeadInv .any ops n listed
  base : GBase ops n a0 a
  below : W0.grownBy w rw
  pure_ : listed.getD i0 false = false → Below W0.heap.size W0 w
  done : ∀ j, j < n → listed.getD j false = true → opOk ops S a w j
  turned : listed.getD i0 false = true → ∃ v, (S i0).p v w

theorem wpAny_growW {P : Program} {ops : Array Oper} {n : Nat} {S : Nat → GSpec} {Q : Exit → Act → World → Prop} {a0 : Act} {W0 : World} (hkp : ∀ j, j ≠ i0 → ∀ v w w', (S j).p v w → w.grownBy w' rw → (S j).p v w') (hB : growB ops n a0.tmps.size = true)
    (hstep : ∀ i o, i < n → ops[i]? = some o → ∀ a w, GBase ops n a0 a → W0.grownBy w rw → (i = i0 → Below W0.heap.size W0 w) → (∀ e ∈ o.after, Region.binds .any e = true → opOk ops S a w e.on) → GStepR rw i0 P ops S Q i o a w)
    (hi0 : i0 < n) (hend : ∀ a w, GBase ops n a0 a → W0.grownBy w rw → (∀ j, j < n → opOk ops S a w j) → (∃ v, (S i0).p v w) → wpList P ops Q (ops.toList.drop n) a w) :
    ∀ (m : Nat) (listed : Array Bool) (a : Act) (w : World), GInvW rw i0 ops n S a0 W0 listed a w → unl n listed = m → wpAny P .any ops Q (m + (ops.size - n)) listed a w := by
  simp only [growB, Bool.and_eq_true, Bool.or_eq_true, decide_eq_true_eq] at hB
  obtain ⟨⟨⟨⟨⟨hn, hdup⟩, hlt⟩, hedge⟩, htail⟩, hseq⟩ := hB
  have hedge' : ∀ i o, i < n → ops[i]? = some o → ∀ e ∈ o.after, Region.binds .any e = true → e.on < i := by
    intro i o hi ho e he hb
    have h1 := List.all_eq_true.1 hedge i (List.mem_range.2 hi)
    simp only [ho] at h1
    have h2 := (Array.all_eq_true_iff_forall_mem.1 h1) e he
    simpa [hb] using h2
  have hready : ∀ (listed : Array Bool) (a : Act) (w : World), GInvW rw i0 ops n S a0 W0 listed a w → 0 < unl n listed → ∀ j ∈ Region.ready .any ops listed, j < n := by
    intro listed a w inv hpos j hj
    rcases htail with he | ⟨hs, hc⟩
    · obtain ⟨_, o, ho, _⟩ := mem_ready.1 hj
      have := (Array.getElem?_eq_some_iff.1 ho).1
      omega
    · rcases Nat.lt_or_ge n ops.size with hlt' | hge
      · unfold unl at hpos
        obtain ⟨i, hi⟩ := List.exists_mem_of_length_pos hpos
        simp only [List.mem_filter, List.mem_range, Bool.not_eq_true'] at hi
        have hun : listed.getD i true = false := getD_in (by rw [inv.head.size]; omega) hi.2
        rcases Nat.lt_or_ge j n with h | h
        · exact h
        · exact absurd hj (tail_waits hs hc hlt' inv.head _ i rfl hi.1 hun j h)
      · obtain ⟨_, o, ho, _⟩ := mem_ready.1 hj
        have := (Array.getElem?_eq_some_iff.1 ho).1
        omega
  have hne : ∀ (listed : Array Bool) (a : Act) (w : World), GInvW rw i0 ops n S a0 W0 listed a w → 0 < unl n listed → Region.ready .any ops listed ≠ [] := by
    intro listed a w inv hpos hnil
    have hex : ∃ i, i < n ∧ listed.getD i false = false := by
      unfold unl at hpos
      obtain ⟨i, hi⟩ := List.exists_mem_of_length_pos hpos
      simp only [List.mem_filter, List.mem_range, Bool.not_eq_true'] at hi
      exact ⟨i, hi.1, hi.2⟩
    have hmin : ∃ i, i < n ∧ listed.getD i false = false ∧ ∀ k, k < i → listed.getD k false = true := by
      obtain ⟨i, hi, hf⟩ := hex
      clear hpos
      induction i using Nat.strongRecOn with
      | _ i ih =>
        by_cases h : ∃ k, k < i ∧ listed.getD k false = false
        · obtain ⟨k, hk, hkf⟩ := h
          exact ih k hk (by omega) hkf
        · refine ⟨i, hi, hf, fun k hk => ?_⟩
          cases hc : listed.getD k false with
          | true => rfl
          | false => exact absurd ⟨k, hk, hc⟩ h
    obtain ⟨i, hi, hf, hall⟩ := hmin
    have ho : ops[i]? = some ops[i] := Array.getElem?_eq_getElem (by omega)
    have hmem : i ∈ Region.ready .any ops listed := mem_ready.2 ⟨getD_in (by rw [inv.head.size]; omega) hf, _, ho, fun e he hb => hall _ (hedge' i _ hi ho e he hb)⟩
    rw [hnil] at hmem
    cases hmem
  intro m
  induction m with
  | zero =>
    intro listed a w inv hm
    have hall : ∀ j, j < n → listed.getD j false = true := by
      intro j hj
      cases hc : listed.getD j false with
      | true => rfl
      | false => have := unl_pos hj hc; omega
    have hlist : listed = headTrue n (ops.size - n) := by
      have hsz := inv.head.size
      apply Array.ext
      · simp [headTrue, hsz]; omega
      · intro j h1 h2
        have hj : j < ops.size := by rw [← hsz]; exact h1
        simp only [headTrue, List.getElem_toArray, List.getElem_append, List.length_replicate, List.getElem_replicate]
        by_cases hjn : j < n
        · have := hall j hjn
          simp [h1] at this
          simp [hjn, this]
        · have := inv.head.tail j (by omega) hj
          simp [h1] at this
          simp [hjn, this]
    have hw := hend a w inv.base inv.below (fun j hj => inv.done j hj (hall j hj)) (inv.turned (hall i0 hi0))
    have hdl : (ops.toList.drop n).length = ops.size - n := by simp
    have := wpAny_of_seq (md := .any) (Q' := Q) (ops.toList.drop n) n listed a w (fun j => by simp [List.getElem?_drop]) (by rw [hdl, hlist]; exact hseq) hw
    rw [hdl] at this
    rw [Nat.zero_add]
    exact this
  | succ m ih =>
    intro listed a w inv hm
    rw [show m + 1 + (ops.size - n) = (m + (ops.size - n)) + 1 by omega]
    refine ⟨fun h => absurd h (hne listed a w inv (by omega)), fun i hi => ?_⟩
    have hin := hready listed a w inv (by omega) i hi
    obtain ⟨hun, o, ho, hall⟩ := mem_ready.1 hi
    have hlisted : listed.getD i false = false := getD_both hun
    have hg := hstep i o hin ho a w inv.base inv.below (fun e => inv.pure_ (e ▸ hlisted)) (fun e he hb => inv.done e.on (by have := hedge' i o hin ho e he hb; omega) (hall e he hb))
    have hsz : i < listed.size := by rw [inv.head.size]; omega
    have hnext : ∀ a' w', GKR rw i0 S i o a w a' w' → wpAny P .any ops Q (m + (ops.size - n)) (listed.setIfInBounds i true) a' w' := by
      rintro a' w' ⟨v, rfl, hb, hp⟩
      refine ih _ _ _ ⟨inv.head.set hi hin, ⟨by rw [put_defers]; exact inv.base.defers, by rw [put_size]; exact inv.base.size, fun t ht => ?_⟩, inv.below.trans hb.1, fun hl0 => (by
        have hne : i ≠ i0 := fun e => by
          subst e
          rw [getD_set_same' hsz] at hl0
          cases hl0
        rw [getD_set_ne false hne] at hl0
        have k1 := inv.pure_ hl0
        exact k1.trans ((hb.2 hne).mono k1.size)), fun j hj hl d hd => ?_, fun hl => ?_⟩ (by have := unl_set hin hsz hlisted; omega)
      · cases hd : o.dst with
        | none => exact inv.base.other t ht
        | some d =>
          have hmem : d ∈ headDsts ops n := List.mem_filterMap.2 ⟨o, by
            rw [List.mem_iff_getElem?]
            exact ⟨i, by rw [List.getElem?_take]; simp [hin, ho]⟩, hd⟩
          have hne : d ≠ t := by
            rintro rfl
            rw [List.contains_eq_mem] at ht
            simp [hmem] at ht
          rw [put_getD_ne hne]
          exact inv.base.other t ht
      · by_cases hij : i = j
        · subst hij
          rw [ho] at hd
          simp only [Option.bind_some] at hd
          rw [hd]
          have hmem : d ∈ headDsts ops n := List.mem_filterMap.2 ⟨o, by
            rw [List.mem_iff_getElem?]
            exact ⟨i, by rw [List.getElem?_take]; simp [hin, ho]⟩, hd⟩
          have hdl : d < a.tmps.size := by
            have := List.all_eq_true.1 hlt d hmem
            rw [inv.base.size]; simpa using this
          rw [put_getD_same hdl]
          exact hp
        · rw [getD_set_ne false hij] at hl
          have hold := inv.done j hj hl d hd
          have hkeep : (a.put o.dst v).tmps.getD d undef = a.tmps.getD d undef := by
            cases hod : o.dst with
            | none => rfl
            | some e =>
              apply put_getD_ne
              rintro rfl
              cases hoj : ops[j]? with
              | none => rw [hoj] at hd; cases hd
              | some oj =>
                rw [hoj] at hd
                simp only [Option.bind_some] at hd
                exact hij (noDup_spec _ hdup i j o oj e (by rw [List.getElem?_take]; simp [hin, ho]) (by rw [List.getElem?_take]; simp [hj, hoj]) hod hd)
          rw [hkeep]
          by_cases hj0 : j = i0
          · exact (S j).st _ _ _ hold (hb.2 (by omega))
          · exact hkp j hj0 _ _ _ hold hb.1
      · by_cases hij : i = i0
        · subst hij
          exact ⟨v, hp⟩
        · rw [getD_set_ne false hij] at hl
          obtain ⟨v0, h0⟩ := inv.turned hl
          exact ⟨v0, (S i0).st _ _ _ h0 (hb.2 hij)⟩
    unfold wpOp
    simp only [ho]
    unfold GStepR at hg
    split
    · rename_i hw
      rw [if_pos hw] at hg
      exact .inl (Oper.wp_mono hnext hg)
    · rename_i hw
      rw [if_neg hw] at hg
      exact hnext _ _ ⟨undef, rfl, ⟨World.grownBy.refl _ _, fun _ => Below.refl _ _⟩, hg⟩

/-- THE LAW. -/
theorem wp_region_growW {P : Program} {id : Nat} {l : List Oper} {Q : Exit → Act → World → Prop} {a : Act} {w : World} (n : Nat) (S : List GSpec) (hm : P.follows .mixedOrders = true) (hkp : ∀ j, j ≠ i0 → ∀ v w w', (specAt S j).p v w → w.grownBy w' rw → (specAt S j).p v w') (hB : growB l.toArray n a.tmps.size = true)
    (hstep : ∀ i o, i < n → l[i]? = some o → ∀ a' w', GBase l.toArray n a a' → w.grownBy w' rw → (i = i0 → Below w.heap.size w w') → (∀ e ∈ o.after, Region.binds .any e = true → opOk l.toArray (specAt S) a' w' e.on) → GStepR rw i0 P l.toArray (specAt S) Q i o a' w')
    (hi0 : i0 < n) (hend : ∀ (u : Nat → Value) w', w.grownBy w' rw → (∀ j d, j < n → (l[j]?).bind (·.dst) = some d → (specAt S j).p (u d) w') → (∃ v, (specAt S i0).p v w') → wpList P l.toArray Q (l.drop n) (putAll a (headDsts l.toArray n) u) w') :
    (Code.region id l.toArray true).wp P Q a w := by
  refine wp_region_any hm ?_
  have hdr : ∀ {x : World}, w.grownBy x rw → w.drew.grownBy x rw := fun h => ⟨h.os, h.tape, h.output, h.size, h.block⟩
  have hrd : ∀ {x : World}, w.drew.grownBy x rw → w.grownBy x rw := fun h => ⟨h.os, h.tape, h.output, h.size, h.block⟩
  have hn : n ≤ l.length := by
    simp only [growB, Bool.and_eq_true, decide_eq_true_eq] at hB
    simpa using hB.1.1.1.1.1
  have key := wpAny_growW (P := P) (ops := l.toArray) (n := n) (S := specAt S) (Q := Q) (a0 := a) (W0 := w.drew) hkp hB
    (fun i o hi ho a' w' hb hw hp hd => hstep i o hi (by simpa using ho) a' w' hb (hrd hw) (fun e => ⟨(hp e).os, (hp e).tape, (hp e).output, (hp e).size, (hp e).block⟩) hd)
    hi0 (fun a' w' hb hw hd ht => by
      rw [act_eq hb]
      have := hend (fun d => a'.tmps.getD d undef) w' (hrd hw) (fun j d hj hd' => hd j hj d (by simpa using hd')) ht
      simpa using this)
    n (Array.replicate l.toArray.size false) a w.drew
    ⟨⟨by simp, fun j oj _ hl => (by rw [getD_replicate_false] at hl; cases hl), fun t _ ht => getD_in (by simpa using ht) (getD_replicate_false _ _)⟩, ⟨rfl, rfl, fun _ _ => rfl⟩, World.grownBy.refl _ _, fun _ => Below.refl _ _, fun j _ hl => (by rw [getD_replicate_false] at hl; cases hl), fun hl => (by rw [getD_replicate_false] at hl; cases hl)⟩
    (by
      unfold unl
      rw [List.filter_eq_self.2 (fun j _ => by rw [getD_replicate_false]; rfl), List.length_range])
  rw [show n + (l.toArray.size - n) = l.toArray.size by simp; omega] at key
  exact key

/-- THE LAW, as it is used: S the answers, ds the head's slots. -/
theorem wp_region_stepsW {P : Program} {id : Nat} {l : List Oper} {Q : Exit → Act → World → Prop} {a : Act} {w : World} (n : Nat) (S : List GSpec) (ds : List Nat) (hm : P.follows .mixedOrders = true) (hkp : ∀ j, j ≠ i0 → ∀ v w w', (specAt S j).p v w → w.grownBy w' rw → (specAt S j).p v w') (hB : growB l.toArray n a.tmps.size = true)
    (hds : headDsts l.toArray n = ds) (hstep : StepsR rw i0 P l.toArray (specAt S) Q n a w (l.take n) 0)
    (hi0 : i0 < n) (hend : ∀ (u : Nat → Value) w', w.grownBy w' rw → (∀ j d, j < n → (l[j]?).bind (·.dst) = some d → (specAt S j).p (u d) w') → (∃ v, (specAt S i0).p v w') → wpList P l.toArray Q (l.drop n) (putAll a ds u) w') :
    (Code.region id l.toArray true).wp P Q a w := by
  subst hds
  refine wp_region_growW n S hm hkp hB (fun i o hi ho a' w' hb hw hp hd => ?_) hi0 hend
  have := hstep.at_ i o (by rw [List.getElem?_take, if_pos hi]; exact ho) a' w' hb hw (by rw [Nat.zero_add]; exact hp) (fun j hj => by
    obtain ⟨e, he, hh⟩ := List.any_eq_true.1 hj
    simp only [Bool.and_eq_true, beq_iff_eq] at hh
    rw [← hh.2]
    exact hd e (Array.mem_toList_iff.1 he) hh.1)
  rw [Nat.zero_add] at this
  exact this

end
end Go.Proofs.YtjplgcmfifoefaaGreatDoor
namespace Go.Proofs.YtjplgcmfifoefaaGreatDoor
open Go.RowKit Go.Maps
set_option linter.unusedVariables false
set_option linter.unusedSimpArgs false
attribute [local go_sem] Oper.semAt_some

theorem gs_extract {ops : Array Oper} {S : Nat → GSpec} {Q : Exit → Act → World → Prop} {i : Nat} {o : Oper} {a : Act} {w : World} (hw : Region.wanted o (yielded ops a.tmps) = true) (x : Operand) (k : Nat) (ho : o.op = .extract x k) (vs : Array Value) (hx : a.eval x = .tuple vs) (u : Value) (hk : vs[k]? = some u)
    (hp : (S i).p u w) : GStep Tryz.prog ops S Q i o a w :=
  gs_run hw (v := u) (by unfold execOp; simp only [ho, hx, Instr.extract, hk, Sem.run_bind, Sem.run_pure, Result.andThen_ok]) (Below.refl _ _) hp
theorem gsr_store_cell {g i : Nat} {i0 : Nat} {ops : Array Oper} {S : Nat → GSpec} {Q : Exit → Act → World → Prop} {o : Oper} {a : Act} {w : World} (hw : Region.wanted o (yielded ops a.tmps) = true) (ty : TypeId) (x y : Operand) (ho : o.op = .store ty x y) (hx : a.eval x = .pointer (some ⟨g, i, none⟩)) {cs cs' : Array Value} {t : TypeId} {v : Value} (hy : a.eval y = v)
    (hb : Blk w g t cs) (hi : i < cs.size) (hsz : (Tryz.prog.info? ty).map (·.size) = some 1) (hv : v.cells = #[v]) (h1 : v.oneCell' = true) (he : cs.setIfInBounds i v = cs') (hp : ∀ w', Blk w' g t cs' → (S i0).p undef w') : GStepR (some g) i0 Tryz.prog ops S Q i0 o a w := by
  unfold GStepR
  rw [if_pos hw]
  exact wp_store_cell ty x y ho g i v hx hy t cs hb hv h1 hi hsz fun w' h1 h2 => ⟨undef, rfl, ⟨h2, fun h => (h rfl).elim⟩, hp _ (he ▸ h1)⟩
theorem cell_grown {w w' : World} {rw : Option Nat} {p : Addr} {v : Value} (h : w.cell? p = some v) (hg : w.grownBy w' rw) (hl : p.block < w.heap.size) (hne : some p.block ≠ rw) : w'.cell? p = some v := (World.cell?_of_block (hg.block p.block hl hne)).trans h
/-- an event of the call's own: its cells in block ge, its list in a row from block base on -/
structure EvM (w : World) (ge base : Nat) (x : EvV) (ks : List Int) : Prop where
  blk : Blk w ge 25 x.C
  own : Own w base 3 1 encZ (.slice x.A x.m x.c) ks
  len : x.m = ks.length
  lt : ge < base
  bs : base ≤ w.heap.size
/-- nothing below base is turned but ge -/
structure TK (ge base : Nat) (w w' : World) : Prop where
  os : w'.os = w.os
  tape : w'.tape = w.tape
  output : w'.output = w.output
  size : w.heap.size ≤ w'.heap.size
  block : ∀ k, k < base → k ≠ ge → w'.heap[k]? = w.heap[k]?
theorem TK.refl (ge base : Nat) (w : World) : TK ge base w w := ⟨rfl, rfl, rfl, Nat.le_refl _, fun _ _ _ => rfl⟩
theorem TK.trans {ge base : Nat} {a b c : World} (h : TK ge base a b) (k : TK ge base b c) : TK ge base a c :=
  ⟨k.os.trans h.os, k.tape.trans h.tape, k.output.trans h.output, Nat.le_trans h.size k.size, fun i h1 h2 => (k.block i h1 h2).trans (h.block i h1 h2)⟩
theorem TK.of_below {ge base : Nat} {w w' : World} (h : Below base w w') : TK ge base w w' := ⟨h.os, h.tape, h.output, h.size, fun k hk _ => h.block k hk⟩
theorem TK.of_grown {ge base : Nat} {w w' : World} (h : w.grownBy w' (some ge)) (hb : base ≤ w.heap.size) : TK ge base w w' := ⟨h.os, h.tape, h.output, h.size, fun k hk hne => h.block k (by omega) (fun e => hne (Option.some.inj e))⟩
theorem TK.of_row {ge base : Nat} {w w' : World} {row : Option Nat} (h : w.grownBy w' row) (hb : base ≤ w.heap.size) (hr : ∀ k, row = some k → base ≤ k) : TK ge base w w' := ⟨h.os, h.tape, h.output, h.size, fun k hk _ => h.block k (by omega) (fun e => by have := hr k e.symm; omega)⟩
theorem EvM.then_ {w w' : World} {ge base : Nat} {x : EvV} {ks : List Int} (h : EvM w ge base x ks) (hb : Below w.heap.size w w') : EvM w' ge base x ks := ⟨blk_then h.blk hb, h.own.then_ hb, h.len, h.lt, Nat.le_trans h.bs hb.size⟩
/-- the answer of a part's taking -/
structure TkR (c : UInt8) (q : ByteArray) (x : EvV) (ks : List Int) (b : Bool) (x' : EvV) (ks' : List Int) : Prop where
  yes : ∀ e', takeC' c (tl q) (x.ev ks) = some e' → b = true ∧ x'.ev ks' = e'
  no : takeC' c (tl q) (x.ev ks) = none → b = false
  n1 : x'.name.size ≤ max x.name.size q.size
  n2 : x'.other.size ≤ max x.other.size q.size
  n3 : x'.data.size ≤ max x.data.size q.size
  ints : intsOk (x.ev ks) → intsOk (x'.ev ks')
  few : ks'.length ≤ ks.length + 1
def TkE (c : UInt8) (ge base : Nat) (q : ByteArray) (x : EvV) (ks : List Int) (w : World) (e : Ending) (w' : World) : Prop :=
  ∃ b x' ks', e = .returned (.bool b) ∧ EvM w' ge base x' ks' ∧ TK ge base w w' ∧ TkR c q x ks b x' ks'
theorem unq_len (w : Bs) : (unqZ w).length ≤ w.length := by
  unfold unqZ unq
  have key : ∀ f l, ∀ r, unqG f l = some r → r.length ≤ l.length := by
    intro f
    induction f with
    | zero =>
      intro l r h
      cases l with
      | nil => injection h with h; rw [← h]; simp
      | cons => cases h
    | succ f ih =>
      intro l r h
      cases l with
      | nil => injection h with h; rw [← h]; simp
      | cons c t =>
        unfold unqG at h
        split at h
        · split at h
          · cases h
          · next b n hb =>
            cases hr : unqG f (t.drop n) with
            | none => rw [hr] at h; cases h
            | some r2 =>
              rw [hr] at h
              injection h with h
              have := ih _ _ hr
              rw [List.length_drop] at this
              rw [← h]
              simp only [List.length_cons]
              omega
        · split at h
          · cases h
          · cases hr : unqG f t with
            | none => rw [hr] at h; cases h
            | some r2 =>
              rw [hr] at h
              injection h with h
              have := ih _ _ hr
              rw [← h]
              simp only [List.length_cons]
              omega
  split
  · simp
  · split
    · simp
    · cases h : unqG w.length ((w.drop 1).take (w.length - 2)) with
      | none => simp
      | some r =>
        have := key _ _ _ h
        rw [List.length_take, List.length_drop] at this
        simp only [Option.getD_some]
        omega
def EvV.setF (x : EvV) (k : Nat) (s : ByteArray) : EvV := if k = 1 then { x with name := s } else if k = 2 then { x with other := s } else { x with data := s }
set_option maxRecDepth 100000 in
set_option maxHeartbeats 4000000 in
theorem set_any (k : Nat) (hk : k = 1 ∨ k = 2 ∨ k = 3) (q : ByteArray) (hq : q.size ≤ 1099511627776) (ge base pb : Nat) (T : TypeId) (x : EvV) (ks : List Int) (w : World) (hM : EvM w ge base x ks) (hP : Blk w pb T #[.pointer (some ⟨ge, k, none⟩)]) :
    Calls Tryz.prog 60 #[.string q, .pointer (some ⟨pb, 0, none⟩)] w fun e w' => e = .returned (.bool true) ∧ EvM w' ge base (x.setF k ⟨(unqZ (tl q)).toArray⟩) ks ∧ TK ge base w w' := by
  obtain ⟨X, hX⟩ : ∃ X, x.setF k ⟨(unqZ (tl q)).toArray⟩ = X := ⟨_, rfl⟩
  obtain ⟨U, hU⟩ : ∃ U : ByteArray, ⟨(unqZ (tl q)).toArray⟩ = U := ⟨_, rfl⟩
  obtain ⟨E, hE⟩ : ∃ E, unqE (tl q) = E := ⟨_, rfl⟩
  rw [hX]
  rw [hU] at hX
  have kU : ∀ W, Calls Tryz.prog 35 #[.string q] W fun e w' => e = .returned (.tuple #[.string U, .int .i64 E]) ∧ Below W.heap.size W w' := fun W => by
    have h := unquote_any q hq W
    rw [show unqZ q.data.toList = unqZ (tl q) from rfl, show unqE q.data.toList = unqE (tl q) from rfl, hE] at h
    unfold strV at h
    rw [hU] at h
    exact h
  have hset : x.C.setIfInBounds k (.string U) = X.C := by
    rw [← hX]
    unfold EvV.setF
    rcases hk with rfl | rfl | rfl <;> rfl
  have hXA : X.A = x.A ∧ X.m = x.m ∧ X.c = x.c := by
    rw [← hX]
    unfold EvV.setF
    rcases hk with rfl | rfl | rfl <;> exact ⟨rfl, rfl, rfl⟩
  have hkc : k < x.C.size := by
    have : x.C.size = 7 := rfl
    omega
  have cP : w.cell? ⟨pb, 0, none⟩ = some (.pointer (some ⟨ge, k, none⟩)) := hP.cellv rfl
  have hpl := hP.lt
  replace hX := Lib.hid hX
  clear hU hE hk
  go_enter Tryz.func60, Tryz.ntmps60
  go_upto_region 1 with (fail)
  have hpg : some pb ≠ some ge := by
    intro h
    injection h with h
    subst h
    have := hP.symm.trans hM.blk
    injection this with this
    injection this with this h2
    have h3 : (#[.pointer (some ⟨pb, k, none⟩)] : Array Value).size = x.C.size := by rw [this]
    exact absurd h3 (by show ¬ (1 = 7); decide)
  refine wp_region_stepsW (rw := some ge) (i0 := 7) 8 [eqS (.pointer (some ⟨ge, k, none⟩)), eqS (.string q), eqS (.tuple #[.string U, .int .i64 E]), eqS (.tuple #[.string U, .int .i64 E]), eqS (.string U), eqS (.int .i64 E), eqS (.pointer (some ⟨ge, k, none⟩)), ⟨fun _ W => Blk W ge 25 X.C, fun _ _ _ h hb => blk_then h hb⟩] [5, 6, 7, 4, 8, 9, 10] follows_mixed ?_ (by kernel_rfl) (by kernel_rfl) ?_ (by omega) ?_
  · intro j hj v wa wb hp hg
    rcases j with _ | _ | _ | _ | _ | _ | _ | _ | j <;> first | exact hp | exact absurd rfl hj
  · skip
    refine StepsR.cons (fun a' w' hG hW hP2 dep => GStepR.of (gs_load1 (want_none rfl) _ _ rfl pb 0 (hG.other 1 rfl) (.pointer (some ⟨ge, k, none⟩)) (cell_grown cP hW hpl hpg) _ Tryz.underlying108 rfl rfl)) ?_
    refine StepsR.cons (fun a' w' hG hW hP2 dep => GStepR.of (gs_move (want_none rfl) _ rfl (hG.other 0 rfl))) ?_
    refine StepsR.cons (fun a' w' hG hW hP2 dep => GStepR.of (gs_call (want_none rfl) _ _ _ rfl enter_unquote _ (map1 (dep 1 rfl 6 rfl)) ((kU _).mono fun e w2 ⟨h1, h2⟩ => ⟨_, h1, h2, rfl⟩))) ?_
    refine StepsR.cons (fun a' w' hG hW hP2 dep => GStepR.of (gs_move (want_none rfl) _ rfl (dep 2 rfl 7 rfl))) ?_
    refine StepsR.cons (fun a' w' hG hW hP2 dep => GStepR.of (gs_extract (want_none rfl) _ 0 rfl _ (dep 3 rfl 4 rfl) _ rfl rfl)) ?_
    refine StepsR.cons (fun a' w' hG hW hP2 dep => GStepR.of (gs_extract (want_none rfl) _ 1 rfl _ (dep 3 rfl 4 rfl) _ rfl rfl)) ?_
    refine StepsR.cons (fun a' w' hG hW hP2 dep => GStepR.of (gs_nil (want_none rfl) _ rfl _ (dep 0 rfl 5 rfl) rfl)) ?_
    refine StepsR.cons (fun a' w' hG hW hP2 dep => gsr_store_cell (want_none rfl) _ _ _ rfl (dep 6 rfl 10 rfl) (dep 4 rfl 8 rfl) (blk_then hM.blk (hP2 rfl)) hkc (by kernel_rfl) rfl rfl hset (fun w9 h9 => h9)) ?_
    exact StepsR.nil
  intro u w9 hg9 ans hturn
  obtain ⟨_, h9⟩ := hturn
  clear ans
  simp only [putAll, List.foldl_cons, List.foldl_nil, Act.put, List.setIfInBounds_toArray, List.set_cons_zero, List.set_cons_succ]
  simp only [List.drop]
  refine wpList_nil ?_
  go_wp2_with (fail)
  go_ret
  have hne : ∀ j, (Value.slice x.A x.m x.c).ownBlock = some j → some ge = some j → False := fun j h1 h2 => by
    have h3 := (hM.own.lt j h1).1
    have h4 := hM.lt
    injection h2 with h2
    omega
  refine ⟨rfl, ⟨h9, ?_, ?_, hM.lt, Nat.le_trans hM.bs hg9.size⟩, TK.of_grown hg9 hM.bs⟩
  · rw [hXA.1, hXA.2.1, hXA.2.2]
    exact hM.own.kept_ hg9 hne
  · rw [hXA.2.1]
    exact hM.len
theorem enter_set (args : Array Value) (w : World) : (callFunc 60 args).run Tryz.prog w = .ok (.enter 60 args) w := by kernel_rfl
end Go.Proofs.YtjplgcmfifoefaaGreatDoor
namespace Go.Proofs.YtjplgcmfifoefaaGreatDoor
open Go.RowKit Go.Maps
set_option linter.unusedVariables false
set_option linter.unusedSimpArgs false
attribute [local go_sem] Oper.semAt_some

theorem SOk.grown {W W' : World} {r : Nat} (h : SOk W) (hg : W.grownBy W' (some r)) (hr : 7 ≤ r) : SOk W' :=
  h.then_ (Nat.le_refl 7) ⟨hg.os, hg.tape, hg.output, hg.size, fun k hk => hg.block k (Nat.lt_of_lt_of_le hk h.size) (fun e => by injection e with e; omega)⟩
theorem ptr_ne {w : World} {pb ge base k : Nat} {T : TypeId} {x : EvV} {ks : List Int} (hP : Blk w pb T #[.pointer (some ⟨ge, k, none⟩)]) (hM : EvM w ge base x ks) : some pb ≠ some ge := by
  intro h
  injection h with h
  subst h
  have := hP.symm.trans hM.blk
  injection this with this
  injection this with this h2
  have h3 : (#[.pointer (some ⟨pb, k, none⟩)] : Array Value).size = x.C.size := by rw [this]
  exact absurd h3 (by show ¬ (1 = 7); decide)
theorem row_ne {w : World} {ge base : Nat} {x : EvV} {ks : List Int} (hM : EvM w ge base x ks) : ∀ j, (Value.slice x.A x.m x.c).ownBlock = some j → some ge = some j → False := fun j h1 h2 => by
  have h3 := (hM.own.lt j h1).1
  have h4 := hM.lt
  injection h2 with h2
  omega
set_option maxRecDepth 100000 in
set_option maxHeartbeats 4000000 in
theorem yes_any (q : ByteArray) (ge base pb : Nat) (T : TypeId) (x : EvV) (ks : List Int) (w : World) (hM : EvM w ge base x ks) (hP : Blk w pb T #[.pointer (some ⟨ge, 0, none⟩)]) :
    Calls Tryz.prog 61 #[.string q, .pointer (some ⟨pb, 0, none⟩)] w fun e w' => e = .returned (.bool ((tl q == yesW) || (tl q == noW))) ∧ EvM w' ge base { x with yes := tl q == yesW } ks ∧ TK ge base w w' := by
  have cP : w.cell? ⟨pb, 0, none⟩ = some (.pointer (some ⟨ge, 0, none⟩)) := hP.cellv rfl
  have hpg := ptr_ne hP hM
  have hrn := row_ne hM
  have hpl := hP.lt
  obtain ⟨y, hy⟩ : ∃ y, (tl q == yesW) = y := ⟨_, rfl⟩
  obtain ⟨n, hn⟩ : ∃ n, (tl q == noW) = n := ⟨_, rfl⟩
  have hy1 : (q.toList == [121, 101, 115]) = y := by rw [Lib.toList_data]; exact hy
  have hn1 : (q.toList == [110, 111]) = n := by rw [Lib.toList_data]; exact hn
  rw [hy, hn]
  clear hy hn
  obtain ⟨X, hX⟩ : ∃ X : EvV, { x with yes := y } = X := ⟨_, rfl⟩
  have hset : x.C.setIfInBounds 5 (.bool y) = X.C := by rw [← hX]; rfl
  have hXA : X.A = x.A ∧ X.m = x.m ∧ X.c = x.c ∧ X.yes = y := by rw [← hX]; exact ⟨rfl, rfl, rfl, rfl⟩
  rw [hX]
  replace hX := Lib.hid hX
  have HXA := Lib.hid hXA
  have hM2 := Lib.hid hM
  have hb := hM.blk
  have hrn2 := Lib.hid hrn
  clear hXA hM hrn
  go_enter Tryz.func61, Tryz.ntmps61
  go_upto_region 2 with (refine wl_store_cell rfl _ _ _ rfl ge 5 rfl _ _ X.C hb (by show 5 < 7; decide) (by kernel_rfl) rfl rfl hset ?_; intro w9 h9 hg9)
  have cP9 := cell_grown cP hg9 hpl hpg
  have cY : w9.cell? ⟨ge, 5, none⟩ = some (.bool y) := by
    have h8 : w9.cell? ⟨ge, 5, none⟩ = some (.bool X.yes) := h9.cellv rfl
    rw [HXA.out.2.2.2] at h8
    exact h8
  have hfin : EvM w9 ge base X ks ∧ TK ge base w w9 := by
    refine ⟨⟨h9, ?_, ?_, hM2.out.lt, Nat.le_trans hM2.out.bs hg9.size⟩, TK.of_grown hg9 hM2.out.bs⟩
    · rw [HXA.out.1, HXA.out.2.1, HXA.out.2.2.1]
      exact hM2.out.own.kept_ hg9 hrn2.out
    · rw [HXA.out.2.1]
      exact hM2.out.len
  replace hfin := Lib.hid hfin
  clear cP hb hg9 h9
  cases y with
  | true =>
    go_wp2_with (fail)
    go_ret
    exact ⟨rfl, hfin.out⟩
  | false =>
    go_wp2_with (fail)
    go_ret
    exact ⟨by cases n <;> rfl, hfin.out⟩
theorem enter_yes (args : Array Value) (w : World) : (callFunc 61 args).run Tryz.prog w = .ok (.enter 61 args) w := by kernel_rfl
theorem field_ev_4 (b : Nat) (w : World) : (Instr.fieldAt 25 (.pointer (some ⟨b, 0, none⟩)) 4).run Tryz.prog w = .ok (.pointer (some ⟨b, 4, none⟩)) w := by kernel_rfl
theorem field_ev_6 (b : Nat) (w : World) : (Instr.fieldAt 25 (.pointer (some ⟨b, 0, none⟩)) 6).run Tryz.prog w = .ok (.pointer (some ⟨b, 6, none⟩)) w := by kernel_rfl
set_option maxRecDepth 100000 in
set_option maxHeartbeats 4000000 in
theorem n_any (q : ByteArray) (hq : q.size ≤ 1099511627776) (ge base pb : Nat) (h7 : 7 ≤ ge) (T : TypeId) (x : EvV) (ks : List Int) (w : World) (hM : EvM w ge base x ks) (hP : Blk w pb T #[.pointer (some ⟨ge, 0, none⟩)]) (hS : SOk w) :
    Calls Tryz.prog 64 #[.string q, .pointer (some ⟨pb, 0, none⟩)] w fun e w' => e = .returned (.bool (intW (tl q)).isSome) ∧ EvM w' ge base { x with n := intZ (tl q) } ks ∧ TK ge base w w' := by
  have cP : w.cell? ⟨pb, 0, none⟩ = some (.pointer (some ⟨ge, 0, none⟩)) := hP.cellv rfl
  have hpg := ptr_ne hP hM
  have hrn := row_ne hM
  have hpl := hP.lt
  have kI := fun W hW => integer_any q hq W hW
  obtain ⟨Z, hZ⟩ : ∃ Z, intZ (tl q) = Z := ⟨_, rfl⟩
  obtain ⟨B, hB0⟩ : ∃ B, (intW (tl q)).isSome = B := ⟨_, rfl⟩
  rw [hZ, hB0]
  rw [hZ, hB0] at kI
  clear hZ hB0
  obtain ⟨X, hX⟩ : ∃ X : EvV, { x with n := Z } = X := ⟨_, rfl⟩
  have hset : x.C.setIfInBounds 4 (.int .i64 Z) = X.C := by rw [← hX]; rfl
  have hXA : X.A = x.A ∧ X.m = x.m ∧ X.c = x.c := by rw [← hX]; exact ⟨rfl, rfl, rfl⟩
  rw [hX]
  replace hX := Lib.hid hX
  go_enter Tryz.func64, Tryz.ntmps64
  go_upto_region 1 with (fail)
  refine wp_region_stepsW (rw := some ge) (i0 := 8) 10 [eqS (.pointer (some ⟨ge, 0, none⟩)), eqS (.string q), eqS (.tuple #[.int .i64 Z, .bool B]), eqS (.tuple #[.int .i64 Z, .bool B]), eqS (.int .i64 Z), eqS (.bool B), eqS (.pointer (some ⟨ge, 0, none⟩)), eqS (.pointer (some ⟨ge, 4, none⟩)), ⟨fun _ W => Blk W ge 25 X.C, fun _ _ _ h hb => blk_then h hb⟩, eqS (.bool B)] [5, 6, 7, 4, 8, 9, 10, 11, 3] follows_mixed ?_ (by kernel_rfl) (by kernel_rfl) ?_ (by omega) ?_
  · intro j hj v wa wb hp hg
    rcases j with _ | _ | _ | _ | _ | _ | _ | _ | _ | _ | j <;> first | exact hp | exact absurd rfl hj
  · skip
    refine StepsR.cons (fun a' w' hG hW hP2 dep => GStepR.of (gs_load1 (want_none rfl) _ _ rfl pb 0 (hG.other 1 rfl) (.pointer (some ⟨ge, 0, none⟩)) (cell_grown cP hW hpl hpg) _ Tryz.underlying78 rfl rfl)) ?_
    refine StepsR.cons (fun a' w' hG hW hP2 dep => GStepR.of (gs_move (want_none rfl) _ rfl (hG.other 0 rfl))) ?_
    refine StepsR.cons (fun a' w' hG hW hP2 dep => GStepR.of (gs_call (want_none rfl) _ _ _ rfl enter_integer _ (map1 (dep 1 rfl 6 rfl)) ((kI _ (hS.grown hW h7)).mono fun e w2 ⟨h1, h2⟩ => ⟨_, h1, h2, rfl⟩))) ?_
    refine StepsR.cons (fun a' w' hG hW hP2 dep => GStepR.of (gs_move (want_none rfl) _ rfl (dep 2 rfl 7 rfl))) ?_
    refine StepsR.cons (fun a' w' hG hW hP2 dep => GStepR.of (gs_extract (want_none rfl) _ 0 rfl _ (dep 3 rfl 4 rfl) _ rfl rfl)) ?_
    refine StepsR.cons (fun a' w' hG hW hP2 dep => GStepR.of (gs_extract (want_none rfl) _ 1 rfl _ (dep 3 rfl 4 rfl) _ rfl rfl)) ?_
    refine StepsR.cons (fun a' w' hG hW hP2 dep => GStepR.of (gs_nil (want_none rfl) _ rfl _ (dep 0 rfl 5 rfl) rfl)) ?_
    refine StepsR.cons (fun a' w' hG hW hP2 dep => GStepR.of (gs_field (want_none rfl) _ _ _ rfl ge 0 4 (dep 6 rfl 10 rfl) (fun wz => field_ev_4 ge wz) rfl)) ?_
    refine StepsR.cons (fun a' w' hG hW hP2 dep => gsr_store_cell (want_none rfl) _ _ _ rfl (dep 7 rfl 11 rfl) (dep 4 rfl 8 rfl) (blk_then hM.blk (hP2 rfl)) (by show 4 < 7; decide) (by kernel_rfl) rfl rfl hset (fun w9 h9 => h9)) ?_
    refine StepsR.cons (fun a' w' hG hW hP2 dep => GStepR.of (gs_assign (want_none rfl) _ rfl (dep 5 rfl 9 rfl))) ?_
    exact StepsR.nil
  intro u w9 hg9 ans hturn
  obtain ⟨_, h9⟩ := hturn
  have u3 : u 3 = .bool B := ans 9 3 (by decide) rfl
  clear ans
  simp only [putAll, List.foldl_cons, List.foldl_nil, Act.put, List.setIfInBounds_toArray, List.set_cons_zero, List.set_cons_succ, u3]
  clear u3
  simp only [List.drop]
  refine wpList_nil ?_
  go_wp2_with (fail)
  go_ret
  refine ⟨rfl, ⟨h9, ?_, ?_, hM.lt, Nat.le_trans hM.bs hg9.size⟩, TK.of_grown hg9 hM.bs⟩
  · rw [hXA.1, hXA.2.1, hXA.2.2]
    exact hM.own.kept_ hg9 hrn
  · rw [hXA.2.1]
    exact hM.len
theorem enter_n (args : Array Value) (w : World) : (callFunc 64 args).run Tryz.prog w = .ok (.enter 64 args) w := by kernel_rfl
def oneZ (lo : Nat) (z : Int) : GSpec := ⟨fun v w => ∃ g, v = .slice (some ⟨g, 0, none⟩) 1 1 ∧ lo ≤ g ∧ Blk w g 3 (encZ z), fun v w w' ⟨g, h1, h2, h3⟩ hb => ⟨g, h1, h2, blk_then h3 hb⟩⟩
def moreZ (lo : Nat) (es : List Int) : GSpec := ⟨fun v w => Own w lo 3 1 encZ v es, fun v w w' h hb => h.then_ hb⟩
theorem gs_moreZ {rw : Option Nat} {i0 : Nat} {ops : Array Oper} {S : Nat → GSpec} {Q : Exit → Act → World → Prop} {o : Oper} {a : Act} {w : World} (hw : Region.wanted o (yielded ops a.tmps) = true) (x y : Operand) (ho : o.op = .call { callee := .builtin .append, args := #[x, y], argTypes := #[23, 23] })
    {lo : Nat} (hlo : lo ≤ w.heap.size) (v : Value) (es : List Int) (d : Int) (hv : a.eval x = v) (hrw : v.ownBlock = rw) (hown : Own w lo 3 1 encZ v es) (hl : es.length ≤ 1099511627776) (lo2 : Nat) (hy : (oneZ lo2 d).p (a.eval y) w)
    (hp : ∀ v w', (moreZ lo (es ++ [d])).p v w' → (S i0).p v w') : GStepR rw i0 Tryz.prog ops S Q i0 o a w := by
  obtain ⟨g, hy, _, hb⟩ := hy
  obtain ⟨i1, hi1, hz0, hz1, hz2⟩ := info_parts info_int3
  obtain ⟨v', w', hrun, h2, h3, h4⟩ := run_append_slice (P := Tryz.prog) w lo 23 o.type 3 i1 _ 1 8 Tryz.underlying23 hi1 hz0 hz1 hz2 rfl (by decide) encZ_size encZ_one v es hown w.heap.size (some ⟨g, 0, none⟩) 1 1 [d] rfl (slice_one (enc := encZ) (size := 1) hb) (by unfold maxLen; omega) (by omega) hlo
  refine GStepR.run hw (v := v') (w' := w') ?_ (hrw ▸ h3) (hp _ _ h2)
  unfold execOp
  simp only [ho, resolve, invoke, builtin, Sem.run_bind, Sem.run_pure, Result.andThen_ok, List.map_toArray, List.map_cons, List.map_nil, hv, hy, hrun]
set_option maxRecDepth 100000 in
set_option maxHeartbeats 8000000 in
theorem keep_any (q : ByteArray) (hq : q.size ≤ 1099511627776) (ge base pb : Nat) (h7 : 7 ≤ ge) (T : TypeId) (hT : T ≠ 3) (x : EvV) (ks : List Int) (hks : ks.length ≤ 1099511627776) (w : World) (hM : EvM w ge base x ks) (hP : Blk w pb T #[.pointer (some ⟨ge, 0, none⟩)]) (hS : SOk w) :
    Calls Tryz.prog 62 #[.string q, .pointer (some ⟨pb, 0, none⟩)] w fun e w' => ∃ A' c', e = .returned (.bool (intW (tl q)).isSome) ∧ EvM w' ge base { x with A := A', m := x.m + 1, c := c' } (ks ++ [intZ (tl q)]) ∧ TK ge base w w' := by
  have kI := integer_any q hq w hS
  obtain ⟨Z, hZ⟩ : ∃ Z, intZ (tl q) = Z := ⟨_, rfl⟩
  obtain ⟨B, hB0⟩ : ∃ B, (intW (tl q)).isSome = B := ⟨_, rfl⟩
  rw [hZ, hB0]
  rw [hZ, hB0] at kI
  clear hZ hB0
  go_enter Tryz.func62, Tryz.ntmps62
  go_upto_region 2 with (go_at_call 63; refine kI.mono ?_; clear kI; rintro e w3 ⟨rfl, hB3⟩)
  have hM3 := hM.then_ hB3
  have hP3 := blk_then hP hB3
  have cP : w3.cell? ⟨pb, 0, none⟩ = some (.pointer (some ⟨ge, 0, none⟩)) := hP3.cellv rfl
  have cK : w3.cell? ⟨ge, 6, none⟩ = some (.slice x.A x.m x.c) := hM3.blk.cellv rfl
  have hpl := hP3.lt
  have hgl := hM3.blk.lt
  obtain ⟨rw0, hrw⟩ : ∃ r, (Value.slice x.A x.m x.c).ownBlock = r := ⟨_, rfl⟩
  have hown_ne : ∀ {g : Nat} {t : TypeId} {cs : Array Value}, Blk w3 g t cs → t ≠ 3 → some g ≠ rw0 := by
    intro g t cs hb hne h
    rw [← hrw] at h
    rcases hM3.own.2 with ⟨hv, _⟩ | ⟨g', cap, cur, hv, _, hg', _⟩
    · rw [hv] at h; cases h
    · rw [hv] at h
      have h2 : g = g' := by
        have : some g = some g' := h
        injection this
      subst h2
      have h3 := hb.symm.trans hg'
      injection h3 with h3
      injection h3 with _ h4
      exact hne h4
  have hn1 := hown_ne hP3 hT
  have hn2 := hown_ne hM3.blk (by decide)
  have hlt0 : ∀ k, some k = rw0 → k < w3.heap.size := fun k h => (hM3.own.lt k (by rw [hrw]; exact h.symm)).2
  have hml := hM.len
  refine wp_region_stepsR (rw := rw0) (i0 := 7) 10 [eqS (.pointer (some ⟨ge, 0, none⟩)), eqS (.pointer (some ⟨ge, 0, none⟩)), eqS (.pointer (some ⟨ge, 0, none⟩)), eqS (.pointer (some ⟨ge, 6, none⟩)), eqS (.slice x.A x.m x.c), eqS (.int .i64 Z), oneZ w3.heap.size Z, moreZ base (ks ++ [Z]), eqS (.pointer (some ⟨ge, 0, none⟩)), eqS (.pointer (some ⟨ge, 6, none⟩))] [11, 12, 13, 14, 15, 16, 17, 18, 19, 20] follows_mixed ?_ (by kernel_rfl) (by kernel_rfl) ?_ ?_
  · intro j hj v wa wb hp hg
    match j, hj, hp with
    | 0, _, hp => exact hp
    | 1, _, hp => exact hp
    | 2, _, hp => exact hp
    | 3, _, hp => exact hp
    | 4, _, hp => exact hp
    | 5, _, hp => exact hp
    | 6, _, hp =>
      obtain ⟨g, q1, q2, q3⟩ := hp
      exact ⟨g, q1, q2, q3.grown hg (fun e => by have := hlt0 g e; omega)⟩
    | 7, hj, _ => exact absurd rfl hj
    | 8, _, hp => exact hp
    | 9, _, hp => exact hp
    | j + 10, _, hp => exact hp
  · skip
    refine StepsR.cons (fun a' w' hG hW hP2 dep => GStepR.of (gs_load1 (want_none rfl) _ _ rfl pb 0 (hG.other 1 rfl) (.pointer (some ⟨ge, 0, none⟩)) (cell_grown cP hW hpl hn1) _ Tryz.underlying78 rfl rfl)) ?_
    refine StepsR.cons (fun a' w' hG hW hP2 dep => GStepR.of (gs_load1 (want_none rfl) _ _ rfl pb 0 (hG.other 1 rfl) (.pointer (some ⟨ge, 0, none⟩)) (cell_grown cP hW hpl hn1) _ Tryz.underlying78 rfl rfl)) ?_
    refine StepsR.cons (fun a' w' hG hW hP2 dep => GStepR.of (gs_nil (want_none rfl) _ rfl _ (dep 1 rfl 12 rfl) rfl)) ?_
    refine StepsR.cons (fun a' w' hG hW hP2 dep => GStepR.of (gs_field (want_none rfl) _ _ _ rfl ge 0 6 (dep 2 rfl 13 rfl) (fun wz => field_ev_6 ge wz) rfl)) ?_
    refine StepsR.cons (fun a' w' hG hW hP2 dep => GStepR.of (gs_load1 (want_none rfl) _ _ rfl ge 6 (dep 3 rfl 14 rfl) (.slice x.A x.m x.c) (cell_grown cK hW hgl hn2) _ Tryz.underlying23 rfl rfl)) ?_
    refine StepsR.cons (fun a' w' hG hW hP2 dep => GStepR.of (gs_move (want_none rfl) _ rfl (hG.other 4 rfl))) ?_
    refine StepsR.cons (fun a' w' hG hW hP2 dep => GStepR.of (gs_bsZ1 (want_none rfl) _ rfl Z (dep 5 rfl 16 rfl) ⟨_, rfl, hW.size, Blk.new _ _ _⟩)) ?_
    refine StepsR.cons (fun a' w' hG hW hP2 dep => gs_moreZ (want_none rfl) _ _ rfl (lo := base) (Nat.le_trans hM3.bs hW.size) (.slice x.A x.m x.c) ks Z (dep 4 rfl 15 rfl) hrw (hM3.own.then_ (hP2 rfl)) hks w3.heap.size (dep 6 rfl 17 rfl) (fun _ _ h => h)) ?_
    refine StepsR.cons (fun a' w' hG hW hP2 dep => GStepR.of (gs_nil (want_none rfl) _ rfl _ (dep 0 rfl 11 rfl) rfl)) ?_
    refine StepsR.cons (fun a' w' hG hW hP2 dep => GStepR.of (gs_field (want_none rfl) _ _ _ rfl ge 0 6 (dep 8 rfl 19 rfl) (fun wz => field_ev_6 ge wz) rfl)) ?_
    exact trivial
  intro u w7 hW7 ans
  have u20 : u 20 = .pointer (some ⟨ge, 6, none⟩) := ans 9 20 (by decide) rfl
  have hv7 : Own w7 base 3 1 encZ (u 18) (ks ++ [Z]) := ans 7 18 (by decide) rfl
  clear ans
  obtain ⟨A', c', u18, _, _⟩ := hv7.shape
  have hl8 : (ks ++ [Z]).length = x.m + 1 := by rw [List.length_append, hml]; rfl
  rw [hl8] at u18
  rw [u18] at hv7
  simp only [putAll, List.foldl_cons, List.foldl_nil, Act.put, List.setIfInBounds_toArray, List.set_cons_zero, List.set_cons_succ, u20, u18]
  clear u20 u18
  simp only [List.drop]
  have hb7 := hM3.blk.grown hW7 hn2
  obtain ⟨X, hX⟩ : ∃ X : EvV, { x with A := A', m := x.m + 1, c := c' } = X := ⟨_, rfl⟩
  have hset : x.C.setIfInBounds 6 (.slice A' (x.m + 1) c') = X.C := by rw [← hX]; rfl
  have hXA : X.A = A' ∧ X.m = x.m + 1 ∧ X.c = c' := by rw [← hX]; exact ⟨rfl, rfl, rfl⟩
  replace hX := Lib.hid hX
  clear hml
  go_wp2_with (refine wl_store_cell rfl _ _ _ rfl ge 6 rfl _ _ X.C hb7 (by show 6 < 7; decide) (by kernel_rfl) rfl rfl hset ?_; intro w9 h9 hg9)
  go_ret
  have hbz := Nat.le_trans hM3.bs hW7.size
  refine ⟨A', c', rfl, ?_, ?_⟩
  · rw [hX.out]
    refine ⟨h9, ?_, ?_, hM.lt, Nat.le_trans hbz hg9.size⟩
    · rw [hXA.1, hXA.2.1, hXA.2.2]
      exact hv7.kept_ hg9 (fun j h1 h2 => by
        have h3 := (hv7.lt j h1).1
        have h4 := hM.lt
        injection h2 with h2
        omega)
    · rw [hXA.2.1, hl8]
  · refine ((TK.of_below (hB3.mono hM.bs)).trans (TK.of_row hW7 hM3.bs (fun k h => (hM3.own.lt k (by rw [hrw]; exact h)).1))).trans (TK.of_grown hg9 hbz)
theorem enter_keep (args : Array Value) (w : World) : (callFunc 62 args).run Tryz.prog w = .ok (.enter 62 args) w := by kernel_rfl
end Go.Proofs.YtjplgcmfifoefaaGreatDoor
namespace Go.Proofs.YtjplgcmfifoefaaGreatDoor
open Go.RowKit Go.Maps
set_option linter.unusedVariables false
set_option linter.unusedSimpArgs false
attribute [local go_sem] Oper.semAt_some

theorem enter_fnOf (c : UInt8) (args : Array Value) (w : World) : (callFunc (fnOf c) args).run Tryz.prog w = .ok (.enter (fnOf c) args) w := by
  unfold fnOf
  repeat' split
  · exact enter_set args w
  · exact enter_yes args w
  · exact enter_keep args w
  · exact enter_n args w
theorem size_unq (q : ByteArray) : (⟨(unqZ (tl q)).toArray⟩ : ByteArray).size ≤ q.size := by
  have h := unq_len (tl q)
  have h2 : (tl q).length = q.size := by simp [tl]
  have h3 : (⟨(unqZ (tl q)).toArray⟩ : ByteArray).size = (unqZ (tl q)).length := by simp [ByteArray.size]
  omega
theorem tl_unq (q : ByteArray) : tl (⟨(unqZ (tl q)).toArray⟩ : ByteArray) = (unq (tl q)).getD [] := by
  unfold unqZ
  simp [tl]
theorem clos_any (c : UInt8) (q : ByteArray) (hq : q.size ≤ 1099511627776) (ge base pb : Nat) (h7 : 7 ≤ ge) (T : TypeId) (hT : T ≠ 3) (x : EvV) (ks : List Int) (hks : ks.length ≤ 1099511627776) (w : World) (hM : EvM w ge base x ks) (hP : Blk w pb T #[.pointer (some ⟨ge, offOf c, none⟩)]) (hS : SOk w) :
    Calls Tryz.prog (fnOf c) #[.string q, .pointer (some ⟨pb, 0, none⟩)] w fun e w' => TkE c ge base q x ks w e w' := by
  by_cases c110 : c = 110
  · subst c110
    refine (set_any 1 (.inl rfl) q hq ge base pb T x ks w hM hP).mono fun e w' ⟨he, h1, h2⟩ => ⟨true, _, ks, he, h1, h2, ?_⟩
    have hs := size_unq q
    have ht := tl_unq q
    refine ⟨fun e' h => ?_, fun h => (by cases h), by simp only [EvV.setF, if_true]; omega, by simp only [EvV.setF, if_true]; omega, by simp only [EvV.setF, if_true]; omega, fun h => h, by omega⟩
    injection h with h
    exact ⟨rfl, by rw [← h]; simp only [EvV.setF, if_true, EvV.ev, ht]⟩
  by_cases c111 : c = 111
  · subst c111
    refine (set_any 2 (.inr (.inl rfl)) q hq ge base pb T x ks w hM hP).mono fun e w' ⟨he, h1, h2⟩ => ⟨true, _, ks, he, h1, h2, ?_⟩
    have hs := size_unq q
    have ht := tl_unq q
    refine ⟨fun e' h => ?_, fun h => (by cases h), by simp [EvV.setF]; omega, by simp [EvV.setF]; omega, by simp [EvV.setF]; omega, fun h => h, by omega⟩
    injection h with h
    exact ⟨rfl, by rw [← h]; simp [EvV.setF, EvV.ev, ht]⟩
  by_cases c100 : c = 100
  · subst c100
    refine (set_any 3 (.inr (.inr rfl)) q hq ge base pb T x ks w hM hP).mono fun e w' ⟨he, h1, h2⟩ => ⟨true, _, ks, he, h1, h2, ?_⟩
    have hs := size_unq q
    have ht := tl_unq q
    refine ⟨fun e' h => ?_, fun h => (by cases h), by simp [EvV.setF]; omega, by simp [EvV.setF]; omega, by simp [EvV.setF]; omega, fun h => h, by omega⟩
    injection h with h
    exact ⟨rfl, by rw [← h]; simp [EvV.setF, EvV.ev, ht]⟩
  have hn3 : ¬ (c = 110 ∨ c = 111 ∨ c = 100) := fun h => h.elim c110 fun h => h.elim c111 c100
  have hob : offOf c = 0 := by unfold offOf; rw [if_neg c110, if_neg c111, if_neg c100]
  rw [hob] at hP
  have hT0 : ∀ w e, takeC' c w e = if c = 121 then (if w = yesW then some { e with yes := true } else if w = noW then some { e with yes := false } else none) else if c = 107 then (intW w).map fun v => { e with keep := e.keep ++ [v] } else (intW w).map fun v => { e with n := v } := fun w e => by
    unfold takeC'
    rw [if_neg c110, if_neg c111, if_neg c100]
  by_cases c121 : c = 121
  · have hf : fnOf c = 61 := by unfold fnOf; rw [if_neg hn3, if_pos c121]
    rw [hf]
    refine (yes_any q ge base pb T x ks w hM hP).mono fun e w' ⟨he, h1, h2⟩ => ⟨_, _, ks, he, h1, h2, ?_⟩
    refine ⟨fun e' h => ?_, fun h => ?_, by simp only; omega, by simp only; omega, by simp only; omega, fun h => h, by omega⟩
    · rw [hT0, if_pos c121] at h
      by_cases y : tl q = yesW
      · rw [if_pos y] at h
        injection h with h
        have e1 : (tl q == yesW) = true := beq_iff_eq.2 y
        rw [e1]
        exact ⟨rfl, h⟩
      · rw [if_neg y] at h
        have e1 : (tl q == yesW) = false := beq_eq_false_iff_ne.2 y
        by_cases n : tl q = noW
        · rw [if_pos n] at h
          injection h with h
          have e2 : (tl q == noW) = true := beq_iff_eq.2 n
          rw [e1, e2]
          exact ⟨rfl, h⟩
        · rw [if_neg n] at h
          cases h
    · rw [hT0, if_pos c121] at h
      by_cases y : tl q = yesW
      · rw [if_pos y] at h; cases h
      · rw [if_neg y] at h
        by_cases n : tl q = noW
        · rw [if_pos n] at h; cases h
        · rw [beq_eq_false_iff_ne.2 y, beq_eq_false_iff_ne.2 n]
          rfl
  by_cases c107 : c = 107
  · have hf : fnOf c = 62 := by unfold fnOf; rw [if_neg hn3, if_neg c121, if_pos c107]
    rw [hf]
    refine (keep_any q hq ge base pb h7 T hT x ks hks w hM hP hS).mono fun e w' ⟨A', c', he, h1, h2⟩ => ⟨_, _, _, he, h1, h2, ?_⟩
    refine ⟨fun e' h => ?_, fun h => ?_, by simp only; omega, by simp only; omega, by simp only; omega, fun h => ⟨h.1, fun z hz => ?_⟩, by simp⟩
    · rw [hT0, if_neg c121, if_pos c107] at h
      cases hI : intW (tl q) with
      | none => rw [hI] at h; cases h
      | some v =>
        rw [hI] at h
        injection h with h
        refine ⟨rfl, ?_⟩
        rw [← h, intZ_some hI]
        rfl
    · rw [hT0, if_neg c121, if_pos c107] at h
      cases hI : intW (tl q) with
      | none => rfl
      | some v => rw [hI] at h; cases h
    · rcases List.mem_append.1 hz with hz | hz
      · exact h.2 z hz
      · obtain rfl : z = intZ (tl q) := by simpa using hz
        exact intZ_ok _
  · have hf : fnOf c = 64 := by unfold fnOf; rw [if_neg hn3, if_neg c121, if_neg c107]
    rw [hf]
    refine (n_any q hq ge base pb h7 T x ks w hM hP hS).mono fun e w' ⟨he, h1, h2⟩ => ⟨_, _, ks, he, h1, h2, ?_⟩
    refine ⟨fun e' h => ?_, fun h => ?_, by simp only; omega, by simp only; omega, by simp only; omega, fun h => ⟨intZ_ok _, h.2⟩, by omega⟩
    · rw [hT0, if_neg c121, if_neg c107] at h
      cases hI : intW (tl q) with
      | none => rw [hI] at h; cases h
      | some v =>
        rw [hI] at h
        injection h with h
        refine ⟨rfl, ?_⟩
        rw [← h, intZ_some hI]
        rfl
    · rw [hT0, if_neg c121, if_neg c107] at h
      cases hI : intW (tl q) with
      | none => rfl
      | some v => rw [hI] at h; cases h
/-- a closure's call, in a list -/
theorem wl_callv {P : Program} {ops : Array Oper} {rest : List Oper} {o : Oper} {a : Act} {w : World} {Q : Exit → Act → World → Prop} (hgd : o.guard = none) (f : FuncId) (c : Operand) (cap : Array Value) (xs : Array Operand) (ats : Array TypeId) (ho : o.op = .call { callee := .value c, args := xs, argTypes := ats })
    (he : a.eval c = .func (.func f) #[] cap) (hf : ∀ args w, (callFunc f args).run P w = .ok (.enter f args) w) (vs : Array Value) (hv : xs.map a.eval ++ cap = vs)
    (hc : Calls P f vs w fun e w' => ∃ v, e = .returned v ∧ wpList P ops Q rest (a.put o.dst v) w') : wpList P ops Q (o :: rest) a w := by
  refine wpList_plain hgd fun K hK => ?_
  unfold Oper.wp
  have hr : (execOp a.eval o).run P w = .ok (.enter f vs) w := by
    have he2 : execOp a.eval o = callFunc f (#[] ++ xs.map a.eval ++ cap) := by
      unfold execOp; rw [ho]; simp only [resolve, he]; rfl
    rw [he2, Array.empty_append, hv]
    exact hf vs w
  rw [hr, Oper.upon_enter]
  refine hc.mono ?_
  rintro e w' ⟨v, rfl, h⟩
  exact hK _ _ h
def fnS (c : UInt8) (ge lo : Nat) : GSpec := ⟨fun v w => ∃ pb T, v = .func (.func (fnOf c)) #[] #[.pointer (some ⟨pb, 0, none⟩)] ∧ lo ≤ pb ∧ Blk w pb T #[.pointer (some ⟨ge, offOf c, none⟩)] ∧ T ≠ 3, fun v w w' ⟨pb, T, h1, h2, h3, h4⟩ hb => ⟨pb, T, h1, h2, blk_then h3 hb, h4⟩⟩
end Go.Proofs.YtjplgcmfifoefaaGreatDoor
namespace Go.Proofs.YtjplgcmfifoefaaGreatDoor
open Go.RowKit Go.Maps
set_option linter.unusedVariables false
set_option linter.unusedSimpArgs false
attribute [local go_sem] Oper.semAt_some

theorem readG_len : ∀ (cs : Bs) (ws : List Bs) (e : Ev), cs.length ≠ ws.length → readG cs ws e = none
  | [], [], _, h => absurd rfl h
  | [], _ :: _, _, _ => rfl
  | _ :: _, [], _, _ => rfl
  | c :: cs, w :: ws, e, h => by
    rw [readG]
    cases takeC' c w e with
    | none => rfl
    | some e' => exact readG_len cs ws e' (by simpa using h)
def evK (k : Int) : EvV := ⟨k, ⟨#[]⟩, ⟨#[]⟩, ⟨#[]⟩, 0, false, none, 0, 0⟩
theorem evK_ev (k : Int) : (evK k).ev [] = ev0 k := rfl
theorem run_build_ev (k : Int) (w : World) : (Instr.build 25 #[(0, .int .i64 k)]).run Tryz.prog w = .ok (.agg (evK k).C) w := by kernel_rfl
section
variable {ops : Array Oper} {rest : List Oper} {o : Oper} {a : Act} {w : World} {Q : Exit → Act → World → Prop}
theorem wl_build_ev (hgd : o.guard = none) (x : Operand) (ho : o.op = .build 25 #[(0, x)]) (k : Int) (hx : a.eval x = .int .i64 k)
    (h : wpList Tryz.prog ops Q rest (a.put o.dst (.agg (evK k).C)) w) : wpList Tryz.prog ops Q (o :: rest) a w :=
  wpList_plain hgd fun _ hK => by
    unfold Oper.wp execOp
    simp only [ho, List.map_toArray, List.map_cons, List.map_nil, hx, Sem.run_bind, run_build_ev, Result.andThen_ok, Sem.run_pure]
    exact hK _ _ h
theorem wl_store_ev (hgd : o.guard = none) (x y : Operand) (ho : o.op = .store 25 x y)
    (g : Nat) (u v : EvV) (hx : a.eval x = .pointer (some ⟨g, 0, none⟩)) (hy : a.eval y = .agg u.C) (hb : Blk w g 25 v.C)
    (h : ∀ w', Blk w' g 25 u.C → w.grownBy w' (some g) → wpList Tryz.prog ops Q rest (a.put o.dst undef) w') : wpList Tryz.prog ops Q (o :: rest) a w :=
  wpList_store_row hgd _ x y ho g _ hx hy _ _ hb (info_ev.trans rfl) rfl (by simp [EvV.C, Value.oneCell']) (h _ (hb.setRow_same _) (only_setRow (only_refl _ _) _))
end
theorem repeat_107 : ∀ n, Lib.repeatL [107] n = List.replicate n 107
  | 0 => rfl
  | n + 1 => by rw [Lib.repeatL, repeat_107 n]; rfl
theorem repeat_any (n : Nat) (hn : n ≤ 1099511627776) (w : World) : Calls Tryz.prog 36 #[.string ⟨#[107]⟩, .int .i64 n] w fun e w' => e = .returned (strV (List.replicate n 107)) ∧ Below w.heap.size w w' := by
  have h := Tryz.strings_Repeat ⟨#[107]⟩ n w (by omega) (by show 1 * n ≤ _; omega)
  rw [show (⟨#[107]⟩ : ByteArray).data.toList = [107] from rfl, repeat_107] at h
  exact h
theorem TK.below {ge base r : Nat} {a b : World} (h : TK ge base a b) (h1 : r ≤ ge) (h2 : r ≤ base) : Below r a b := ⟨h.os, h.tape, h.output, h.size, fun k hk => h.block k (by omega) (by omega)⟩
theorem lets_ascii (k n : Nat) (hk : k < 13) : ∀ b ∈ letsOf k n, b.toNat < 128 := by
  intro b hb
  unfold letsOf at hb
  split at hb
  · have := (List.mem_replicate.1 hb).2
    subst this
    decide
  · exact (letters_ascii k hk).1 b hb
theorem own_base {α : Type} {enc : α → Array Value} {size base base' : Nat} {e : TypeId} {w : World} {v : Value} {ys : List α} (h : Own w base e size enc v ys) (hb : base' ≤ base) : Own w base' e size enc v ys :=
  ⟨h.1, h.2.imp id fun ⟨g, cap, cur, h1, h2, h3⟩ => ⟨g, cap, cur, h1, Nat.le_trans hb h2, h3⟩⟩
/-- what read answers -/
structure RdR (k : Nat) (ps : List ByteArray) (lim : Nat) (base : Nat) (ok : Bool) (x : EvV) (ks : List Int) (w : World) : Prop where
  yes : ∀ e', readE k (ps.map tl) = some e' → ok = true ∧ x.ev ks = e'
  no : readE k (ps.map tl) = none → ok = false
  own : Own w base 3 1 encZ (.slice x.A x.m x.c) ks
  len : x.m = ks.length
  n1 : x.name.size ≤ lim
  n2 : x.other.size ≤ lim
  n3 : x.data.size ≤ lim
  few : ks.length ≤ ps.length
  ints : intsOk (x.ev ks)
set_option maxRecDepth 100000 in
set_option maxHeartbeats 8000000 in
theorem read_any (k : Nat) (hk1 : 1 ≤ k) (hk2 : k ≤ 12) (A : Option Addr) (n c : Nat) (ps : List ByteArray) (hn : n = ps.length) (hn2 : n ≤ 1073741824) (lim : Nat) (hlim : ∀ p ∈ ps, p.size ≤ lim) (hl2 : lim ≤ 1099511627776) (w : World) (hs : SliceOf w w.heap.size 1 encQ A ps) (hS : SOk w) :
    Calls Tryz.prog 20 #[.int .i64 k, .slice A n c] w fun e w' => (∃ ok x ks, e = .returned (.tuple #[.agg x.C, .bool ok]) ∧ RdR k ps lim w.heap.size ok x ks w') ∧ Below w.heap.size w w' := by
  have h7 := hS.size
  replace hS := Lib.hid hS
  replace hn := Lib.hid hn
  replace hlim := Lib.hid hlim
  go_enter Tryz.func20, Tryz.ntmps20
  go_upto_region 1 with (fail)
  obtain ⟨w1, hw1⟩ : ∃ y, y = w.alloc (.cells #[.int .i64 0, .string ⟨#[]⟩, .string ⟨#[]⟩, .string ⟨#[]⟩, .int .i64 0, .bool false, .slice none 0 0] 25) := ⟨_, rfl⟩
  have hb0 : Blk w1 w.heap.size 25 (evK 0).C := by rw [hw1]; exact Blk.new w _ _
  have hB1 : Below w.heap.size w w1 := by rw [hw1]; exact below_alloc (Below.refl w.heap.size w) _
  rw [← hw1]
  clear hw1
  have hz := Blk.new w1 25 (evK 0).C
  have hgl0 := hb0.lt
  go_upto_region 2 with (first
    | (refine wl_build_ev rfl _ rfl (k : Int) rfl ?_)
    | (refine wl_store_ev rfl _ _ rfl w1.heap.size (evK k) (evK 0) rfl rfl hz ?_; intro w2 hbe hg2))
  have hB12 := below_grown (below_alloc (Below.refl w1.heap.size w1) _) hg2 (Nat.le_refl _)
  obtain ⟨ge, hge⟩ : ∃ y, y = w1.heap.size := ⟨_, rfl⟩
  obtain ⟨r0, hr0⟩ : ∃ y, y = w.heap.size := ⟨_, rfl⟩
  have hsr : SliceOf w r0 1 encQ A ps := by rw [hr0]; exact hs
  have h0g : r0 < ge := by rw [hr0, hge]; exact hgl0
  rw [← hge] at hbe ⊢
  rw [← hr0] at hb0 hB1 h7 ⊢
  have hb2 := blk_then hb0 hB12
  have hB2 : Below r0 w w2 := hB1.trans (hB12.mono (by rw [hr0]; omega))
  replace hge := Lib.hid hge
  replace hr0 := Lib.hid hr0
  clear hg2 hz hb0 hB1 hB12 hs hgl0
  have hS2 := hS.out.then_ h7 hB2
  obtain ⟨L0, hL0⟩ : ∃ L0, letters.getD k [] = L0 := ⟨_, rfl⟩
  obtain ⟨LS, hLS⟩ : ∃ LS : ByteArray, ⟨L0.toArray⟩ = LS := ⟨_, rfl⟩
  have hLt : tl LS = L0 := by rw [← hLS]
  have q2 : w2.cell? ⟨0, k * 2 + 1, none⟩ = some (.string LS) := by
    have h9 := hS2.rows _ _ (rows_at k (by omega)).2
    rw [hL0] at h9
    unfold strV at h9
    rw [hLS, Nat.zero_add, Nat.mul_comm] at h9
    exact h9
  have hla := letters_ascii k (by omega)
  rw [hL0] at hla
  obtain ⟨b, hbb⟩ : ∃ b, (LS.toList == [107]) = b := ⟨_, rfl⟩
  have hlets : letsOf k n = if b then List.replicate n 107 else L0 := by
    unfold letsOf
    rw [hL0, ← hbb, Lib.toList_data]
    show _ = if (tl LS == [107]) = true then _ else _
    rw [hLt]
    simp only [beq_iff_eq]
  have f3 : ((k : Nat) : Int) < 13 := by omega
  have f4 : ¬ ((k : Nat) : Int) < 0 := by omega
  replace hlets := Lib.hid hlets
  replace hS2 := Lib.hid hS2
  have hLt2 := Lib.hid hLt
  have hla2 := Lib.hid hla
  have kR := repeat_any n (by omega) w2
  clear hLS hL0 hLt hla
  go_upto_if 17 with (fail)
  go_cut [7] from 18 to 20 (fun v wx => ∃ L7 : ByteArray, v = .string L7 ∧ Hid (tl L7 = letsOf k n) ∧ Below w2.heap.size w2 wx)
  case first =>
    cases b with
    | true =>
      go_wp2_with (go_at_call 36; refine kR.mono ?_; clear kR; rintro e w3 ⟨rfl, hB3⟩; unfold strV)
      go_meet
      exact ⟨_, rfl, Lib.hid (by rw [hlets.out]; simp [tl]), hB3⟩
    | false =>
      go_wp2_with (fail)
      go_meet
      exact ⟨LS, rfl, Lib.hid (by rw [hlets.out, if_neg (by decide)]; exact hLt2.out), Below.refl _ _⟩
  case rest =>
    obtain ⟨L7, rfl, hL7, hBc⟩ := hcut
    have hbe2 := blk_then hbe hBc
    have hb02 := blk_then hb2 hBc
    have hgw := hbe2.lt
    have hr0w := hb02.lt
    have hBw : Below r0 w wc := hB2.trans (hBc.mono (by have := hb2.lt; omega))
    have hLz : L7.size = (letsOf k n).length := by rw [← hL7.out]; simp [tl]
    have hpl := hn.out
    clear hbe hb2 hB2 hBc q2 kR hbb hlets f3 f4
    by_cases hm : (letsOf k n).length = n
    case neg =>
      have f1 : (((n : Nat) : Int) != (L7.size : Int)) = true := bne_iff_ne.2 (by rw [hLz]; omega)
      have hnone : Hid (readE k (ps.map tl) = none) := Lib.hid (by
        unfold readE
        rw [List.length_map, ← hpl]
        exact readG_len _ _ _ (by rw [List.length_map, ← hpl]; exact hm))
      clear hm hLz hpl
      go_wp2_with (first
        | (refine wpList_load_row rfl _ _ rfl ge rfl _ _ _ _ hbe2 Tryz.underlying25 rfl (info_ev.trans rfl) ?_)
        | (refine wl_store_ev rfl _ _ rfl r0 (evK k) (evK 0) rfl rfl hb02 ?_; intro w5 h5 hg5))
      refine ret_cell2 rfl _ rfl h5 Tryz.underlying25 rfl (info_ev.trans rfl) rfl ?_
      refine ⟨⟨false, evK k, [], rfl, ?_⟩, ?_⟩
      · exact ⟨fun e' h => (by rw [hnone.out] at h; cases h), fun _ => rfl, Own.nil_ _ _ _ _ _, rfl, by show (0 : Nat) ≤ _; omega, by show (0 : Nat) ≤ _; omega, by show (0 : Nat) ≤ _; omega, by simp, ⟨by show i64z 0; unfold i64z; omega, fun z hz => by cases hz⟩⟩
      · rw [← hr0.out]
        exact hBw.grown hg5 (Nat.le_of_lt hr0w) (by rintro k ⟨⟩; exact Nat.le_refl _)
    case pos =>
      have f1 : (((n : Nat) : Int) != (L7.size : Int)) = false := Bool.eq_false_iff.2 (fun h => bne_iff_ne.1 h (by rw [hLz]; omega))
      have HM := Lib.hid (And.intro hm hLz)
      replace hpl := Lib.hid hpl
      have hbe3 := blk_then hbe2 (below_alloc (Below.refl wc.heap.size wc) (.stringIter L7 0))
      have hb03 := blk_then hb02 (below_alloc (Below.refl wc.heap.size wc) (.stringIter L7 0))
      have hBw3 := hBw.alloc (Nat.le_of_lt hr0w) (.stringIter L7 0)
      clear hm hLz hbe2 hb02
      go_wp2_with (fail)
      obtain ⟨it, hit0⟩ : ∃ y, y = wc.heap.size := ⟨_, rfl⟩
      have hiter : (wc.alloc (.stringIter L7 0)).heap[it]? = some (.stringIter L7 0) := by
        have := World.iter_heap wc L7 0
        rw [hit0]
        exact this
      have hgi : ge < it := by rw [hit0]; exact hgw
      have hzc : (wc.alloc (.stringIter L7 0)).heap.size = it + 1 := by rw [World.size_alloc, hit0]
      rw [← hit0]
      replace hit0 := Lib.hid hit0
      go_loopw [8] (fun _ wr => ∃ (pos : Nat) (x : EvV) (ks : List Int), EvM wr ge (it + 1) x ks ∧ Blk wr r0 25 (evK 0).C ∧ wr.heap[it]? = some (.stringIter L7 pos) ∧ Below r0 w wr ∧ pos ≤ n ∧ Hid (readE k (ps.map tl) = readG ((letsOf k n).drop pos) ((ps.map tl).drop pos) (x.ev ks)) ∧ x.name.size ≤ lim ∧ x.other.size ≤ lim ∧ x.data.size ≤ lim ∧ ks.length ≤ pos ∧ Hid (intsOk (x.ev ks))) (fun _ wr => n - wr.iterPos it)
      case atStart =>
        refine ⟨0, evK k, [], ⟨hbe3, Own.nil_ _ _ _ _ _, rfl, by omega, Nat.le_of_eq hzc.symm⟩, hb03, hiter, hBw3, by omega, Lib.hid ?_, by show (0 : Nat) ≤ _; omega, by show (0 : Nat) ≤ _; omega, by show (0 : Nat) ≤ _; omega, by simp, Lib.hid ⟨by show i64z 0; unfold i64z; omega, fun z hz => by cases hz⟩⟩
        unfold readE
        rw [List.length_map, ← hpl.out, List.drop_zero, List.drop_zero, evK_ev]
      case round =>
        clear hbe3 hb03 hiter hBw3
        obtain ⟨pos, x, ks, hM, hb0, hit, hB, hpn, hrd, hx1, hx2, hx3, hkl, hio⟩ := hrel
        have hiw : it < wr.heap.size := (Array.getElem?_eq_some_iff.1 hit).1
        have hip : wr.iterPos it = pos := by simp [World.iterPos, hit]
        obtain ⟨hmm, hLz⟩ := HM.out
        by_cases hp : pos < n
        · have hpS : pos < L7.size := by omega
          have hpl2 : pos < (letsOf k n).length := by omega
          have hpps : pos < ps.length := by rw [← hpl.out]; exact hp
          obtain ⟨c0, hc0⟩ : ∃ c0, (letsOf k n)[pos] = c0 := ⟨_, rfl⟩
          have hL72 : L7[pos] = c0 := by
            rw [← hc0]
            have h9 : L7[pos] = (tl L7)[pos]'(by rw [hL7.out]; exact hpl2) := rfl
            rw [h9]
            simp [hL7.out]
          have hca : c0.toNat < 128 := lets_ascii k n (by omega) c0 (by rw [← hc0]; exact List.getElem_mem _)
          have hnx : ∀ ty, (Instr.next (.pointer (some ⟨it, 0, none⟩)) true ty).run Tryz.prog wr = .ok (.tuple #[.bool true, .int .i64 pos, .int .i32 (c0.toNat : Nat)]) (wr.iterAt it L7 (pos + 1)) := fun ty => by
            have h9 := Lib.run_next_ascii_at (P := Tryz.prog) wr it L7 pos ty hit hpS (by rw [hL72]; exact hca)
            rw [hL72] at h9
            exact h9
          have hM3 : EvM (wr.iterAt it L7 (pos + 1)) ge (it + 1) x ks := ⟨(Lib.iterAt_other wr it ge L7 (pos + 1) (by omega)).trans hM.blk, own_iterAt hM.own hit (pos + 1), hM.len, hM.lt, by rw [Lib.iterAt_size]; exact hM.bs⟩
          have hb3 : Blk (wr.iterAt it L7 (pos + 1)) r0 25 (evK 0).C := (Lib.iterAt_other wr it r0 L7 (pos + 1) (by omega)).trans hb0
          have hit3 := Lib.iterAt_heap wr it L7 pos (pos + 1) hit
          have hB3 := Lib.below_iterAt hB (k := it) (by omega) L7 (pos + 1)
          obtain ⟨w3, hw3⟩ : ∃ y, y = wr.iterAt it L7 (pos + 1) := ⟨_, rfl⟩
          rw [← hw3] at hnx hM3 hb3 hit3 hB3
          clear hw3 hM hb0 hit hB
          obtain ⟨bA, offA, hA, hbA, hrowA⟩ := hsr.at_ (by omega)
          obtain ⟨p, hpp⟩ : ∃ p, ps[pos] = p := ⟨_, rfl⟩
          have hpsz : p.size ≤ lim := hlim.out p (by rw [← hpp]; exact List.getElem_mem _)
          have cW : w3.cell? ⟨bA, offA + pos * 1, none⟩ = some (.string p) := by
            have h9 := hrowA pos hpps 0 _ rfl
            rw [hpp] at h9
            exact (hB3.cell (p := ⟨bA, offA + pos * 1 + 0, none⟩) hbA).trans h9
          have hbl3 : bA < w3.heap.size := by have := hM3.bs; omega
          have hS3 := hS.out.then_ h7 hB3
          have hrd2 : readE k (ps.map tl) = (takeC' c0 (tl p) (x.ev ks)).bind (readG ((letsOf k n).drop (pos + 1)) ((ps.map tl).drop (pos + 1))) := by
            rw [hrd.out, List.drop_eq_getElem_cons hpl2, List.drop_eq_getElem_cons (l := ps.map tl) (i := pos) (by rw [List.length_map]; exact hpps), readG, hc0, List.getElem_map, hpp]
          replace hrd2 := Lib.hid hrd2
          clear hrd hc0 hL72 hca hpS hpl2 hrowA hpp hmm hLz
          rw [hA]
          go_upto_region 10 with (fail)
          refine wp_region_steps 6 [eqS (.int .i32 ((c0.toNat : Nat) : Int)), fnS c0 ge w3.heap.size, eqS (.slice (some ⟨bA, offA, none⟩) n c), eqS (.int .i64 ((pos : Nat) : Int)), eqS (.pointer (some ⟨bA, offA + pos * 1, none⟩)), eqS (.string p)] [33, 34, 35, 36, 37, 38] follows_mixed (by kernel_rfl) (by kernel_rfl) ?_ ?_
          · skip
            refine Steps.cons (fun a' w' hG hB dep => gs_move (want_none rfl) _ rfl (hG.other 9 rfl)) ?_
            refine Steps.cons (fun a' w' hG hB dep => gs_call (want_none rfl) _ _ _ rfl enter_take _ (map2 (dep 0 rfl 33 rfl) (hG.other 6 rfl)) ((take_any c0 _ rfl ge w').mono fun e w2 ⟨⟨pb, h1, h2, h3, T, h4, h5⟩, h6⟩ => ⟨_, h1, h6, pb, T, rfl, Nat.le_trans hB.size h2, h4, h5⟩)) ?_
            refine Steps.cons (fun a' w' hG hB dep => gs_move (want_none rfl) _ rfl (hG.other 1 rfl)) ?_
            refine Steps.cons (fun a' w' hG hB dep => gs_move (want_none rfl) _ rfl (hG.other 8 rfl)) ?_
            refine Steps.cons (fun a' w' hG hB dep => gs_index (want_none rfl) _ _ _ rfl under_strs 1 size_strE bA offA n c pos (dep 2 rfl 35 rfl) (dep 3 rfl 36 rfl) hp rfl) ?_
            refine Steps.cons (fun a' w' hG hB dep => gs_load1 (want_none rfl) _ _ rfl bA (offA + pos * 1) (dep 4 rfl 37 rfl) (.string p) ((hB.cell hbl3).trans cW) _ Tryz.underlying9 rfl rfl) ?_
            exact Steps.nil
          intro u w8 hw8 ans
          have hu38 : u 38 = .string p := ans 5 38 (by decide) rfl
          obtain ⟨pb, T, hu34, hpb, hP8, hT8⟩ := ans 1 34 (by decide) rfl
          clear ans
          simp only [putAll, List.foldl_cons, List.foldl_nil, Act.put, List.setIfInBounds_toArray, List.set_cons_zero, List.set_cons_succ, hu38, hu34]
          clear hu38 hu34
          simp only [List.drop]
          have hM8 := hM3.then_ hw8
          have hB8 : Below r0 w w8 := hB3.trans (hw8.mono (by have := hM3.bs; omega))
          have hb8 := blk_then hb3 hw8
          have hit8 : w8.heap[it]? = some (.stringIter L7 (pos + 1)) := (hw8.block it (by have := hM3.bs; omega)).trans hit3
          refine wl_callv rfl (fnOf c0) _ #[.pointer (some ⟨pb, 0, none⟩)] _ _ rfl rfl (enter_fnOf c0) #[.string p, .pointer (some ⟨pb, 0, none⟩)] (by kernel_rfl) ?_
          refine (clos_any c0 p (by omega) ge (it + 1) pb (by omega) T hT8 x ks (by omega) w8 hM8 hP8 (hS3.then_ h7 (hw8.mono (by have := hM3.bs; omega)))).mono ?_
          rintro e w9 ⟨bb, x', ks', rfl, hM9, hTK, hR⟩
          refine ⟨_, rfl, ?_⟩
          have hB9 := hB8.trans (hTK.below (r := r0) (by omega) (by omega))
          have hb9 : Blk w9 r0 25 (evK 0).C := (hTK.block r0 (by omega) (by omega)).trans hb8
          have hit9 : w9.heap[it]? = some (.stringIter L7 (pos + 1)) := (hTK.block it (by omega) (by omega)).trans hit8
          have hn1 := hR.n1
          have hn2 := hR.n2
          have hn3 := hR.n3
          have hfw := hR.few
          have hio9 := Lib.hid (hR.ints hio.out)
          have hyes := Lib.hid hR.yes
          have hno := Lib.hid hR.no
          clear hM3 hb3 hit3 hB3 hM8 hP8 hB8 hb8 hit8 hTK hR hw8 cW hio hnx
          cases bb with
          | true =>
            have hsome : Hid (readE k (ps.map tl) = readG ((letsOf k n).drop (pos + 1)) ((ps.map tl).drop (pos + 1)) (x'.ev ks')) := Lib.hid (by
              rw [hrd2.out]
              cases ht : takeC' c0 (tl p) (x.ev ks) with
              | none => exact absurd (hno.out ht) (by decide)
              | some e' => rw [(hyes.out e' ht).2]; rfl)
            clear hno hyes hrd2
            go_wp2_with (fail)
            have hip9 : w9.iterPos it = pos + 1 := by simp [World.iterPos, hit9]
            refine ⟨⟨pos + 1, x', ks', hM9, hb9, hit9, hB9, by omega, hsome, by omega, by omega, by omega, by omega, hio9⟩, ?_⟩
            rw [hip9, hip]
            omega
          | false =>
            have hnone : Hid (readE k (ps.map tl) = none) := Lib.hid (by
              rw [hrd2.out]
              cases ht : takeC' c0 (tl p) (x.ev ks) with
              | none => rfl
              | some e' => exact absurd (hyes.out e' ht).1 (by decide))
            clear hno hyes hrd2
            have hbx := hM9.blk
            go_wp2_with (first
              | (refine wpList_load_row rfl _ _ rfl ge rfl _ _ _ _ hbx Tryz.underlying25 rfl (info_ev.trans rfl) ?_)
              | (refine wl_store_ev rfl _ _ rfl r0 x' (evK 0) rfl rfl hb9 ?_; intro w5 h5 hg5))
            refine ret_cell2 rfl _ rfl h5 Tryz.underlying25 rfl (info_ev.trans rfl) rfl ?_
            refine ⟨⟨false, x', ks', rfl, ?_⟩, ?_⟩
            · refine ⟨fun e' h => (by rw [hnone.out] at h; cases h), fun _ => rfl, ?_, hM9.len, by omega, by omega, by omega, by omega, hio9.out⟩
              exact (own_base (hM9.own.kept_ hg5 (fun j h1 h2 => by
                have h3 := (hM9.own.lt j h1).1
                injection h2 with h2
                omega)) (by rw [← hr0.out]; omega))
            · rw [← hr0.out]
              exact hB9.grown hg5 (Nat.le_of_lt hb9.lt) (by rintro k ⟨⟩; exact Nat.le_refl _)
        · have hpS : ¬ pos < L7.size := by omega
          have hnx : ∀ ty, (Instr.next (.pointer (some ⟨it, 0, none⟩)) true ty).run Tryz.prog wr = .ok (.tuple #[.bool false]) wr := fun ty => Lib.run_next_end_at (P := Tryz.prog) wr it L7 pos ty hit hpS
          have hfin : Hid (readE k (ps.map tl) = some (x.ev ks)) := Lib.hid (by
            rw [hrd.out, List.drop_eq_nil_of_le (by omega), List.drop_eq_nil_of_le (by rw [List.length_map, ← hpl.out]; omega)]
            rfl)
          have hbx := hM.blk
          clear hrd hmm hLz hit hpS
          go_wp2_with (first
            | (refine wpList_load_row rfl _ _ rfl ge rfl _ _ _ _ hbx Tryz.underlying25 rfl (info_ev.trans rfl) ?_)
            | (refine wl_store_ev rfl _ _ rfl r0 x (evK 0) rfl rfl hb0 ?_; intro w5 h5 hg5))
          refine ret_cell2 rfl _ rfl h5 Tryz.underlying25 rfl (info_ev.trans rfl) rfl ?_
          refine ⟨⟨true, x, ks, rfl, ?_⟩, ?_⟩
          · refine ⟨fun e' h => ⟨rfl, by rw [hfin.out] at h; injection h⟩, fun h => (by rw [hfin.out] at h; cases h), ?_, hM.len, hx1, hx2, hx3, by rw [← hpl.out]; omega, hio.out⟩
            exact (own_base (hM.own.kept_ hg5 (fun j h1 h2 => by
              have h3 := (hM.own.lt j h1).1
              injection h2 with h2
              omega)) (by rw [← hr0.out]; omega))
          · rw [← hr0.out]
            exact hB.grown hg5 (Nat.le_of_lt hb0.lt) (by rintro k ⟨⟩; exact Nat.le_refl _)
end Go.Proofs.YtjplgcmfifoefaaGreatDoor
namespace Go.Proofs.YtjplgcmfifoefaaGreatDoor
open Go.RowKit Go.Maps
set_option linter.unusedVariables false
set_option linter.unusedSimpArgs false
attribute [local go_sem] Oper.semAt_some

theorem parts_small : ∀ (f : Nat) (l : Bs) (ws : List Bs), partsG f l = some ws → ∀ p ∈ ws, p.length ≤ l.length
  | 0, l, ws, h => by cases h
  | f + 1, l, ws, h => by
    intro p hp
    have hd := (List.dropWhile_sublist (l := l) (· == 32)).length_le
    rw [partsG] at h
    split at h
    · injection h with h
      subst h
      cases hp
    · split at h
      · obtain ⟨vs, hv, rfl⟩ := Option.map_eq_some_iff.1 h
        rcases List.mem_cons.1 hp with rfl | hp
        · rw [List.length_take]; omega
        · have := parts_small f _ vs hv p hp
          rw [List.length_drop] at this
          omega
      · cases h
theorem info_rows : (Tryz.prog.info? 57).map (·.size) = some 26 := by kernel_rfl
theorem rowsC_size : rowsC.size = 26 := by kernel_rfl
theorem run_index_row (w : World) (k : Nat) (hk : k < 13) : (Instr.index 57 (.agg rowsC) (.int .i64 (k : Int))).run Tryz.prog w = .ok (.agg #[strV (firsts.getD k []), strV (letters.getD k [])]) w := by
  have h0 : ∀ w, (Instr.index 57 (.agg rowsC) (.int .i64 0)).run Tryz.prog w = .ok (.agg #[strV (firsts.getD 0 []), strV (letters.getD 0 [])]) w := fun _ => by kernel_rfl
  have h1 : ∀ w, (Instr.index 57 (.agg rowsC) (.int .i64 1)).run Tryz.prog w = .ok (.agg #[strV (firsts.getD 1 []), strV (letters.getD 1 [])]) w := fun _ => by kernel_rfl
  have h2 : ∀ w, (Instr.index 57 (.agg rowsC) (.int .i64 2)).run Tryz.prog w = .ok (.agg #[strV (firsts.getD 2 []), strV (letters.getD 2 [])]) w := fun _ => by kernel_rfl
  have h3 : ∀ w, (Instr.index 57 (.agg rowsC) (.int .i64 3)).run Tryz.prog w = .ok (.agg #[strV (firsts.getD 3 []), strV (letters.getD 3 [])]) w := fun _ => by kernel_rfl
  have h4 : ∀ w, (Instr.index 57 (.agg rowsC) (.int .i64 4)).run Tryz.prog w = .ok (.agg #[strV (firsts.getD 4 []), strV (letters.getD 4 [])]) w := fun _ => by kernel_rfl
  have h5 : ∀ w, (Instr.index 57 (.agg rowsC) (.int .i64 5)).run Tryz.prog w = .ok (.agg #[strV (firsts.getD 5 []), strV (letters.getD 5 [])]) w := fun _ => by kernel_rfl
  have h6 : ∀ w, (Instr.index 57 (.agg rowsC) (.int .i64 6)).run Tryz.prog w = .ok (.agg #[strV (firsts.getD 6 []), strV (letters.getD 6 [])]) w := fun _ => by kernel_rfl
  have h7 : ∀ w, (Instr.index 57 (.agg rowsC) (.int .i64 7)).run Tryz.prog w = .ok (.agg #[strV (firsts.getD 7 []), strV (letters.getD 7 [])]) w := fun _ => by kernel_rfl
  have h8 : ∀ w, (Instr.index 57 (.agg rowsC) (.int .i64 8)).run Tryz.prog w = .ok (.agg #[strV (firsts.getD 8 []), strV (letters.getD 8 [])]) w := fun _ => by kernel_rfl
  have h9 : ∀ w, (Instr.index 57 (.agg rowsC) (.int .i64 9)).run Tryz.prog w = .ok (.agg #[strV (firsts.getD 9 []), strV (letters.getD 9 [])]) w := fun _ => by kernel_rfl
  have h10 : ∀ w, (Instr.index 57 (.agg rowsC) (.int .i64 10)).run Tryz.prog w = .ok (.agg #[strV (firsts.getD 10 []), strV (letters.getD 10 [])]) w := fun _ => by kernel_rfl
  have h11 : ∀ w, (Instr.index 57 (.agg rowsC) (.int .i64 11)).run Tryz.prog w = .ok (.agg #[strV (firsts.getD 11 []), strV (letters.getD 11 [])]) w := fun _ => by kernel_rfl
  have h12 : ∀ w, (Instr.index 57 (.agg rowsC) (.int .i64 12)).run Tryz.prog w = .ok (.agg #[strV (firsts.getD 12 []), strV (letters.getD 12 [])]) w := fun _ => by kernel_rfl
  match k, hk with
  | 0, _ => exact h0 w
  | 1, _ => exact h1 w
  | 2, _ => exact h2 w
  | 3, _ => exact h3 w
  | 4, _ => exact h4 w
  | 5, _ => exact h5 w
  | 6, _ => exact h6 w
  | 7, _ => exact h7 w
  | 8, _ => exact h8 w
  | 9, _ => exact h9 w
  | 10, _ => exact h10 w
  | 11, _ => exact h11 w
  | 12, _ => exact h12 w

theorem size_strQ (w : World) : (sizeOf (Tryz.prog.elem 46)).run Tryz.prog w = .ok 1 w := by kernel_rfl
theorem under_strsQ : Tryz.prog.underlying 46 = some (.slice (Tryz.prog.elem 46)) := by kernel_rfl
section
variable {ops : Array Oper} {rest : List Oper} {o : Oper} {a : Act} {w : World} {Q : Exit → Act → World → Prop}
theorem wl_run {P : Program} {v : Value} {w' : World} (hgd : o.guard = none) (hr : (execOp a.eval o).run P w = .ok (.value v) w') (h : wpList P ops Q rest (a.put o.dst v) w') : wpList P ops Q (o :: rest) a w :=
  wpList_plain hgd fun _ hK => by
    unfold Oper.wp
    rw [hr]
    exact hK _ _ h
theorem wl_tailS (hgd : o.guard = none) (s : Operand) (ho : o.op = .slice 46 s (some (.const (.int .i64 1))) none none) (g off n cap : Nat) (hs : a.eval s = .slice (some ⟨g, off, none⟩) n cap) (hn : 1 ≤ n) (hc : n ≤ cap) (o1 : Nat) (ho1 : o1 = if cap = 1 then off else off + 1)
    (h : wpList Tryz.prog ops Q rest (a.put o.dst (.slice (some ⟨g, o1, none⟩) (n - 1) (cap - 1))) w) : wpList Tryz.prog ops Q (o :: rest) a w :=
  wl_run hgd (v := .slice (some ⟨g, o1, none⟩) (n - 1) (cap - 1)) (by
    rw [ho1]
    have e := run_slice_l (P := Tryz.prog) (w := w) 46 (some ⟨g, off, none⟩) n cap under_strsQ .i64 1 (by omega) (by omega)
    rw [size_strQ] at e
    have hcst : ∀ v : Value, a.eval (.const v) = v := fun _ => rfl
    unfold execOp
    simp only [ho, hs, hcst, Option.map_some, Option.map_none, Sem.run_bind, run_sliceAt_slice _ _ _ _ _ _ under_strsQ, e, Result.andThen_ok, Sem.run_pure, sliced]
    have ht1 : (1 : Int).toNat = 1 := by decide
    rw [ht1]
    by_cases h1 : cap = 1
    · simp only [if_pos h1]
    · simp only [if_neg h1, Option.map_some, Addr.add_lit]) h
theorem run_build_ev0 (w : World) : (Instr.build 25 #[]).run Tryz.prog w = .ok (.agg (evK 0).C) w := by kernel_rfl
theorem wl_build_ev0 (hgd : o.guard = none) (ho : o.op = .build 25 #[])
    (h : wpList Tryz.prog ops Q rest (a.put o.dst (.agg (evK 0).C)) w) : wpList Tryz.prog ops Q (o :: rest) a w :=
  wpList_plain hgd fun _ hK => by
    unfold Oper.wp execOp
    simp only [ho, List.map_toArray, List.map_nil, Sem.run_bind, run_build_ev0, Result.andThen_ok, Sem.run_pure]
    exact hK _ _ h
end
theorem slice_tail {α : Type} {enc : α → Array Value} {w : World} {B g off cap : Nat} {p : α} {pt : List α} (h : SliceOf w B 1 enc (some ⟨g, off, none⟩) (p :: pt)) (hc : (p :: pt).length ≤ cap) (o1 : Nat) (ho1 : o1 = if cap = 1 then off else off + 1) :
    SliceOf w B 1 enc (some ⟨g, o1, none⟩) pt := by
  rw [ho1]
  cases pt with
  | nil => exact .inl rfl
  | cons q pt =>
    have hc1 : cap ≠ 1 := by simp only [List.length_cons] at hc; omega
    rw [if_neg hc1]
    rcases h with h | ⟨b, o, e, hlt, hrow⟩
    · cases h
    · injection e with e
      injection e with e1 e2
      subst e1
      subst e2
      refine .inr ⟨g, off + 1, rfl, hlt, fun i hi => ?_⟩
      have h9 := hrow (i + 1) (by simp only [List.length_cons] at hi ⊢; omega)
      rw [List.getElem_cons_succ] at h9
      have e3 : off + 1 + i * 1 = off + (i + 1) * 1 := by omega
      rw [e3]
      exact h9
/-- what Parse answers -/
structure PsR (q : ByteArray) (base : Nat) (er : Int) (x : EvV) (ks : List Int) (w : World) : Prop where
  yes : ∀ e', parseE (tl q) = some e' → er = 0 ∧ x.ev ks = e'
  no : parseE (tl q) = none → er = 260 ∧ x = evK 0 ∧ ks = []
  own : Own w base 3 1 encZ (.slice x.A x.m x.c) ks
  len : x.m = ks.length
  n1 : x.name.size ≤ q.size
  n2 : x.other.size ≤ q.size
  n3 : x.data.size ≤ q.size
  few : ks.length ≤ q.size
  ints : intsOk (x.ev ks)
theorem psr_no (q : ByteArray) (base : Nat) (w : World) (h : parseE (tl q) = none) : PsR q base 260 (evK 0) [] w :=
  ⟨fun e' h9 => (by rw [h] at h9; cases h9), fun _ => ⟨rfl, rfl, rfl⟩, Own.nil_ _ _ _ _ _, rfl, by show (0 : Nat) ≤ _; omega, by show (0 : Nat) ≤ _; omega, by show (0 : Nat) ≤ _; omega, by simp, ⟨by show i64z 0; unfold i64z; omega, fun z hz => by cases hz⟩⟩
def tryK (w : Bs) (ws : List Bs) (k : Nat) : Option Ev := if k = 0 ∨ firsts.getD k [] ≠ w then none else readE k ws
set_option maxRecDepth 100000 in
set_option maxHeartbeats 8000000 in
theorem parse_any (q : ByteArray) (hq : q.size ≤ 1099511627776) (hfew : ∀ ws, partsG (q.size + 1) (tl q) = some ws → ws.length ≤ 1073741824) (w : World) (hS : SOk w) :
    Calls Tryz.prog 8 #[.string q] w fun e w' => (∃ er x ks, e = .returned (.tuple #[.agg x.C, .int .i64 er]) ∧ PsR q w.heap.size er x ks w') ∧ Below w.heap.size w w' := by
  have h7 := hS.size
  replace hS := Lib.hid hS
  replace hfew := Lib.hid hfew
  go_enter Tryz.func8, Tryz.ntmps8
  go_upto_region 1 with (fail)
  obtain ⟨w1, hw1⟩ : ∃ y, y = w.alloc (.cells #[.int .i64 0, .string ⟨#[]⟩, .string ⟨#[]⟩, .string ⟨#[]⟩, .int .i64 0, .bool false, .slice none 0 0] 25) := ⟨_, rfl⟩
  have hb0 : Blk w1 w.heap.size 25 (evK 0).C := by rw [hw1]; exact Blk.new w _ _
  have hB1 : Below w.heap.size w w1 := by rw [hw1]; exact below_alloc (Below.refl w.heap.size w) _
  rw [← hw1]
  clear hw1
  obtain ⟨r0, hr0⟩ : ∃ y, y = w.heap.size := ⟨_, rfl⟩
  rw [← hr0] at hb0 hB1 h7 ⊢
  replace hr0 := Lib.hid hr0
  have kP := parts_any q hq w1
  have hgz := hb0.lt
  cases hX : partsG (q.size + 1) (tl q) with
  | none =>
    have hnone : Hid (parseE (tl q) = none) := Lib.hid (by
      unfold parseE
      have e1 : (tl q).length + 1 = q.size + 1 := by simp [tl]
      rw [e1, hX])
    go_wp2_with (first
      | (go_at_call 19; go_loud (refine kP.mono ?_; clear kP; rintro e w2 ⟨hres, hBp⟩; obtain ⟨ps, A, c, h1, _⟩ | ⟨_, rfl⟩ := hres; · rw [hX] at h1; cases h1))
      | (refine wl_build_ev0 rfl rfl ?_)
      | (refine wl_store_ev rfl _ _ rfl r0 (evK 0) (evK 0) rfl rfl (blk_then hb0 hBp) ?_; intro w5 h5 hg5))
    refine ret_cell2 rfl _ rfl h5 Tryz.underlying25 rfl (info_ev.trans rfl) rfl ?_
    refine ⟨⟨260, evK 0, [], rfl, psr_no q _ _ hnone.out⟩, ?_⟩
    rw [← hr0.out]
    exact (hB1.trans (hBp.mono (Nat.le_of_lt hgz))).grown hg5 (Nat.le_of_lt (blk_then hb0 hBp).lt) (by rintro k ⟨⟩; exact Nat.le_refl _)
  | some ws =>
    cases ws with
    | nil =>
      have hnone : Hid (parseE (tl q) = none) := Lib.hid (by
        unfold parseE
        have e1 : (tl q).length + 1 = q.size + 1 := by simp [tl]
        rw [e1, hX])
      go_wp2_with (first
        | (go_at_call 19; refine kP.mono ?_; clear kP; rintro e w2 ⟨hres, hBp⟩; obtain ⟨ps, A, c, h1, rfl, _⟩ | ⟨h1, _⟩ := hres; rotate_left; (· rw [hX] at h1; cases h1); go_loud (have hps0 : ps = [] := List.map_eq_nil_iff.1 (Option.some.inj (hX.symm.trans h1)).symm; subst hps0; simp only [List.length_nil]))
        | (refine wl_build_ev0 rfl rfl ?_)
        | (refine wl_store_ev rfl _ _ rfl r0 (evK 0) (evK 0) rfl rfl (blk_then hb0 hBp) ?_; intro w5 h5 hg5))
      refine ret_cell2 rfl _ rfl h5 Tryz.underlying25 rfl (info_ev.trans rfl) rfl ?_
      refine ⟨⟨260, evK 0, [], rfl, psr_no q _ _ hnone.out⟩, ?_⟩
      rw [← hr0.out]
      exact (hB1.trans (hBp.mono (Nat.le_of_lt hgz))).grown hg5 (Nat.le_of_lt (blk_then hb0 hBp).lt) (by rintro k ⟨⟩; exact Nat.le_refl _)
    | cons W WS =>
      have hpar : Hid (parseE (tl q) = (List.range' 0 13).findSome? (tryK W WS)) := Lib.hid (by
        unfold parseE
        have e1 : (tl q).length + 1 = q.size + 1 := by simp [tl]
        rw [e1, hX, ← List.range_eq_range']
        rfl)
      have hsm := parts_small _ _ _ hX
      have hfw := hfew.out _ hX
      go_upto_region 2 with (go_at_call 19; refine kP.mono ?_; clear kP; rintro e w2 ⟨hres, hBp⟩; obtain ⟨ps, A, c, h1, rfl, ho, hpl⟩ | ⟨h1, _⟩ := hres; rotate_left; · (rw [hX] at h1; cases h1))
      rw [hX] at h1
      injection h1 with h1
      obtain ⟨P, PT, rfl⟩ : ∃ P PT, ps = P :: PT := by
        cases ps with
        | nil => cases h1
        | cons P PT => exact ⟨P, PT, rfl⟩
      simp only [List.map_cons] at h1
      injection h1 with h1 h2
      subst h1
      subst h2
      have hlim : ∀ p ∈ PT, p.size ≤ q.size := fun p hp => by
        have h9 := hsm (tl p) (List.mem_cons_of_mem _ (List.mem_map_of_mem hp))
        simpa [tl] using h9
      have hft : PT.length ≤ 1073741823 := by
        simp only [List.length_cons, List.length_map] at hfw
        omega
      have hfq : PT.length ≤ q.size := by
        simp only [List.length_cons] at hpl
        omega
      obtain ⟨gA, cap, hv, hbA, hgA, hcl, hcm⟩ := ho.form (by simp)
      injection hv with hA hn9 hc9
      subst hc9
      have hb2 := blk_then hb0 hBp
      have hB2 : Below r0 w w2 := hB1.trans (hBp.mono (Nat.le_of_lt hgz))
      have hS2 := Lib.hid (hS.out.then_ h7 hB2)
      have hsl := ho.slice_all (size := 1) (enc := encQ) (fun y => rfl)
      rw [hA] at hsl ⊢
      have hr2 := hb2.lt
      have hrA : r0 < gA := by omega
      clear hA hn9 hb0 hB1 hBp ho hX hsm hpl hfw hbA
      simp only [List.length_cons] at hcl ⊢
      obtain ⟨n, hn⟩ : ∃ n, PT.length = n := ⟨_, rfl⟩
      rw [hn] at hcl hft hfq ⊢
      have f1 : (((n + 1 : Nat) : Int) == 0) = false := by rw [beq_eq_false_iff_ne]; omega
      have hRC := hS2.out.rows
      obtain ⟨RC, hrc⟩ : ∃ y, y = rowsC := ⟨_, rfl⟩
      have hrz : RC.size = 26 := by rw [hrc]; exact rowsC_size
      rw [← hrc] at hRC
      replace hrc := Lib.hid hrc
      replace hn := Lib.hid hn
      replace hlim := Lib.hid hlim
      go_upto_region 5 with (refine wpList_load_at rfl _ _ rfl 0 0 rfl _ _ hRC Tryz.underlying57 rfl (info_rows.trans (by rw [hrz])) ?_)
      go_loopw [24] (fun iv wr => ∃ k : Nat, iv = .int .i64 k ∧ k ≤ 13 ∧ Blk wr r0 25 (evK 0).C ∧ Below w2.heap.size w2 wr ∧ Hid (parseE (tl q) = (List.range' k (13 - k)).findSome? (tryK (tl P) (PT.map tl)))) (fun iv _ => 13 - (intOf iv).toNat)
      case atStart => exact ⟨0, rfl, by omega, hb2, Below.refl _ _, hpar⟩
      case round =>
        clear hb2
        obtain ⟨k, rfl, hk, hb, hB, hpe⟩ := hrel
        have hr0w := hb.lt
        by_cases hk13 : k < 13
        · have hki : ((k : Nat) : Int) < 13 := by omega
          have hpe2 : Hid (parseE (tl q) = (tryK (tl P) (PT.map tl) k).or ((List.range' (k + 1) (13 - (k + 1))).findSome? (tryK (tl P) (PT.map tl)))) := Lib.hid (by
            rw [hpe.out, show 13 - k = (13 - (k + 1)) + 1 by omega, List.range'_succ, List.findSome?_cons]
            cases tryK (tl P) (PT.map tl) k <;> rfl)
          obtain ⟨FB, hFB⟩ : ∃ FB : ByteArray, ⟨(firsts.getD k []).toArray⟩ = FB := ⟨_, rfl⟩
          obtain ⟨LB, hLB⟩ : ∃ LB : ByteArray, ⟨(letters.getD k []).toArray⟩ = LB := ⟨_, rfl⟩
          have hix : ∀ w, (Instr.index 57 (.agg RC) (.int .i64 (k : Int))).run Tryz.prog w = .ok (.agg #[.string FB, .string LB]) w := fun w => by
            rw [hrc.out, ← hFB, ← hLB]
            exact run_index_row w k hk13
          have hFt : tl FB = firsts.getD k [] := by rw [← hFB]
          replace hFB := Lib.hid hFB
          replace hLB := Lib.hid hLB
          clear hpe hRC
          go_upto_region 7 with (fail)
          have hB4 := below_alloc (Below.refl wr.heap.size wr) (.cells #[.string FB, .string LB] 56)
          have hb47 := Blk.new wr 56 #[.string FB, .string LB]
          obtain ⟨w4, hw4⟩ : ∃ y, y = wr.alloc (.cells #[.string FB, .string LB] 56) := ⟨_, rfl⟩
          rw [← hw4] at hB4 hb47 ⊢
          clear hw4
          obtain ⟨r7, hr7⟩ : ∃ y, y = wr.heap.size := ⟨_, rfl⟩
          have hr07 : r0 < r7 := by omega
          rw [← hr7] at hb47 ⊢
          replace hr7 := Lib.hid hr7
          have hb4 := blk_then hb hB4
          have hBw4 : Below w2.heap.size w2 w4 := hB.trans (hB4.mono hB.size)
          have hsl4 := hsl.then_' hBw4
          clear hb hB hB4
          obtain ⟨b9, o9, hA9, hlt9, hrow9⟩ := hsl.at_ (by simp)
          injection hA9 with hA9
          injection hA9 with e1 e2
          subst e1
          subst e2
          have cP : w4.cell? ⟨gA, 0, none⟩ = some (.string P) := (hBw4.cell (p := ⟨gA, 0, none⟩) hlt9).trans (hrow9 0 (by simp) 0 _ rfl)
          have cP2 : w4.drew.cell? ⟨gA, 0, none⟩ = some (.string P) := cP
          have cF : w4.cell? ⟨r7, 0, none⟩ = some (.string FB) := hb47.cellv (by rfl)
          have cF2 : w4.drew.cell? ⟨r7, 0, none⟩ = some (.string FB) := cF
          clear hrow9 hix
          by_cases hsk : k = 0 ∨ firsts.getD k [] ≠ tl P
          · have hpe3 : Hid (parseE (tl q) = ((List.range' (k + 1) (13 - (k + 1))).findSome? (tryK (tl P) (PT.map tl)))) := Lib.hid (by
              rw [hpe2.out, tryK, if_pos hsk]
              rfl)
            replace hsk := Lib.hid hsk
            clear hpe2
            have hfin : ∀ (z : Int), z = (k : Int) + 1 → ∀ w5, Below w4.heap.size w4 w5 → (∃ k' : Nat, Value.int .i64 z = Value.int .i64 (k' : Int) ∧ k' ≤ 13 ∧ Blk w5 r0 25 (evK 0).C ∧ Below w2.heap.size w2 w5 ∧ Hid (parseE (tl q) = (List.range' k' (13 - k')).findSome? (tryK (tl P) (PT.map tl)))) := fun z hz w5 h5 =>
              ⟨k + 1, congrArg _ (by omega), by omega, blk_then hb4 h5, hBw4.trans (h5.mono hBw4.size), hpe3⟩
            clear hb4 hBw4 hpe3
            by_cases hk0 : k = 0
            · subst hk0
              go_big_region
              go_wp2_with (fail)
              exact ⟨hfin _ (by omega) _ (Below.refl w4.heap.size w4).drew, by simp [intOf]⟩
            · have fk : (((k : Nat) : Int) == 0) = false := by rw [beq_eq_false_iff_ne]; omega
              have fl : (FB.toList == P.toList) = false := by
                rw [beq_eq_false_iff_ne]
                intro h9
                rw [Lib.toList_data, Lib.toList_data] at h9
                rcases hsk.out with h8 | h8
                · exact hk0 h8
                · exact h8 (hFt.symm.trans h9)
              have fn : (!FB.toList == P.toList) = true := by rw [fl]; rfl
              go_big_region
              go_wp2_with (fail)
              exact ⟨hfin _ (by omega) _ (Below.refl w4.heap.size w4).drew, by simp [intOf]; omega⟩
          · have hk0 : ¬ k = 0 := fun h => hsk (.inl h)
            have hfe : firsts.getD k [] = tl P := Classical.byContradiction fun h => hsk (.inr h)
            have fk : (((k : Nat) : Int) == 0) = false := by rw [beq_eq_false_iff_ne]; omega
            obtain rfl : FB = P := by
              have h9 : tl FB = tl P := hFt.trans hfe
              rw [← bytes_of FB, ← bytes_of P]
              show (⟨(tl FB).toArray⟩ : ByteArray) = ⟨(tl P).toArray⟩
              rw [h9]
            have fn : (!FB.toList == FB.toList) = false := by simp
            have hpe3 : Hid (parseE (tl q) = (readE k (PT.map tl)).or ((List.range' (k + 1) (13 - (k + 1))).findSome? (tryK (tl FB) (PT.map tl)))) := Lib.hid (by
              rw [hpe2.out, tryK, if_neg hsk])
            obtain ⟨o1, ho1⟩ : ∃ y : Nat, y = (if c = 1 then 0 else 0 + 1) := ⟨_, rfl⟩
            replace ho1 := Lib.hid ho1
            have kR := read_any k (by omega) (by omega) (some ⟨gA, o1, none⟩) n (c - 1) PT hn.out.symm (by omega) q.size hlim.out hq w4.drew (slice_tail hsl4 (by simp only [List.length_cons]; rw [hn.out]; exact hcl) o1 ho1.out) (hS2.out.then_ (n := w2.heap.size) (by omega) hBw4.drew)
            clear hpe2 hsk
            go_big_region
            go_upto_region 9 with (first
              | (refine wl_tailS rfl _ rfl gA 0 (n + 1) c rfl (by omega) hcl o1 ho1.out ?_)
              | (go_at_call 20; refine kR.mono ?_; clear kR; rintro e w5 ⟨⟨ok, x, ks, rfl, hR⟩, hB5⟩; refine Lib.hid ?_)
              | (refine wl_store_ev rfl _ _ rfl w5.heap.size x (evK 0) rfl rfl (Blk.new _ _ _) ?_; intro w6 h6 hg6))
            have hB56 := below_grown (below_alloc (Below.refl w5.heap.size w5) _) hg6 (Nat.le_refl _)
            have hB46 : Below w4.heap.size w4 w6 := ((Below.refl w4.heap.size w4).drew).trans (hB5.trans (hB56.mono hB5.size))
            have hgx := h6.lt
            have hw45 : w4.heap.size ≤ w5.heap.size := hB5.size
            have hw4z : w2.heap.size ≤ w4.heap.size := hBw4.size
            obtain ⟨gx, hgx0⟩ : ∃ y, y = w5.heap.size := ⟨_, rfl⟩
            have how6 := hR.own.then_ hB56
            have hbs : r0 ≤ w4.drew.heap.size := by show r0 ≤ w4.heap.size; omega
            rw [← hgx0] at h6 hgx hw45 ⊢
            replace hgx0 := Lib.hid hgx0
            have hb6 := blk_then hb4 hB46
            have hBw6 : Below w2.heap.size w2 w6 := hBw4.trans (hB46.mono hw4z)
            have hl1 := hR.len
            have hl2 := hR.n1
            have hl3 := hR.n2
            have hl4 := hR.n3
            have hl5 := hR.few
            have hl6 := hR.ints
            have hyes := hR.yes
            have hno := hR.no
            clear hR hB5 hg6 hB46 hB56 hb4 hBw4 hsl hsl4 cP cP2 cF cF2 hb47 hpar hlim hlt9
            have hnn := hn.out
            replace hl6 := Lib.hid hl6
            cases ok with
            | false =>
              have hrn : readE k (PT.map tl) = none := by
                cases ht : readE k (PT.map tl) with
                | none => rfl
                | some e' => exact absurd (hyes e' ht).1 (by decide)
              have hpe4 : Hid (parseE (tl q) = ((List.range' (k + 1) (13 - (k + 1))).findSome? (tryK (tl FB) (PT.map tl)))) := Lib.hid (by
                rw [hpe3.out, hrn]
                rfl)
              clear hyes hno hrn hpe3
              go_wp2_with (fail)
              exact ⟨⟨k + 1, congrArg _ (by omega), by omega, hb6, hBw6, hpe4⟩, by simp [intOf]; omega⟩
            | true =>
              obtain ⟨e', hse⟩ : ∃ e', readE k (PT.map tl) = some e' := by
                cases ht : readE k (PT.map tl) with
                | none => exact absurd (hno ht) (by decide)
                | some e' => exact ⟨e', rfl⟩
              have hee := (hyes e' hse).2
              have hps : Hid (parseE (tl q) = some (x.ev ks)) := Lib.hid (by
                rw [hpe3.out, hse, hee]
                rfl)
              clear hyes hno hse hpe3 hee
              go_wp2_with (first
                | (refine wpList_load_row rfl _ _ rfl gx rfl _ _ _ _ h6 Tryz.underlying25 rfl (info_ev.trans rfl) ?_)
                | (refine wl_store_ev rfl _ _ rfl r0 x (evK 0) rfl rfl hb6 ?_; intro w7 h7b hg7))
              refine ret_cell2 rfl _ rfl h7b Tryz.underlying25 rfl (info_ev.trans rfl) rfl ?_
              refine ⟨⟨0, x, rfl, ks, ?_⟩, ?_⟩
              · refine ⟨fun e' h => ⟨rfl, by rw [hps.out] at h; injection h⟩, fun h => (by rw [hps.out] at h; cases h), ?_, hl1, hl2, hl3, hl4, by omega, hl6.out⟩
                exact own_base (how6.kept_ hg7 (fun j h1 h2 => by
                  have h3 := (how6.lt j h1).1
                  have h4 : w4.drew.heap.size = w4.heap.size := rfl
                  injection h2 with h2
                  omega)) (by rw [← hr0.out]; exact hbs)
              · rw [← hr0.out]
                exact (hB2.trans (hBw6.mono (Nat.le_of_lt hr2))).grown hg7 (Nat.le_of_lt hb6.lt) (by rintro k ⟨⟩; exact Nat.le_refl _)
        · obtain rfl : k = 13 := by omega
          have hnone : Hid (parseE (tl q) = none) := Lib.hid (by rw [hpe.out]; rfl)
          clear hpe hRC
          go_wp2_with (first
            | (refine wl_build_ev0 rfl rfl ?_)
            | (refine wl_store_ev rfl _ _ rfl r0 (evK 0) (evK 0) rfl rfl hb ?_; intro w5 h5 hg5))
          refine ret_cell2 rfl _ rfl h5 Tryz.underlying25 rfl (info_ev.trans rfl) rfl ?_
          refine ⟨⟨260, evK 0, [], rfl, psr_no q _ _ hnone.out⟩, ?_⟩
          rw [← hr0.out]
          exact (hB2.trans (hB.mono (Nat.le_of_lt hr2))).grown hg5 (Nat.le_of_lt hr0w) (by rintro k ⟨⟩; exact Nat.le_refl _)
end Go.Proofs.YtjplgcmfifoefaaGreatDoor
namespace Go.Proofs.YtjplgcmfifoefaaGreatDoor
open Go.RowKit Go.Maps
set_option linter.unusedVariables false
set_option linter.unusedSimpArgs false
attribute [local go_sem] Oper.semAt_some

set_option maxRecDepth 100000 in
set_option maxHeartbeats 4000000 in
theorem sameInts_any (xs ys : List Int) (A B : Option Addr) (n m cA cB : Nat) (hn : n = xs.length) (hm : m = ys.length) (hL : n ≤ 1099511627776) (hL2 : m ≤ 1099511627776) (w : World) (hA : SliceOf w w.heap.size 1 encZ A xs) (hB : SliceOf w w.heap.size 1 encZ B ys) :
    Calls Tryz.prog 21 #[.slice A n cA, .slice B m cB] w fun e w' => e = .returned (.bool (decide (xs = ys))) ∧ Below w.heap.size w w' := by
  have Hn := Lib.hid hn
  have Hm := Lib.hid hm
  clear hn hm
  go_enter Tryz.func21, Tryz.ntmps21
  by_cases hnm : n = m
  case neg =>
    have f1 : ((n : Int) != (m : Int)) = true := by rw [bne_iff_ne]; omega
    go_wp2_with (fail)
    go_ret
    refine ⟨?_, Below.refl _ _⟩
    have hd : decide (xs = ys) = false := decide_eq_false fun h => hnm (by rw [Hn.out, Hm.out, h])
    rw [hd]
    rfl
  case pos =>
    subst hnm
    have f1 : ((n : Int) != (n : Int)) = false := by simp
    go_wp2_with (fail)
    go_loopw [5] (fun iv wr => ∃ j : Nat, j ≤ n ∧ iv = .int .i64 j ∧ Below w.heap.size w wr ∧ Hid (xs.take j = ys.take j)) (fun iv _ => n - (intOf iv).toNat)
    case atStart => exact ⟨0, by omega, rfl, Below.refl _ _, Lib.hid rfl⟩
    case round =>
      obtain ⟨j, hj, rfl, hBw, hpre⟩ := hrel
      by_cases hjl : j < n
      · have hjI : (j : Int) < n := by omega
        have hjx : j < xs.length := by rw [← Hn.out]; exact hjl
        have hjy : j < ys.length := by rw [← Hm.out]; exact hjl
        obtain ⟨bA, offA, rfl, hbA, hrA⟩ := hA.at_ (by omega)
        obtain ⟨bB, offB, rfl, hbB, hrB⟩ := hB.at_ (by omega)
        have cA : wr.cell? ⟨bA, offA + j, none⟩ = some (.int .i64 xs[j]) := by
          have := ((hrA j hjx).keep (hBw.block bA hbA)) 0 _ rfl
          rw [Nat.mul_one] at this
          exact this
        have cB : wr.cell? ⟨bB, offB + j, none⟩ = some (.int .i64 ys[j]) := by
          have := ((hrB j hjy).keep (hBw.block bB hbB)) 0 _ rfl
          rw [Nat.mul_one] at this
          exact this
        have cA2 : wr.drew.cell? ⟨bA, offA + j, none⟩ = some (.int .i64 xs[j]) := cA
        have cB2 : wr.drew.cell? ⟨bB, offB + j, none⟩ = some (.int .i64 ys[j]) := cB
        obtain ⟨a, ha⟩ : ∃ a, xs[j] = a := ⟨_, rfl⟩
        obtain ⟨b, hb⟩ : ∃ b, ys[j] = b := ⟨_, rfl⟩
        rw [ha] at cA cA2
        rw [hb] at cB cB2
        have hax : Hid (xs[j]? = some a) := Lib.hid (by rw [List.getElem?_eq_getElem hjx, ha])
        have hby : Hid (ys[j]? = some b) := Lib.hid (by rw [List.getElem?_eq_getElem hjy, hb])
        clear ha hb hrA hrB
        by_cases hab : a = b
        · subst hab
          have f2 : (a != a) = false := by simp
          have hpre2 : Hid (xs.take (j + 1) = ys.take (j + 1)) := Lib.hid (by
            rw [List.take_add_one, List.take_add_one, hpre.out, hax.out, hby.out])
          go_upto_region 6 with (fail)
          go_big_region
          go_wp2_with (fail)
          exact ⟨⟨j + 1, by omega, rfl, hBw.drew, hpre2⟩, by simp only [intOf]; omega⟩
        · have f2 : (a != b) = true := by rw [bne_iff_ne]; exact hab
          go_upto_region 6 with (fail)
          go_big_region
          go_wp2_with (fail)
          go_ret
          refine ⟨?_, hBw.drew⟩
          have hd : decide (xs = ys) = false := decide_eq_false fun h => by
            have h1 := hax.out
            rw [h, hby.out] at h1
            exact hab (Option.some.inj h1).symm
          rw [hd]
          rfl
      · have hjI : ¬ (j : Int) < n := by omega
        go_wp2_with (fail)
        go_ret
        refine ⟨?_, hBw⟩
        have h1 := hpre.out
        rw [List.take_of_length_le (by rw [← Hn.out]; omega), List.take_of_length_le (by rw [← Hm.out]; omega)] at h1
        have hd : decide (xs = ys) = true := decide_eq_true h1
        rw [hd]
        rfl
/-- an event's list of numbers reads as this -/
structure EvW (w : World) (x : EvV) (ks : List Int) : Prop where
  len : x.m = ks.length
  few : x.m ≤ 1099511627776
  sl : SliceOf w w.heap.size 1 encZ x.A ks
theorem EvW.then_ {w w' : World} {x : EvV} {ks : List Int} (h : EvW w x ks) (hb : Below w.heap.size w w') : EvW w' x ks := ⟨h.len, h.few, SliceOf.then_' h.sl hb⟩
theorem EvOk.toW {w : World} {x : EvV} {ks : List Int} (h : EvOk w x ks) : EvW w x ks := ⟨h.len, by have := h.few; omega, h.sl⟩
theorem tl_eq {a b : ByteArray} : tl a = tl b ↔ a.toList = b.toList := by rw [Lib.toList_data, Lib.toList_data]
theorem ev_eq (x y : EvV) (ks js : List Int) : x.ev ks = y.ev js ↔ x.kind = y.kind ∧ x.name.toList = y.name.toList ∧ x.other.toList = y.other.toList ∧ x.data.toList = y.data.toList ∧ x.n = y.n ∧ x.yes = y.yes ∧ ks = js := by
  unfold EvV.ev
  rw [Ev.mk.injEq, tl_eq, tl_eq, tl_eq]
set_option maxRecDepth 100000 in
set_option maxHeartbeats 8000000 in
theorem same_any (x y : EvV) (ks js : List Int) (w : World) (hx : EvW w x ks) (hy : EvW w y js) :
    Calls Tryz.prog 9 #[.agg x.C, .agg y.C] w fun e w' => e = .returned (.bool (decide (x.ev ks = y.ev js))) ∧ Below w.heap.size w w' := by
  go_enter Tryz.func9, Tryz.ntmps9
  go_upto_region 1 with (fail)
  have bx := blk_then (Blk.new w 25 x.C) (below_alloc (Below.refl (w.alloc (.cells x.C 25)).heap.size (w.alloc (.cells x.C 25))) (.cells y.C 25))
  have by_ := Blk.new (w.alloc (.cells x.C 25)) 25 y.C
  have hB2 := below_alloc (below_alloc (Below.refl w.heap.size w) (.cells x.C 25)) (.cells y.C 25)
  have hz2 : (w.alloc (.cells x.C 25)).heap.size = w.heap.size + 1 := by rw [World.size_alloc]
  rw [hz2] at by_
  obtain ⟨w2, hw2⟩ : ∃ v, v = (w.alloc (.cells x.C 25)).alloc (.cells y.C 25) := ⟨_, rfl⟩
  rw [← hw2] at bx by_ hB2 ⊢
  clear hz2 hw2
  obtain ⟨gx, hgx⟩ : ∃ v, v = w.heap.size := ⟨_, rfl⟩
  obtain ⟨gy, hgy⟩ : ∃ v, v = gx + 1 := ⟨_, rfl⟩
  rw [← hgx] at bx by_ ⊢
  rw [← hgy] at by_ ⊢
  replace hgx := Lib.hid hgx
  replace hgy := Lib.hid hgy
  have cx0 : w2.cell? ⟨gx, 0, none⟩ = some (.int .i64 x.kind) := bx.cellv (by rfl)
  have cy0 : w2.cell? ⟨gy, 0, none⟩ = some (.int .i64 y.kind) := by_.cellv (by rfl)
  have cx1 : w2.cell? ⟨gx, 1, none⟩ = some (.string x.name) := bx.cellv (by rfl)
  have cy1 : w2.cell? ⟨gy, 1, none⟩ = some (.string y.name) := by_.cellv (by rfl)
  have cx2 : w2.cell? ⟨gx, 2, none⟩ = some (.string x.other) := bx.cellv (by rfl)
  have cy2 : w2.cell? ⟨gy, 2, none⟩ = some (.string y.other) := by_.cellv (by rfl)
  have cx3 : w2.cell? ⟨gx, 3, none⟩ = some (.string x.data) := bx.cellv (by rfl)
  have cy3 : w2.cell? ⟨gy, 3, none⟩ = some (.string y.data) := by_.cellv (by rfl)
  have cx4 : w2.cell? ⟨gx, 4, none⟩ = some (.int .i64 x.n) := bx.cellv (by rfl)
  have cy4 : w2.cell? ⟨gy, 4, none⟩ = some (.int .i64 y.n) := by_.cellv (by rfl)
  have cx5 : w2.cell? ⟨gx, 5, none⟩ = some (.bool x.yes) := bx.cellv (by rfl)
  have cy5 : w2.cell? ⟨gy, 5, none⟩ = some (.bool y.yes) := by_.cellv (by rfl)
  have cx6 : w2.cell? ⟨gx, 6, none⟩ = some (.slice x.A x.m x.c) := bx.cellv (by rfl)
  have cy6 : w2.cell? ⟨gy, 6, none⟩ = some (.slice y.A y.m y.c) := by_.cellv (by rfl)
  clear bx by_
  by_cases h0 : x.kind = y.kind
  case neg =>
    have f0 : (x.kind == y.kind) = false := by rw [beq_eq_false_iff_ne]; exact h0
    have hd : decide (x.ev ks = y.ev js) = false := decide_eq_false fun h => h0 ((ev_eq _ _ _ _).1 h).1
    replace hd := Lib.hid hd
    go_wp2_with (fail)
    go_ret
    exact ⟨by rw [hd.out]; rfl, hB2⟩
  have f0 : (x.kind == y.kind) = true := by rw [beq_iff_eq]; exact h0
  by_cases h1 : x.name.toList = y.name.toList
  case neg =>
    have f1 : (x.name.toList == y.name.toList) = false := by rw [beq_eq_false_iff_ne]; exact h1
    have hd : decide (x.ev ks = y.ev js) = false := decide_eq_false fun h => h1 ((ev_eq _ _ _ _).1 h).2.1
    replace hd := Lib.hid hd
    go_wp2_with (fail)
    go_ret
    exact ⟨by rw [hd.out]; rfl, hB2⟩
  have f1 : (x.name.toList == y.name.toList) = true := by rw [beq_iff_eq]; exact h1
  by_cases h2 : x.other.toList = y.other.toList
  case neg =>
    have f2 : (x.other.toList == y.other.toList) = false := by rw [beq_eq_false_iff_ne]; exact h2
    have hd : decide (x.ev ks = y.ev js) = false := decide_eq_false fun h => h2 ((ev_eq _ _ _ _).1 h).2.2.1
    replace hd := Lib.hid hd
    go_wp2_with (fail)
    go_ret
    exact ⟨by rw [hd.out]; rfl, hB2⟩
  have f2 : (x.other.toList == y.other.toList) = true := by rw [beq_iff_eq]; exact h2
  by_cases h3 : x.data.toList = y.data.toList
  case neg =>
    have f3 : (x.data.toList == y.data.toList) = false := by rw [beq_eq_false_iff_ne]; exact h3
    have hd : decide (x.ev ks = y.ev js) = false := decide_eq_false fun h => h3 ((ev_eq _ _ _ _).1 h).2.2.2.1
    replace hd := Lib.hid hd
    go_wp2_with (fail)
    go_ret
    exact ⟨by rw [hd.out]; rfl, hB2⟩
  have f3 : (x.data.toList == y.data.toList) = true := by rw [beq_iff_eq]; exact h3
  by_cases h4 : x.n = y.n
  case neg =>
    have f4 : (x.n == y.n) = false := by rw [beq_eq_false_iff_ne]; exact h4
    have hd : decide (x.ev ks = y.ev js) = false := decide_eq_false fun h => h4 ((ev_eq _ _ _ _).1 h).2.2.2.2.1
    replace hd := Lib.hid hd
    go_wp2_with (fail)
    go_ret
    exact ⟨by rw [hd.out]; rfl, hB2⟩
  have f4 : (x.n == y.n) = true := by rw [beq_iff_eq]; exact h4
  by_cases h5 : x.yes = y.yes
  case neg =>
    have f5 : (x.yes == y.yes) = false := by rw [beq_eq_false_iff_ne]; exact h5
    have hd : decide (x.ev ks = y.ev js) = false := decide_eq_false fun h => h5 ((ev_eq _ _ _ _).1 h).2.2.2.2.2.1
    replace hd := Lib.hid hd
    go_wp2_with (fail)
    go_ret
    exact ⟨by rw [hd.out]; rfl, hB2⟩
  have f5 : (x.yes == y.yes) = true := by rw [beq_iff_eq]; exact h5
  have hd : decide (x.ev ks = y.ev js) = decide (ks = js) := by
    rw [decide_eq_decide, ev_eq]
    exact ⟨fun h => h.2.2.2.2.2.2, fun h => ⟨h0, h1, h2, h3, h4, h5, h⟩⟩
  replace hd := Lib.hid hd
  clear h0 h1 h2 h3 h4 h5
  have hx2 := hx.then_ hB2
  have hy2 := hy.then_ hB2
  have kS := sameInts_any ks js x.A y.A x.m y.m x.c y.c hx.len hy.len hx.few hy.few w2 hx2.sl hy2.sl
  go_wp2_with (go_at_call 21; refine kS.mono ?_; clear kS; rintro e w3 ⟨rfl, hB3⟩)
  go_ret
  exact ⟨by rw [hd.out]; rfl, hB2.trans (hB3.mono hB2.size)⟩
end Go.Proofs.YtjplgcmfifoefaaGreatDoor
