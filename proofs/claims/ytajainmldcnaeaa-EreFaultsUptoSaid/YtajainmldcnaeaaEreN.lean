/- Trees of a call's own: each list of Subs in a block of its own. No condition beyond those named in each lemma. -/
import Derived.Test.YtajainmldcnaeaaEreH
import Derived.Test.YtajainmldcnaeaaNodeM
namespace Go.Proofs.Ytajainmldcnaeaa
open Go.RowKit Go.Maps
set_option linter.unusedVariables false
set_option linter.unusedSimpArgs false

/-- a node's cells, as one thing -/
structure NV where
  kd : Int
  st : BSet
  A : Option Addr
  n : Nat
  c : Nat
  mi : Int
  ma : Int
def NV.C (x : NV) : Array Value := nodeC x.kd x.st x.A x.n x.c x.mi x.ma
theorem NV.size (x : NV) : x.C.size = 8 := rfl
theorem NV.one (x : NV) : x.C.all (·.oneCell') = true := nodeC_one _ _ _ _ _ _ _
/-- the block that a slice lies in -/
def ownL (A : Option Addr) : List Nat := match A with
  | none => []
  | some a => [a.block]
theorem mem_ownL {A : Option Addr} {n c b : Nat} : b ∈ ownL A ↔ (Value.slice A n c).ownBlock = some b := by
  cases A with
  | none => simp [ownL, Value.ownBlock]
  | some a => simp [ownL, Value.ownBlock, eq_comm]
/-- a tree of which each list lies in a block of its own, from B on; the blocks -/
inductive NdO (w : World) (B : Nat) : Nd → NV → List Nat → Prop
  | mk (kd : Int) (st : BSet) (l : List Nd) (mi ma : Int) (A : Option Addr) (n c : Nat) (cl : List NV) (bl : List (List Nat)) (hn : n = l.length) (hcl : cl.length = l.length) (hbl : bl.length = l.length) (hmax : n ≤ 1099511627776)
      (ho : Own w B 27 8 NV.C (.slice A n c) cl) (hr : ∀ (i : Nat) (h : i < l.length) (h2 : i < cl.length) (h3 : i < bl.length), NdO w B l[i] cl[i] bl[i]) (hd : (ownL A ++ bl.flatten).Nodup) :
      NdO w B (.mk kd st l mi ma) ⟨kd, st, A, n, c, mi, ma⟩ (ownL A ++ bl.flatten)
/-- a list of such trees -/
structure NdL (w : World) (B : Nat) (A : Option Addr) (n c : Nat) (l : List Nd) (cl : List NV) (bl : List (List Nat)) : Prop where
  hn : n = l.length
  hcl : cl.length = l.length
  hbl : bl.length = l.length
  hmax : n ≤ 1099511627776
  ho : Own w B 27 8 NV.C (.slice A n c) cl
  hr : ∀ (i : Nat) (h : i < l.length) (h2 : i < cl.length) (h3 : i < bl.length), NdO w B l[i] cl[i] bl[i]
  hd : (ownL A ++ bl.flatten).Nodup
theorem NdL.node {w : World} {B : Nat} {A : Option Addr} {n c : Nat} {l : List Nd} {cl : List NV} {bl : List (List Nat)} (h : NdL w B A n c l cl bl) (kd : Int) (st : BSet) (mi ma : Int) : NdO w B (.mk kd st l mi ma) ⟨kd, st, A, n, c, mi, ma⟩ (ownL A ++ bl.flatten) :=
  .mk kd st l mi ma A n c cl bl h.hn h.hcl h.hbl h.hmax h.ho h.hr h.hd
theorem NdO.list {w : World} {B : Nat} {kd : Int} {st : BSet} {l : List Nd} {mi ma : Int} {x : NV} {bs : List Nat} (h : NdO w B (.mk kd st l mi ma) x bs) :
    ∃ A n c cl bl, x = ⟨kd, st, A, n, c, mi, ma⟩ ∧ bs = ownL A ++ bl.flatten ∧ NdL w B A n c l cl bl := by
  cases h with
  | mk kd st l mi ma A n c cl bl hn hcl hbl hmax ho hr hd => exact ⟨A, n, c, cl, bl, rfl, rfl, hn, hcl, hbl, hmax, ho, hr, hd⟩
theorem mem_flat_at {bl : List (List Nat)} {b : Nat} (h : b ∈ bl.flatten) : ∃ (i : Nat) (hi : i < bl.length), b ∈ bl[i] := by
  obtain ⟨l, hl, hb⟩ := List.mem_flatten.1 h
  obtain ⟨i, hi, rfl⟩ := List.mem_iff_getElem.1 hl
  exact ⟨i, hi, hb⟩
theorem flat_at_mem {bl : List (List Nat)} {b i : Nat} (hi : i < bl.length) (h : b ∈ bl[i]) : b ∈ bl.flatten := List.mem_flatten.2 ⟨_, List.getElem_mem hi, h⟩
theorem NdO.lt {w : World} {B : Nat} {nd : Nd} {x : NV} {bs : List Nat} (h : NdO w B nd x bs) : ∀ b ∈ bs, B ≤ b ∧ b < w.heap.size := by
  induction h with
  | mk kd st l mi ma A n c cl bl hn hcl hbl hmax ho hr hd ih =>
    intro b hb
    rcases List.mem_append.1 hb with hb | hb
    · exact ho.lt b (mem_ownL.1 hb)
    · obtain ⟨i, hi, hb⟩ := mem_flat_at hb
      exact ih i (by omega) (by omega) hi b hb
theorem NdL.lt {w : World} {B : Nat} {A : Option Addr} {n c : Nat} {l : List Nd} {cl : List NV} {bl : List (List Nat)} (h : NdL w B A n c l cl bl) : ∀ b ∈ ownL A ++ bl.flatten, B ≤ b ∧ b < w.heap.size := (h.node 0 0 0 0).lt
theorem own_block {α : Type} {enc : α → Array Value} {size base : Nat} {e : TypeId} {w w' : World} {v : Value} {ys : List α} (h : Own w base e size enc v ys) (hk : ∀ j, v.ownBlock = some j → w'.heap[j]? = w.heap[j]?) : Own w' base e size enc v ys := by
  obtain ⟨h1, h2⟩ := h
  refine ⟨h1, ?_⟩
  rcases h2 with h2 | ⟨g, cap, cur, hv, hg, hh, r⟩
  · exact .inl h2
  · exact .inr ⟨g, cap, cur, hv, hg, (hk g (by rw [hv]; rfl)).trans hh, r⟩
theorem NdO.keep {w w' : World} {B : Nat} {nd : Nd} {x : NV} {bs : List Nat} (h : NdO w B nd x bs) (hk : ∀ b ∈ bs, w'.heap[b]? = w.heap[b]?) : NdO w' B nd x bs := by
  induction h with
  | mk kd st l mi ma A n c cl bl hn hcl hbl hmax ho hr hd ih =>
    exact .mk kd st l mi ma A n c cl bl hn hcl hbl hmax (own_block ho fun j hj => hk j (List.mem_append_left _ (mem_ownL.2 hj)))
      (fun i h1 h2 h3 => ih i h1 h2 h3 fun b hb => hk b (List.mem_append_right _ (flat_at_mem h3 hb))) hd
theorem NdL.keep {w w' : World} {B : Nat} {A : Option Addr} {n c : Nat} {l : List Nd} {cl : List NV} {bl : List (List Nat)} (h : NdL w B A n c l cl bl) (hk : ∀ b ∈ ownL A ++ bl.flatten, w'.heap[b]? = w.heap[b]?) : NdL w' B A n c l cl bl :=
  ⟨h.hn, h.hcl, h.hbl, h.hmax, own_block h.ho fun j hj => hk j (List.mem_append_left _ (mem_ownL.2 hj)), fun i h1 h2 h3 => (h.hr i h1 h2 h3).keep fun b hb => hk b (List.mem_append_right _ (flat_at_mem h3 hb)), h.hd⟩
theorem NdO.mono {w : World} {B B' : Nat} {nd : Nd} {x : NV} {bs : List Nat} (h : NdO w B nd x bs) (hB : B' ≤ B) : NdO w B' nd x bs := by
  induction h with
  | mk kd st l mi ma A n c cl bl hn hcl hbl hmax ho hr hd ih => exact .mk kd st l mi ma A n c cl bl hn hcl hbl hmax (ho.mono hB) ih hd
theorem NdL.mono {w : World} {B B' : Nat} {A : Option Addr} {n c : Nat} {l : List Nd} {cl : List NV} {bl : List (List Nat)} (h : NdL w B A n c l cl bl) (hB : B' ≤ B) : NdL w B' A n c l cl bl :=
  ⟨h.hn, h.hcl, h.hbl, h.hmax, h.ho.mono hB, fun i h1 h2 h3 => (h.hr i h1 h2 h3).mono hB, h.hd⟩
theorem NdO.turn {w w' : World} {B g : Nat} {nd : Nd} {x : NV} {bs : List Nat} (h : NdO w B nd x bs) (ht : Turn g (g + 1) w w') (hg : g < B) : NdO w' B nd x bs :=
  h.keep fun b hb => ht.block b (h.lt b hb).2 (.inr (by have := (h.lt b hb).1; omega))
theorem NdO.then_ {w w' : World} {B : Nat} {nd : Nd} {x : NV} {bs : List Nat} (h : NdO w B nd x bs) (ht : Below w.heap.size w w') : NdO w' B nd x bs := h.keep fun b hb => ht.block b (h.lt b hb).2
theorem NdL.turn {w w' : World} {B g : Nat} {A : Option Addr} {n c : Nat} {l : List Nd} {cl : List NV} {bl : List (List Nat)} (h : NdL w B A n c l cl bl) (ht : Turn g (g + 1) w w') (hg : g < B) : NdL w' B A n c l cl bl :=
  h.keep fun b hb => ht.block b (h.lt b hb).2 (.inr (by have := (h.lt b hb).1; omega))
theorem NdL.then_ {w w' : World} {B : Nat} {A : Option Addr} {n c : Nat} {l : List Nd} {cl : List NV} {bl : List (List Nat)} (h : NdL w B A n c l cl bl) (ht : Below w.heap.size w w') : NdL w' B A n c l cl bl := h.keep fun b hb => ht.block b (h.lt b hb).2
theorem NdO.leaf (w : World) (B : Nat) (kd : Int) (st : BSet) (mi ma : Int) : NdO w B (.mk kd st [] mi ma) ⟨kd, st, none, 0, 0, mi, ma⟩ [] :=
  .mk kd st [] mi ma none 0 0 [] [] rfl rfl rfl (by omega) (Own.nil_ _ _ _ _ _) (fun i h => absurd h (by simp)) (by simp [ownL])
theorem NdL.nil_ (w : World) (B : Nat) : NdL w B none 0 0 [] [] [] := ⟨rfl, rfl, rfl, by omega, Own.nil_ _ _ _ _ _, fun i h => absurd h (by simp), by simp [ownL]⟩
theorem NdL.one {w w' : World} {B g : Nat} {t : Nd} {x : NV} {bs : List Nat} (h : NdO w B t x bs) (hw : Below w.heap.size w w') (hg : w.heap.size ≤ g) (hb : Blk w' g 27 x.C) (hB : B ≤ w.heap.size) : NdL w' B (some ⟨g, 0, none⟩) 1 1 [t] [x] [bs] := by
  refine ⟨rfl, rfl, rfl, by omega, ?_, fun i h1 h2 h3 => ?_, ?_⟩
  · exact ⟨by simp [flat, NV.size], .inr ⟨g, 1, x.C, rfl, by omega, hb, Nat.le_refl _, by unfold maxLen; omega, by simp [NV.size], by rw [List.take_of_length_le (by simp [NV.size])]; simp [flat]⟩⟩
  · have e : i = 0 := by simpa using h1
    subst e
    exact h.then_ hw
  · simp only [ownL, List.flatten_cons, List.flatten_nil, List.append_nil, List.cons_append, List.nil_append, List.nodup_cons]
    refine ⟨fun hm => ?_, ?_⟩
    · have := (h.lt _ hm).2
      omega
    · cases h with
      | mk kd st l mi ma A n c cl bl hn hcl hbl hmax ho hr hd => exact hd
theorem NdO.nd {w : World} {B : Nat} {nd : Nd} {x : NV} {bs : List Nat} (h : NdO w B nd x bs) : bs.Nodup := by
  cases h with
  | mk kd st l mi ma A n c cl bl hn hcl hbl hmax ho hr hd => exact hd
theorem NdO.toIn {w : World} {B : Nat} {nd : Nd} {x : NV} {bs : List Nat} (h : NdO w B nd x bs) : NdIn w w.heap.size nd x.C := by
  induction h with
  | mk kd st l mi ma A n c cl bl hn hcl hbl hmax ho hr hd ih =>
    refine .mk kd st l mi ma A n c (cl.map NV.C) hn (by simpa using hcl) hmax ?_ (fun i h1 h2 => ?_)
    · rcases ho.slice_all NV.size with h | ⟨b, off, e, hb, hh⟩
      · exact .inl (by rw [h]; rfl)
      · refine .inr ⟨b, off, e, hb, fun i hi => ?_⟩
        rw [List.getElem_map]
        exact hh i (by simpa using hi)
    · rw [List.getElem_map]
      exact ih i h1 (by simpa using h2) (by omega)
/-- one more behind the list -/
theorem NdL.push {w w' : World} {B : Nat} {A : Option Addr} {n c : Nat} {l : List Nd} {cl : List NV} {bl : List (List Nat)} (h : NdL w B A n c l cl bl) {t : Nd} {x : NV} {bs : List Nat} (ht : NdO w B t x bs)
    (hdis : ∀ b ∈ bs, b ∉ ownL A ++ bl.flatten) (hmax : n + 1 ≤ 1099511627776) {v' : Value} (ho : Own w' B 27 8 NV.C v' (cl ++ [x])) (hg : w.grownBy w' (Value.slice A n c).ownBlock) (hv : v'.ownBlock = (Value.slice A n c).ownBlock ∨ v'.ownBlock = some w.heap.size) :
    ∃ A' c', v' = .slice A' (n + 1) c' ∧ NdL w' B A' (n + 1) c' (l ++ [t]) (cl ++ [x]) (bl ++ [bs]) := by
  obtain ⟨A', c', hv', _, _⟩ := ho.shape
  have hlen : (cl ++ [x]).length = n + 1 := by rw [List.length_append, h.hcl, ← h.hn]; rfl
  rw [hlen] at hv'
  subst hv'
  have hkeep : ∀ b, b < w.heap.size → b ∉ ownL A → w'.heap[b]? = w.heap[b]? := fun b hb hn => hg.block b hb (fun e => hn (mem_ownL.2 e.symm))
  have hnd := h.hd
  rw [List.nodup_append] at hnd
  obtain ⟨hA, hF, hAF⟩ := hnd
  refine ⟨A', c', rfl, by rw [List.length_append, ← h.hn]; rfl, by rw [List.length_append, List.length_append, h.hcl]; rfl, by rw [List.length_append, List.length_append, h.hbl]; rfl, hmax, ho, fun i h1 h2 h3 => ?_, ?_⟩
  · rw [List.length_append] at h1
    by_cases hi : i < l.length
    · rw [List.getElem_append_left hi, List.getElem_append_left (by have := h.hcl; omega), List.getElem_append_left (by have := h.hbl; omega)]
      have h3' : i < bl.length := by have := h.hbl; omega
      refine (h.hr i hi _ h3').keep fun b hb => hkeep b (NdO.lt (h.hr i hi (by have := h.hcl; omega) h3') b hb).2 fun hm => ?_
      exact hAF b hm b (flat_at_mem h3' hb) rfl
    · have e : i = l.length := by simp only [List.length_cons, List.length_nil] at h1; omega
      have q1 := h.hcl
      have q2 := h.hbl
      have e1 : (l ++ [t])[i] = t := by subst e; simp
      have e2 : (cl ++ [x])[i] = x := by have e : i = cl.length := by omega
                                         subst e; simp
      have e3 : (bl ++ [bs])[i] = bs := by have e : i = bl.length := by omega
                                           subst e; simp
      rw [e1, e2, e3]
      exact ht.keep fun b hb => hkeep b (ht.lt b hb).2 fun hm => hdis b hb (List.mem_append_left _ hm)
  · rw [List.flatten_append, List.flatten_cons, List.flatten_nil, List.append_nil, ← List.append_assoc]
    rw [List.nodup_append]
    refine ⟨?_, ht.nd, fun a ha b hb e => ?_⟩
    · rw [List.nodup_append]
      refine ⟨by cases A' <;> simp [ownL], hF, fun a ha b hb e => ?_⟩
      subst e
      rcases hv with hv | hv
      · exact hAF a (mem_ownL.2 (hv.symm.trans ((mem_ownL (n := n + 1) (c := c')).1 ha))) a hb rfl
      · have e2 := (mem_ownL (n := n + 1) (c := c')).1 ha
        rw [hv] at e2
        injection e2 with e2
        have := (h.lt a (List.mem_append_right _ hb)).2
        omega
    · subst e
      rcases List.mem_append.1 ha with ha | ha
      · rcases hv with hv | hv
        · exact hdis a hb (List.mem_append_left _ (mem_ownL.2 (hv.symm.trans ((mem_ownL (n := n + 1) (c := c')).1 ha))))
        · have e2 := (mem_ownL (n := n + 1) (c := c')).1 ha
          rw [hv] at e2
          injection e2 with e2
          have := (ht.lt a hb).2
          omega
      · exact hdis a hb (List.mem_append_right _ ha)
theorem info_node3 : (Try.prog.info? 27).map (fun i => (i.zero.map (·.cells.size), i.size, i.bytes)) = some (some 8, 8, 80) := by kernel_rfl
theorem run_nodes1 (x : NV) (w : World) : (Instr.buildSlice 25 1 #[(0, .agg x.C)]).run Try.prog w = .ok (.slice (some ⟨w.heap.size, 0, none⟩) 1 1) (w.alloc (.cells x.C 27)) := by kernel_rfl
section
variable {ops : Array Oper} {rest : List Oper} {o : Oper} {a : Act} {w : World} {Q : Exit → Act → World → Prop}
theorem wl_build1n (hgd : o.guard = none) (x : Operand) (ho : o.op = .buildSlice 25 1 #[(0, x)]) (y : NV) (hx : a.eval x = .agg y.C)
    (h : wpList Try.prog ops Q rest (a.put o.dst (.slice (some ⟨w.heap.size, 0, none⟩) 1 1)) (w.alloc (.cells y.C 27))) : wpList Try.prog ops Q (o :: rest) a w :=
  wpList_plain hgd fun _ hK => by
    have e : (#[(0, x)] : Array (Nat × Operand)).map (fun (i, x) => (i, a.eval x)) = #[(0, .agg y.C)] := by simp [hx]
    unfold Oper.wp execOp
    simp only [ho, e, Sem.run_bind, run_nodes1, Result.andThen_ok, Sem.run_pure]
    exact hK _ _ h
theorem wl_build_node (hgd : o.guard = none) (parts : Array (Nat × Operand)) (ho : o.op = .build 27 parts) (x : NV) (l : Array (Nat × Value)) (hl : parts.toList.map (fun y => (y.1, a.eval y.2)) = l.toList)
    (hr : ∀ w, (Instr.build 27 l).run Try.prog w = .ok (.agg x.C) w) (h : wpList Try.prog ops Q rest (a.put o.dst (.agg x.C)) w) : wpList Try.prog ops Q (o :: rest) a w :=
  wpList_plain hgd fun _ hK => by
    have e : (parts.map fun (i, x) => (i, a.eval x)) = l := by
      apply Array.toList_inj.1
      rw [Array.toList_map]
      exact hl
    unfold Oper.wp execOp
    simp only [ho, e, Sem.run_bind, hr, Result.andThen_ok, Sem.run_pure]
    exact hK _ _ h
theorem wl_load_nv (hgd : o.guard = none) (x : Operand) (ho : o.op = .load 27 x) (g : Nat) (hx : a.eval x = .pointer (some ⟨g, 0, none⟩)) (y : NV) (hb : Blk w g 27 y.C)
    (h : wpList Try.prog ops Q rest (a.put o.dst (.agg y.C)) w) : wpList Try.prog ops Q (o :: rest) a w := wl_load_node hgd x ho g hx _ _ _ _ _ _ _ hb h
theorem wl_store_nv (hgd : o.guard = none) (x y : Operand) (ho : o.op = .store 27 x y) (g : Nat) (z : NV) (hx : a.eval x = .pointer (some ⟨g, 0, none⟩)) (hy : a.eval y = .agg z.C) (old : Array Value) (ho2 : old.size = 8) (hb : Blk w g 27 old)
    (h : ∀ w', Blk w' g 27 z.C → w.grownBy w' (some g) → wpList Try.prog ops Q rest (a.put o.dst undef) w') : wpList Try.prog ops Q (o :: rest) a w :=
  wl_store_node hgd x y ho g _ _ _ _ _ _ _ hx hy old ho2 hb h
/-- 'l = append(l, t)' -/
theorem wl_pushN (hgd : o.guard = none) (s x : Operand) (ho : o.op = .call { callee := .builtin .append, args := #[s, x], argTypes := #[25, 25] })
    {B : Nat} {A : Option Addr} {n c : Nat} {l : List Nd} {cl : List NV} {bl : List (List Nat)} (hL : NdL w B A n c l cl bl) {t : Nd} {z : NV} {bs : List Nat} (ht : NdO w B t z bs) (hdis : ∀ b ∈ bs, b ∉ ownL A ++ bl.flatten)
    (hs : a.eval s = .slice A n c) (g : Nat) (hx : a.eval x = .slice (some ⟨g, 0, none⟩) 1 1) (hb : Blk w g 27 z.C) (hmax : n ≤ 1000000) (hB : B ≤ w.heap.size)
    (h : ∀ A' c' w', NdL w' B A' (n + 1) c' (l ++ [t]) (cl ++ [z]) (bl ++ [bs]) → w.grownBy w' (Value.slice A n c).ownBlock → wpList Try.prog ops Q rest (a.put o.dst (.slice A' (n + 1) c')) w') : wpList Try.prog ops Q (o :: rest) a w := by
  have hi := info_node3
  cases hI : Try.prog.info? 27 with
  | none => rw [hI] at hi; cases hi
  | some ii =>
    rw [hI] at hi
    simp only [Option.map_some, Option.some.injEq, Prod.mk.injEq, Option.map_eq_some_iff] at hi
    obtain ⟨⟨z0, hz0, hz1⟩, hz2, hz3⟩ := hi
    have hcn : cl.length = n := by rw [hL.hcl, hL.hn]
    refine wl_append w hgd s x 25 ho B 27 ii z0 8 80 Try.underlying25 hI hz0 hz2 hz3 hz1 (by decide) NV.size NV.one _ cl hs hL.ho w.heap.size (some ⟨g, 0, none⟩) 1 1 [z] hx rfl (slice_one hb) (by unfold maxLen; omega) (by omega) hB ?_
    intro v' w' ho' hg hv
    obtain ⟨A', c', rfl, hL'⟩ := hL.push ht hdis (by omega) ho' hg hv
    exact h A' c' w' hL' hg
end
theorem build_leaf (kd : Int) (w : World) : (Instr.build 27 #[(0, .int .i64 kd)]).run Try.prog w = .ok (.agg (NV.mk kd 0 none 0 0 0 0).C) w := by kernel_rfl
theorem build_nset (kd : Int) (st : BSet) (w : World) : (Instr.build 27 #[(0, .int .i64 kd), (1, .agg (setC st))]).run Try.prog w = .ok (.agg (NV.mk kd st none 0 0 0 0).C) w := by kernel_rfl
theorem build_nlist (kd : Int) (A : Option Addr) (n c : Nat) (w : World) : (Instr.build 27 #[(0, .int .i64 kd), (2, .slice A n c)]).run Try.prog w = .ok (.agg (NV.mk kd 0 A n c 0 0).C) w := by kernel_rfl
theorem build_ntimes (kd : Int) (A : Option Addr) (n c : Nat) (mi ma : Int) (w : World) : (Instr.build 27 #[(0, .int .i64 kd), (2, .slice A n c), (3, .int .i64 mi), (4, .int .i64 ma)]).run Try.prog w = .ok (.agg (NV.mk kd 0 A n c mi ma).C) w := by kernel_rfl
theorem build_nzero (w : World) : (Instr.build 27 #[]).run Try.prog w = .ok (.agg (NV.mk 0 0 none 0 0 0 0).C) w := by kernel_rfl
/-- how a reader of nodes ends: a fault, or a tree of its own and the reader at its place -/
def NdAns (g : Nat) (p : ByteArray) (w : World) (B : Nat) (r : Ere.Res Nd) (en : Ending) (w' : World) : Prop :=
  Turn g (g + 1) w w' ∧ match r with
    | .fault e i => en = faultE e i
    | .got t j => Blk w' g 76 (rdC p j) ∧ ∃ x bs, en = .returned (.agg (NV.C x)) ∧ NdO w' B t x bs
end Go.Proofs.Ytajainmldcnaeaa
