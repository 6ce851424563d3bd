/- heronlaw08's Book: at, whole. No condition beyond those named in each lemma. -/
import Derived.Test.YtgahdookojbbiaaDoorRefWXY
namespace Go.Proofs.YtgahdookojbbiaaDoor
open Go.RowKit Go.Shelf Go.Maps
set_option linter.unusedVariables false
set_option linter.unusedSimpArgs false
attribute [local go_sem] Oper.semAt_some

/-! ### what a book's functions leave as it was -/
structure Fr (gk : Nat) (W W' : World) : Prop where
  os : W'.os = W.os
  tape : W'.tape = W.tape
  output : W'.output = W.output
  size : W.heap.size ≤ W'.heap.size
  block : ∀ i, i < W.heap.size → (i < gk ∨ ∀ t cs, Blk W i t cs → t ≠ 43 ∧ t ≠ 54) → W'.heap[i]? = W.heap[i]?
section
variable {gk g : Nat} {W W' W2 : World} {t : TypeId} {cs : Array Value}
theorem Fr.below (h : Below W.heap.size W W') : Fr gk W W' := ⟨h.os, h.tape, h.output, h.size, fun i hi _ => h.block i hi⟩
theorem Fr.trans (h : Fr gk W W') (k : Fr gk W' W2) : Fr gk W W2 :=
  ⟨k.os.trans h.os, k.tape.trans h.tape, k.output.trans h.output, Nat.le_trans h.size k.size, fun i hi hd => by
    have h1 := h.block i hi hd
    refine (k.block i (Nat.lt_of_lt_of_le hi h.size) ?_).trans h1
    rcases hd with hd | hd
    · exact .inl hd
    · exact .inr fun t cs hb => hd t cs (h1.symm.trans hb)⟩
theorem Fr.blk (hg : W.grownBy W' (some g)) (hb : Blk W g t cs) (hk : gk ≤ g) (ht : t = 43 ∨ t = 54) : Fr gk W W' :=
  ⟨hg.os, hg.tape, hg.output, hg.size, fun i hi hd => hg.block i hi (by
    intro e
    injection e with e
    subst e
    rcases hd with hd | hd
    · omega
    · have := hd t cs hb
      rcases ht with ht | ht
      · exact this.1 ht
      · exact this.2 ht)⟩
theorem Fr.own {α : Type} {enc : α → Array Value} {size : Nat} {v : Value} {ys : List α} (ho : Own W gk 54 size enc v ys) (hg : W.grownBy W' v.ownBlock) : Fr gk W W' :=
  ⟨hg.os, hg.tape, hg.output, hg.size, fun i hi hd => hg.block i hi (by
    intro e
    rcases ho.2 with ⟨hv, _⟩ | ⟨g', cap, cur, hv, hge, hh, _⟩
    · rw [hv] at e; cases e
    · rw [hv] at e
      have a1 : g' = i := by simpa [Value.ownBlock] using e.symm
      subst a1
      rcases hd with hd | hd
      · omega
      · exact (hd _ _ hh).2 rfl)⟩
theorem blk_fr (h : Blk W g t cs) (hf : Fr gk W W') (ht : g < gk ∨ (t ≠ 43 ∧ t ≠ 54)) : Blk W' g t cs :=
  (hf.block g h.lt (by
    rcases ht with ht | ht
    · exact .inl ht
    · refine .inr fun t2 cs2 hb => ?_
      have h2 : some (Obj.cells cs t) = some (Obj.cells cs2 t2) := h.symm.trans hb
      injection h2 with h2
      injection h2 with _ h3
      rw [← h3]
      exact ht)).trans h
theorem Own.fr {α : Type} {enc : α → Array Value} {size base : Nat} {e : TypeId} {v : Value} {ys : List α} (h : Own W base e size enc v ys) (hf : Fr gk W W') (he : e ≠ 43 ∧ e ≠ 54) : Own W' base e size enc v ys := by
  obtain ⟨h1, h2⟩ := h
  refine ⟨h1, ?_⟩
  rcases h2 with h2 | ⟨g', cap, cur, hv, hge, hh, r⟩
  · exact .inl h2
  · exact .inr ⟨g', cap, cur, hv, hge, blk_fr (t := e) (cs := cur) hh hf (.inr he), r⟩
theorem TabOk.fr (h : TabOk W) (hf : Fr gk W W') (hk : 0 < gk) : TabOk W' := fun i hi => (World.cell?_of_block (hf.block 0 h.size (.inl hk))).trans (h i hi)
theorem Below.fr {b0 : Nat} {w : World} (h : Below b0 w W) (hf : Fr gk W W') (hb : b0 ≤ gk) (h0 : b0 ≤ W.heap.size) : Below b0 w W' :=
  ⟨hf.os.trans h.os, hf.tape.trans h.tape, hf.output.trans h.output, Nat.le_trans h.size hf.size, fun i hi => (hf.block i (by omega) (.inl (by omega))).trans (h.block i hi)⟩
theorem WalkOk.fr {lo nb gw gm N : Nat} {E : List Edg} {R : List Nat} {k : Wk} (h : WalkOk lo nb W gw gm N E R k) (hf : Fr gk W W') (hn : nb ≤ gk) : WalkOk lo nb W' gw gm N E R k := by
  obtain ⟨h1, h2, h3, h4, g, c, h5, h6, h7⟩ := h
  exact ⟨h1.keep (fun i _ hi => hf.block i (by have := h1.ok.2.2.2.2.2.1; omega) (.inl (by omega))) hf.size, h2, h3, h4, g, c, h5, blk_fr h6 hf (.inr ⟨by decide, by decide⟩), h7.fr hf ⟨by decide, by decide⟩⟩
theorem RMach.fr {B0 N n m : Nat} {E : List Edg} {R : List Nat} {A B : Option Addr} (h : RMach B0 W N E R A n B m) (hf : Fr gk W W') (hb : B0 ≤ gk) : RMach B0 W' N E R A n B m := by
  have hl := h.low
  exact ⟨h.fits, h.nE, h.mR, h.lE, h.lN, h.lt, h.edges.keep (fun k hk => hf.block k (by omega) (.inl (by omega))), h.rules.keep (fun k hk => hf.block k (by omega) (.inl (by omega))), Nat.le_trans hl hf.size⟩
theorem RWalk.fr {B0 gr N n c0 m d0 : Nat} {E : List Edg} {R : List Nat} {A B : Option Addr} {k : Wk} (h : RWalk B0 W gr N E R A n c0 B m d0 k) (hf : Fr gk W W') (hb : B0 ≤ gk) : RWalk B0 W' gr N E R A n c0 B m d0 k := by
  obtain ⟨h1, h2, h3, h4, g, c, h5, h6, h7⟩ := h
  exact ⟨h1.fr hf hb, h2, h3, h4, g, c, h5, blk_fr h6 hf (.inr ⟨by decide, by decide⟩), h7.fr hf ⟨by decide, by decide⟩⟩
end

/-! ### a book -/
structure Sl where
  A : Option Addr
  n : Nat
  c : Nat
def Sl.v (s : Sl) : Value := .slice s.A s.n s.c
def encS (s : Sl) : Array Value := #[s.v]
theorem encS_size (s : Sl) : (encS s).size = 1 := rfl
theorem encS_one (s : Sl) : (encS s).all (·.oneCell') = true := by simp [encS, Sl.v, Value.oneCell']
structure Rowx where
  raw : Sl
  was : Sl
  L : List Nat
def RowsOk (W : World) (gk : Nat) (rows : List Rowx) : Prop :=
  (∀ r ∈ rows, Own W gk 3 1 encN r.raw.v r.L ∧ Own W gk 3 1 encN r.was.v r.L ∧ r.L.length ≤ 1099511627776) ∧ rows.Pairwise (fun p q => ∀ i j, p.raw.v.ownBlock = some i → q.raw.v.ownBlock = some j → i < j)
def BookOk (W : World) (gk : Nat) (rows : List Rowx) : Prop :=
  ∃ A n c A' n' c', Blk W gk 43 #[.slice A n c, .slice A' n' c'] ∧ Own W gk 54 1 encS (.slice A n c) (rows.map Rowx.raw) ∧ Own W gk 54 1 encS (.slice A' n' c') (rows.map Rowx.was) ∧
    (∀ j, (Value.slice A n c).ownBlock = some j → (Value.slice A' n' c').ownBlock = some j → False) ∧ RowsOk W gk rows
section
variable {gk g : Nat} {W W' : World} {t : TypeId} {cs : Array Value} {rows : List Rowx}
theorem RowsOk.then_ (h : RowsOk W gk rows) (hb : Below W.heap.size W W') : RowsOk W' gk rows := ⟨fun r hr => ⟨(h.1 r hr).1.then_ hb, (h.1 r hr).2.1.then_ hb, (h.1 r hr).2.2⟩, h.2⟩
theorem RowsOk.other (h : RowsOk W gk rows) (hg : W.grownBy W' (some g)) (hb : Blk W g t cs) (ht : t ≠ 3) : RowsOk W' gk rows :=
  ⟨fun r hr => ⟨own_box (h.1 r hr).1 hb hg (fun e => ht e.symm), own_box (h.1 r hr).2.1 hb hg (fun e => ht e.symm), (h.1 r hr).2.2⟩, h.2⟩
theorem RowsOk.row {α : Type} {enc : α → Array Value} {size base : Nat} {v : Value} {ys : List α} {e : TypeId} (h : RowsOk W gk rows) (ho : Own W base e size enc v ys) (hg : W.grownBy W' v.ownBlock) (he : e ≠ 3) : RowsOk W' gk rows :=
  ⟨fun r hr => ⟨own_own (h.1 r hr).1 ho hg he, own_own (h.1 r hr).2.1 ho hg he, (h.1 r hr).2.2⟩, h.2⟩
theorem BookOk.then_ (h : BookOk W gk rows) (hb : Below W.heap.size W W') : BookOk W' gk rows := by
  obtain ⟨A, n, c, A', n', c', h1, h2, h3, h4, h5⟩ := h
  exact ⟨A, n, c, A', n', c', blk_then h1 hb, h2.then_ hb, h3.then_ hb, h4, h5.then_ hb⟩
theorem BookOk.other (h : BookOk W gk rows) (hg : W.grownBy W' (some g)) (hb : Blk W g t cs) (hne : g ≠ gk) (ht : t ≠ 3 ∧ t ≠ 54) : BookOk W' gk rows := by
  obtain ⟨A, n, c, A', n', c', h1, h2, h3, h4, h5⟩ := h
  exact ⟨A, n, c, A', n', c', blk_grown h1 hg (fun e => hne e.symm), own_box h2 hb hg (fun e => ht.2 e.symm), own_box h3 hb hg (fun e => ht.2 e.symm), h4, h5.other hg hb ht.1⟩
theorem BookOk.lt (h : BookOk W gk rows) : gk < W.heap.size := by
  obtain ⟨A, n, c, A', n', c', h1, _⟩ := h
  exact h1.lt
end
theorem enter_srules (args : Array Value) (w : World) : (callFunc 20 args).run Tryd.prog w = .ok (.enter 20 args) w := by kernel_rfl
theorem enter_send (args : Array Value) (w : World) : (callFunc 21 args).run Tryd.prog w = .ok (.enter 21 args) w := by kernel_rfl
theorem enter_rend (args : Array Value) (w : World) : (callFunc 23 args).run Tryd.prog w = .ok (.enter 23 args) w := by kernel_rfl
theorem enter_sameInts (args : Array Value) (w : World) : (callFunc 30 args).run Tryd.prog w = .ok (.enter 30 args) w := by kernel_rfl
theorem info_sl3 : (Tryd.prog.info? 54).map (fun i => (i.zero, i.size, i.bytes)) = some (some (.slice none 0 0), 1, 24) := by kernel_rfl
theorem info_rows1 : (Tryd.prog.info? 41).map (·.size) = some 1 := by kernel_rfl
theorem run_bs2 (w : World) (A A' : Option Addr) (n c n' c' : Nat) : (Instr.buildSlice 41 2 #[(0, .slice A n c), (1, .slice A' n' c')]).run Tryd.prog w = .ok (.slice (some ⟨w.heap.size, 0, none⟩) 2 2) (w.alloc (.cells #[.slice A n c, .slice A' n' c'] 54)) := by kernel_rfl
theorem wl_bs2 {ops : Array Oper} {rest : List Oper} {o : Oper} {a : Act} {w : World} {Q : Exit → Act → World → Prop} (hgd : o.guard = none) (x y : Operand) (ho : o.op = .buildSlice 41 2 #[(0, x), (1, y)]) (A A' : Option Addr) (n c n' c' : Nat) (hx : a.eval x = .slice A n c) (hy : a.eval y = .slice A' n' c')
    (h : wpList Tryd.prog ops Q rest (a.put o.dst (.slice (some ⟨w.heap.size, 0, none⟩) 2 2)) (w.alloc (.cells #[.slice A n c, .slice A' n' c'] 54))) : wpList Tryd.prog ops Q (o :: rest) a w := by
  refine wpList_plain hgd fun _ hK => ?_
  unfold Oper.wp execOp
  simp only [ho, List.map_toArray, List.map_cons, List.map_nil, hx, hy, Sem.run_bind, run_bs2, Result.andThen_ok, Sem.run_pure]
  exact hK _ _ h
theorem slice_twoS {w : World} {t : TypeId} {g : Nat} {p q : Sl} (h : Blk w g t #[p.v, q.v]) : SliceOf w w.heap.size 1 encS (some ⟨g, 0, none⟩) [p, q] := by
  refine .inr ⟨g, 0, rfl, h.lt, fun i hi => ?_⟩
  have hi2 : i < 2 := by simpa using hi
  intro j v hv
  have hj : j = 0 := by
    rcases Nat.lt_or_ge j 1 with h1 | h1
    · omega
    · rw [Array.getElem?_eq_none (by rw [encS_size]; exact h1)] at hv; cases hv
  subst hj
  rcases Nat.lt_or_ge i 1 with h1 | h1
  · have e : i = 0 := by omega
    subst e
    exact (h.cell 0).trans hv
  · have e : i = 1 := by omega
    subst e
    exact (h.cell 1).trans hv
set_option maxRecDepth 100000 in
set_option maxHeartbeats 4000000 in
theorem at_book (lo nb gw gm B0 gr N n c0 m d0 gk : Nat) (E : List Edg) (R : List Nat) (A B : Option Addr) (k : Wk) (rows : List Rowx) (hN : N ≤ 1099511627776) (hrl : rows.length ≤ 1000000) (w : World) (hW : WalkOk lo nb w gw gm N E R k) (hRW : RWalk B0 w gr N E R A n c0 B m d0 k) (hT : TabOk w) (hK : BookOk w gk rows) (hnb : nb ≤ gk) (hB0 : B0 ≤ gk) (hk0 : 0 < gk) :
    Calls Tryd.prog 13 #[.pointer (some ⟨gk, 0, none⟩), .pointer (some ⟨gw, 0, none⟩), .pointer (some ⟨gr, 0, none⟩)] w fun e w' => e = .returned (.bool true) ∧ (∃ r1 r2, BookOk w' gk (rows ++ [r1, r2])) ∧ Fr gk w w' := by
  have hst := fun W h1 h2 => states_any lo nb gw gm N E R k W h1 h2
  have hrs := fun W h1 => rstates_any B0 gr N n c0 m d0 E R A B k W h1
  have hru := fun {W : World} h1 => rules_any lo nb gw gm N E R k W h1
  have hen := fun {W : World} h1 h2 => end_any lo nb gw gm N E R k W h1 h2
  have hre := fun {W : World} h1 => rend_any B0 gr N n c0 m d0 E R A B k W h1
  have hlb := bitsTo_length k.at_ N
  obtain ⟨L, hL⟩ : ∃ L, bitsTo k.at_ N = L := ⟨_, rfl⟩
  obtain ⟨mt, hmt⟩ : ∃ q, k.met = q := ⟨_, rfl⟩
  obtain ⟨ee, hee⟩ : ∃ q, endW E N R k = q := ⟨_, rfl⟩
  rw [hL] at hlb
  simp only [hL] at hst hrs
  simp only [hmt] at hru
  simp only [hee] at hen hre
  have hL40 : L.length ≤ 1099511627776 := by omega
  clear hlb hee
  have hkl0 := hK.lt
  have hW0 := hW
  have hRW0 := hRW
  have hT0 := hT
  go_enter Tryd.func13, Tryd.ntmps13
  go_upto_region 2 with (go_at_call 29; refine (hrs _ hRW).mono ?_; rintro e w1 ⟨vw, rfl, hOw, hB1⟩)
  replace hW := hW.then_ hB1
  replace hRW := hRW.then_ hB1
  replace hT := hT.then_ hT.size hB1
  replace hK := hK.then_ hB1
  have hF : Fr gk w w1 := Fr.below hB1
  have hrlt : ∀ r ∈ rows, ∀ i, r.raw.v.ownBlock = some i → i < w1.heap.size := fun r hr i h1 => by
    obtain ⟨_, _, _, _, _, _, _, _, _, _, h5⟩ := id hK
    exact ((h5.1 r hr).1.lt i h1).2
  have hz1 := hB1.size
  have hkl := hK.lt
  clear hB1 hrs
  go_upto_region 3 with (go_at_call 19; refine (hst _ hW hT).mono ?_; rintro e w2 ⟨va, rfl, hOa, hB2⟩)
  replace hW := hW.then_ hB2
  replace hRW := hRW.then_ hB2
  replace hT := hT.then_ hT.size hB2
  replace hK := hK.then_ hB2
  replace hOw := hOw.then_ hB2
  replace hF := hF.trans (Fr.below hB2)
  have hz2 := hB2.size
  clear hB2
  go_upto_region 4 with (go_at_call 19; refine (hst _ hW hT).mono ?_; rintro e w3 ⟨vb, rfl, hOb, hB3⟩)
  replace hW := hW.then_ hB3
  replace hRW := hRW.then_ hB3
  replace hT := hT.then_ hT.size hB3
  replace hK := hK.then_ hB3
  replace hOw := hOw.then_ hB3
  have halt := hOa.lt
  replace hOa := hOa.then_ hB3
  replace hF := hF.trans (Fr.below hB3)
  have hz3 := hB3.size
  clear hB3 hst
  obtain ⟨Aw, cw, rfl, _, _⟩ := hOw.shape
  obtain ⟨Aa, ca, rfl, _, _⟩ := hOa.shape
  obtain ⟨Ab, cb, rfl, _, _⟩ := hOb.shape
  obtain ⟨La, hLa⟩ : ∃ q, q = L.length := ⟨_, rfl⟩
  rw [← hLa] at hOw hOa hOb halt ⊢
  have HLa := Lib.hid hLa
  clear hLa
  have hdab : ∀ i j, (Value.slice Aa La ca).ownBlock = some i → (Value.slice Ab La cb).ownBlock = some j → i < j := fun i j h1 h2 => by
    have := (hOb.lt j h2).1
    have h3 := halt i h1
    omega
  have hda : ∀ r ∈ rows, ∀ i j, r.raw.v.ownBlock = some i → (Value.slice Aa La ca).ownBlock = some j → i < j := fun r hr i j h1 h2 => by
    have := hrlt r hr i h1
    have h3 := halt j h2
    omega
  have hdb : ∀ r ∈ rows, ∀ i j, r.raw.v.ownBlock = some i → (Value.slice Ab La cb).ownBlock = some j → i < j := fun r hr i j h1 h2 => by
    have := hrlt r hr i h1
    have h3 := (hOb.lt j h2).1
    omega
  clear halt hrlt
  obtain ⟨Ak, nk, ck, Ak', nk', ck', hbk, hraw, hwas, hdis, hrows⟩ := hK
  have hrawl : nk = rows.length := by
    have := hraw.shape
    obtain ⟨A9, c9, e9, _, _⟩ := this
    injection e9 with _ e9
    rw [e9, List.length_map]
  have hwasl : nk' = rows.length := by
    have := hwas.shape
    obtain ⟨A9, c9, e9, _, _⟩ := this
    injection e9 with _ e9
    rw [e9, List.length_map]
  have Hrawl := Lib.hid hrawl
  have Hwasl := Lib.hid hwasl
  have hnk : nk ≤ 1000000 := by omega
  have hnk' : nk' ≤ 1000000 := by omega
  clear hrawl hwasl hrl
  obtain ⟨is, his, hys0, hys1, hys2⟩ := info_parts info_sl3
  have cR : w3.cell? ⟨gk, 0, none⟩ = some (.slice Ak nk ck) := hbk.cellv (i := 0) rfl
  go_upto_region 5 with (first
    | (refine wl_bs2 rfl _ _ rfl _ _ _ _ _ _ rfl rfl ?_)
    | (at_builtin; refine park ?_))
  refine Parked.mk ?_
  clear cR
  have hB4 : Below w3.heap.size w3 (w3.alloc (.cells #[.slice Aa La ca, .slice Ab La cb] 54)) := below_alloc (Below.refl _ _) _
  have hraw4 := hraw.then_ hB4
  have hwas4 := hwas.then_ hB4
  have hz4 := hB4.size
  have hgk3 := hbk.lt
  refine wl_append _ rfl _ _ 41 rfl gk 54 is _ 1 24 Tryd.underlying41 his hys0 hys1 hys2 rfl (by decide) encS_size encS_one (.slice Ak nk ck) (rows.map Rowx.raw) rfl hraw4 _ _ 2 2 [⟨Aa, La, ca⟩, ⟨Ab, La, cb⟩] rfl rfl (slice_twoS (p := ⟨Aa, La, ca⟩) (q := ⟨Ab, La, cb⟩) (Blk.new w3 _ _)) (by rw [List.length_map, ← Hrawl.out]; unfold maxLen; omega) (by rw [List.length_map, ← Hrawl.out]; omega) (by omega) ?_
  intro v5 w5 hraw5 hg5 hat5
  have hF5 : Fr gk w w5 := (hF.trans (Fr.below hB4)).trans (Fr.own hraw4 hg5)
  have hwas5 : Own w5 gk 54 1 encS (.slice Ak' nk' ck') (rows.map Rowx.was) := hwas4.kept_ hg5 (fun j e1 e2 => hdis j e2 e1)
  have hdis5 : ∀ j, v5.ownBlock = some j → (Value.slice Ak' nk' ck').ownBlock = some j → False := fun j e1 e2 => by
    rcases hat5 with h | h
    · exact hdis j (h.symm.trans e1) e2
    · have h1 := (hwas4.lt j e2).2
      rw [h] at e1
      injection e1 with e1
      have := (hwas.lt j e2).2
      simp at e1
      omega
  have hbk5 : Blk w5 gk 43 #[.slice Ak nk ck, .slice Ak' nk' ck'] := by
    refine (blk_then hbk hB4).grown hg5 (fun e => own_blk_ne hraw4 (blk_then hbk hB4) (by decide) e.symm)
  have hrows5 := (hrows.then_ hB4).row hraw4 hg5 (by decide)
  have hOw5 := own_own (hOw.then_ hB4) hraw4 hg5 (by decide)
  have hOa5 := own_own (hOa.then_ hB4) hraw4 hg5 (by decide)
  have hOb5 := own_own (hOb.then_ hB4) hraw4 hg5 (by decide)
  have hz5 := hg5.size
  clear hraw4 hwas4 hB4 hg5 hat5 hdis hwas hraw hbk hrows hOw hOa hOb
  obtain ⟨A5, c5, rfl, _, _⟩ := hraw5.shape
  obtain ⟨n5, hn5⟩ : ∃ q, q = (rows.map Rowx.raw ++ [(⟨Aa, La, ca⟩ : Sl), (⟨Ab, La, cb⟩ : Sl)]).length := ⟨_, rfl⟩
  rw [← hn5] at hraw5 hdis5 ⊢
  clear hn5
  simp only [Act.put, List.setIfInBounds_toArray, List.set_cons_zero, List.set_cons_succ]
  go_upto_region 5 with (refine wl_store_cell rfl _ _ _ rfl _ _ rfl _ _ #[.slice A5 n5 c5, .slice Ak' nk' ck'] hbk5 (by simp) info_rows1 rfl rfl rfl ?_; intro w6 hbk6 hg6)
  have hF6 : Fr gk w w6 := hF5.trans (Fr.blk hg6 hbk5 (Nat.le_refl _) (.inl rfl))
  have hraw6 := own_box hraw5 hbk5 hg6 (by decide)
  have hwas6 := own_box hwas5 hbk5 hg6 (by decide)
  have hrows6 := hrows5.other hg6 hbk5 (by decide)
  have hOw6 := own_box hOw5 hbk5 hg6 (by decide)
  have hOa6 := own_box hOa5 hbk5 hg6 (by decide)
  have hOb6 := own_box hOb5 hbk5 hg6 (by decide)
  have hz6 := hg6.size
  clear hraw5 hwas5 hrows5 hOw5 hOa5 hOb5 hbk5 hg6 hF5
  have cR : w6.cell? ⟨gk, 1, none⟩ = some (.slice Ak' nk' ck') := hbk6.cellv (i := 1) rfl
  go_upto_region 6 with (first
    | (refine wl_bs2 rfl _ _ rfl _ _ _ _ _ _ rfl rfl ?_)
    | (at_builtin; refine park ?_))
  refine Parked.mk ?_
  clear cR
  have hgk6 := hbk6.lt
  have hB7 : Below w6.heap.size w6 (w6.alloc (.cells #[.slice Aw La cw, .slice Aw La cw] 54)) := below_alloc (Below.refl _ _) _
  have hraw7 := hraw6.then_ hB7
  have hwas7 := hwas6.then_ hB7
  have hz7 := hB7.size
  refine wl_append _ rfl _ _ 41 rfl gk 54 is _ 1 24 Tryd.underlying41 his hys0 hys1 hys2 rfl (by decide) encS_size encS_one (.slice Ak' nk' ck') (rows.map Rowx.was) rfl hwas7 _ _ 2 2 [⟨Aw, La, cw⟩, ⟨Aw, La, cw⟩] rfl rfl (slice_twoS (p := ⟨Aw, La, cw⟩) (q := ⟨Aw, La, cw⟩) (Blk.new w6 _ _)) (by rw [List.length_map, ← Hwasl.out]; unfold maxLen; omega) (by rw [List.length_map, ← Hwasl.out]; omega) (by omega) ?_
  intro v8 w8 hwas8 hg8 hat8
  have hF8 : Fr gk w w8 := (hF6.trans (Fr.below hB7)).trans (Fr.own hwas7 hg8)
  have hraw8 : Own w8 gk 54 1 encS (.slice A5 n5 c5) (rows.map Rowx.raw ++ [⟨Aa, La, ca⟩, ⟨Ab, La, cb⟩]) := hraw7.kept_ hg8 (fun j e1 e2 => hdis5 j e1 e2)
  have hdis8 : ∀ j, (Value.slice A5 n5 c5).ownBlock = some j → v8.ownBlock = some j → False := fun j e1 e2 => by
    rcases hat8 with h | h
    · exact hdis5 j e1 (h.symm.trans e2)
    · rw [h] at e2
      injection e2 with e2
      have := (hraw6.lt j e1).2
      simp at e2
      omega
  have hbk8 : Blk w8 gk 43 #[.slice A5 n5 c5, .slice Ak' nk' ck'] := by
    refine (blk_then hbk6 hB7).grown hg8 (fun e => own_blk_ne hwas7 (blk_then hbk6 hB7) (by decide) e.symm)
  have hrows8 := (hrows6.then_ hB7).row hwas7 hg8 (by decide)
  have hOw8 := own_own (hOw6.then_ hB7) hwas7 hg8 (by decide)
  have hOa8 := own_own (hOa6.then_ hB7) hwas7 hg8 (by decide)
  have hOb8 := own_own (hOb6.then_ hB7) hwas7 hg8 (by decide)
  have hz8 := hg8.size
  clear hraw7 hwas7 hB7 hg8 hat8 hdis5 hwas6 hraw6 hbk6 hrows6 hOw6 hOa6 hOb6 hF6
  obtain ⟨A8, c8, rfl, _, _⟩ := hwas8.shape
  obtain ⟨n8, hn8⟩ : ∃ q, q = (rows.map Rowx.was ++ [(⟨Aw, La, cw⟩ : Sl), (⟨Aw, La, cw⟩ : Sl)]).length := ⟨_, rfl⟩
  rw [← hn8] at hwas8 hdis8 ⊢
  clear hn8
  simp only [Act.put, List.setIfInBounds_toArray, List.set_cons_zero, List.set_cons_succ]
  go_upto_region 6 with (refine wl_store_cell rfl _ _ _ rfl _ _ rfl _ _ #[.slice A5 n5 c5, .slice A8 n8 c8] hbk8 (by simp) info_rows1 rfl rfl rfl ?_; intro w9 hbk hg9)
  replace hF := hF8.trans (Fr.blk hg9 hbk8 (Nat.le_refl _) (.inl rfl))
  have hraw := own_box hraw8 hbk8 hg9 (by decide)
  have hwas := own_box hwas8 hbk8 hg9 (by decide)
  have hrows := hrows8.other hg9 hbk8 (by decide)
  have hOw := (own_box hOw8 hbk8 hg9 (by decide)).mono (show gk ≤ w.heap.size by omega)
  have hOa := (own_box hOa8 hbk8 hg9 (by decide)).mono (show gk ≤ w1.heap.size by omega)
  have hOb := (own_box hOb8 hbk8 hg9 (by decide)).mono (show gk ≤ w2.heap.size by omega)
  have hz9 := hg9.size
  clear hraw8 hwas8 hrows8 hOw8 hOa8 hOb8 hbk8 hg9 hF8
  replace hW : WalkOk lo nb w9 gw gm N E R k := hW0.fr hF hnb
  replace hRW : RWalk B0 w9 gr N E R A n c0 B m d0 k := hRW0.fr hF hB0
  replace hT : TabOk w9 := hT0.fr hF hk0
  have hcm : ∀ {X : World}, Below w9.heap.size w9 X → X.cell? ⟨gr, 4, none⟩ = some (.int .u32 (mt : Nat)) := fun hb => by
    obtain ⟨_, _, _, _, g, c, _, h6, _⟩ := hRW.then_ hb
    rw [← hmt]
    exact h6.cellv (i := 4) rfl
  refine wp_region_steps 33 [eqS (.pointer (some ⟨gw, 0, none⟩)), eqS (.int .u32 ((mt : Nat))), eqS (.pointer (some ⟨gr, 0, none⟩)), eqS (.pointer (some ⟨gr, 0, none⟩)), eqS (.pointer (some ⟨gr, 4, none⟩)), eqS (.int .u32 ((mt : Nat))), eqS (.bool true), eqS (.bool true), eqS (vF (true && (true == true)) (.pointer (some ⟨gw, 0, none⟩))), eqS (vF (true && (true == true)) (.int .u32 ((ee : Nat)))), eqS (vF (true && (true == true)) (.pointer (some ⟨gr, 0, none⟩))), eqS (vF (true && (true == true)) (.int .u32 ((ee : Nat)))), eqS (vF (true && (true == true)) (.bool true)), eqS (.bool (true && true)), eqS (.bool (true && true)), eqS (vF (true && ((true && true) == true)) (.slice Aa La ca)), eqS (vF (true && ((true && true) == true)) (.slice Aw La cw)), eqS (vF (true && ((true && true) == true)) (.bool true)), eqS (.bool ((true && true) && true)), eqS (.bool ((true && true) && true)), eqS (vF (true && (((true && true) && true) == true)) (.slice Ab La cb)), eqS (vF (true && (((true && true) && true) == true)) (.slice Aw La cw)), eqS (vF (true && (((true && true) && true) == true)) (.bool true)), eqS (.bool (((true && true) && true) && true)), eqS (.bool (((true && true) && true) && true)), eqS (vF (true && ((((true && true) && true) && true) == true)) (.pointer (some ⟨gw, 0, none⟩))), eqS (vF (true && ((((true && true) && true) && true) == true)) (.int .u32 ((mt : Nat)))), eqS (vF (true && ((((true && true) && true) && true) == true)) (.pointer (some ⟨gr, 0, none⟩))), eqS (vF (true && ((((true && true) && true) && true) == true)) (.pointer (some ⟨gr, 0, none⟩))), eqS (vF (true && ((((true && true) && true) && true) == true)) (.pointer (some ⟨gr, 4, none⟩))), eqS (vF (true && ((((true && true) && true) && true) == true)) (.int .u32 ((mt : Nat)))), eqS (vF (true && ((((true && true) && true) && true) == true)) (.bool true)), eqS (.bool ((((true && true) && true) && true) && true))] [38, 39, 40, 41, 42, 43, 44, 45, 46, 47, 48, 49, 50, 51, 52, 53, 54, 55, 56, 57, 58, 59, 60, 61, 62, 63, 64, 65, 66, 67, 68, 69, 70] rfl (by kernel_rfl) rfl ?_ ?_
  · skip
    refine Steps.cons (fun a' w' hG hB dep => gs_move (want_none rfl) _ rfl (id (hG.other 1 rfl))) ?_
    refine Steps.cons (fun a' w' hG hB dep => gs_call (want_none rfl) _ _ _ rfl enter_srules _ (map1 (dep 0 rfl 38 rfl)) ((hru (hW.then_ hB)).mono fun e2 w2 ⟨hq1, hq2⟩ => ⟨_, hq1, by rw [hq2]; exact Below.refl _ _, rfl⟩)) ?_
    refine Steps.cons (fun a' w' hG hB dep => gs_move (want_none rfl) _ rfl (id (hG.other 2 rfl))) ?_
    refine Steps.cons (fun a' w' hG hB dep => gs_nil (want_none rfl) _ rfl _ (dep 2 rfl 40 rfl) rfl) ?_
    refine Steps.cons (fun a' w' hG hB dep => gs_field (want_none rfl) _ _ _ rfl gr (0) (4) (dep 3 rfl 41 rfl) (fun wz => field_rwalk_2 gr (0) wz) rfl) ?_
    refine Steps.cons (fun a' w' hG hB dep => gs_load1 (want_none rfl) _ _ rfl gr (4) (dep 4 rfl 42 rfl) (.int .u32 ((mt : Nat))) (hcm hB) _ Tryd.underlying28 rfl rfl) ?_
    refine Steps.cons (fun a' w' hG hB dep => gs_eql_int (want_none rfl) _ _ _ _ rfl _ _ _ (dep 1 rfl 39 rfl) (dep 5 rfl 43 rfl) (id (congrArg Value.bool (beq_self_eq_true _)))) ?_
    refine Steps.cons (fun a' w' hG hB dep => gs_move (want_none rfl) _ rfl (id (dep 6 rfl 44 rfl))) ?_
    refine Steps.cons (fun a' w' hG hB dep => gs_guard (c := true) (b' := true) rfl rfl (dep 7 rfl 45 rfl) (fun hc he hw => gs_move hw _ rfl (Eq.trans (hG.other 1 rfl) (vF_yes (on_g hc he) _).symm)) (fun hn => vF_no hn _)) ?_
    refine Steps.cons (fun a' w' hG hB dep => gs_guard (c := true) (b' := true) rfl rfl (dep 7 rfl 45 rfl) (fun hc he hw => gs_call hw _ _ _ rfl enter_send _ (map1 (Eq.trans (dep 8 rfl 46 rfl) (vF_yes (on_g hc he) _))) ((hen (hW.then_ hB) (hT.then_ hT.size hB)).mono fun e2 w2 ⟨hq1, hq2⟩ => ⟨_, hq1, hq2, (vF_yes (on_g hc he) _).symm⟩)) (fun hn => vF_no hn _)) ?_
    refine Steps.cons (fun a' w' hG hB dep => gs_guard (c := true) (b' := true) rfl rfl (dep 7 rfl 45 rfl) (fun hc he hw => gs_move hw _ rfl (Eq.trans (hG.other 2 rfl) (vF_yes (on_g hc he) _).symm)) (fun hn => vF_no hn _)) ?_
    refine Steps.cons (fun a' w' hG hB dep => gs_guard (c := true) (b' := true) rfl rfl (dep 7 rfl 45 rfl) (fun hc he hw => gs_call hw _ _ _ rfl enter_rend _ (map1 (Eq.trans (dep 10 rfl 48 rfl) (vF_yes (on_g hc he) _))) ((hre (hRW.then_ hB)).mono fun e2 w2 ⟨hq1, hq2⟩ => ⟨_, hq1, hq2, (vF_yes (on_g hc he) _).symm⟩)) (fun hn => vF_no hn _)) ?_
    refine Steps.cons (fun a' w' hG hB dep => gs_guard (c := true) (b' := true) rfl rfl (dep 7 rfl 45 rfl) (fun hc he hw => gs_eql_int hw _ _ _ _ rfl _ _ _ (Eq.trans (dep 9 rfl 47 rfl) (vF_yes (on_g hc he) _)) (Eq.trans (dep 11 rfl 49 rfl) (vF_yes (on_g hc he) _)) (Eq.trans (congrArg Value.bool (beq_self_eq_true _)) (vF_yes (on_g hc he) _).symm)) (fun hn => vF_no hn _)) ?_
    refine Steps.cons (fun a' w' hG hB dep => gs_pick (want_none rfl) _ _ _ rfl true (dep 7 rfl 45 rfl) (id (pick_and2 (c := true) rfl (dep 12 rfl 50 rfl)))) ?_
    refine Steps.cons (fun a' w' hG hB dep => gs_move (want_none rfl) _ rfl (id (dep 13 rfl 51 rfl))) ?_
    refine Steps.cons (fun a' w' hG hB dep => gs_guard (c := true) (b' := (true && true)) rfl rfl (dep 14 rfl 52 rfl) (fun hc he hw => gs_move hw _ rfl (Eq.trans (hG.other 8 rfl) (vF_yes (on_g hc he) _).symm)) (fun hn => vF_no hn _)) ?_
    refine Steps.cons (fun a' w' hG hB dep => gs_guard (c := true) (b' := (true && true)) rfl rfl (dep 14 rfl 52 rfl) (fun hc he hw => gs_move hw _ rfl (Eq.trans (hG.other 7 rfl) (vF_yes (on_g hc he) _).symm)) (fun hn => vF_no hn _)) ?_
    refine Steps.cons (fun a' w' hG hB dep => gs_guard (c := true) (b' := (true && true)) rfl rfl (dep 14 rfl 52 rfl) (fun hc he hw => gs_call hw _ _ _ rfl enter_sameInts _ (map2 (Eq.trans (dep 15 rfl 53 rfl) (vF_yes (on_g hc he) _)) (Eq.trans (dep 16 rfl 54 rfl) (vF_yes (on_g hc he) _))) ((sameInts_any L _ _ La _ _ HLa.out hL40 w' ((hOa.then_ hB).slice_all encN_size) ((hOw.then_ hB).slice_all encN_size)).mono fun e2 w2 ⟨hq1, hq2⟩ => ⟨_, hq1, hq2, (vF_yes (on_g hc he) _).symm⟩)) (fun hn => vF_no hn _)) ?_
    refine Steps.cons (fun a' w' hG hB dep => gs_pick (want_none rfl) _ _ _ rfl (true && true) (dep 14 rfl 52 rfl) (id (pick_and2 (c := true) rfl (dep 17 rfl 55 rfl)))) ?_
    refine Steps.cons (fun a' w' hG hB dep => gs_move (want_none rfl) _ rfl (id (dep 18 rfl 56 rfl))) ?_
    refine Steps.cons (fun a' w' hG hB dep => gs_guard (c := true) (b' := ((true && true) && true)) rfl rfl (dep 19 rfl 57 rfl) (fun hc he hw => gs_move hw _ rfl (Eq.trans (hG.other 9 rfl) (vF_yes (on_g hc he) _).symm)) (fun hn => vF_no hn _)) ?_
    refine Steps.cons (fun a' w' hG hB dep => gs_guard (c := true) (b' := ((true && true) && true)) rfl rfl (dep 19 rfl 57 rfl) (fun hc he hw => gs_move hw _ rfl (Eq.trans (hG.other 7 rfl) (vF_yes (on_g hc he) _).symm)) (fun hn => vF_no hn _)) ?_
    refine Steps.cons (fun a' w' hG hB dep => gs_guard (c := true) (b' := ((true && true) && true)) rfl rfl (dep 19 rfl 57 rfl) (fun hc he hw => gs_call hw _ _ _ rfl enter_sameInts _ (map2 (Eq.trans (dep 20 rfl 58 rfl) (vF_yes (on_g hc he) _)) (Eq.trans (dep 21 rfl 59 rfl) (vF_yes (on_g hc he) _))) ((sameInts_any L _ _ La _ _ HLa.out hL40 w' ((hOb.then_ hB).slice_all encN_size) ((hOw.then_ hB).slice_all encN_size)).mono fun e2 w2 ⟨hq1, hq2⟩ => ⟨_, hq1, hq2, (vF_yes (on_g hc he) _).symm⟩)) (fun hn => vF_no hn _)) ?_
    refine Steps.cons (fun a' w' hG hB dep => gs_pick (want_none rfl) _ _ _ rfl ((true && true) && true) (dep 19 rfl 57 rfl) (id (pick_and2 (c := true) rfl (dep 22 rfl 60 rfl)))) ?_
    refine Steps.cons (fun a' w' hG hB dep => gs_move (want_none rfl) _ rfl (id (dep 23 rfl 61 rfl))) ?_
    refine Steps.cons (fun a' w' hG hB dep => gs_guard (c := true) (b' := (((true && true) && true) && true)) rfl rfl (dep 24 rfl 62 rfl) (fun hc he hw => gs_move hw _ rfl (Eq.trans (hG.other 1 rfl) (vF_yes (on_g hc he) _).symm)) (fun hn => vF_no hn _)) ?_
    refine Steps.cons (fun a' w' hG hB dep => gs_guard (c := true) (b' := (((true && true) && true) && true)) rfl rfl (dep 24 rfl 62 rfl) (fun hc he hw => gs_call hw _ _ _ rfl enter_srules _ (map1 (Eq.trans (dep 25 rfl 63 rfl) (vF_yes (on_g hc he) _))) ((hru (hW.then_ hB)).mono fun e2 w2 ⟨hq1, hq2⟩ => ⟨_, hq1, by rw [hq2]; exact Below.refl _ _, (vF_yes (on_g hc he) _).symm⟩)) (fun hn => vF_no hn _)) ?_
    refine Steps.cons (fun a' w' hG hB dep => gs_guard (c := true) (b' := (((true && true) && true) && true)) rfl rfl (dep 24 rfl 62 rfl) (fun hc he hw => gs_move hw _ rfl (Eq.trans (hG.other 2 rfl) (vF_yes (on_g hc he) _).symm)) (fun hn => vF_no hn _)) ?_
    refine Steps.cons (fun a' w' hG hB dep => gs_guard (c := true) (b' := (((true && true) && true) && true)) rfl rfl (dep 24 rfl 62 rfl) (fun hc he hw => gs_nil hw _ rfl _ (Eq.trans (dep 27 rfl 65 rfl) (vF_yes (on_g hc he) _)) (vF_yes (on_g hc he) _).symm) (fun hn => vF_no hn _)) ?_
    refine Steps.cons (fun a' w' hG hB dep => gs_guard (c := true) (b' := (((true && true) && true) && true)) rfl rfl (dep 24 rfl 62 rfl) (fun hc he hw => gs_field hw _ _ _ rfl gr (0) (4) (Eq.trans (dep 28 rfl 66 rfl) (vF_yes (on_g hc he) _)) (fun wz => field_rwalk_2 gr (0) wz) (vF_yes (on_g hc he) _).symm) (fun hn => vF_no hn _)) ?_
    refine Steps.cons (fun a' w' hG hB dep => gs_guard (c := true) (b' := (((true && true) && true) && true)) rfl rfl (dep 24 rfl 62 rfl) (fun hc he hw => gs_load1 hw _ _ rfl gr (4) (Eq.trans (dep 29 rfl 67 rfl) (vF_yes (on_g hc he) _)) (.int .u32 ((mt : Nat))) (hcm hB) _ Tryd.underlying28 rfl (vF_yes (on_g hc he) _).symm) (fun hn => vF_no hn _)) ?_
    refine Steps.cons (fun a' w' hG hB dep => gs_guard (c := true) (b' := (((true && true) && true) && true)) rfl rfl (dep 24 rfl 62 rfl) (fun hc he hw => gs_eql_int hw _ _ _ _ rfl _ _ _ (Eq.trans (dep 26 rfl 64 rfl) (vF_yes (on_g hc he) _)) (Eq.trans (dep 30 rfl 68 rfl) (vF_yes (on_g hc he) _)) (Eq.trans (congrArg Value.bool (beq_self_eq_true _)) (vF_yes (on_g hc he) _).symm)) (fun hn => vF_no hn _)) ?_
    refine Steps.cons (fun a' w' hG hB dep => gs_pick (want_none rfl) _ _ _ rfl (((true && true) && true) && true) (dep 24 rfl 62 rfl) (id (pick_and2 (c := true) rfl (dep 31 rfl 69 rfl)))) ?_
    exact Steps.nil
  intro u wa hBa ans
  have u70 : u 70 = .bool true := ans 32 70 (by decide) rfl
  clear ans
  simp only [putAll, List.foldl_cons, List.foldl_nil, Act.put, List.setIfInBounds_toArray, List.set_cons_zero, List.set_cons_succ, u70]
  clear u70
  simp only [List.drop]
  have hbk' := blk_then hbk hBa
  have hraw' := hraw.then_ hBa
  have hwas' := hwas.then_ hBa
  have hrows' := hrows.then_ hBa
  have hOw' := hOw.then_ hBa
  have hOa' := hOa.then_ hBa
  have hOb' := hOb.then_ hBa
  have hF' := hF.trans (Fr.below hBa)
  clear hbk hraw hwas hrows hOw hOa hOb hF hBa hcm hW hRW hT hru hen hre
  go_wp2_with (fail)
  go_ret
  refine ⟨rfl, ⟨⟨⟨Aa, La, ca⟩, ⟨Aw, La, cw⟩, L⟩, ⟨⟨Ab, La, cb⟩, ⟨Aw, La, cw⟩, L⟩, A5, n5, c5, A8, n8, c8, hbk', ?_, ?_, hdis8, ?_, ?_⟩, hF'⟩
  · rw [List.map_append]
    exact hraw'
  · rw [List.map_append]
    exact hwas'
  · intro r hr
    rw [List.mem_append, List.mem_cons, List.mem_singleton] at hr
    rcases hr with hr | rfl | rfl
    · exact hrows'.1 r hr
    · exact ⟨hOa', hOw', hL40⟩
    · exact ⟨hOb', hOw', hL40⟩
  · rw [List.pairwise_append]
    refine ⟨hrows'.2, ?_, ?_⟩
    · rw [List.pairwise_cons]
      refine ⟨fun q hq => ?_, List.pairwise_singleton _ _⟩
      rw [List.mem_singleton] at hq
      subst hq
      exact hdab
    · intro p hp q hq
      rw [List.mem_cons, List.mem_singleton] at hq
      rcases hq with rfl | rfl
      · exact hda p hp
      · exact hdb p hp
theorem field_book_0 (b : Nat) (w : World) : (Instr.fieldAt 43 (.pointer (some ⟨b, 0, none⟩)) 0).run Tryd.prog w = .ok (.pointer (some ⟨b, 0, none⟩)) w := by kernel_rfl
theorem field_book_1 (b : Nat) (w : World) : (Instr.fieldAt 43 (.pointer (some ⟨b, 0, none⟩)) 1).run Tryd.prog w = .ok (.pointer (some ⟨b, 1, none⟩)) w := by kernel_rfl
theorem below_le {B B' : Nat} {w w' : World} (h : Below B w w') (hb : B' ≤ B) : Below B' w w' := ⟨h.os, h.tape, h.output, h.size, fun k hk => h.block k (by omega)⟩
def encZ (z : Int) : Array Value := #[.int .i64 z]
theorem encZ_size (z : Int) : (encZ z).size = 1 := rfl
theorem encZ_one (z : Int) : (encZ z).all (·.oneCell') = true := by simp [encZ, Value.oneCell']
theorem own_encZ {w : World} {b : Nat} {t : TypeId} {v : Value} {L : List Nat} (h : Own w b t 1 encN v L) : Own w b t 1 encZ v (L.map fun x : Nat => (x : Int)) := by
  have e : flat encZ (L.map fun x : Nat => (x : Int)) = flat encN L := by
    unfold flat
    rw [List.flatMap_map]
    rfl
  unfold Own at h ⊢
  rw [List.length_map, e]
  exact h
theorem own_n {α : Type} {enc : α → Array Value} {w : World} {b s : Nat} {t : TypeId} {A : Option Addr} {n c : Nat} {L : List α} (h : Own w b t s enc (.slice A n c) L) : n = L.length := by
  obtain ⟨A', c', hv, _⟩ := h.shape
  injection hv
theorem under_rowsL : Tryd.prog.underlying 41 = some (.slice (Tryd.prog.elem 41)) := by kernel_rfl
theorem size_slE (w : World) : (sizeOf (Tryd.prog.elem 41)).run Tryd.prog w = .ok 1 w := by kernel_rfl
/-- a book while it is written over -/
structure Wh (W : World) (gk : Nat) (rows : List Rowx) (A : Option Addr) (n c : Nat) (A' : Option Addr) (n' c' : Nat) (f : Nat → List Int) : Prop where
  book : Blk W gk 43 #[.slice A n c, .slice A' n' c']
  arr : Own W gk 54 1 encS (.slice A n c) (rows.map Rowx.raw)
  row : ∀ p (h : p < rows.length), Own W gk 3 1 encZ rows[p].raw.v (f p)
def Apart (rows : List Rowx) : Prop := ∀ p q (hp : p < rows.length) (hq : q < rows.length), p ≠ q → ∀ j, rows[p].raw.v.ownBlock = some j → rows[q].raw.v.ownBlock = some j → False
theorem apart_of {rows : List Rowx} (h : rows.Pairwise (fun p q => ∀ i j, p.raw.v.ownBlock = some i → q.raw.v.ownBlock = some j → i < j)) : Apart rows := by
  intro p q hp hq hne j h1 h2
  rcases Nat.lt_or_gt_of_ne hne with hlt | hlt
  · have := List.pairwise_iff_getElem.1 h p q hp hq hlt j j h1 h2
    omega
  · have := List.pairwise_iff_getElem.1 h q p hq hp hlt j j h2 h1
    omega
section
variable {W W' : World} {gk n c n' c' : Nat} {rows : List Rowx} {A A' : Option Addr} {f : Nat → List Int}
theorem Wh.then_ (h : Wh W gk rows A n c A' n' c' f) (hb : Below W.heap.size W W') : Wh W' gk rows A n c A' n' c' f := ⟨blk_then h.book hb, h.arr.then_ hb, fun p hp => (h.row p hp).then_ hb⟩
theorem Wh.len (h : Wh W gk rows A n c A' n' c' f) : n = rows.length := by have := own_n h.arr; rw [List.length_map] at this; exact this
/-- the cell of a row's slice -/
theorem Wh.cell (h : Wh W gk rows A n c A' n' c' f) {g i : Nat} (hA : A = some ⟨g, 0, none⟩) (hi : i < rows.length) : W.cell? ⟨g, i, none⟩ = some rows[i].raw.v := by
  subst hA
  have := h.arr.row encS_size i (by rw [List.length_map]; exact hi) 0 _ rfl
  rw [Nat.mul_one] at this
  refine this.trans ?_
  rw [List.getElem_map]
  rfl
theorem Wh.set (h : Wh W gk rows A n c A' n' c' f) (hap : Apart rows) {i g : Nat} (hi : i < rows.length) (hg : W.grownBy W' (some g)) (hgi : rows[i].raw.v.ownBlock = some g) {l : List Int} (hl : Own W' gk 3 1 encZ rows[i].raw.v l) : Wh W' gk rows A n c A' n' c' (fun p => if p = i then l else f p) := by
  refine ⟨blk_grown h.book hg (fun e => ?_), h.arr.kept_ hg (fun j e1 e2 => ?_), fun p hp => ?_⟩
  · exact own_blk_ne (h.row i hi) h.book (by decide) (hgi.trans (by rw [e]))
  · injection e2 with e2
    subst e2
    exact own_types_ne h.arr (h.row i hi) (by decide) _ e1 hgi
  · by_cases e : p = i
    · subst e
      rw [if_pos rfl]
      exact hl
    · rw [if_neg e]
      exact (h.row p hp).kept_ hg (fun j e1 e2 => hap p i hp hi e j e1 (by rw [hgi]; exact e2))
end
/-- what is laid over the row p -/
def mark (p : Nat) : Int := -(p : Int) - 1
def lensOk (rows : List Rowx) (f : Nat → List Int) : Prop := ∀ p (h : p < rows.length), (f p).length = rows[p].raw.n
def filled (rows : List Rowx) (f : Nat → List Int) (i : Nat) : Prop := ∀ p (h : p < rows.length), p < i → f p = List.replicate rows[p].raw.n (mark p)
theorem Wh.append {W W' : World} {gk n c n' c' : Nat} {rows : List Rowx} {A A' : Option Addr} {f : Nat → List Int} (h : Wh W gk rows A n c A' n' c' f) (hap : Apart rows) {i : Nat} (hi : i < rows.length) (hg : W.grownBy W' rows[i].raw.v.ownBlock) (hl : Own W' gk 3 1 encZ rows[i].raw.v (f i)) : Wh W' gk rows A n c A' n' c' f := by
  refine ⟨h.book.grown hg (fun e => own_blk_ne (h.row i hi) h.book (by decide) e.symm), own_own h.arr (h.row i hi) hg (by decide), fun p hp => ?_⟩
  by_cases e : p = i
  · subst e
    exact hl
  · exact (h.row p hp).kept_ hg (fun j e1 e2 => hap p i hp hi e j e1 e2)
theorem Wh.outer {W W' : World} {gk n c n' c' S3 : Nat} {rows : List Rowx} {A A' : Option Addr} {f : Nat → List Int} {v : Value} {ys : List Sl} (h : Wh W gk rows A n c A' n' c' f) (ho : Own W S3 54 1 encS v ys) (hg : W.grownBy W' v.ownBlock) (hlow : ∀ q, (Value.slice A n c).ownBlock = some q → q < S3) : Wh W' gk rows A n c A' n' c' f :=
  ⟨h.book.grown hg (fun e => own_blk_ne ho h.book (by decide) e.symm), h.arr.kept_ hg (fun j e1 e2 => by have := hlow j e1; have := (ho.lt j e2).1; omega), fun p hp => own_own (h.row p hp) ho hg (by decide)⟩
/-- the lengthened slices -/
def MoreOk (W : World) (gk S3 : Nat) (rows : List Rowx) (f : Nat → List Int) (more : List Sl) : Prop :=
  ∀ p (h : p < more.length) (h2 : p < rows.length), Own W gk 3 1 encZ more[p].v (f p ++ [mark p]) ∧ (more[p].v.ownBlock = rows[p].raw.v.ownBlock ∨ ∃ q, more[p].v.ownBlock = some q ∧ S3 ≤ q)
theorem MoreOk.then_ {W W' : World} {gk S3 : Nat} {rows : List Rowx} {f : Nat → List Int} {more : List Sl} (h : MoreOk W gk S3 rows f more) (hb : Below W.heap.size W W') : MoreOk W' gk S3 rows f more := fun p h1 h2 => ⟨(h p h1 h2).1.then_ hb, (h p h1 h2).2⟩
theorem MoreOk.inner {W W' : World} {gk S3 : Nat} {rows : List Rowx} {f : Nat → List Int} {more : List Sl} (h : MoreOk W gk S3 rows f more) (hap : Apart rows) {i : Nat} (hi : i < rows.length) (hm : more.length ≤ i) (hg : W.grownBy W' rows[i].raw.v.ownBlock) (hlow : ∀ q, rows[i].raw.v.ownBlock = some q → q < S3) : MoreOk W' gk S3 rows f more := fun p h1 h2 =>
  ⟨(h p h1 h2).1.kept_ hg (fun j e1 e2 => by
    rcases (h p h1 h2).2 with h3 | ⟨q, h3, h4⟩
    · exact hap p i h2 hi (by omega) j (h3.symm.trans e1) e2
    · have h5 := hlow j e2
      rw [h3] at e1
      injection e1 with e1
      omega), (h p h1 h2).2⟩
theorem MoreOk.outer {W W' : World} {gk S3 b : Nat} {rows : List Rowx} {f : Nat → List Int} {more : List Sl} {v : Value} {ys : List Sl} (h : MoreOk W gk S3 rows f more) (ho : Own W b 54 1 encS v ys) (hg : W.grownBy W' v.ownBlock) : MoreOk W' gk S3 rows f more := fun p h1 h2 => ⟨own_own (h p h1 h2).1 ho hg (by decide), (h p h1 h2).2⟩
theorem MoreOk.snoc {W : World} {gk S3 : Nat} {rows : List Rowx} {f : Nat → List Int} {more : List Sl} {s : Sl} {i : Nat} (h : MoreOk W gk S3 rows f more) (hm : more.length = i) (hi : i < rows.length) (ho : Own W gk 3 1 encZ s.v (f i ++ [mark i])) (hb : s.v.ownBlock = rows[i].raw.v.ownBlock ∨ ∃ q, s.v.ownBlock = some q ∧ S3 ≤ q) : MoreOk W gk S3 rows f (more ++ [s]) := fun p h1 h2 => by
  by_cases e : p < more.length
  · rw [List.getElem_append_left e]
    exact h p e h2
  · have e2 : p = i := by rw [List.length_append, List.length_singleton] at h1; omega
    subst e2
    rw [List.getElem_append_right (by omega)]
    simp only [hm, Nat.sub_self, List.getElem_singleton]
    exact ⟨ho, hb⟩
theorem run_bsI (w : World) (z : Int) : (Instr.buildSlice 54 1 #[(0, .int .i64 z)]).run Tryd.prog w = .ok (.slice (some ⟨w.heap.size, 0, none⟩) 1 1) (w.alloc (.cells #[.int .i64 z] 3)) := by kernel_rfl
theorem run_bsS (w : World) (A : Option Addr) (n c : Nat) : (Instr.buildSlice 41 1 #[(0, .slice A n c)]).run Tryd.prog w = .ok (.slice (some ⟨w.heap.size, 0, none⟩) 1 1) (w.alloc (.cells #[.slice A n c] 54)) := by kernel_rfl
section
variable {ops : Array Oper} {rest : List Oper} {o : Oper} {a : Act} {w : World} {Q : Exit → Act → World → Prop}
theorem wl_bsI (hgd : o.guard = none) (x : Operand) (ho : o.op = .buildSlice 54 1 #[(0, x)]) (z : Int) (hx : a.eval x = .int .i64 z)
    (h : wpList Tryd.prog ops Q rest (a.put o.dst (.slice (some ⟨w.heap.size, 0, none⟩) 1 1)) (w.alloc (.cells #[.int .i64 z] 3))) : wpList Tryd.prog ops Q (o :: rest) a w := by
  refine wpList_plain hgd fun _ hK => ?_
  unfold Oper.wp execOp
  simp only [ho, List.map_toArray, List.map_cons, List.map_nil, hx, Sem.run_bind, run_bsI, Result.andThen_ok, Sem.run_pure]
  exact hK _ _ h
theorem wl_bsS (hgd : o.guard = none) (x : Operand) (ho : o.op = .buildSlice 41 1 #[(0, x)]) (A : Option Addr) (n c : Nat) (hx : a.eval x = .slice A n c)
    (h : wpList Tryd.prog ops Q rest (a.put o.dst (.slice (some ⟨w.heap.size, 0, none⟩) 1 1)) (w.alloc (.cells #[.slice A n c] 54))) : wpList Tryd.prog ops Q (o :: rest) a w := by
  refine wpList_plain hgd fun _ hK => ?_
  unfold Oper.wp execOp
  simp only [ho, List.map_toArray, List.map_cons, List.map_nil, hx, Sem.run_bind, run_bsS, Result.andThen_ok, Sem.run_pure]
  exact hK _ _ h
end
theorem slice_oneS {w : World} {t : TypeId} {g : Nat} {s : Sl} (h : Blk w g t #[s.v]) : SliceOf w w.heap.size 1 encS (some ⟨g, 0, none⟩) [s] := slice_one (enc := encS) h
set_option maxRecDepth 100000 in
set_option maxHeartbeats 4000000 in
theorem whole_book (gk : Nat) (rows : List Rowx) (hrl : rows.length ≤ 1000) (w : World) (hK : BookOk w gk rows) :
    Calls Tryd.prog 16 #[.pointer (some ⟨gk, 0, none⟩)] w fun e w' => e = .returned (.bool true) ∧ Below gk w w' := by
  obtain ⟨A, n, c, A', n', c', hbk, hraw, hwas, hdis, hrows⟩ := hK
  have hnl : n = rows.length := by have := own_n hraw; rw [List.length_map] at this; exact this
  have hnl' : n' = rows.length := by have := own_n hwas; rw [List.length_map] at this; exact this
  have hn1 : n ≤ 1000 := by omega
  have hgk := hbk.lt
  have hap := apart_of hrows.2
  have Hnn : Hid (n' = n) := Lib.hid (by omega)
  have Hn := Lib.hid hnl
  clear hnl hnl' hrl hdis
  go_enter Tryd.func16, Tryd.ntmps16
  go_wp2_with (fail)
  go_loopw [3] (fun iv wr => ∃ j : Nat, j ≤ n ∧ iv = .int .i64 j ∧ Below w.heap.size w wr) (fun iv _ => n - (intOf iv).toNat)
  case atStart => exact ⟨0, by omega, rfl, Below.refl _ _⟩
  case round =>
    obtain ⟨j, hj, rfl, hBw⟩ := hrel
    replace hbk := blk_then hbk hBw
    replace hraw := hraw.then_ hBw
    replace hwas := hwas.then_ hBw
    replace hrows := hrows.then_ hBw
    have c0' : wr.cell? ⟨gk, 0, none⟩ = some (.slice A n c) := hbk.cellv (i := 0) rfl
    by_cases hjl : j < n
    · have hjI : (j : Int) < n := by omega
      have hjR : j < rows.length := by rw [← Hn.out]; exact hjl
      have hjl' : j < n' := by rw [Hnn.out]; exact hjl
      obtain ⟨gA, cA, hvA, _, _, _, _⟩ := hraw.form (by rw [List.length_map]; omega)
      obtain ⟨gA', cA', hvA', _, _, _, _⟩ := hwas.form (by rw [List.length_map]; omega)
      injection hvA with e1 _ _
      injection hvA' with e1' _ _
      subst e1; subst e1'
      obtain ⟨h1, h2, h3⟩ := hrows.1 _ (List.getElem_mem hjR)
      obtain ⟨⟨⟨ra, rn, rc⟩, ⟨wa, wn, wc⟩, L⟩, hr⟩ : ∃ r, rows[j] = r := ⟨_, rfl⟩
      rw [hr] at h1 h2 h3
      simp only [Sl.v] at h1 h2 h3
      have hrn := own_n h1
      have hwn := own_n h2
      have hca : ∀ {X : World}, Below wr.heap.size wr X → X.cell? ⟨gA, 0 + j * 1, none⟩ = some (.slice ra rn rc) := fun hb => by
        have := (hraw.then_ hb).row encS_size j (by rw [List.length_map]; exact hjR) 0 _ rfl
        rw [Nat.zero_add]
        refine this.trans ?_
        rw [List.getElem_map, hr]
        rfl
      have hcw : ∀ {X : World}, Below wr.heap.size wr X → X.cell? ⟨gA', 0 + j * 1, none⟩ = some (.slice wa wn wc) := fun hb => by
        have := (hwas.then_ hb).row encS_size j (by rw [List.length_map]; exact hjR) 0 _ rfl
        rw [Nat.zero_add]
        refine this.trans ?_
        rw [List.getElem_map, hr]
        rfl
      have hsame : ∀ X, Below wr.heap.size wr X → Calls Tryd.prog 30 #[.slice ra rn rc, .slice wa wn wc] X fun e w' => e = .returned (.bool true) ∧ Below X.heap.size X w' := fun X hb => by
        have e2 : wn = rn := by rw [hrn, hwn]
        subst e2
        exact sameInts_any L ra wa wn rc wc hrn h3 X ((h1.then_ hb).slice_all encN_size) ((h2.then_ hb).slice_all encN_size)
      go_upto_region 4 with (fail)
      clear c0'
      refine wp_region_steps 16 [eqS (.pointer (some ⟨gk, 0, none⟩)), eqS (.pointer (some ⟨gk, 0, none⟩)), eqS (.pointer (some ⟨gk, 0, none⟩)), eqS (.slice (some ⟨gA, 0, none⟩) n c), eqS (.int .i64 ((j : Int))), eqS (.pointer (some ⟨gA, 0 + j * 1, none⟩)), eqS (.slice ra rn rc), eqS (.pointer (some ⟨gk, 0, none⟩)), eqS (.pointer (some ⟨gk, 0, none⟩)), eqS (.pointer (some ⟨gk, 1, none⟩)), eqS (.slice (some ⟨gA', 0, none⟩) n' c'), eqS (.int .i64 ((j : Int))), eqS (.pointer (some ⟨gA', 0 + j * 1, none⟩)), eqS (.slice wa wn wc), eqS (.bool true), eqS (.bool (!true))] [19, 20, 21, 22, 23, 24, 25, 26, 27, 28, 29, 30, 31, 32, 33, 34] rfl (by kernel_rfl) rfl ?_ ?_
      · skip
        refine Steps.cons (fun a' w' hG hB dep => gs_move (want_none rfl) _ rfl (id (hG.other 0 rfl))) ?_
        refine Steps.cons (fun a' w' hG hB dep => gs_nil (want_none rfl) _ rfl _ (dep 0 rfl 19 rfl) rfl) ?_
        refine Steps.cons (fun a' w' hG hB dep => gs_field (want_none rfl) _ _ _ rfl gk (0) (0) (dep 1 rfl 20 rfl) (fun wz => field_book_0 gk wz) rfl) ?_
        refine Steps.cons (fun a' w' hG hB dep => gs_load1 (want_none rfl) _ _ rfl gk (0) (dep 2 rfl 21 rfl) (.slice (some ⟨gA, 0, none⟩) n c) ((blk_then hbk hB).cellv (i := 0) rfl) _ Tryd.underlying41 rfl rfl) ?_
        refine Steps.cons (fun a' w' hG hB dep => gs_move (want_none rfl) _ rfl (id (hG.other 3 rfl))) ?_
        refine Steps.cons (fun a' w' hG hB dep => gs_index (want_none rfl) _ _ _ rfl under_rowsL 1 size_slE gA 0 n c (j) (dep 3 rfl 22 rfl) (dep 4 rfl 23 rfl) hjl rfl) ?_
        refine Steps.cons (fun a' w' hG hB dep => gs_load1 (want_none rfl) _ _ rfl gA (0 + j * 1) (dep 5 rfl 24 rfl) (.slice ra rn rc) (hca hB) _ Tryd.underlying54 rfl rfl) ?_
        refine Steps.cons (fun a' w' hG hB dep => gs_move (want_none rfl) _ rfl (id (hG.other 0 rfl))) ?_
        refine Steps.cons (fun a' w' hG hB dep => gs_nil (want_none rfl) _ rfl _ (dep 7 rfl 26 rfl) rfl) ?_
        refine Steps.cons (fun a' w' hG hB dep => gs_field (want_none rfl) _ _ _ rfl gk (0) (1) (dep 8 rfl 27 rfl) (fun wz => field_book_1 gk wz) rfl) ?_
        refine Steps.cons (fun a' w' hG hB dep => gs_load1 (want_none rfl) _ _ rfl gk (1) (dep 9 rfl 28 rfl) (.slice (some ⟨gA', 0, none⟩) n' c') ((blk_then hbk hB).cellv (i := 1) rfl) _ Tryd.underlying41 rfl rfl) ?_
        refine Steps.cons (fun a' w' hG hB dep => gs_move (want_none rfl) _ rfl (id (hG.other 3 rfl))) ?_
        refine Steps.cons (fun a' w' hG hB dep => gs_index (want_none rfl) _ _ _ rfl under_rowsL 1 size_slE gA' 0 n' c' (j) (dep 10 rfl 29 rfl) (dep 11 rfl 30 rfl) hjl' rfl) ?_
        refine Steps.cons (fun a' w' hG hB dep => gs_load1 (want_none rfl) _ _ rfl gA' (0 + j * 1) (dep 12 rfl 31 rfl) (.slice wa wn wc) (hcw hB) _ Tryd.underlying54 rfl rfl) ?_
        refine Steps.cons (fun a' w' hG hB dep => gs_call (want_none rfl) _ _ _ rfl enter_sameInts _ (map2 (dep 6 rfl 25 rfl) (dep 13 rfl 32 rfl)) ((hsame w' hB).mono fun e2 w2 ⟨hq1, hq2⟩ => ⟨_, hq1, hq2, rfl⟩)) ?_
        refine Steps.cons (fun a' w' hG hB dep => gs_not_bool (want_none rfl) _ _ rfl _ (dep 14 rfl 33 rfl) rfl) ?_
        exact Steps.nil
      intro u w1 hB1 ans
      have u34 : u 34 = .bool false := ans 15 34 (by decide) rfl
      clear ans
      simp only [putAll, List.foldl_cons, List.foldl_nil, Act.put, List.setIfInBounds_toArray, List.set_cons_zero, List.set_cons_succ, u34]
      clear u34
      simp only [List.drop]
      refine wpList_nil ?_
      have hBw2 := below_then hBw hB1
      clear hca hcw hsame hB1 h1 h2 h3 hr
      go_wp2_with (fail)
      exact ⟨⟨j + 1, by omega, rfl, hBw2⟩, by simp only [intOf]; omega⟩
    · have hjI : ¬ (j : Int) < n := by omega
      go_wp2_with (fail)
      clear c0' hjI hjl hj
      have hWh : Wh wr gk rows A n c A' n' c' (fun p => (rows.getD p ⟨⟨none, 0, 0⟩, ⟨none, 0, 0⟩, []⟩).L.map fun x : Nat => (x : Int)) := ⟨hbk, hraw, fun p hp => by
        rw [List.getD_eq_getElem?_getD, List.getElem?_eq_getElem hp]
        exact own_encZ (hrows.1 _ (List.getElem_mem hp)).1⟩
      have hlens : lensOk rows (fun p => (rows.getD p ⟨⟨none, 0, 0⟩, ⟨none, 0, 0⟩, []⟩).L.map fun x : Nat => (x : Int)) := fun p hp => by
        show (List.map _ _).length = _
        rw [List.getD_eq_getElem?_getD, List.getElem?_eq_getElem hp, List.length_map]
        exact (own_n (hrows.1 _ (List.getElem_mem hp)).1).symm
      have hcaps : ∀ p (hp : p < rows.length), rows[p].raw.n ≤ 1099511627776 := fun p hp => by
        obtain ⟨h1, _, h3⟩ := hrows.1 _ (List.getElem_mem hp)
        have := own_n h1
        omega
      have Hcaps := Lib.hid hcaps
      clear hcaps
      obtain ⟨f0, hf0⟩ : ∃ f, f = (fun p => (rows.getD p ⟨⟨none, 0, 0⟩, ⟨none, 0, 0⟩, []⟩).L.map fun x : Nat => (x : Int)) := ⟨_, rfl⟩
      rw [← hf0] at hWh hlens
      have hB2 : Below gk w wr := below_le hBw (by omega)
      clear hf0 hbk hraw hwas hrows hBw
      go_loopw [4] (fun iv wr => ∃ (i : Nat) (f : Nat → List Int), i ≤ n ∧ iv = .int .i64 i ∧ Wh wr gk rows A n c A' n' c' f ∧ lensOk rows f ∧ filled rows f i ∧ Below gk w wr) (fun iv _ => n - (intOf iv).toNat)
      case atStart => exact ⟨0, f0, by omega, rfl, hWh, hlens, fun p _ h => absurd h (by omega), hB2⟩
      case round =>
        clear hWh hlens hB2
        obtain ⟨i, f, hi, rfl, hWh, hlens, hfil, hB2⟩ := hrel
        by_cases hil : i < n
        · have hiI : (i : Int) < n := by omega
          have hiR : i < rows.length := by rw [← Hn.out]; exact hil
          have cb0 : wr.cell? ⟨gk, 0, none⟩ = some (.slice A n c) := hWh.book.cellv (i := 0) rfl
          go_upto_region 9 with (fail)
          clear cb0
          go_wp2_with (fail)
          obtain ⟨⟨ra, rn, rc⟩, hr⟩ : ∃ s, rows[i].raw = s := ⟨_, rfl⟩
          have hrn40 : rn ≤ 1099511627776 := by have := Hcaps.out i hiR; rw [hr] at this; exact this
          go_loopw [5] (fun iv wr => ∃ (j : Nat) (f : Nat → List Int), j ≤ rn ∧ iv = .int .i64 j ∧ Wh wr gk rows A n c A' n' c' f ∧ lensOk rows f ∧ filled rows f i ∧ (∀ q, q < j → (f i)[q]? = some (mark i)) ∧ Below gk w wr) (fun iv _ => rn - (intOf iv).toNat)
          case atStart => exact ⟨0, f, by omega, rfl, hWh, hlens, hfil, fun q h => absurd h (by omega), hB2⟩
          case round =>
            clear hWh hlens hfil hB2
            obtain ⟨j, f, hj, rfl, hWh, hlens, hfil, hpre, hB2⟩ := hrel
            obtain ⟨gA, cA, hvA, _, _, _, _⟩ := hWh.arr.form (by rw [List.length_map]; omega)
            have hvA' : A = some ⟨gA, 0, none⟩ := by injection hvA
            clear hvA
            have HvA := Lib.hid hvA'
            have cb0 : wr.cell? ⟨gk, 0, none⟩ = some (.slice (some ⟨gA, 0, none⟩) n c) := hvA' ▸ hWh.book.cellv (i := 0) rfl
            have cr : wr.cell? ⟨gA, i, none⟩ = some (.slice ra rn rc) := (hWh.cell hvA' hiR).trans (by rw [hr]; rfl)
            clear hvA'
            have hrow := hWh.row i hiR
            rw [hr] at hrow
            simp only [Sl.v] at hrow
            have hln : (f i).length = rn := by rw [hlens i hiR, hr]
            by_cases hjl : j < rn
            · have hjI : (j : Int) < rn := by omega
              go_upto_region 12 with (fail)
              obtain ⟨gr, cR, hvR, _, _, _, _⟩ := hrow.form (by omega)
              injection hvR with hra hq hrc
              clear hrc hq
              subst hra
              go_wp2_with (refine wl_store_one (enc := encZ) encZ_size rfl _ info_int _ _ rfl gr j _ _ rfl (mark i) rfl rfl rfl hrow (by rw [hln]; exact hjl) ?_; intro w6 hS6 hg6)
              have hge := (hrow.lt gr rfl).1
              have hgwr : gk ≤ wr.heap.size := Nat.le_of_lt hWh.book.lt
              refine ⟨⟨j + 1, fun p => if p = i then (f i).set j (mark i) else f p, by omega, rfl, hWh.set hap hiR hg6 (by rw [hr]; rfl) (by rw [hr]; exact hS6), fun p hp => ?_, fun p hp hpi => ?_, fun q hq => ?_, hB2.grown hg6 hgwr (by rintro q ⟨⟩; exact hge)⟩, by simp only [intOf]; omega⟩
              · by_cases e : p = i
                · subst e
                  simp only [if_pos, List.length_set]
                  exact hlens p hp
                · simp only [if_neg e]
                  exact hlens p hp
              · have e : p ≠ i := by omega
                simp only [if_neg e]
                exact hfil p hp hpi
              · simp only [if_pos]
                by_cases e : j = q
                · subst e
                  exact List.getElem?_set_self (by rw [hln]; exact hjl)
                · rw [List.getElem?_set_ne e]
                  exact hpre q (by omega)
            · have hjI : ¬ (j : Int) < rn := by omega
              go_wp2_with (fail)
              refine ⟨⟨i + 1, f, by omega, rfl, hWh, hlens, fun p hp hpi => ?_, hB2⟩, by simp only [intOf]; omega⟩
              by_cases e : p < i
              · exact hfil p hp e
              · have e2 : p = i := by omega
                subst e2
                rw [hr]
                apply List.ext_getElem?
                intro q
                rw [List.getElem?_replicate]
                by_cases h : q < rn
                · rw [if_pos h]
                  exact hpre q (by omega)
                · rw [if_neg h, List.getElem?_eq_none (by omega)]
        · have hiI : ¬ (i : Int) < n := by omega
          have cb0 : wr.cell? ⟨gk, 0, none⟩ = some (.slice A n c) := hWh.book.cellv (i := 0) rfl
          go_wp2_with (fail)
          obtain rfl : i = n := by omega
          clear cb0 hiI hil hi
          obtain ⟨W3, hW3⟩ : ∃ y, y = wr := ⟨_, rfl⟩
          rw [← hW3] at hWh hB2 ⊢
          clear hW3
          obtain ⟨S3, hS3⟩ : ∃ y, y = W3.heap.size := ⟨_, rfl⟩
          have hgS : gk < S3 := by rw [hS3]; exact hWh.book.lt
          have hlowR : ∀ p (hp : p < rows.length) q, rows[p].raw.v.ownBlock = some q → q < S3 := fun p hp q h => by rw [hS3]; exact ((hWh.row p hp).lt q h).2
          have hlowA : ∀ q, (Value.slice A i c).ownBlock = some q → q < S3 := fun q h => by rw [hS3]; exact (hWh.arr.lt q h).2
          have HlowR := Lib.hid hlowR
          have HlowA := Lib.hid hlowA
          have Hfil := Lib.hid hfil
          clear hlowR hlowA hfil
          go_loopw [7, 6] (fun iv mv wr => ∃ (t : Nat) (more : List Sl), t ≤ i ∧ iv = .int .i64 t ∧ more.length = t ∧ Own wr S3 54 1 encS mv more ∧ Wh wr gk rows A i c A' n' c' f ∧ MoreOk wr gk S3 rows f more ∧ Below gk w wr ∧ S3 ≤ wr.heap.size) (fun iv _ _ => i - (intOf iv).toNat)
          case atStart => exact ⟨0, [], by omega, rfl, rfl, Own.nil_ _ _ _ _ _, hWh, fun p h => absurd h (by simp), hB2, by omega⟩
          case round =>
            clear hWh hB2 hS3
            obtain ⟨t, more, ht, rfl, hml, hmore, hWh, hMok, hB2, hS3⟩ := hrel
            by_cases htl : t < i
            · have htI : (t : Int) < i := by omega
              have htR : t < rows.length := by rw [← Hn.out]; exact htl
              obtain ⟨gA, cA, hvA, _, _, _, _⟩ := hWh.arr.form (by rw [List.length_map]; omega)
              have hvA' : A = some ⟨gA, 0, none⟩ := by injection hvA
              clear hvA
              have cb0 : wr.cell? ⟨gk, 0, none⟩ = some (.slice (some ⟨gA, 0, none⟩) i c) := hvA' ▸ hWh.book.cellv (i := 0) rfl
              obtain ⟨⟨ra, rn, rc⟩, hr⟩ : ∃ s, rows[t].raw = s := ⟨_, rfl⟩
              have hrn40 : rn ≤ 1099511627776 := by have := Hcaps.out t htR; rw [hr] at this; exact this
              have cr : wr.cell? ⟨gA, t, none⟩ = some (.slice ra rn rc) := (hWh.cell hvA' htR).trans (by rw [hr]; rfl)
              have HvA := Lib.hid hvA'
              clear hvA'
              have hlowt := HlowR.out t htR
              obtain ⟨it, hit, hyt0, hyt1, hyt2⟩ := info_parts info_int3
              obtain ⟨is, his, hys0, hys1, hys2⟩ := info_parts info_sl3
              go_upto_region 16 with (first
                | (refine wl_bsI rfl _ rfl (mark t) rfl ?_)
                | (at_builtin; refine park ?_))
              refine Parked.mk ?_
              have hBa : Below wr.heap.size wr (wr.alloc (.cells #[.int .i64 (mark t)] 3)) := below_alloc (Below.refl _ _) _
              have hWa := hWh.then_ hBa
              have hMa := hMok.then_ hBa
              have hma := hmore.then_ hBa
              have hza := hBa.size
              have hB2a : Below gk w (wr.alloc (.cells #[.int .i64 (mark t)] 3)) := hB2.trans (below_le hBa (Nat.le_of_lt hWh.book.lt))
              have hrow := hWa.row t htR
              rw [hr] at hrow
              have hln : (f t).length = rn := by rw [hlens t htR, hr]
              have hgkl := hWa.book.lt
              refine wl_append_keep (enc := encZ) rfl _ _ 54 rfl gk 3 it _ 1 8 Tryd.underlying54 hit hyt0 hyt1 hyt2 rfl (by decide) encZ_size encZ_one (.slice ra rn rc) (f t) rfl hrow _ _ 1 1 [mark t] rfl rfl (slice_one (enc := encZ) (Blk.new wr _ _)) (by rw [hln]; unfold maxLen; omega) (by rw [hln]; omega) (by omega) ?_
              intro v9 w9 hO9 hkeep hg9 hat9
              have hg9' : (wr.alloc (.cells #[.int .i64 (mark t)] 3)).grownBy w9 rows[t].raw.v.ownBlock := by rw [hr]; exact hg9
              have hW9 := hWa.append hap htR hg9' (by rw [hr]; exact hkeep)
              have hM9 := hMa.inner hap htR (by omega) hg9' hlowt
              have hm9 := own_own hma hrow hg9 (by decide)
              have hB9 : Below gk w w9 := hB2a.grown hg9 (by omega) (fun q e => (hrow.lt q e).1)
              have hz9 := hg9.size
              have hb9 : v9.ownBlock = rows[t].raw.v.ownBlock ∨ ∃ q, v9.ownBlock = some q ∧ S3 ≤ q := by
                rcases hat9 with h | h
                · exact .inl (by rw [h, hr]; rfl)
                · exact .inr ⟨_, h, by omega⟩
              clear hg9 hg9' hat9 hkeep hrow hWa hMa hma hB2a hBa cb0 cr hWh hMok hmore hB2
              obtain ⟨A9, k9, rfl, _, _⟩ := hO9.shape
              obtain ⟨n9, hn9⟩ : ∃ q, q = (f t ++ [mark t]).length := ⟨_, rfl⟩
              rw [← hn9] at hO9 hb9 ⊢
              clear hn9
              simp only [Act.put, List.setIfInBounds_toArray, List.set_cons_zero, List.set_cons_succ]
              obtain ⟨Am, cm, rfl, _, _⟩ := hm9.shape
              rw [hml] at hm9 ⊢
              have hm9l : more.length ≤ 1000 := by omega
              go_upto_region 16 with (first
                | (refine wl_bsS rfl _ rfl A9 n9 k9 rfl ?_)
                | (at_builtin; refine park ?_))
              refine Parked.mk ?_
              have hBb : Below w9.heap.size w9 (w9.alloc (.cells #[.slice A9 n9 k9] 54)) := below_alloc (Below.refl _ _) _
              have hWb := hW9.then_ hBb
              have hMb := hM9.then_ hBb
              have hmb := hm9.then_ hBb
              have hOb := hO9.then_ hBb
              have hzb := hBb.size
              have hB2b : Below gk w (w9.alloc (.cells #[.slice A9 n9 k9] 54)) := hB9.trans (below_le hBb (by omega))
              refine wl_append _ rfl _ _ 41 rfl S3 54 is _ 1 24 Tryd.underlying41 his hys0 hys1 hys2 rfl (by decide) encS_size encS_one (.slice Am t cm) more rfl hmb _ _ 1 1 [⟨A9, n9, k9⟩] rfl rfl (slice_oneS (s := ⟨A9, n9, k9⟩) (Blk.new w9 _ _)) (by unfold maxLen; omega) (by omega) (by omega) ?_
              intro vc wc hmc hgc _
              have hWc := hWb.outer hmb hgc HlowA.out
              have hMc := hMb.outer hmb hgc
              have hOc := own_own hOb hmb hgc (by decide)
              have hBc : Below gk w wc := hB2b.grown hgc (by omega) (fun q e => by have := (hmb.lt q e).1; omega)
              have hzc := hgc.size
              have hMc2 := hMc.snoc (s := ⟨A9, n9, k9⟩) hml htR hOc hb9
              clear hgc hmb hOb hMb hWb hB2b hBb hMc hm9 hO9 hM9 hW9 hB9
              simp only [Act.put, List.setIfInBounds_toArray, List.set_cons_zero, List.set_cons_succ]
              go_wp2_with (fail)
              exact ⟨⟨t + 1, more ++ [⟨A9, n9, k9⟩], by omega, rfl, by rw [List.length_append, hml]; rfl, hmc, hWc, hMc2, hBc, by omega⟩, by simp only [intOf]; omega⟩
            · have htI : ¬ (t : Int) < i := by omega
              have cb0 : wr.cell? ⟨gk, 0, none⟩ = some (.slice A i c) := hWh.book.cellv (i := 0) rfl
              go_wp2_with (fail)
              obtain rfl : t = i := by omega
              clear cb0 htI htl ht
              obtain ⟨W4, hW4⟩ : ∃ y, y = wr := ⟨_, rfl⟩
              rw [← hW4] at hmore hWh hMok hB2 hS3 ⊢
              obtain ⟨Am, cm, rfl, _, _⟩ := hmore.shape
              rw [hml] at hmore ⊢
              have Hml := Lib.hid hml
              clear hml hW4
              go_loopw [8] (fun iv wr => ∃ (p : Nat), p ≤ t ∧ iv = .int .i64 p ∧ wr = W4) (fun iv _ => t - (intOf iv).toNat)
              case atStart => exact ⟨0, by omega, rfl, rfl⟩
              case round =>
                obtain ⟨p, hp, rfl, rfl⟩ := hrel
                by_cases hpl : p < t
                · have hpI : (p : Int) < t := by omega
                  have hpR : p < rows.length := by rw [← Hn.out]; exact hpl
                  have hpM : p < more.length := by rw [Hml.out]; exact hpl
                  obtain ⟨gA, cA, hvA, _, _, _, _⟩ := hWh.arr.form (by rw [List.length_map]; omega)
                  have hvA' : A = some ⟨gA, 0, none⟩ := by injection hvA
                  clear hvA
                  obtain ⟨gM, cM, hvM, _, _, _, _⟩ := hmore.form (by omega)
                  have hvM' : Am = some ⟨gM, 0, none⟩ := by injection hvM
                  clear hvM
                  subst hvM'
                  have cb0 : wr.cell? ⟨gk, 0, none⟩ = some (.slice (some ⟨gA, 0, none⟩) t c) := hvA' ▸ hWh.book.cellv (i := 0) rfl
                  obtain ⟨⟨ra, rn, rc⟩, hr⟩ : ∃ s, rows[p].raw = s := ⟨_, rfl⟩
                  obtain ⟨⟨ma, mn, mc⟩, hm⟩ : ∃ s, more[p] = s := ⟨_, rfl⟩
                  have hrn40 : rn ≤ 1099511627776 := by have := Hcaps.out p hpR; rw [hr] at this; exact this
                  have cr : wr.cell? ⟨gA, p, none⟩ = some (.slice ra rn rc) := (hWh.cell hvA' hpR).trans (by rw [hr]; rfl)
                  have cm' : wr.cell? ⟨gM, p, none⟩ = some (.slice ma mn mc) := by
                    have := hmore.row encS_size p hpM 0 _ rfl
                    rw [Nat.mul_one] at this
                    refine this.trans ?_
                    show some more[p].v = _
                    rw [hm]
                    rfl
                  have HvA := Lib.hid hvA'
                  clear hvA'
                  have hrow := hWh.row p hpR
                  have hmow := (hMok p hpM hpR).1
                  have hfp := Hfil.out p hpR hpl
                  rw [hr] at hrow hfp
                  rw [hm] at hmow
                  rw [hfp] at hrow hmow
                  simp only [Sl.v] at hrow hmow
                  have hmn : mn = rn + 1 := by have := own_n hmow; rw [List.length_append, List.length_replicate] at this; exact this
                  have Hmn := Lib.hid hmn
                  have hmn40 : mn ≤ 1099511627777 := by omega
                  clear hfp hmn
                  go_upto_region 21 with (fail)
                  go_wp2_with (fail)
                  go_loopw [9] (fun iv wx => ∃ (q : Nat), q ≤ mn ∧ iv = .int .i64 q ∧ wx = wr) (fun iv _ => mn - (intOf iv).toNat)
                  case atStart => exact ⟨0, by omega, rfl, rfl⟩
                  case round =>
                    obtain ⟨q, hq, rfl, rfl⟩ := hrel
                    by_cases hql : q < mn
                    · have hqI : (q : Int) < mn := by omega
                      obtain ⟨gm, cm2, hvm, _, _, _, _⟩ := hmow.form (by rw [List.length_append]; exact Nat.succ_pos _)
                      have hvm' : ma = some ⟨gm, 0, none⟩ := by injection hvm
                      clear hvm
                      subst hvm'
                      have ce : wr.cell? ⟨gm, q, none⟩ = some (.int .i64 (-(p : Int) - 1)) := by
                        have hl : q < (List.replicate rn (mark p) ++ [mark p]).length := by rw [List.length_append, List.length_replicate]; have := Hmn.out; simp; omega
                        have := hmow.row encZ_size q hl 0 _ rfl
                        rw [Nat.mul_one] at this
                        refine this.trans ?_
                        have e : (List.replicate rn (mark p) ++ [mark p])[q] = mark p := by
                          rw [List.getElem_append]
                          split
                          · exact List.getElem_replicate _
                          · exact List.getElem_singleton _
                        rw [e]
                        rfl
                      by_cases hqr : q < rn
                      · have hqrI : (q : Int) < rn := by omega
                        obtain ⟨gr, cr2, hvr, _, _, _, _⟩ := hrow.form (by rw [List.length_replicate]; omega)
                        have hvr' : ra = some ⟨gr, 0, none⟩ := by injection hvr
                        clear hvr
                        subst hvr'
                        have ce2 : wr.cell? ⟨gr, q, none⟩ = some (.int .i64 (-(p : Int) - 1)) := by
                          have hl : q < (List.replicate rn (mark p)).length := by rw [List.length_replicate]; exact hqr
                          have := hrow.row encZ_size q hl 0 _ rfl
                          rw [Nat.mul_one] at this
                          refine this.trans ?_
                          rw [List.getElem_replicate]
                          rfl
                        go_wp2_with (fail)
                        exact ⟨⟨q + 1, by omega, rfl, by trivial⟩, by simp only [intOf]; omega⟩
                      · have hqrI : ¬ (q : Int) < rn := by omega
                        go_wp2_with (fail)
                        exact ⟨⟨q + 1, by omega, rfl, by trivial⟩, by simp only [intOf]; omega⟩
                    · have hqI : ¬ (q : Int) < mn := by omega
                      go_wp2_with (fail)
                      exact ⟨⟨p + 1, by omega, rfl, by trivial⟩, by simp only [intOf]; omega⟩
                · have hpI : ¬ (p : Int) < t := by omega
                  go_wp2_with (fail)
                  go_ret
                  exact ⟨rfl, hB2⟩
end Go.Proofs.YtgahdookojbbiaaDoor
