/- SimExact: the four walks and the book in memory, and what a call on one of them leaves. No condition beyond those named in each lemma. -/
import Derived.Test.YtgahdookojbbiaaDoorRefZWh
namespace Go.Proofs.YtgahdookojbbiaaDoor
open Go.RowKit Go.Shelf Go.Maps
set_option linter.unusedVariables false
set_option linter.unusedSimpArgs false

theorem own_g2 {α : Type} {enc : α → Array Value} {size base a b : Nat} {e : TypeId} {W W' : World} {v : Value} {ys : List α} (h : Own W base e size enc v ys) (hg : Grown2 W W' a b) (hne : ∀ j, v.ownBlock = some j → j ≠ a ∧ j ≠ b) : Own W' base e size enc v ys := by
  have hl := h.lt
  obtain ⟨h1, h2⟩ := h
  refine ⟨h1, ?_⟩
  rcases h2 with h2 | ⟨g', cap, cur, hv, hge, hh, r⟩
  · exact .inl h2
  · have e1 : v.ownBlock = some g' := by rw [hv]; rfl
    exact .inr ⟨g', cap, cur, hv, hge, (hg.block g' (hl g' e1).2 (hne g' e1).1 (hne g' e1).2).trans hh, r⟩
theorem blk_g2 {W W' : World} {g a b : Nat} {t : TypeId} {cs : Array Value} (h : Blk W g t cs) (hg : Grown2 W W' a b) (h1 : g ≠ a) (h2 : g ≠ b) : Blk W' g t cs := (hg.block g h.lt h1 h2).trans h
section
variable {W W' : World} {lo nb gw gm N ge gu ne ce nu cu b1 b2 : Nat} {E E1 : List Edg} {R R1 : List Nat} {k : Wk}
theorem own_ne_blk {α : Type} {enc : α → Array Value} {size base g r n c : Nat} {e t : TypeId} {ys : List α} {cs : Array Value} (h : Own W base e size enc (.slice (some ⟨g, 0, none⟩) n c) ys) (hb : Blk W r t cs) (hne : e ≠ t) : r ≠ g := fun e2 => own_blk_ne h hb hne (by rw [e2]; rfl)
theorem WalkOk.two (h : WalkOk lo nb W gw gm N E R k) (hg : Grown2 W W' ge gu) (hxE : Own W b1 53 7 edgC (.slice (some ⟨ge, 0, none⟩) ne ce) E1) (hxR : Own W b2 28 1 encR (.slice (some ⟨gu, 0, none⟩) nu cu) R1) (h1 : ge < lo) (h2 : gu < lo) : WalkOk lo nb W' gw gm N E R k := by
  obtain ⟨hM, h3, h4, h5, g, c, h6, h7, h8⟩ := h
  exact ⟨hM.keep (fun i hi hi2 => hg.block i (by have := hM.ok.2.2.2.2.2.1; omega) (by omega) (by omega)) hg.size, h3, h4, h5, g, c, h6, blk_g2 h7 hg (own_ne_blk hxE h7 (by decide)) (own_ne_blk hxR h7 (by decide)),
    own_g2 h8 hg (fun j e => ⟨fun e2 => own_types_ne h8 hxE (by decide) j e (by rw [e2]; rfl), fun e2 => own_types_ne h8 hxR (by decide) j e (by rw [e2]; rfl)⟩)⟩
theorem RWalk.two {B0 gr n c0 m d0 : Nat} {A B : Option Addr} (h : RWalk B0 W gr N E R A n c0 B m d0 k) (hg : Grown2 W W' ge gu) (hxE : Own W b1 53 7 edgC (.slice (some ⟨ge, 0, none⟩) ne ce) E1) (hxR : Own W b2 28 1 encR (.slice (some ⟨gu, 0, none⟩) nu cu) R1) (h1 : B0 ≤ ge) (h2 : B0 ≤ gu) : RWalk B0 W' gr N E R A n c0 B m d0 k := by
  obtain ⟨hM, h3, h4, h5, g, c, h6, h7, h8⟩ := h
  have hl := hM.low
  exact ⟨⟨hM.fits, hM.nE, hM.mR, hM.lE, hM.lN, hM.lt, hM.edges.keep (fun k hk => hg.block k (by omega) (by omega) (by omega)), hM.rules.keep (fun k hk => hg.block k (by omega) (by omega) (by omega)), Nat.le_trans hl hg.size⟩, h3, h4, h5, g, c, h6, blk_g2 h7 hg (own_ne_blk hxE h7 (by decide)) (own_ne_blk hxR h7 (by decide)),
    own_g2 h8 hg (fun j e => ⟨fun e2 => own_types_ne h8 hxE (by decide) j e (by rw [e2]; rfl), fun e2 => own_types_ne h8 hxR (by decide) j e (by rw [e2]; rfl)⟩)⟩
theorem WalkOk.blk (h : WalkOk lo nb W gw gm N E R k) : ∃ cs, Blk W gw 71 cs := by
  obtain ⟨_, _, _, _, _, _, _, h7, _⟩ := h
  exact ⟨_, h7⟩
theorem RWalk.blk {B0 gr n c0 m d0 : Nat} {A B : Option Addr} (h : RWalk B0 W gr N E R A n c0 B m d0 k) : ∃ cs, Blk W gr 61 cs := by
  obtain ⟨_, _, _, _, _, _, _, h7, _⟩ := h
  exact ⟨_, h7⟩
theorem BookOk.blk {gk : Nat} {rows : List Rowx} (h : BookOk W gk rows) : ∃ cs, Blk W gk 43 cs := by
  obtain ⟨_, _, _, _, _, _, h7, _⟩ := h
  exact ⟨_, h7⟩
theorem WalkOk.otherR {r : Nat} {cs : Array Value} (h : WalkOk lo nb W gw gm N E R k) (hg : W.grownBy W' (some r)) (hr : r < lo ∨ nb ≤ r) (hb : Blk W r 61 cs) : WalkOk lo nb W' gw gm N E R k := by
  obtain ⟨h1, h2, h3, h4, g, c, h5, h6, h7⟩ := h
  exact ⟨h1.grown hg hr, h2, h3, h4, g, c, h5, blk_grown h6 hg (h6.ne_ hb (by decide)), own_box h7 hb hg (by decide)⟩
end
/-- where the four walks and the book lie -/
structure Lie (b0 lo1 nb1 gw1 lo2 nb2 gw2 gr1 gr2 gk : Nat) : Prop where
  z : 0 < b0
  w1 : b0 ≤ gw1
  w2 : b0 ≤ gw2
  w12 : gw1 < lo2
  w21 : nb1 ≤ gw2
  wne : gw1 ≠ gw2
  r1 : b0 ≤ gr1
  r2 : b0 ≤ gr2
  r11 : gr1 < lo1
  r12 : gr1 < lo2
  r21 : gr2 < lo1
  r22 : gr2 < lo2
  rne : gr1 ≠ gr2
  k0 : b0 ≤ gk
  k1 : nb1 ≤ gk
  k2 : nb2 ≤ gk
structure St (w0 : World) (lo1 nb1 gw1 gm1 lo2 nb2 gw2 gm2 gr1 gr2 gk N n c0 m d0 : Nat) (E : List Edg) (R : List Nat) (A B : Option Addr) (W : World) (kw kr kv ks : Wk) (rows : List Rowx) : Prop where
  lie : Lie w0.heap.size lo1 nb1 gw1 lo2 nb2 gw2 gr1 gr2 gk
  w : WalkOk lo1 nb1 W gw1 gm1 N E R kw
  r : RWalk w0.heap.size W gr1 N E R A n c0 B m d0 kr
  v : WalkOk lo2 nb2 W gw2 gm2 N E R kv
  s : RWalk w0.heap.size W gr2 N E R A n c0 B m d0 ks
  k : BookOk W gk rows
  t : TabOk W
  b : Below w0.heap.size w0 W
section
variable {w0 W W' : World} {lo1 nb1 gw1 gm1 lo2 nb2 gw2 gm2 gr1 gr2 gk N n c0 m d0 : Nat} {E : List Edg} {R : List Nat} {A B : Option Addr} {kw kr kv ks k' : Wk} {rows rows' : List Rowx}
theorem RWalk.otherW {B0 gr gw : Nat} {k : Wk} {cs : Array Value} (h : RWalk B0 W gr N E R A n c0 B m d0 k) (hg : W.grownBy W' (some gw)) (hr : B0 ≤ gw) (hb : Blk W gw 71 cs) : RWalk B0 W' gr N E R A n c0 B m d0 k := by
  obtain ⟨cs2, h2⟩ := h.blk
  exact h.other hg hr (hb.ne_ h2 (by decide)) hb (by decide)
theorem St.onW (h : St w0 lo1 nb1 gw1 gm1 lo2 nb2 gw2 gm2 gr1 gr2 gk N n c0 m d0 E R A B W kw kr kv ks rows) (hg : W.grownBy W' (some gw1)) (hw : WalkOk lo1 nb1 W' gw1 gm1 N E R k') : St w0 lo1 nb1 gw1 gm1 lo2 nb2 gw2 gm2 gr1 gr2 gk N n c0 m d0 E R A B W' k' kr kv ks rows := by
  obtain ⟨cs, hb⟩ := h.w.blk
  obtain ⟨cs2, hk⟩ := h.k.blk
  exact ⟨h.lie, hw, h.r.otherW hg h.lie.w1 hb, h.v.other2 h.w hg (.inl h.lie.w12) h.lie.wne, h.s.otherW hg h.lie.w1 hb, h.k.other hg hb (hb.ne_ hk (by decide)) ⟨by decide, by decide⟩, tab_walk h.w h.t hg, below_grown h.b hg h.lie.w1⟩
theorem St.onV (h : St w0 lo1 nb1 gw1 gm1 lo2 nb2 gw2 gm2 gr1 gr2 gk N n c0 m d0 E R A B W kw kr kv ks rows) (hg : W.grownBy W' (some gw2)) (hw : WalkOk lo2 nb2 W' gw2 gm2 N E R k') : St w0 lo1 nb1 gw1 gm1 lo2 nb2 gw2 gm2 gr1 gr2 gk N n c0 m d0 E R A B W' kw kr k' ks rows := by
  obtain ⟨cs, hb⟩ := h.v.blk
  obtain ⟨cs2, hk⟩ := h.k.blk
  exact ⟨h.lie, h.w.other2 h.v hg (.inr h.lie.w21) (fun e => h.lie.wne e.symm), h.r.otherW hg h.lie.w2 hb, hw, h.s.otherW hg h.lie.w2 hb, h.k.other hg hb (hb.ne_ hk (by decide)) ⟨by decide, by decide⟩, tab_walk h.v h.t hg, below_grown h.b hg h.lie.w2⟩
theorem St.onR (h : St w0 lo1 nb1 gw1 gm1 lo2 nb2 gw2 gm2 gr1 gr2 gk N n c0 m d0 E R A B W kw kr kv ks rows) (hg : W.grownBy W' (some gr1)) (hw : RWalk w0.heap.size W' gr1 N E R A n c0 B m d0 k') : St w0 lo1 nb1 gw1 gm1 lo2 nb2 gw2 gm2 gr1 gr2 gk N n c0 m d0 E R A B W' kw k' kv ks rows := by
  obtain ⟨cs, hb⟩ := h.r.blk
  obtain ⟨cs2, hk⟩ := h.k.blk
  exact ⟨h.lie, h.w.otherR hg (.inl h.lie.r11) hb, hw, h.v.otherR hg (.inl h.lie.r12) hb, h.s.other hg h.lie.r1 h.lie.rne hb (by decide), h.k.other hg hb (hb.ne_ hk (by decide)) ⟨by decide, by decide⟩, tab_grown h.t hg (by have := h.lie.z; have := h.lie.r1; omega), below_grown h.b hg h.lie.r1⟩
theorem St.onS (h : St w0 lo1 nb1 gw1 gm1 lo2 nb2 gw2 gm2 gr1 gr2 gk N n c0 m d0 E R A B W kw kr kv ks rows) (hg : W.grownBy W' (some gr2)) (hw : RWalk w0.heap.size W' gr2 N E R A n c0 B m d0 k') : St w0 lo1 nb1 gw1 gm1 lo2 nb2 gw2 gm2 gr1 gr2 gk N n c0 m d0 E R A B W' kw kr kv k' rows := by
  obtain ⟨cs, hb⟩ := h.s.blk
  obtain ⟨cs2, hk⟩ := h.k.blk
  exact ⟨h.lie, h.w.otherR hg (.inl h.lie.r21) hb, h.r.other hg h.lie.r2 (fun e => h.lie.rne e.symm) hb (by decide), h.v.otherR hg (.inl h.lie.r22) hb, hw, h.k.other hg hb (hb.ne_ hk (by decide)) ⟨by decide, by decide⟩, tab_grown h.t hg (by have := h.lie.z; have := h.lie.r2; omega), below_grown h.b hg h.lie.r2⟩
theorem St.book (h : St w0 lo1 nb1 gw1 gm1 lo2 nb2 gw2 gm2 gr1 gr2 gk N n c0 m d0 E R A B W kw kr kv ks rows) (hf : Fr gk W W') (hk : BookOk W' gk rows') : St w0 lo1 nb1 gw1 gm1 lo2 nb2 gw2 gm2 gr1 gr2 gk N n c0 m d0 E R A B W' kw kr kv ks rows' :=
  ⟨h.lie, h.w.fr hf h.lie.k1, h.r.fr hf h.lie.k0, h.v.fr hf h.lie.k2, h.s.fr hf h.lie.k0, hk, h.t.fr hf (by have := h.lie.z; have := h.lie.k0; omega), Below.fr h.b hf h.lie.k0 h.b.size⟩
/-- the calls, from what lies in memory -/
theorem St.at1 (h : St w0 lo1 nb1 gw1 gm1 lo2 nb2 gw2 gm2 gr1 gr2 gk N n c0 m d0 E R A B W kw kw kv ks rows) (hN : N ≤ 1099511627776) (hl : rows.length ≤ 1000000) : Calls Tryd.prog 13 #[.pointer (some ⟨gk, 0, none⟩), .pointer (some ⟨gw1, 0, none⟩), .pointer (some ⟨gr1, 0, none⟩)] W fun e w' => e = .returned (.bool true) ∧ ∃ r1 r2, St w0 lo1 nb1 gw1 gm1 lo2 nb2 gw2 gm2 gr1 gr2 gk N n c0 m d0 E R A B w' kw kw kv ks (rows ++ [r1, r2]) :=
  (at_book lo1 nb1 gw1 gm1 w0.heap.size gr1 N n c0 m d0 gk E R A B kw rows hN hl W h.w h.r h.t h.k h.lie.k1 h.lie.k0 (by have := h.lie.z; have := h.lie.k0; omega)).mono fun e w' ⟨h1, ⟨r1, r2, h2⟩, h3⟩ => ⟨h1, r1, r2, h.book h3 h2⟩
theorem St.at2 (h : St w0 lo1 nb1 gw1 gm1 lo2 nb2 gw2 gm2 gr1 gr2 gk N n c0 m d0 E R A B W kw kr kv kv rows) (hN : N ≤ 1099511627776) (hl : rows.length ≤ 1000000) : Calls Tryd.prog 13 #[.pointer (some ⟨gk, 0, none⟩), .pointer (some ⟨gw2, 0, none⟩), .pointer (some ⟨gr2, 0, none⟩)] W fun e w' => e = .returned (.bool true) ∧ ∃ r1 r2, St w0 lo1 nb1 gw1 gm1 lo2 nb2 gw2 gm2 gr1 gr2 gk N n c0 m d0 E R A B w' kw kr kv kv (rows ++ [r1, r2]) :=
  (at_book lo2 nb2 gw2 gm2 w0.heap.size gr2 N n c0 m d0 gk E R A B kv rows hN hl W h.v h.s h.t h.k h.lie.k2 h.lie.k0 (by have := h.lie.z; have := h.lie.k0; omega)).mono fun e w' ⟨h1, ⟨r1, r2, h2⟩, h3⟩ => ⟨h1, r1, r2, h.book h3 h2⟩
theorem St.cw (h : St w0 lo1 nb1 gw1 gm1 lo2 nb2 gw2 gm2 gr1 gr2 gk N n c0 m d0 E R A B W kw kr kv ks rows) (cb : Nat) (hcb : cb < 256) : Calls Tryd.prog 14 #[.pointer (some ⟨gw1, 0, none⟩), .int .u8 (cb : Int)] W fun e w' => e = .returned (.tuple #[]) ∧ St w0 lo1 nb1 gw1 gm1 lo2 nb2 gw2 gm2 gr1 gr2 gk N n c0 m d0 E R A B w' (byteW E N R kw cb) kr kv ks rows :=
  (byte_any lo1 nb1 gw1 gm1 N E R kw cb hcb W h.w h.t).mono fun e w' ⟨h1, h2, h3⟩ => ⟨h1, h.onW h3 h2⟩
theorem St.cv (h : St w0 lo1 nb1 gw1 gm1 lo2 nb2 gw2 gm2 gr1 gr2 gk N n c0 m d0 E R A B W kw kr kv ks rows) (cb : Nat) (hcb : cb < 256) : Calls Tryd.prog 14 #[.pointer (some ⟨gw2, 0, none⟩), .int .u8 (cb : Int)] W fun e w' => e = .returned (.tuple #[]) ∧ St w0 lo1 nb1 gw1 gm1 lo2 nb2 gw2 gm2 gr1 gr2 gk N n c0 m d0 E R A B w' kw kr (byteW E N R kv cb) ks rows :=
  (byte_any lo2 nb2 gw2 gm2 N E R kv cb hcb W h.v h.t).mono fun e w' ⟨h1, h2, h3⟩ => ⟨h1, h.onV h3 h2⟩
theorem St.cr (h : St w0 lo1 nb1 gw1 gm1 lo2 nb2 gw2 gm2 gr1 gr2 gk N n c0 m d0 E R A B W kw kr kv ks rows) (cb : Nat) (hcb : cb < 256) : Calls Tryd.prog 15 #[.pointer (some ⟨gr1, 0, none⟩), .int .u8 (cb : Int)] W fun e w' => e = .returned (.tuple #[]) ∧ St w0 lo1 nb1 gw1 gm1 lo2 nb2 gw2 gm2 gr1 gr2 gk N n c0 m d0 E R A B w' kw (byteW E N R kr cb) kv ks rows :=
  (rbyte_any w0.heap.size gr1 N n c0 m d0 E R A B kr cb hcb W h.r).mono fun e w' ⟨h1, h2, h3⟩ => ⟨h1, h.onR h3 h2⟩
theorem St.cs (h : St w0 lo1 nb1 gw1 gm1 lo2 nb2 gw2 gm2 gr1 gr2 gk N n c0 m d0 E R A B W kw kr kv ks rows) (cb : Nat) (hcb : cb < 256) : Calls Tryd.prog 15 #[.pointer (some ⟨gr2, 0, none⟩), .int .u8 (cb : Int)] W fun e w' => e = .returned (.tuple #[]) ∧ St w0 lo1 nb1 gw1 gm1 lo2 nb2 gw2 gm2 gr1 gr2 gk N n c0 m d0 E R A B w' kw kr kv (byteW E N R ks cb) rows :=
  (rbyte_any w0.heap.size gr2 N n c0 m d0 E R A B ks cb hcb W h.s).mono fun e w' ⟨h1, h2, h3⟩ => ⟨h1, h.onS h3 h2⟩
theorem St.whole (h : St w0 lo1 nb1 gw1 gm1 lo2 nb2 gw2 gm2 gr1 gr2 gk N n c0 m d0 E R A B W kw kr kv ks rows) (hl : rows.length ≤ 1000) : Calls Tryd.prog 16 #[.pointer (some ⟨gk, 0, none⟩)] W fun e w' => e = .returned (.bool true) ∧ Below w0.heap.size w0 w' :=
  (whole_book gk rows hl W h.k).mono fun e w' ⟨h1, h2⟩ => ⟨h1, h.b.trans (below_le h2 h.lie.k0)⟩
end
theorem run_buildK (w : World) : (Instr.build 43 #[]).run Tryd.prog w = .ok (.agg #[.slice none 0 0, .slice none 0 0]) w := by kernel_rfl
theorem run_boxK (w : World) : (Instr.box 43 (.agg #[.slice none 0 0, .slice none 0 0])).run Tryd.prog w = .ok (.pointer (some ⟨w.heap.size, 0, none⟩)) (w.alloc (.cells #[.slice none 0 0, .slice none 0 0] 43)) := by kernel_rfl
section
variable {ops : Array Oper} {rest : List Oper} {o : Oper} {a : Act} {w : World} {Q : Exit → Act → World → Prop}
theorem wl_buildK (hgd : o.guard = none) (ho : o.op = .build 43 #[])
    (h : wpList Tryd.prog ops Q rest (a.put o.dst (.agg #[.slice none 0 0, .slice none 0 0])) w) : wpList Tryd.prog ops Q (o :: rest) a w := by
  refine wpList_plain hgd fun _ hK => ?_
  unfold Oper.wp execOp
  have e : ((#[] : Array (Nat × Operand)).map fun p : Nat × Operand => (p.1, a.eval p.2)) = #[] := by simp
  simp only [ho, e, Sem.run_bind, run_buildK, Result.andThen_ok, Sem.run_pure]
  exact hK _ _ h
theorem wl_boxK (hgd : o.guard = none) (x : Operand) (ho : o.op = .box 43 x) (hx : a.eval x = .agg #[.slice none 0 0, .slice none 0 0])
    (h : wpList Tryd.prog ops Q rest (a.put o.dst (.pointer (some ⟨w.heap.size, 0, none⟩))) (w.alloc (.cells #[.slice none 0 0, .slice none 0 0] 43))) : wpList Tryd.prog ops Q (o :: rest) a w := by
  refine wpList_plain hgd fun _ hK => ?_
  unfold Oper.wp execOp
  simp only [ho, hx, Sem.run_bind, run_boxK, Result.andThen_ok, Sem.run_pure]
  exact hK _ _ h
end
theorem book_new {W : World} {gk : Nat} (h : Blk W gk 43 #[.slice none 0 0, .slice none 0 0]) : BookOk W gk [] :=
  ⟨none, 0, 0, none, 0, 0, h, Own.nil_ _ _ _ _ _, Own.nil_ _ _ _ _ _, fun j e _ => absurd e (by simp [Value.ownBlock]), (fun r hr => absurd hr (by simp)), List.Pairwise.nil⟩
end Go.Proofs.YtgahdookojbbiaaDoor
