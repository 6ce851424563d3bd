/- Part 4 of a proof; packed: the texts that it was made of follow one another. No condition beyond those named in each lemma. -/
import Derived.Test.YtkedgombccdamaaDoorPe1
import Derived.Test.YtkedgombccdamaaDoorPe3
namespace Go.Proofs.YtkedgombccdamaaDoor
open Go.RowKit
set_option linter.unusedVariables false
set_option linter.unusedSimpArgs false

structure GoInv (E : List Edg) (N : Nat) (b e : Bool) (x y : Nat) (L : List Nat) : Prop where
  sub : ∀ i, x.testBit i = true → y.testBit i = true
  bel : below y N
  rch : ∀ i, y.testBit i = true → Reach E b e x i
  inL : ∀ n ∈ L, y.testBit n = true
  cls : ∀ d ∈ E, may b e d = true → y.testBit d.fr.toNat = true → d.fr.toNat ∉ L → y.testBit d.tt.toNat = true
  cnt : L.length ≤ (bitsTo y N).length
/-- while the edges of state n are gone through, j of them are behind -/
structure GoIn (E : List Edg) (N : Nat) (b e : Bool) (x M n j y : Nat) (L : List Nat) : Prop where
  sub : ∀ i, x.testBit i = true → y.testBit i = true
  bel : below y N
  rch : ∀ i, y.testBit i = true → Reach E b e x i
  inL : ∀ n ∈ L, y.testBit n = true
  cls : ∀ d ∈ E, may b e d = true → y.testBit d.fr.toNat = true → d.fr.toNat ∉ L → d.fr.toNat ≠ n → y.testBit d.tt.toNat = true
  gone : ∀ d ∈ (edgesAt E n).take j, may b e d = true → y.testBit d.tt.toNat = true
  cur : y.testBit n = true
  cnt : L.length + 1 ≤ (bitsTo y N).length
  mu : 2 * (N - (bitsTo y N).length) + L.length < M
theorem GoInv.start {E : List Edg} {N x : Nat} {b e : Bool} (hx : below x N) : GoInv E N b e x x (bitsTo x N) :=
  ⟨fun _ h => h, hx, fun _ h => .base h, fun n hn => ((mem_bitsTo _ _ _).1 hn).2, fun d _ _ h1 h2 => (h2 ((mem_bitsTo _ _ _).2 ⟨hx _ h1, h1⟩)).elim, Nat.le_refl _⟩
theorem GoInv.end_ {E : List Edg} {N x y : Nat} {b e : Bool} (hE : ∀ d ∈ E, 0 ≤ d.tt ∧ d.tt < N) (hx : below x N) (h : GoInv E N b e x y []) : y = spreadN E N b e x :=
  spread_is hE hx h.sub (fun d hd hm h1 => h.cls d hd hm h1 (by simp)) h.rch
theorem GoInv.pop {E : List Edg} {N x y : Nat} {b e : Bool} {L : List Nat} {n : Nat} (h : GoInv E N b e x y (L ++ [n])) : GoIn E N b e x (2 * (N - (bitsTo y N).length) + (L.length + 1)) n 0 y L :=
  ⟨h.sub, h.bel, h.rch, fun m hm => h.inL m (by simp [hm]), fun d hd hm h1 h2 h3 => h.cls d hd hm h1 (by simp [h2, h3]), by simp, h.inL n (by simp), by have := h.cnt; simpa using this, by omega⟩
theorem GoIn.finish {E : List Edg} {N x M n j y : Nat} {b e : Bool} {L : List Nat} (hE : ∀ d ∈ E, 0 ≤ d.fr ∧ d.fr < N) (h : GoIn E N b e x M n j y L) (hj : (edgesAt E n).length ≤ j) : GoInv E N b e x y L :=
  ⟨h.sub, h.bel, h.rch, h.inL, fun d hd hm h1 h2 => by
    by_cases e1 : d.fr.toNat = n
    · refine h.gone d ?_ hm
      rw [List.take_of_length_le hj, mem_edgesAt]
      have := hE d hd
      exact ⟨hd, by omega⟩
    · exact h.cls d hd hm h1 h2 e1, by have := h.cnt; omega⟩
theorem GoIn.skip {E : List Edg} {N x M n j y : Nat} {b e : Bool} {L : List Nat} (h : GoIn E N b e x M n j y L) (hj : j < (edgesAt E n).length) (hd : may b e (edgesAt E n)[j] = true → y.testBit ((edgesAt E n)[j]).tt.toNat = true) : GoIn E N b e x M n (j + 1) y L :=
  ⟨h.sub, h.bel, h.rch, h.inL, h.cls, fun d hd2 hm => by
    rw [List.take_succ_eq_append_getElem hj, List.mem_append, List.mem_singleton] at hd2
    rcases hd2 with hd2 | rfl
    · exact h.gone d hd2 hm
    · exact hd hm, h.cur, h.cnt, h.mu⟩
theorem GoIn.add {E : List Edg} {N x M n j y : Nat} {b e : Bool} {L : List Nat} (hE : ∀ d ∈ E, 0 ≤ d.tt ∧ d.tt < N) (h : GoIn E N b e x M n j y L) (hj : j < (edgesAt E n).length) (hm : may b e (edgesAt E n)[j] = true) (hn : y.testBit ((edgesAt E n)[j]).tt.toNat = false) :
    GoIn E N b e x M n (j + 1) (y ||| 2 ^ ((edgesAt E n)[j]).tt.toNat) (L ++ [((edgesAt E n)[j]).tt.toNat]) := by
  have hmem := List.getElem_mem hj
  rw [mem_edgesAt] at hmem
  obtain ⟨d, hd⟩ : ∃ d, d = (edgesAt E n)[j] := ⟨_, rfl⟩
  rw [← hd] at hm hn hmem ⊢
  have htt := hE d hmem.1
  have htN : d.tt.toNat < N := by omega
  have hadd := bits_add htN hn
  have hlen := bitsTo_length (y ||| 2 ^ d.tt.toNat) N
  have up : ∀ i, y.testBit i = true → (y ||| 2 ^ d.tt.toNat).testBit i = true := fun i hi => by rw [testBit_or_pow, hi]; rfl
  refine ⟨fun i hi => up i (h.sub i hi), below_or h.bel (below_pow htN), fun i hi => ?_, fun m hm2 => ?_, fun d2 hd2 hm2 h1 h2 h3 => ?_, fun d2 hd2 hm2 => ?_, up n h.cur, ?_, ?_⟩
  · rw [testBit_or_pow, Bool.or_eq_true, decide_eq_true_eq] at hi
    rcases hi with hi | rfl
    · exact h.rch i hi
    · refine .step hmem.1 hm ?_
      rw [hmem.2]
      exact h.rch n h.cur
  · rw [List.mem_append, List.mem_singleton] at hm2
    rcases hm2 with hm2 | rfl
    · exact up m (h.inL m hm2)
    · rw [testBit_or_pow]; simp
  · rw [testBit_or_pow, Bool.or_eq_true, decide_eq_true_eq] at h1
    rw [List.mem_append, List.mem_singleton, not_or] at h2
    rcases h1 with h1 | h1
    · exact up _ (h.cls d2 hd2 hm2 h1 h2.1 h3)
    · exact (h2.2 h1.symm).elim
  · rw [List.take_succ_eq_append_getElem hj, List.mem_append, List.mem_singleton] at hd2
    rcases hd2 with hd2 | hd2
    · exact up _ (h.gone d2 hd2 hm2)
    · rw [hd2, ← hd, testBit_or_pow]; simp
  · have := h.cnt
    rw [List.length_append, hadd]
    simp only [List.length_singleton]
    omega
  · have := h.mu
    rw [hadd] at hlen ⊢
    rw [List.length_append]
    simp only [List.length_singleton]
    omega

section
open Classical
end
end Go.Proofs.YtkedgombccdamaaDoor
namespace Go.Proofs.YtkedgombccdamaaDoor
open Go.RowKit Go.Shelf Go.Maps
set_option linter.unusedVariables false
set_option linter.unusedSimpArgs false
attribute [local go_sem] Oper.semAt_some

/-- all but two blocks is as it was -/
structure Grown2 (W W' : World) (a b : Nat) : Prop where
  os : W'.os = W.os
  tape : W'.tape = W.tape
  output : W'.output = W.output
  size : W.heap.size ≤ W'.heap.size
  block : ∀ k, k < W.heap.size → k ≠ a → k ≠ b → W'.heap[k]? = W.heap[k]?
theorem Grown2.fst {W W' : World} {a b : Nat} (h : W.grownBy W' (some a)) : Grown2 W W' a b := ⟨h.os, h.tape, h.output, h.size, fun k hk h1 _ => h.block k hk (by simpa using h1)⟩
theorem Grown2.snd {W W' : World} {a b : Nat} (h : W.grownBy W' (some b)) : Grown2 W W' a b := ⟨h.os, h.tape, h.output, h.size, fun k hk _ h1 => h.block k hk (by simpa using h1)⟩
theorem Grown2.below {W W' : World} {a b : Nat} (h : Below W.heap.size W W') : Grown2 W W' a b := ⟨h.os, h.tape, h.output, h.size, fun k hk _ _ => h.block k hk⟩
theorem Grown2.trans {W W' W2 : World} {a b : Nat} (h : Grown2 W W' a b) (k : Grown2 W' W2 a b) : Grown2 W W2 a b := ⟨k.os.trans h.os, k.tape.trans h.tape, k.output.trans h.output, Nat.le_trans h.size k.size, fun i hi h1 h2 => (k.block i (Nat.lt_of_lt_of_le hi h.size) h1 h2).trans (h.block i hi h1 h2)⟩
/-- the cells of a walk -/
def walkC (gm : Nat) (v : Value) (r : Nat) (b : Bool) : Array Value := #[.pointer (some ⟨gm, 0, none⟩), v, .int .u32 (r : Int), .bool b]
/-- the machine stands in the blocks from lo to nb, and in no other -/
def MachIn (lo nb : Nat) (W : World) (gm N : Nat) (E : List Edg) (R : List Nat) : Prop :=
  ∀ W', (∀ k, lo ≤ k → k < nb → W'.heap[k]? = W.heap[k]?) → W.heap.size ≤ W'.heap.size → MachOk nb W' gm N E R
theorem MachIn.ok {lo nb gm N : Nat} {W : World} {E : List Edg} {R : List Nat} (h : MachIn lo nb W gm N E R) : MachOk nb W gm N E R := h W (fun _ _ _ => rfl) (Nat.le_refl _)
theorem MachIn.keep {lo nb gm N : Nat} {W W' : World} {E : List Edg} {R : List Nat} (h : MachIn lo nb W gm N E R) (hk : ∀ k, lo ≤ k → k < nb → W'.heap[k]? = W.heap[k]?) (hs : W.heap.size ≤ W'.heap.size) : MachIn lo nb W' gm N E R :=
  fun W2 h1 h2 => h W2 (fun k a b => (h1 k a b).trans (hk k a b)) (Nat.le_trans hs h2)
theorem MachIn.grown {lo nb gm N r : Nat} {W W' : World} {E : List Edg} {R : List Nat} (h : MachIn lo nb W gm N E R) (hg : W.grownBy W' (some r)) (hr : r < lo ∨ nb ≤ r) : MachIn lo nb W' gm N E R :=
  h.keep (fun k h1 h2 => hg.block k (by have := h.ok.2.2.2.2.2.1; omega) (by intro e; injection e with e; omega)) hg.size
/-- a walk in memory -/
def WalkOk (lo nb : Nat) (W : World) (gw gm N : Nat) (E : List Edg) (R : List Nat) (k : Wk) : Prop :=
  MachIn lo nb W gm N E R ∧ nb ≤ gw ∧ k.met < 4294967296 ∧ below k.at_ N ∧ ∃ g c, gw ≠ g ∧ Blk W gw 149 (walkC gm (.slice (some ⟨g, 0, none⟩) (wordsFor N) c) k.met k.first) ∧
    Own W nb 50 1 encU (.slice (some ⟨g, 0, none⟩) (wordsFor N) c) (wordsN k.at_ (wordsFor N))
theorem WalkOk.lt {lo nb gw gm N : Nat} {W : World} {E : List Edg} {R : List Nat} {k : Wk} (h : WalkOk lo nb W gw gm N E R k) : gw < W.heap.size := by
  obtain ⟨_, _, _, _, g, c, _, h5, _⟩ := h
  exact h5.lt
/-- a walk is as it was where another block than its own has been turned -/
theorem WalkOk.other {lo nb gw gm N r : Nat} {W W' : World} {E : List Edg} {R : List Nat} {k : Wk} {cs : Array Value} (h : WalkOk lo nb W gw gm N E R k) (hg : W.grownBy W' (some r)) (hr : r < lo ∨ nb ≤ r) (hne : r ≠ gw) (hb : Blk W r 149 cs) : WalkOk lo nb W' gw gm N E R k := by
  obtain ⟨h1, h2, h3, h4, g, c, h5, h6, h7⟩ := h
  exact ⟨h1.grown hg hr, h2, h3, h4, g, c, h5, blk_grown h6 hg (fun e => hne e.symm), own_box h7 hb hg (by decide)⟩
theorem WalkOk.then_ {lo nb gw gm N : Nat} {W W' : World} {E : List Edg} {R : List Nat} {k : Wk} (h : WalkOk lo nb W gw gm N E R k) (hb : Below W.heap.size W W') : WalkOk lo nb W' gw gm N E R k := by
  obtain ⟨h1, h2, h3, h4, g, c, h5, h6, h7⟩ := h
  exact ⟨h1.keep (fun i _ hi => hb.block i (by have := h1.ok.2.2.2.2.2.1; omega)) hb.size, h2, h3, h4, g, c, h5, blk_then h6 hb, h7.then_ hb⟩
end Go.Proofs.YtkedgombccdamaaDoor
namespace Go.Proofs.YtkedgombccdamaaDoor
open Go.RowKit Go.Maps
set_option linter.unusedVariables false
set_option linter.unusedSimpArgs false
attribute [local go_sem] Oper.semAt_some

/-- a string, by its bytes -/
def bs (l : List UInt8) : ByteArray := ⟨l.toArray⟩
theorem bs_size (l : List UInt8) : (bs l).size = l.length := by simp [bs, ByteArray.size]
theorem bs_app (l m : List UInt8) : bs l ++ bs m = bs (l ++ m) := by
  apply ByteArray.ext
  rw [ByteArray.data_append]
  simp [bs]
theorem bs_inj {l m : List UInt8} (h : bs l = bs m) : l = m := by
  have := congrArg (fun b => b.data.toList) h
  simpa [bs] using this
theorem run_add_str (l m : List UInt8) (h : l.length + m.length ≤ 1099511627776) (w : World) : (binOp .add 9 (.string (bs l)) (.string (bs m))).run Tryd.prog w = .ok (.string (bs (l ++ m))) w := by
  rw [binOp_string_add]
  have h1 := bs_size l
  have h2 := bs_size m
  have h3 : ¬ ((((bs l).size + (bs m).size : Nat) : Int) > IntKind.i64.max) := by
    rw [h1, h2]
    have : IntKind.i64.max = 9223372036854775807 := by decide
    omega
  unfold Op.stringOp
  simp only [h3, if_false, bs_app]
  rfl
theorem conv_u32_u64 (r : Nat) (h : r < 4294967296) (w : World) : (Go.convert 43 50 (.int .u32 (r : Int))).run Tryd.prog w = .ok (.int .u64 (r : Int)) w := by
  have e : (Go.convert 43 50 (.int .u32 (r : Int))).run Tryd.prog w = .ok (.int .u64 (IntKind.u64.wrap (r : Int))) w := by kernel_rfl
  rw [e]
  have : IntKind.u64.wrap (r : Int) = (r : Int) := by simp [IntKind.wrap, IntKind.bits, IntKind.signed]; omega
  rw [this]
theorem enter_fu (args : Array Value) (w : World) : (callFunc 65 args).run Tryd.prog w = .ok (.enter 65 args) w := by kernel_rfl
section
variable {ops : Array Oper} {S : Nat → GSpec} {Q : Exit → Act → World → Prop} {i : Nat} {o : Oper} {a : Act} {w : World} {rest : List Oper}
theorem gs_add_str (hw : Region.wanted o (yielded ops a.tmps) = true) (x y : Operand) (t2 : TypeId) (ho : o.op = .binOp .add 9 x y t2) (l m : List UInt8) (hx : a.eval x = .string (bs l)) (hy : a.eval y = .string (bs m)) (h : l.length + m.length ≤ 1099511627776) (hp : (S i).p (.string (bs (l ++ m))) w) : GStep Tryd.prog ops S Q i o a w :=
  gs_bin hw _ _ _ x y ho _ _ _ hx hy (by rfl) (run_add_str l m h w) hp
theorem wl_add_str (hgd : o.guard = none) (x y : Operand) (t2 : TypeId) (ho : o.op = .binOp .add 9 x y t2) (l m : List UInt8) (hx : a.eval x = .string (bs l)) (hy : a.eval y = .string (bs m)) (h : l.length + m.length ≤ 1099511627776) (hK : wpList Tryd.prog ops Q rest (a.put o.dst (.string (bs (l ++ m)))) w) : wpList Tryd.prog ops Q (o :: rest) a w :=
  wl_bin hgd _ _ _ x y ho _ _ _ hx hy (by rfl) (run_add_str l m h w) hK
theorem gs_u32_u64 (hw : Region.wanted o (yielded ops a.tmps) = true) (x : Operand) (ho : o.op = .convert 43 50 x) (r : Nat) (hx : a.eval x = .int .u32 (r : Int)) (h : r < 4294967296) (hp : (S i).p (.int .u64 (r : Int)) w) : GStep Tryd.prog ops S Q i o a w :=
  gs_run hw (v := .int .u64 (r : Int)) (by unfold execOp; simp only [ho, hx, Sem.run_bind, conv_u32_u64 r h, Result.andThen_ok, Sem.run_pure]) (Below.refl _ _) hp
end
/-- a moment's cells -/
def momC (A : Option Addr) (k c r e : Nat) : Array Value := #[.slice A k c, .int .u32 (r : Int), .int .u32 (e : Int)]
theorem field_mom_1 (b off : Nat) (w : World) : (Instr.fieldAt 92 (.pointer (some ⟨b, off, none⟩)) 1).run Tryd.prog w = .ok (.pointer (some ⟨b, off + 1, none⟩)) w := by kernel_rfl
theorem field_mom_2 (b off : Nat) (w : World) : (Instr.fieldAt 92 (.pointer (some ⟨b, off, none⟩)) 2).run Tryd.prog w = .ok (.pointer (some ⟨b, off + 2, none⟩)) w := by kernel_rfl
theorem join36_len (l : List Nat) : (join36 l).length ≤ 15 * l.length := by
  induction l with
  | nil => simp [join36]
  | cons u l ih =>
    have := dig36_len u
    simp [join36]
    omega
set_option maxRecDepth 100000 in
set_option maxHeartbeats 4000000 in
theorem key_any (A : Option Addr) (k c r e : Nat) (ws : List Nat) (hk : k = ws.length) (hkl : k ≤ 1048576) (hr : r < 4294967296) (he : e < 4294967296) (hws : ∀ u ∈ ws, u < 18446744073709551616) (w : World) (hs : SliceOf w w.heap.size 1 encU A ws) :
    Calls Tryd.prog 37 #[.agg (momC A k c r e)] w fun en w' => en = .returned (.string (bs (keyL r e ws))) ∧ Below w.heap.size w w' := by
  have Hk := Lib.hid hk
  have Hws := Lib.hid hws
  clear hk hws
  go_enter Tryd.func37, Tryd.ntmps37
  have hM := Blk.new w 92 (momC A k c r e)
  have hB1 : Below w.heap.size w (w.alloc (.cells (momC A k c r e) 92)) := below_alloc (Below.refl _ _) _
  go_upto_region 1 with (fail)
  obtain ⟨W1, hW1⟩ : ∃ y, y = w.alloc (.cells (momC A k c r e) 92) := ⟨_, rfl⟩
  rw [← hW1] at hM hB1 ⊢
  clear hW1
  obtain ⟨gm, hgm⟩ : ∃ y, y = w.heap.size := ⟨_, rfl⟩
  rw [← hgm] at hM ⊢
  clear hgm
  refine wp_region_steps 11 [eqS (.pointer (some ⟨gm, 1, none⟩)), eqS (.int .u32 (((r : Nat) : Int))), eqS (.int .u64 (((r : Nat) : Int))), eqS (.string (bs (dig36 r))), eqS (.string (bs (dig36 r ++ [32]))), eqS (.pointer (some ⟨gm, 2, none⟩)), eqS (.int .u32 (((e : Nat) : Int))), eqS (.int .u64 (((e : Nat) : Int))), eqS (.string (bs (dig36 e))), eqS (.string (bs (dig36 r ++ [32] ++ dig36 e))), eqS (.string (bs (dig36 r ++ [32] ++ dig36 e)))] [6, 7, 8, 9, 10, 11, 12, 13, 14, 15, 3] follows_mixed (by kernel_rfl) (by kernel_rfl) ?_ ?_
  · skip
    refine Steps.cons (fun a' w' hG hB dep => gs_field (want_none rfl) _ _ _ rfl gm (0) (1) (hG.other 1 rfl) (fun wz => field_mom_1 gm (0) wz) rfl) ?_
    refine Steps.cons (fun a' w' hG hB dep => gs_load1 (want_none rfl) _ _ rfl gm (1) (dep 0 rfl 6 rfl) (.int .u32 (((r : Nat) : Int))) ((blk_then hM hB).cellv (i := 1) rfl) _ Tryd.underlying43 rfl rfl) ?_
    refine Steps.cons (fun a' w' hG hB dep => gs_u32_u64 (want_none rfl) _ rfl r (dep 1 rfl 7 rfl) hr rfl) ?_
    refine Steps.cons (fun a' w' hG hB dep => gs_call (want_none rfl) _ _ _ rfl enter_fu #[(.int .u64 (((r : Nat) : Int))), .int .i64 36] (map2 (dep 2 rfl 8 rfl) rfl) (ret_step (uint36_any r (by omega) _) (fun _ => rfl))) ?_
    refine Steps.cons (fun a' w' hG hB dep => gs_add_str (want_none rfl) _ _ _ rfl (dig36 r) ([32]) (dep 3 rfl 9 rfl) rfl (by have := dig36_len r; have := dig36_len e; simp [bs_size]; omega) rfl) ?_
    refine Steps.cons (fun a' w' hG hB dep => gs_field (want_none rfl) _ _ _ rfl gm (0) (2) (hG.other 1 rfl) (fun wz => field_mom_2 gm (0) wz) rfl) ?_
    refine Steps.cons (fun a' w' hG hB dep => gs_load1 (want_none rfl) _ _ rfl gm (2) (dep 5 rfl 11 rfl) (.int .u32 (((e : Nat) : Int))) ((blk_then hM hB).cellv (i := 2) rfl) _ Tryd.underlying43 rfl rfl) ?_
    refine Steps.cons (fun a' w' hG hB dep => gs_u32_u64 (want_none rfl) _ rfl e (dep 6 rfl 12 rfl) he rfl) ?_
    refine Steps.cons (fun a' w' hG hB dep => gs_call (want_none rfl) _ _ _ rfl enter_fu #[(.int .u64 (((e : Nat) : Int))), .int .i64 36] (map2 (dep 7 rfl 13 rfl) rfl) (ret_step (uint36_any e (by omega) _) (fun _ => rfl))) ?_
    refine Steps.cons (fun a' w' hG hB dep => gs_add_str (want_none rfl) _ _ _ rfl (dig36 r ++ [32]) (dig36 e) (dep 4 rfl 10 rfl) (dep 8 rfl 14 rfl) (by have := dig36_len r; have := dig36_len e; simp [bs_size]; omega) rfl) ?_
    refine Steps.cons (fun a' w' hG hB dep => gs_assign (want_none rfl) _ rfl (id (dep 9 rfl 15 rfl))) ?_
    exact Steps.nil
  intro uu w2 hB2 ans
  have u3 : uu 3 = .string (bs ((dig36 r ++ [32]) ++ dig36 e)) := ans 10 3 (by decide) rfl
  clear ans
  simp only [putAll, List.foldl_cons, List.foldl_nil, Act.put, List.setIfInBounds_toArray, List.set_cons_zero, List.set_cons_succ, u3]
  clear u3
  simp only [List.drop]
  refine wpList_nil ?_
  have e0 : (dig36 r ++ [32]) ++ dig36 e = keyL r e (ws.take 0) := by simp [keyL, join36]
  rw [e0]
  replace hM := blk_then hM hB2
  replace hB1 := below_then hB1 hB2
  have c0 : w2.cell? ⟨gm, 0, none⟩ = some (.slice A k c) := hM.cellv (i := 0) rfl
  clear e0 hB2
  go_wp2_with (fail)
  go_loopw [3, 19] (fun sv iv wr => ∃ j : Nat, j ≤ k ∧ iv = .int .i64 j ∧ sv = .string (bs (keyL r e (ws.take j))) ∧ Below w.heap.size w wr) (fun _ iv _ => k - (intOf iv).toNat)
  case atStart => exact ⟨0, by omega, rfl, rfl, hB1⟩
  case round =>
    clear hB1 c0 hM
    obtain ⟨j, hj, rfl, rfl, hB⟩ := hrel
    by_cases hjk : j < k
    · have hjI : (j : Int) < k := by omega
      have hjb : j < 1099511628000 := by omega
      have hjl : j < ws.length := by rw [← Hk.out]; exact hjk
      obtain ⟨ba, off, rfl, hba, hrows⟩ := hs.at_ (by omega)
      obtain ⟨u, hu⟩ : ∃ u, u = ws[j] := ⟨_, rfl⟩
      have hul : u < 18446744073709551616 := by rw [hu]; exact Hws.out _ (List.getElem_mem hjl)
      have hc : wr.cell? ⟨ba, off + j, none⟩ = some (.int .u64 (u : Int)) := by
        have := ((hrows j hjl).keep (hB.block ba (by omega))) 0 _ rfl
        rw [Nat.mul_one, Nat.add_zero, ← hu] at this
        exact this
      have hkey : keyL r e (ws.take (j + 1)) = keyL r e (ws.take j) ++ ([32] ++ dig36 u) := by
        rw [List.take_succ_eq_append_getElem hjl, ← hu]
        unfold keyL
        rw [← List.cons_append, join36_snoc]
        simp
      have hlen : (keyL r e (ws.take j)).length ≤ 15 * k + 29 := by
        have h1 := dig36_len r
        have h2 := join36_len (e :: ws.take j)
        unfold keyL
        rw [List.length_append]
        simp only [List.length_cons, List.length_take] at h2
        omega
      have hlu := dig36_len u
      have Hkey := Lib.hid hkey
      obtain ⟨K, hK⟩ : ∃ K, K = keyL r e (ws.take j) := ⟨_, rfl⟩
      rw [← hK] at hlen ⊢
      have HK := Lib.hid hK
      have Hlen := Lib.hid (And.intro hlen hlu)
      clear hkey hlen hlu hK hu hrows
      go_wp2_with (first
        | (go_at_call 65; refine (uint36_any u hul _).mono ?_; rintro en w3 ⟨rfl, hB3⟩)
        | (refine wl_add_str rfl _ _ _ rfl [32] (dig36 u) rfl rfl (by have := Hlen.out; simp; omega) ?_)
        | (refine wl_add_str rfl _ _ _ rfl K ([32] ++ dig36 u) rfl rfl (by have := Hlen.out; simp; omega) ?_))
      exact ⟨⟨j + 1, by omega, rfl, by rw [Hkey.out, ← HK.out]; rfl, below_then hB hB3⟩, by simp only [intOf]; omega⟩
    · have hjI : ¬ (j : Int) < k := by omega
      have ht : ws.take j = ws := List.take_of_length_le (by have := Hk.out; omega)
      rw [ht]
      go_wp2_with (fail)
      go_ret
      exact ⟨rfl, hB⟩
end Go.Proofs.YtkedgombccdamaaDoor
namespace Go.Proofs.YtkedgombccdamaaDoor
open Go.RowKit Go.Maps
theorem Turn.above {lo hi lo2 hi2 : Nat} {w w' w2 : World} (h : Turn lo hi w w') (k : Turn lo2 hi2 w' w2) (hl : w.heap.size ≤ lo2) : Turn lo hi w w2 :=
  ⟨k.os.trans h.os, k.tape.trans h.tape, k.output.trans h.output, Nat.le_trans h.size k.size, fun j hj hh => (k.block j (by have := h.size; omega) (.inl (by omega))).trans (h.block j hj hh)⟩
end Go.Proofs.YtkedgombccdamaaDoor
namespace Go.Proofs.YtkedgombccdamaaDoor
open Go.RowKit Go.Shelf Go.Maps
set_option linter.unusedVariables false
set_option linter.unusedSimpArgs false
attribute [local go_sem] Oper.semAt_some

set_option maxHeartbeats 400000 in
theorem khas_any (A : Option Addr) (k c x n : Nat) (hn : n < 64 * k) (hkb : k ≤ 1099511627776) (B : Nat) (w : World) (hs : SliceOf w B 1 encU A (wordsN x k)) :
    Calls Tryd.prog 69 #[.slice A k c, .int .i64 n] w fun e w' => e = .returned (.bool (x.testBit n)) ∧ w' = w := by
  have hj : n / 64 < (wordsN x k).length := by rw [wordsN_length]; omega
  obtain ⟨b, off, rfl, hb, hrow⟩ := hs.at_ (by omega)
  have hc := hrow (n / 64) hj 0 _ rfl
  rw [wordsN_get] at hc
  have hc' : w.cell? ⟨b, off + n / 64, none⟩ = some (.int .u64 (wordN x (n / 64) : Nat)) := by rw [Nat.mul_one] at hc; exact hc
  have hk : n / 64 < k := by omega
  have hbit := u64_bit (n := n % 64) (wordN_lt' x (n / 64))
  rw [has_word] at hbit
  clear hc hrow hs
  go_enter Tryd.func69, Tryd.ntmps69
  go_wp2
  go_ret
  exact ⟨rfl, rfl⟩
set_option maxHeartbeats 400000 in
theorem kadd_any (g k c x n base : Nat) (hn : n < 64 * k) (hkb : k ≤ 1099511627776) (w : World) (hs : Own w base 50 1 encU (.slice (some ⟨g, 0, none⟩) k c) (wordsN x k)) :
    Calls Tryd.prog 66 #[.slice (some ⟨g, 0, none⟩) k c, .int .i64 n] w fun e w' => e = .returned (.tuple #[]) ∧ Own w' base 50 1 encU (.slice (some ⟨g, 0, none⟩) k c) (wordsN (x ||| 2 ^ n) k) ∧ w.grownBy w' (some g) := by
  have hj : n / 64 < (wordsN x k).length := by rw [wordsN_length]; omega
  have hc := hs.row encU_size (n / 64) hj 0 _ rfl
  rw [wordsN_get, Nat.mul_one] at hc
  have hc' : w.cell? ⟨g, n / 64, none⟩ = some (.int .u64 (wordN x (n / 64) : Nat)) := hc
  have f1 := hs.frozen (n / 64)
  have hk : n / 64 < k := by omega
  have hor := u64_or_pow (n := n % 64) (wordN_lt' x (n / 64)) (by omega)
  clear hc
  go_enter Tryd.func66, Tryd.ntmps66
  go_region
  go_end0
  refine ⟨rfl, ?_, only_drew (only_setCell (only_refl _ _) (.inl rfl) _)⟩
  have o1 := hs.setCell (i := n / 64) (q := 0) (y' := wordN x (n / 64) ||| 2 ^ (n % 64)) (u := .int .u64 ((wordN x (n / 64) ||| 2 ^ (n % 64) : Nat) : Int)) encU_size hj (by omega) rfl
  rw [words_add, Nat.mul_one, Nat.add_zero] at o1
  exact o1.drew
/-- subset's machine, in cells -/
def kmC (N : Nat) (A : Option Addr) (n c : Nat) (B : Option Addr) (m d bf cF : Nat) : Array Value := #[.int .i64 (N : Int), .slice A n c, .slice B m d, .slice (some ⟨bf, 0, none⟩) N cF]
/-- subset's machine stands below block nb -/
structure SMach (nb : Nat) (W : World) (gk N : Nat) (E : List Edg) (R : List Nat) : Prop where
  fits : Fits N E R
  lN : N ≤ 1048576
  lE : E.length ≤ 1099511627776
  lt : ∀ r ∈ R, r < 4294967296
  low : nb ≤ W.heap.size
  mem : gk < nb ∧ ∃ A n c B d bf cF, Blk W gk 80 (kmC N A n c B R.length d bf cF) ∧ SliceOf W nb 1 encR B R ∧ bf < nb ∧
    ∀ s, s < N → ∃ As cs, W.cell? ⟨bf, s, none⟩ = some (.slice As (edgesAt E s).length cs) ∧ SliceOf W nb 7 edgC As (edgesAt E s)
theorem SMach.keep {nb : Nat} {W W' : World} {gk N : Nat} {E : List Edg} {R : List Nat} (h : SMach nb W gk N E R) (hk : ∀ k, k < nb → W'.heap[k]? = W.heap[k]?) (hs : W.heap.size ≤ W'.heap.size) : SMach nb W' gk N E R := by
  obtain ⟨h1, A, n, c, B, d, bf, cF, h2, h3, h4, h5⟩ := h.mem
  refine ⟨h.fits, h.lN, h.lE, h.lt, Nat.le_trans h.low hs, h1, A, n, c, B, d, bf, cF, (hk gk h1).trans h2, h3.keep hk, h4, fun s hs => ?_⟩
  obtain ⟨As, cs, e1, e2⟩ := h5 s hs
  exact ⟨As, cs, (World.cell?_of_block (w := W) (hk bf h4)).trans e1, e2.keep hk⟩
theorem SMach.below {nb n : Nat} {W W' : World} {gk N : Nat} {E : List Edg} {R : List Nat} (h : SMach nb W gk N E R) (hb : Below n W W') (hn : nb ≤ n) : SMach nb W' gk N E R := h.keep (fun k hk => hb.block k (by omega)) hb.size
theorem SMach.turn {nb lo hi : Nat} {W W' : World} {gk N : Nat} {E : List Edg} {R : List Nat} (h : SMach nb W gk N E R) (hb : Turn lo hi W W') (hn : nb ≤ lo) : SMach nb W' gk N E R := h.keep (fun k hk => hb.block k (by have := h.low; omega) (.inl (by omega))) hb.size
theorem kwords (N : Nat) : ((N : Int) + 63) / 64 = ((wordsFor N : Nat) : Int) := by unfold wordsFor; omega
set_option maxHeartbeats 400000 in
theorem knone_any (nb gk N : Nat) (E : List Edg) (R : List Nat) (w : World) (h : SMach nb w gk N E R) :
    Calls Tryd.prog 39 #[.pointer (some ⟨gk, 0, none⟩)] w fun e w' => ∃ g, e = .returned (.slice (some ⟨g, 0, none⟩) (wordsFor N) (wordsFor N)) ∧ w.heap.size ≤ g ∧ Own w' w.heap.size 50 1 encU (.slice (some ⟨g, 0, none⟩) (wordsFor N) (wordsFor N)) (wordsN 0 (wordsFor N)) ∧ Below w.heap.size w w' := by
  have hN := h.lN
  obtain ⟨h1, A, n, c, B, d, bf, cF, hb, h3, h4, h5⟩ := h.mem
  have c0 : w.cell? ⟨gk, 0, none⟩ = some (.int .i64 (N : Int)) := hb.cellv rfl
  obtain ⟨i0, hi0, hz0, hz1, hz2⟩ := info_parts info_u64z
  have hkI := kwords N
  have hk2 : wordsFor N ≤ 549755813889 := by unfold wordsFor; omega
  clear hb h h5
  go_enter Tryd.func39, Tryd.ntmps39
  go_wp2_with (at_make; refine wpList_make_full _ rfl _ _ 90 rfl w.heap.size 50 i0 _ 1 Tryd.underlying90 hi0 hz0 hz1 _ _ _ _ (wordsFor N) rfl rfl hkI hkI (by rw [hz2]; omega) (by unfold maxLen; omega) (Nat.le_refl _) ?_; intro w1 hown hg)
  go_ret
  refine ⟨w.heap.size, rfl, Nat.le_refl _, ?_, ⟨hg.os, hg.tape, hg.output, hg.size, fun k hk => hg.block k hk (by simp)⟩⟩
  have e1 : (madeCells (Value.int .u64 0).cells (wordsFor N * 1)).toList = flat encU (wordsN 0 (wordsFor N)) := by
    rw [wordsN_zero]
    apply List.ext_getElem
    · rw [Array.length_toList, size_madeCells]
      simp [flat, encU]
    · intro j h1 h2
      simp [madeCells, Value.cells, flat, encU, List.flatMap_replicate]
      rw [Nat.mod_one]
      rfl
  rw [e1] at hown
  unfold Own
  rw [wordsN_length]
  exact hown
theorem met_succ (R : List Nat) (x n : Nat) : metN R x (n + 1) = if x.testBit n = true then metN R x n ||| R.getD n 0 else metN R x n := by
  unfold metN
  rw [bitsTo_succ]
  split <;> simp
set_option maxRecDepth 100000 in
set_option maxHeartbeats 2000000 in
theorem krules_any (nb gk N B g c x : Nat) (E : List Edg) (R : List Nat) (w : World) (h : SMach nb w gk N E R) (hs : SliceOf w B 1 encU (some ⟨g, 0, none⟩) (wordsN x (wordsFor N))) :
    Calls Tryd.prog 68 #[.pointer (some ⟨gk, 0, none⟩), .slice (some ⟨g, 0, none⟩) (wordsFor N) c] w fun e w' => e = .returned (.int .u32 (metN R x N : Nat)) ∧ w' = w := by
  have hN := h.lN
  have hlt := h.lt
  have hlr := h.fits.rules
  obtain ⟨h1, A, n, c2, B2, d, bf, cF, hb, hR, h4, h5⟩ := h.mem
  rw [hlr] at hb
  have c2 : w.cell? ⟨gk, 2, none⟩ = some (.slice B2 N d) := hb.cellv (i := 2) rfl
  have hkb : wordsFor N ≤ 1099511627776 := by unfold wordsFor; omega
  have Hlt := Lib.hid hlt
  have Hlr := Lib.hid hlr
  have Hs := Lib.hid hs
  clear hb h h5 hlt hlr hs
  go_enter Tryd.func68, Tryd.ntmps68
  go_wp2_with (fail)
  go_loopw [5, 14] (fun rv iv wr => ∃ j : Nat, j ≤ N ∧ iv = .int .i64 j ∧ rv = .int .u32 ((metN R x j : Nat) : Int) ∧ wr = w) (fun _ iv _ => N - (intOf iv).toNat)
  case atStart => exact ⟨0, by omega, rfl, by simp [metN, bitsTo], rfl⟩
  case round =>
    obtain ⟨j, hj, rfl, rfl, rfl⟩ := hrel
    by_cases hjl : j < N
    · have hjI : (j : Int) < N := by omega
      have hjb : j < 1099511628000 := by omega
      have hjr : j < R.length := by rw [Hlr.out]; exact hjl
      obtain ⟨ba, off, rfl, hba, hrows⟩ := hR.at_ (by omega)
      obtain ⟨v, hv⟩ : ∃ v, v = R[j] := ⟨_, rfl⟩
      have hc : wr.cell? ⟨ba, off + j, none⟩ = some (.int .u32 (v : Int)) := by
        have := (hrows j hjr) 0 _ rfl
        rw [Nat.mul_one, Nat.add_zero, ← hv] at this
        exact this
      have hvl : v < 4294967296 := by rw [hv]; exact Hlt.out _ (List.getElem_mem hjr)
      have hml : metN R x j < 4294967296 := met_lt (fun r hr => Hlt.out r hr) x j
      have hst := met_succ R x j
      rw [show R.getD j 0 = v by rw [List.getD_eq_getElem?_getD, List.getElem?_eq_getElem hjr, Option.getD_some, hv]] at hst
      obtain ⟨m0, hm0⟩ : ∃ m, m = metN R x j := ⟨_, rfl⟩
      rw [← hm0] at hml hst ⊢
      have hor := u32_or_nat m0 v hml hvl
      have hh := khas_any (some ⟨g, 0, none⟩) (wordsFor N) c x j (by have := words_room N; omega) hkb B wr Hs.out
      obtain ⟨b, hbt⟩ : ∃ b, x.testBit j = b := ⟨_, rfl⟩
      rw [hbt] at hh hst
      have Hst := Lib.hid hst
      clear hst hm0 hv hrows hbt hml hvl
      cases b with
      | true =>
        go_wp2_with (go_at_call 69; refine hh.mono ?_; rintro e w5 ⟨rfl, rfl⟩)
        exact ⟨⟨j + 1, by omega, rfl, by rw [Hst.out]; rfl, trivial⟩, by simp only [intOf]; omega⟩
      | false =>
        go_wp2_with (go_at_call 69; refine hh.mono ?_; rintro e w5 ⟨rfl, rfl⟩)
        exact ⟨⟨j + 1, by omega, rfl, by rw [Hst.out]; rfl, trivial⟩, by simp only [intOf]; omega⟩
    · have hjI : ¬ (j : Int) < N := by omega
      obtain rfl : j = N := by omega
      go_wp2_with (fail)
      go_ret
      exact ⟨rfl, rfl⟩
end Go.Proofs.YtkedgombccdamaaDoor
namespace Go.Proofs.YtkedgombccdamaaDoor
open Go.RowKit Go.Shelf Go.Maps
set_option linter.unusedVariables false
set_option linter.unusedSimpArgs false
attribute [local go_sem] Oper.semAt_some

theorem under_intsK : Tryd.prog.underlying 67 = some (.slice (Tryd.prog.elem 67)) := by kernel_rfl
theorem size_intK (w : World) : (sizeOf (Tryd.prog.elem 67)).run Tryd.prog w = .ok 1 w := by kernel_rfl
section
variable {ops : Array Oper} {rest : List Oper} {o : Oper} {a : Act} {w : World} {Q : Exit → Act → World → Prop}
/-- one int appended to a row of the call's own -/
theorem wl_pushI (hgd : o.guard = none) (s x : Operand) (ho : o.op = .call { callee := .builtin .append, args := #[s, x], argTypes := #[67, 67] })
    (base : Nat) (l : List Nat) (z : Nat) {A : Option Addr} {n c g : Nat} (hs : a.eval s = .slice A n c) (hx : a.eval x = .slice (some ⟨g, 0, none⟩) 1 1) (hb1 : Blk w g 3 (encN z)) (hown : Own w base 3 1 encN (.slice A n c) l) (hn : n = l.length) (hl : l.length ≤ 1099511627776) (hbase : base ≤ w.heap.size)
    (h : ∀ A' c' w', Own w' base 3 1 encN (.slice A' (n + 1) c') (l ++ [z]) → w.grownBy w' (Value.slice A n c).ownBlock → wpList Tryd.prog ops Q rest (a.put o.dst (.slice A' (n + 1) c')) w') : wpList Tryd.prog ops Q (o :: rest) a w := by
  obtain ⟨ii, hii, hz0, hz1, hz2⟩ := info_parts info_int3
  subst hn
  refine wl_append _ hgd _ _ 67 ho base 3 ii _ 1 8 Tryd.underlying67 hii hz0 hz1 hz2 rfl (by decide) encN_size encN_one (.slice A l.length c) l hs hown _ _ 1 1 [z] hx rfl (slice_one (enc := encN) hb1) (by unfold maxLen; omega) (by omega) hbase ?_
  intro v' w' ho' hg hv
  obtain ⟨A', c', rfl, _, _⟩ := ho'.shape
  have hl8 : (l ++ [z]).length = l.length + 1 := by simp
  rw [hl8] at ho' hv ⊢
  exact h _ _ _ ho' hg
end
def lenV : Value → Nat
  | .slice _ n _ => n
  | _ => 0
section
open Classical
/-- what is left to do, read off the world -/
noncomputable def subLeft (N base g c : Nat) (v : Value) (wr : World) : Nat :=
  if h : ∃ y : Nat, Own wr base 50 1 encU (.slice (some ⟨g, 0, none⟩) (wordsFor N) c) (wordsN y (wordsFor N)) ∧ below y N then 2 * (N - (bitsTo (Classical.choose h) N).length) + lenV v else 0
end
theorem subLeft_eq {N base g c y n k : Nat} {A : Option Addr} {wr : World} (h2 : Own wr base 50 1 encU (.slice (some ⟨g, 0, none⟩) (wordsFor N) c) (wordsN y (wordsFor N))) (h3 : below y N) :
    subLeft N base g c (.slice A n k) wr = 2 * (N - (bitsTo y N).length) + n := by
  have hex : ∃ y : Nat, Own wr base 50 1 encU (.slice (some ⟨g, 0, none⟩) (wordsFor N) c) (wordsN y (wordsFor N)) ∧ below y N := ⟨y, h2, h3⟩
  unfold subLeft
  rw [dif_pos hex]
  obtain ⟨e2, e3⟩ := Classical.choose_spec hex
  have ey : Classical.choose hex = y := wordsN_inj (Nat.lt_of_lt_of_le (below_lt e3) (Nat.pow_le_pow_right (by decide) (words_room N))) (Nat.lt_of_lt_of_le (below_lt h3) (Nat.pow_le_pow_right (by decide) (words_room N))) (flat_encU_inj (own_same e2 h2))
  rw [ey]
  rfl
set_option maxRecDepth 100000 in
set_option maxHeartbeats 8000000 in
theorem kspread_any (nb gk N base g c x : Nat) (E : List Edg) (R : List Nat) (beg en : Bool) (hx : below x N) (w : World) (hM : SMach nb w gk N E R) (hS : Own w base 50 1 encU (.slice (some ⟨g, 0, none⟩) (wordsFor N) c) (wordsN x (wordsFor N))) (hgn : nb ≤ g) :
    Calls Tryd.prog 67 #[.pointer (some ⟨gk, 0, none⟩), .slice (some ⟨g, 0, none⟩) (wordsFor N) c, .bool beg, .bool en] w fun e w' => e = .returned (.tuple #[]) ∧ Own w' base 50 1 encU (.slice (some ⟨g, 0, none⟩) (wordsFor N) c) (wordsN (spreadN E N beg en x) (wordsFor N)) ∧ Turn g (g + 1) w w' := by
  have hN := hM.lN
  have HF := Lib.hid hM.fits
  have hkb : wordsFor N ≤ 1099511627776 := by unfold wordsFor; omega
  have hgl := (hS.lt g rfl).2
  have hkI := words_room N
  have hMt := fun W (hW : Turn g (g + 1) w W) => hM.turn hW hgn
  have HMt := Lib.hid hMt
  have c0 : w.cell? ⟨gk, 0, none⟩ = some (.int .i64 (N : Int)) := by
    obtain ⟨h1, A, n, c, B, d, bf, cF, hb, h3, h4, h5⟩ := hM.mem
    exact hb.cellv rfl
  have hT0 := Turn.refl g (g + 1) w
  have Hx := Lib.hid hx
  have HT0 := Lib.hid hM.low
  clear hMt hM hx
  go_enter Tryd.func67, Tryd.ntmps67
  go_wp2_with (fail)
  go_loopw [8, 19] (fun v8 iv wr => ∃ (j : Nat) (A : Option Addr) (m k : Nat) (L : List Nat), j ≤ N ∧ iv = .int .i64 j ∧ v8 = .slice A m k ∧ Hid (L = bitsTo x j ∧ m = L.length) ∧ m ≤ j ∧ Own wr w.heap.size 3 1 encN (.slice A m k) L ∧ Below w.heap.size w wr) (fun _ iv _ => N - (intOf iv).toNat)
  case atStart => exact ⟨0, none, 0, 0, [], by omega, rfl, rfl, Lib.hid ⟨by simp [bitsTo], rfl⟩, by omega, Own.nil_ _ _ _ _ _, Below.refl _ _⟩
  case round =>
    obtain ⟨j, A, m, k, L, hj, rfl, rfl, HL, hmj, hL, hB⟩ := hrel
    by_cases hjl : j < N
    · have hjI : (j : Int) < N := by omega
      have hjb : j < 1099511628000 := by omega
      have hh := khas_any (some ⟨g, 0, none⟩) (wordsFor N) c x j (by omega) hkb _ wr ((hS.then_ hB).slice_all encU_size)
      obtain ⟨b, hbt⟩ : ∃ b, x.testBit j = b := ⟨_, rfl⟩
      rw [hbt] at hh
      have Hb := Lib.hid hbt
      clear hbt
      cases b with
      | true =>
        go_wp2_with (first
          | (go_at_call 69; refine hh.mono ?_; rintro e w5 ⟨rfl, rfl⟩)
          | (at_builtin; refine wl_pushI rfl _ _ rfl w.heap.size L j rfl rfl (Blk.new _ _ _) (hL.then_ (below_alloc (Below.refl _ _) _)) HL.out.2 (by have := HL.out.2; omega) (by have := hB.size; simp; omega) ?_; intro A' c' w6 hL6 hg6))
        refine ⟨⟨j + 1, A', m + 1, c', L ++ [j], by omega, rfl, rfl, Lib.hid ⟨?_, ?_⟩, by omega, hL6, ?_⟩, by simp only [intOf]; omega⟩
        · rw [bitsTo_succ, if_pos Hb.out, HL.out.1]
        · have := HL.out.2; simp; omega
        · exact (below_alloc hB _).grown hg6 (by have := hB.size; simp; omega) (fun r e => by have := hL.lt r e; omega)
      | false =>
        go_wp2_with (go_at_call 69; refine hh.mono ?_; rintro e w5 ⟨rfl, rfl⟩)
        exact ⟨⟨j + 1, A, m, k, L, by omega, rfl, rfl, Lib.hid ⟨by rw [bitsTo_succ, Hb.out, HL.out.1]; simp, HL.out.2⟩, by omega, hL, hB⟩, by simp only [intOf]; omega⟩
    · have hjI : ¬ (j : Int) < N := by omega
      obtain rfl : N = j := by omega
      have hG : GoInv E N beg en x x L := by rw [HL.out.1]; exact GoInv.start Hx.out
      have hm2 := HL.out.2
      subst hm2
      have hS2 := hS.then_ hB
      have hT2 : Turn g (g + 1) w wr := Turn.of_below hB
      clear hmj hj HL c0 hT0
      go_wp2_with (fail)
      go_loopw [8] (fun v8 wr => ∃ (y : Nat) (L : List Nat) (A : Option Addr) (k : Nat), v8 = .slice A L.length k ∧ GoInv E N beg en x y L ∧ Own wr w.heap.size 3 1 encN (.slice A L.length k) L ∧ Own wr base 50 1 encU (.slice (some ⟨g, 0, none⟩) (wordsFor N) c) (wordsN y (wordsFor N)) ∧ Turn g (g + 1) w wr) (fun v8 wr => subLeft N base g c v8 wr)
      case atStart => exact ⟨x, L, A, k, rfl, hG, hL, hS2, hT2⟩
      case round =>
        clear hG hL hS2 hT2 hB
        obtain ⟨y, L, A, k, rfl, hG, hL, hS, hT⟩ := hrel
        rcases List.eq_nil_or_concat L with rfl | ⟨L, n, rfl⟩
        · have hy : y = spreadN E N beg en x := hG.end_ (fun d hd => HF.out.tt d hd) Hx.out
          have Hy := Lib.hid hy
          clear hy hG hL
          go_wp2_with (fail)
          first | (refine bodyPost_end (results_none rfl _ _ _) rfl ?_) | (refine bodyPost_ret (results_none rfl _ _ _) rfl ?_)
          rw [← Hy.out]
          exact ⟨rfl, hS, hT⟩
        · rw [List.concat_eq_append] at hG hL
          have hf : (L ++ [n]).length = L.length + 1 := by simp
          obtain ⟨gt, cap, hv, hgt1, hgt2, hk7, _⟩ := hL.form (by omega)
          injection hv with hA _ hcap
          subst hA; subst hcap
          have hrow : RowAt wr gt L.length (encN n) := by
            have := hL.row encN_size L.length (by omega)
            simpa only [Nat.mul_one, List.getElem_concat_length] using this
          have hpop := own_pop encN_size hL (by omega)
          rw [List.dropLast_concat] at hpop
          rw [hf] at hpop hL hk7
          rw [List.concat_eq_append, hf]
          have hbn := hG.inL n (by simp)
          have hnN := hG.bel n hbn
          have hin := hG.pop
          have hmu := subLeft_eq (A := some ⟨gt, 0, none⟩) (n := L.length + 1) (k := k) hS hG.bel
          obtain ⟨m, hm⟩ : ∃ m, m = L.length := ⟨_, rfl⟩
          rw [← hm] at hpop hrow hin hL hk7 hmu ⊢
          have ct : wr.cell? ⟨gt, m, none⟩ = some (.int .i64 (n : Int)) := hrow 0 _ rfl
          have hmI : (m : Int) ≤ k := by omega
          have hmb : m < 1099511628000 := by
            have h1 := hin.cnt
            have h2 := bitsTo_length y N
            omega
          rw [Nat.add_sub_cancel] at hpop
          have hMw := HMt.out wr hT
          obtain ⟨hgk, A1, n1, c1, B1, d1, bf, cF, hbk, hR1, hbf, hfr⟩ := hMw.mem
          obtain ⟨As, cs, ce, hAs⟩ := hfr n hnN
          have cF1 : wr.cell? ⟨gk, 3, none⟩ = some (.slice (some ⟨bf, 0, none⟩) N cF) := hbk.cellv (i := 3) rfl
          have hElen : (edgesAt E n).length ≤ 1099511627776 := Nat.le_trans (List.length_filter_le _ _) hMw.lE
          have hnI : (n : Int) < N := by omega
          have hnb : n < 1099511628000 := by omega
          have hlow := hMw.low
          obtain ⟨M, hMd⟩ : ∃ M, M = 2 * (N - (bitsTo y N).length) + (m + 1) := ⟨_, rfl⟩
          rw [← hMd] at hin hmu
          obtain ⟨el, hel⟩ : ∃ el, el = (edgesAt E n).length := ⟨_, rfl⟩
          rw [← hel] at ce hElen
          have Hel := Lib.hid hel
          have Hm := Lib.hid hm
          have Hmu := Lib.hid hmu
          clear hMd hm hf hrow hG hL hbk hR1 hfr hMw hel hmu hbn
          go_wp2_with (refine wl_front rfl 67 _ _ rfl under_intsK 1 size_intK (some ⟨gt, 0, none⟩) (m + 1) k m rfl (congrArg (Value.int .i64) (by omega)) (by omega) ?_)
          go_loopw [8, 52] (fun v8 iv wi => ∃ (j z : Nat) (L : List Nat) (A : Option Addr) (k2 : Nat), j ≤ el ∧ iv = .int .i64 j ∧ v8 = .slice A L.length k2 ∧ GoIn E N beg en x M n j z L ∧ Own wi w.heap.size 3 1 encN (.slice A L.length k2) L ∧ Own wi base 50 1 encU (.slice (some ⟨g, 0, none⟩) (wordsFor N) c) (wordsN z (wordsFor N)) ∧ Turn g (g + 1) w wi) (fun _ iv _ => el - (intOf iv).toNat)
          case atStart => exact ⟨0, y, L, some ⟨gt, 0, none⟩, k, by omega, rfl, by rw [Hm.out], hin, by rw [← Hm.out]; exact hpop, hS, hT⟩
          case round =>
            clear hin hpop hS ct cF1 ce hgt1 hgt2 hk7 hmI hmb
            obtain ⟨j, z, L, A, k2, hj, rfl, rfl, hG, hL, hS, hTi⟩ := hrel
            by_cases hjl : j < el
            · have hjI : (j : Int) < el := by omega
              have hjb : j < 1099511628000 := by omega
              have hjl2 : j < (edgesAt E n).length := by rw [← Hel.out]; exact hjl
              obtain ⟨ba, off, rfl, hba, hrows⟩ := hAs.at_ (by omega)
              have hwl := HT0.out
              have hr := (hrows j hjl2).keep ((hTi.block ba (by omega) (.inl (by omega))).trans (hT.block ba (by omega) (.inl (by omega))).symm)
              have hmem := List.getElem_mem hjl2
              rw [mem_edgesAt] at hmem
              obtain ⟨dd, hd⟩ : ∃ d, d = (edgesAt E n)[j] := ⟨_, rfl⟩
              rw [← hd] at hr hmem
              have htt := HF.out.tt dd hmem.1
              have hkd := HF.out.kinds dd hmem.1
              obtain ⟨t, ht⟩ : ∃ t : Nat, dd.tt = (t : Int) := ⟨dd.tt.toNat, by omega⟩
              have htn : dd.tt.toNat = t := by omega
              have Hd := Lib.hid hd
              have Htn := Lib.hid (And.intro ht htn)
              have htN : t < 64 * wordsFor N := by omega
              have hkd4 : dd.kd = 1 ∨ dd.kd = 2 ∨ dd.kd = 3 ∨ dd.kd = 4 := by omega
              clear hd hmem htt hkd hrows ht htn hnI hT
              go_upto_region 13 with (first | (refine wl_load_edge_at rfl _ rfl _ _ rfl _ hr ?_) | (refine wl_store_edge rfl _ _ rfl _ _ rfl rfl edge0 (Blk.new _ _ _) ?_; intro w3 h12 hg3))
              have hB3 := below_grown (below_alloc (Below.refl _ wr) (.cells #[.int .i64 0, .int .i64 0, .int .i64 0, .int .u64 0, .int .u64 0, .int .u64 0, .int .u64 0] 76)) hg3 (Nat.le_refl _)
              obtain ⟨ge, hge⟩ : ∃ y, y = wr.heap.size := ⟨_, rfl⟩
              rw [← hge] at h12 ⊢
              have hglr := (hS.lt g rfl).2
              have hgeg : ge ≠ g := by omega
              replace hL := hL.then_ hB3
              replace hS := hS.then_ hB3
              replace hTi := hTi.then_ hB3
              have c2 : w3.cell? ⟨ge, 2, none⟩ = some (.int .i64 (t : Int)) := by rw [← Htn.out.1]; exact h12.cellv (i := 2) rfl
              clear hg3 hr hB3 hge hglr
              simp only [Act.put]
              go_cut [13] from 56 to 75 (fun v wx => wx = w3 ∧ v = .bool (may beg en dd))
              case first =>
                have c1 : w3.cell? ⟨ge, 0, none⟩ = some (.int .i64 dd.kd) := h12.cellv (i := 0) rfl
                clear hS hL hTi h12 c2 Hd Htn HF Hx Hel Hm Hmu HMt hAs
                rcases hkd4 with h | h | h | h
                all_goals rw [h] at c1
                all_goals cases beg
                all_goals cases en
                all_goals go_wp2_with (fail)
                all_goals go_meet
                all_goals exact ⟨rfl, congrArg Value.bool (by simp [may, h])⟩
              obtain ⟨hwc, rfl⟩ := hcut
              subst hwc
              obtain ⟨f, hmay⟩ : ∃ f, may beg en dd = f := ⟨_, rfl⟩
              rw [hmay]
              have Hmay := Lib.hid hmay
              clear hmay hkd4
              cases f with
              | false =>
                go_wp2_with (fail)
                exact ⟨⟨j + 1, z, L, A, k2, by omega, rfl, rfl, hG.skip hjl2 (by rw [← Hd.out, Hmay.out]; exact fun h => (Bool.false_ne_true h).elim), hL, hS, hTi⟩, by simp only [intOf]; omega⟩
              | true =>
                have hhas := khas_any (some ⟨g, 0, none⟩) (wordsFor N) c z t htN hkb _ wc (hS.slice_all encU_size)
                obtain ⟨zt, hzt⟩ : ∃ b, z.testBit t = b := ⟨_, rfl⟩
                rw [hzt] at hhas
                have Hzt := Lib.hid hzt
                clear hzt
                cases zt with
                | true =>
                  go_wp2_with (go_at_call 69; refine hhas.mono ?_; rintro e w5 ⟨rfl, rfl⟩)
                  exact ⟨⟨j + 1, z, L, A, k2, by omega, rfl, rfl, hG.skip hjl2 (by rw [← Hd.out, Htn.out.2]; exact fun _ => Hzt.out), hL, hS, hTi⟩, by simp only [intOf]; omega⟩
                | false =>
                  have hLN : L.length + 1 ≤ N := by
                    have h1 := hG.cnt
                    have h2 := bitsTo_length z N
                    omega
                  have hGa := hG.add (fun d hd => HF.out.tt d hd) hjl2 (by rw [← Hd.out]; exact Hmay.out) (by rw [← Hd.out, Htn.out.2]; exact Hzt.out)
                  rw [← Hd.out, Htn.out.2] at hGa
                  have hAne : ∀ r, (Value.slice A L.length k2).ownBlock = some r → r ≠ g := fun r e h => by
                    subst h
                    have := (hL.lt r e).1
                    omega
                  have hLlt := fun r e => (hL.lt r e).1
                  go_upto_region 16 with (first
                    | (go_at_call 69; refine hhas.mono ?_; rintro e w5 ⟨rfl, rfl⟩)
                    | (go_at_call 66; refine (kadd_any g (wordsFor N) c z t base htN hkb _ hS).mono ?_; rintro e w6 ⟨rfl, hS6, hg6⟩))
                  replace h12 := blk_grown h12 hg6 hgeg
                  replace hL := own_row hL hg6 (fun r e h => hAne r e (by injection h with h; exact h.symm))
                  replace hTi := hTi.grown hg6 (fun r e => by injection e with e; omega)
                  replace c2 : w6.cell? ⟨ge, 2, none⟩ = some (.int .i64 (t : Int)) := by rw [← Htn.out.1]; exact h12.cellv (i := 2) rfl
                  clear hS hg6 hhas
                  obtain ⟨m2, hm2⟩ : ∃ m, m = L.length := ⟨_, rfl⟩
                  have Hm2 := Lib.hid hm2
                  rw [← hm2] at hL hLN hLlt hAne ⊢
                  clear hm2
                  have hsz6 := hTi.size
                  go_upto_region 17 with (at_builtin; refine wl_pushI rfl _ _ rfl w.heap.size L t rfl rfl (Blk.new _ _ _) (hL.then_ (below_alloc (Below.refl _ _) _)) Hm2.out (by have := Hm2.out; omega) (by simp; omega) ?_; intro A' c' w7 hL7 hg7)
                  have hBa : Below w6.heap.size w6 (w6.alloc (.cells (encN t) 3)) := below_alloc (Below.refl _ _) _
                  have hS7 := own_own (hS6.then_ hBa) (hL.then_ hBa) hg7 (by decide)
                  have hTi7 := (hTi.then_ hBa).grown hg7 (fun r e => .inr (hLlt r e))
                  clear hg7 hBa hS6 hL hTi
                  rw [Hm2.out] at hL7 ⊢
                  have hl1 : (L ++ [t]).length = L.length + 1 := by simp
                  rw [← hl1] at hL7 ⊢
                  go_wp2_with (fail)
                  exact ⟨⟨j + 1, z ||| 2 ^ t, L ++ [t], A', c', by omega, rfl, by simp, hGa, hL7, hS7, hTi7⟩, by simp only [intOf]; omega⟩
            · have hjI : ¬ (j : Int) < el := by omega
              have hGf := hG.finish (fun d hd => HF.out.fr d hd) (by have := Hel.out; omega)
              go_wp2_with (fail)
              refine ⟨⟨z, L, A, k2, rfl, hGf, hL, hS, hTi⟩, ?_⟩
              rw [Hmu.out, subLeft_eq hS hG.bel]
              exact hG.mu
end Go.Proofs.YtkedgombccdamaaDoor
namespace Go.Proofs.YtkedgombccdamaaDoor
open Go.RowKit Go.Shelf Go.Maps
set_option linter.unusedVariables false
set_option linter.unusedSimpArgs false
attribute [local go_sem] Oper.semAt_some

/-- a moment, plain: where, what is met, what is met if the line ends -/
structure Mo where
  at_ : Nat
  met : Nat
  end_ : Nat
deriving DecidableEq
/-- the moment of some states, with what is met already -/
noncomputable def moN (E : List Edg) (N : Nat) (R : List Nat) (x met : Nat) (b : Bool) : Mo :=
  ⟨spreadN E N b false (x ||| 1), met ||| metN R (spreadN E N b false (x ||| 1)) N, (met ||| metN R (spreadN E N b false (x ||| 1)) N) ||| metN R (spreadN E N b true (spreadN E N b false (x ||| 1))) N⟩
theorem info_mom : (Tryd.prog.info? 92).map (·.size) = some 3 := by kernel_rfl
theorem build_mom (A : Option Addr) (k c r : Nat) (w : World) : (Instr.build 92 #[(0, .slice A k c), (1, .int .u32 (r : Int))]).run Tryd.prog w = .ok (.agg (momC A k c r 0)) w := by kernel_rfl
theorem enter_krules (args : Array Value) (w : World) : (callFunc 68 args).run Tryd.prog w = .ok (.enter 68 args) w := by kernel_rfl
theorem momC_one (A : Option Addr) (k c r e : Nat) : (momC A k c r e).all (·.oneCell') = true := by simp [momC, Value.oneCell']
section
variable {ops : Array Oper} {rest : List Oper} {o : Oper} {a : Act} {w : World} {Q : Exit → Act → World → Prop}
theorem wl_store_mom (hgd : o.guard = none) (x y : Operand) (ho : o.op = .store 92 x y) (g : Nat) (A : Option Addr) (k c r e : Nat) (hx : a.eval x = .pointer (some ⟨g, 0, none⟩)) (hy : a.eval y = .agg (momC A k c r e)) (old : Array Value) (ho2 : old.size = 3) (hb : Blk w g 92 old)
    (h : ∀ w', Blk w' g 92 (momC A k c r e) → w.grownBy w' (some g) → wpList Tryd.prog ops Q rest (a.put o.dst undef) w') : wpList Tryd.prog ops Q (o :: rest) a w :=
  wpList_store_row hgd _ x y ho g _ hx hy _ _ hb (info_mom.trans rfl) (by rw [ho2]; rfl) (momC_one _ _ _ _ _) (h _ (hb.setRow_same _) (only_setRow (only_refl _ _) _))
theorem wl_load_mom (hgd : o.guard = none) (x : Operand) (ho : o.op = .load 92 x) (g : Nat) (hx : a.eval x = .pointer (some ⟨g, 0, none⟩)) (A : Option Addr) (k c r e : Nat) (hb : Blk w g 92 (momC A k c r e))
    (h : wpList Tryd.prog ops Q rest (a.put o.dst (.agg (momC A k c r e))) w) : wpList Tryd.prog ops Q (o :: rest) a w :=
  wpList_load_row hgd _ x ho g hx _ _ _ _ hb Tryd.underlying92 rfl (info_mom.trans rfl) h
theorem wl_build_mom (hgd : o.guard = none) (x y : Operand) (ho : o.op = .build 92 #[(0, x), (1, y)]) (A : Option Addr) (k c r : Nat) (hx : a.eval x = .slice A k c) (hy : a.eval y = .int .u32 (r : Int))
    (h : wpList Tryd.prog ops Q rest (a.put o.dst (.agg (momC A k c r 0))) w) : wpList Tryd.prog ops Q (o :: rest) a w :=
  wl_run hgd (v := .agg (momC A k c r 0)) (by unfold execOp; simp only [ho, List.map_toArray, List.map_cons, List.map_nil, hx, hy, Sem.run_bind, build_mom, Result.andThen_ok, Sem.run_pure]) h
end
set_option maxRecDepth 100000 in
set_option maxHeartbeats 8000000 in
theorem kmoment_any (nb gk N base g c x met : Nat) (E : List Edg) (R : List Nat) (beg : Bool) (hx : below x N) (hm : met < 4294967296) (w : World) (hM : SMach nb w gk N E R) (hS : Own w base 50 1 encU (.slice (some ⟨g, 0, none⟩) (wordsFor N) c) (wordsN x (wordsFor N))) (hgn : nb ≤ g) :
    Calls Tryd.prog 38 #[.pointer (some ⟨gk, 0, none⟩), .slice (some ⟨g, 0, none⟩) (wordsFor N) c, .int .u32 (met : Int), .bool beg] w fun e w' => e = .returned (.agg (momC (some ⟨g, 0, none⟩) (wordsFor N) c (moN E N R x met beg).met (moN E N R x met beg).end_)) ∧ Own w' base 50 1 encU (.slice (some ⟨g, 0, none⟩) (wordsFor N) c) (wordsN (moN E N R x met beg).at_ (wordsFor N)) ∧ Turn g (g + 1) w w' := by
  have hN := hM.lN
  have hone := hM.fits.one
  have hkb : wordsFor N ≤ 1099511627776 := by unfold wordsFor; omega
  have hk1 : 0 < wordsFor N := by unfold wordsFor; omega
  have hkI := words_room N
  have hgl := (hS.lt g rfl).2
  have HMt := Lib.hid (fun W (hW : Turn g (g + 1) w W) => hM.turn hW hgn)
  have Hlt := Lib.hid (fun y => met_lt (fun r hr => hM.lt r hr) y N)
  obtain ⟨y, hy⟩ : ∃ y, y = spreadN E N beg false (x ||| 1) := ⟨_, rfl⟩
  obtain ⟨r0, hr0⟩ : ∃ r, r = metN R y N := ⟨_, rfl⟩
  obtain ⟨r1, hr1⟩ : ∃ r, r = met ||| r0 := ⟨_, rfl⟩
  obtain ⟨y2, hy2⟩ : ∃ z, z = spreadN E N beg true y := ⟨_, rfl⟩
  obtain ⟨r2, hr2⟩ : ∃ r, r = metN R y2 N := ⟨_, rfl⟩
  obtain ⟨e2, he2⟩ : ∃ r, r = r1 ||| r2 := ⟨_, rfl⟩
  have hmo : moN E N R x met beg = ⟨y, r1, e2⟩ := by rw [he2, hr2, hy2, hr1, hr0, hy]; rfl
  rw [hmo]
  have hx1 : below (x ||| 2 ^ 0) N := below_or hx (below_pow (by omega))
  have hy0 : y = spreadN E N beg false (x ||| 2 ^ 0) := hy
  have hyN : below y N := by rw [hy]; exact spread_below _ _ _ _ _
  have hr0l : r0 < 4294967296 := by rw [hr0]; exact Hlt.out _
  have hr1l : r1 < 4294967296 := by rw [hr1]; exact Nat.or_lt_two_pow (n := 32) hm hr0l
  have hr2l : r2 < 4294967296 := by rw [hr2]; exact Hlt.out _
  have hor1 := u32_or_nat met r0 hm hr0l
  have hor2 := u32_or_nat r1 r2 hr1l hr2l
  rw [← hr1] at hor1
  rw [← he2] at hor2
  have Hy := Lib.hid hy0
  have Hr0 := Lib.hid hr0
  have Hy2 := Lib.hid hy2
  have Hr2 := Lib.hid hr2
  have Hx1 := Lib.hid hx1
  have HyN := Lib.hid hyN
  have Hor2 := Lib.hid hor2
  have hT0 := Turn.refl g (g + 1) w
  clear hy hr0 hr1 hy2 hr2 he2 hmo hx1 hy0 hyN hx hM hor2 hone
  go_enter Tryd.func38, Tryd.ntmps38
  go_upto_region 1 with (fail)
  have hBa : Below w.heap.size w (w.alloc (.cells #[.slice none 0 0, .int .u32 0, .int .u32 0] 92)) := below_alloc (Below.refl _ _) _
  have k8 : Blk (w.alloc (.cells #[.slice none 0 0, .int .u32 0, .int .u32 0] 92)) w.heap.size 92 (momC none 0 0 0 0) := Blk.new w 92 (momC none 0 0 0 0)
  obtain ⟨W1, hW1⟩ : ∃ y, y = w.alloc (.cells #[.slice none 0 0, .int .u32 0, .int .u32 0] 92) := ⟨_, rfl⟩
  obtain ⟨g8, hg8⟩ : ∃ y, y = w.heap.size := ⟨_, rfl⟩
  have hg8w : w.heap.size ≤ g8 := by omega
  rw [← hW1, ← hg8] at k8 ⊢
  rw [← hW1] at hBa
  have hg8g : g8 ≠ g := by omega
  replace hS := hS.then_ hBa
  have hT1 := hT0.then_ hBa
  clear hg8 hW1 hBa hT0
  go_upto_region 2 with (go_at_call 66; refine (kadd_any g (wordsFor N) c x 0 base (by omega) hkb _ hS).mono ?_; rintro en w2 ⟨rfl, hS2, hg2⟩)
  have hT2 := hT1.grown hg2 (fun r e => by injection e with e; omega)
  have k8' := blk_grown k8 hg2 hg8g
  clear hS hT1 k8 hg2
  have kS := kspread_any nb gk N base g c (x ||| 2 ^ 0) E R beg false Hx1.out w2 (HMt.out w2 hT2) hS2 hgn
  rw [← Hy.out] at kS
  go_upto_region 3 with (go_at_call 67; refine kS.mono ?_; rintro en w3 ⟨rfl, hS3, hTs⟩)
  have hT3 := hT2.trans hTs
  have k83 := blk_turn k8' hTs (by omega)
  clear hS2 hT2 k8' hTs kS
  have kR := krules_any nb gk N w3.heap.size g c y E R w3 (HMt.out w3 hT3) (hS3.slice_all encU_size)
  rw [← Hr0.out] at kR
  go_upto_region 4 with (first
    | (go_at_call 68; refine kR.mono ?_; rintro en w4 ⟨rfl, rfl⟩)
    | (refine wl_build_mom rfl _ _ rfl (some ⟨g, 0, none⟩) (wordsFor N) c r1 rfl rfl ?_)
    | (refine wl_store_mom rfl _ _ rfl _ (some ⟨g, 0, none⟩) (wordsFor N) c r1 0 rfl rfl (momC none 0 0 0 0) rfl (Blk.new _ _ _) ?_; intro w5 k9 hg5))
  have hB5 : Below w4.heap.size w4 w5 := below_grown (below_alloc (Below.refl _ _) _) hg5 (Nat.le_refl _)
  obtain ⟨g9, hg9⟩ : ∃ y, y = w4.heap.size := ⟨_, rfl⟩
  have hg9w : w.heap.size ≤ g9 := by have := hT3.size; omega
  have hg8l := k83.lt
  have hgl3 := (hS3.lt g rfl).2
  have hg98 : g9 ≠ g8 := by omega
  have hg9g : g9 ≠ g := by omega
  rw [← hg9] at k9 ⊢
  have hT5 := hT3.then_ hB5
  have hS5 := hS3.then_ hB5
  have k85 := blk_then k83 hB5
  obtain ⟨i0, hi0, hz0, hz1, hz2⟩ := info_parts info_u64z
  have hB6 : Below w5.heap.size w5 (w5.alloc (.cells #[] 50)) := below_alloc (Below.refl _ _) _
  have hk2 : wordsFor N ≤ 549755813889 := by unfold wordsFor; omega
  have hs5 := hT5.size
  clear hg5 hB5 hg9 hS3 k83 hT3 kR hor1
  go_upto_region 5 with (at_builtin; refine wl_append (enc := encU) _ rfl _ _ 90 rfl w.heap.size 50 i0 _ 1 8 Tryd.underlying90 hi0 hz0 hz1 hz2 rfl (by decide) encU_size encU_one _ _ rfl (own_empty (w := w5) (e := 50) (size := 1) (base := w.heap.size) hs5) _ _ _ _ (wordsN y (wordsFor N)) rfl (wordsN_length _ _).symm ((hS5.then_ hB6).slice_all encU_size) (by simp only [List.length_nil]; unfold maxLen; omega) (by simp only [List.length_nil]; omega) (by simp; omega) ?_; intro v6 w6 hs6 hg6 hv6)
  rw [List.nil_append] at hs6
  obtain ⟨gl, cl, hv1, hgb1, hgb2, _⟩ := hs6.form (by rw [wordsN_length]; exact hk1)
  rw [wordsN_length] at hv1
  subst hv1
  have hB56 : Below w5.heap.size w5 w6 := below_grown hB6 hg6 (Nat.le_refl _)
  have hglw : w5.heap.size ≤ gl := by
    rcases hv6 with h | h
    · injection h with h; simp only at h; omega
    · injection h with h; simp at h; omega
  have k9' := blk_then k9 hB56
  have hg9l := k9.lt
  have hg8l5 := k85.lt
  replace hS5 := hS5.then_ hB56
  replace hT5 := hT5.then_ hB56
  replace k85 := blk_then k85 hB56
  have hgl5 : g < w5.heap.size := by omega
  have hnbl : nb ≤ gl := by have := (HMt.out w (Turn.refl _ _ _)).low; omega
  clear hB6 hB56 hg6 hv6 hi0 hz0 hz1 hz2 k9
  have kS2 := kspread_any nb gk N w.heap.size gl cl y E R beg true HyN.out w6 (HMt.out w6 hT5) hs6 hnbl
  rw [← Hy2.out] at kS2
  go_upto_region 6 with (go_at_call 67; refine kS2.mono ?_; rintro en w7 ⟨rfl, hS7, hTl⟩)
  have hT7 := hT5.above hTl (by omega)
  have hSg := own_turn hS5 hTl (by omega)
  have k9 := blk_turn k9' hTl (by omega)
  have k87 := blk_turn k85 hTl (by omega)
  clear hS5 hT5 k85 k9' hTl kS2 hs6
  have kR2 : ∀ W, Below w7.heap.size w7 W → Calls Tryd.prog 68 #[.pointer (some ⟨gk, 0, none⟩), .slice (some ⟨gl, 0, none⟩) (wordsFor N) cl] W fun e w' => e = .returned (.int .u32 ((r2 : Nat) : Int)) ∧ Below W.heap.size W w' := fun W hW => by
    have := krules_any nb gk N W.heap.size gl cl y2 E R W (HMt.out W (hT7.then_ hW)) ((hS7.then_ hW).slice_all encU_size)
    rw [← Hr2.out] at this
    exact this.mono fun e w' h => ⟨h.1, by rw [h.2]; exact Below.refl _ _⟩
  have hor2 := Hor2.out
  refine wp_region_steps 7 [eqS (.pointer (some ⟨g9, 1, none⟩)), eqS (.int .u32 (((r1 : Nat) : Int))), eqS (.pointer (some ⟨gk, 0, none⟩)), eqS (.slice (some ⟨gl, 0, none⟩) (wordsFor N) cl), eqS (.int .u32 (((r2 : Nat) : Int))), eqS (.int .u32 (((e2 : Nat) : Int))), eqS (.pointer (some ⟨g9, 2, none⟩))] [31, 32, 33, 34, 35, 36, 37] follows_mixed (by kernel_rfl) (by kernel_rfl) ?_ ?_
  · skip
    refine Steps.cons (fun a' w' hG hB dep => gs_field (want_none rfl) _ _ _ rfl g9 (0) (1) (hG.other 9 rfl) (fun wz => field_mom_1 g9 (0) wz) rfl) ?_
    refine Steps.cons (fun a' w' hG hB dep => gs_load1 (want_none rfl) _ _ rfl g9 (1) (dep 0 rfl 31 rfl) (.int .u32 (((r1 : Nat) : Int))) ((blk_then k9 hB).cellv (i := 1) rfl) _ Tryd.underlying43 rfl rfl) ?_
    refine Steps.cons (fun a' w' hG hB dep => gs_move (want_none rfl) _ rfl (id (hG.other 0 rfl))) ?_
    refine Steps.cons (fun a' w' hG hB dep => gs_move (want_none rfl) _ rfl (id (hG.other 10 rfl))) ?_
    refine Steps.cons (fun a' w' hG hB dep => gs_call (want_none rfl) _ _ _ rfl enter_krules #[(.pointer (some ⟨gk, 0, none⟩)), (.slice (some ⟨gl, 0, none⟩) (wordsFor N) cl)] (map2 (dep 2 rfl 33 rfl) (dep 3 rfl 34 rfl)) (ret_step (kR2 _ hB) (fun _ => rfl))) ?_
    refine Steps.cons (fun a' w' hG hB dep => gs_or_u32 (want_none rfl) _ _ _ _ rfl _ _ (dep 1 rfl 32 rfl) (dep 4 rfl 35 rfl) _ hor2 rfl) ?_
    refine Steps.cons (fun a' w' hG hB dep => gs_field (want_none rfl) _ _ _ rfl g9 (0) (2) (hG.other 9 rfl) (fun wz => field_mom_2 g9 (0) wz) rfl) ?_
    exact Steps.nil
  intro uu w8 hB8 ans
  have u36 : uu 36 = .int .u32 ((e2 : Nat) : Int) := ans 5 36 (by decide) rfl
  have u37 : uu 37 = .pointer (some ⟨g9, 2, none⟩) := ans 6 37 (by decide) rfl
  clear ans
  simp only [putAll, List.foldl_cons, List.foldl_nil, Act.put, List.setIfInBounds_toArray, List.set_cons_zero, List.set_cons_succ, u36, u37]
  clear u36 u37 kR2 hor2
  simp only [List.drop]
  replace hT7 := hT7.then_ hB8
  replace hSg := hSg.then_ hB8
  replace k9 := blk_then k9 hB8
  replace k87 := blk_then k87 hB8
  clear hB8 hS7
  refine wl_store_cell rfl _ _ _ rfl g9 2 rfl 92 _ (momC (some ⟨g, 0, none⟩) (wordsFor N) c r1 e2) k9 (by show 2 < 3; omega) (by kernel_rfl) rfl rfl rfl ?_
  intro w9 k99 hg99
  refine wpList_nil ?_
  have hT9 := hT7.grown hg99 (fun r e => by injection e with e; omega)
  have hSg9 := own_grown' hSg hg99 (fun h => hg9g h.symm)
  have k89 := blk_grown k87 hg99 (fun h => hg98 h.symm)
  clear hT7 hSg k9 k87 hg99
  go_wp2_with (first
    | (refine wl_load_mom rfl _ rfl g9 rfl (some ⟨g, 0, none⟩) (wordsFor N) c r1 e2 k99 ?_)
    | (refine wl_store_mom rfl _ _ rfl g8 (some ⟨g, 0, none⟩) (wordsFor N) c r1 e2 rfl rfl (momC none 0 0 0 0) rfl k89 ?_; intro wa ka hga))
  refine ret_cell rfl _ rfl ka Tryd.underlying92 rfl (info_mom.trans rfl) rfl ?_
  exact ⟨rfl, own_grown' hSg9 hga (fun h => hg8g h.symm), hT9.grown hga (fun r e => by injection e with e; omega)⟩
end Go.Proofs.YtkedgombccdamaaDoor
namespace Go.Proofs.YtkedgombccdamaaDoor
open Go.RowKit Go.Shelf Go.Maps
set_option linter.unusedVariables false
set_option linter.unusedSimpArgs false
attribute [local go_sem] Oper.semAt_some

def hopP (E : List Edg) (x cb n i : Nat) : Prop := ∃ d ∈ E, d.kd = 2 ∧ d.fr.toNat < n ∧ x.testBit d.fr.toNat = true ∧ d.st.getLsbD cb = true ∧ d.tt.toNat = i
def hopQ (E : List Edg) (cb n j i : Nat) : Prop := ∃ d ∈ (edgesAt E n).take j, d.kd = 2 ∧ d.st.getLsbD cb = true ∧ d.tt.toNat = i
theorem hopP_skip {E : List Edg} {x cb n : Nat} (hE : ∀ d ∈ E, 0 ≤ d.fr) (h : x.testBit n = false) (i : Nat) : hopP E x cb (n + 1) i ↔ hopP E x cb n i := by
  constructor
  · rintro ⟨d, h1, h2, h3, h4, h5⟩
    by_cases e : d.fr.toNat = n
    · rw [e, h] at h4; cases h4
    · exact ⟨d, h1, h2, by omega, h4, h5⟩
  · rintro ⟨d, h1, h2, h3, h4⟩
    exact ⟨d, h1, h2, by omega, h4⟩
theorem hopP_step {E : List Edg} {x cb n : Nat} (hE : ∀ d ∈ E, 0 ≤ d.fr) (h : x.testBit n = true) (j : Nat) (hj : (edgesAt E n).length ≤ j) (i : Nat) : hopP E x cb (n + 1) i ↔ hopP E x cb n i ∨ hopQ E cb n j i := by
  unfold hopQ
  rw [List.take_of_length_le hj]
  constructor
  · rintro ⟨d, h1, h2, h3, h4, h5, h6⟩
    by_cases e : d.fr.toNat = n
    · exact .inr ⟨d, mem_edgesAt.2 ⟨h1, by have := hE d h1; omega⟩, h2, h5, h6⟩
    · exact .inl ⟨d, h1, h2, by omega, h4, h5, h6⟩
  · rintro (⟨d, h1, h2, h3, h4⟩ | ⟨d, h1, h2, h5, h6⟩)
    · exact ⟨d, h1, h2, by omega, h4⟩
    · obtain ⟨h1, h7⟩ := mem_edgesAt.1 h1
      have e : d.fr.toNat = n := by omega
      exact ⟨d, h1, h2, by omega, by rw [e]; exact h, h5, h6⟩
theorem hopQ_succ {E : List Edg} {cb n j : Nat} (hj : j < (edgesAt E n).length) (i : Nat) : hopQ E cb n (j + 1) i ↔ hopQ E cb n j i ∨ ((edgesAt E n)[j].kd = 2 ∧ (edgesAt E n)[j].st.getLsbD cb = true ∧ (edgesAt E n)[j].tt.toNat = i) := by
  unfold hopQ
  rw [List.take_succ_eq_append_getElem hj]
  constructor
  · rintro ⟨d, h1, h2⟩
    rcases List.mem_append.1 h1 with h1 | h1
    · exact .inl ⟨d, h1, h2⟩
    · rw [List.mem_singleton] at h1
      subst h1
      exact .inr h2
  · rintro (⟨d, h1, h2⟩ | h2)
    · exact ⟨d, List.mem_append_left _ h1, h2⟩
    · exact ⟨_, List.mem_append_right _ (List.mem_singleton.2 rfl), h2⟩
theorem hop_byte {E : List Edg} {N x cb y : Nat} (hN : 1 ≤ N) (hE : ∀ d ∈ E, (0 ≤ d.fr ∧ d.fr < N) ∧ 0 ≤ d.tt ∧ d.tt < N) (h : ∀ i, y.testBit i = true ↔ hopP E x cb N i) : y ||| 1 = byteN E N x cb ||| 1 := by
  apply bits_ext
  intro i
  have h1 : Nat.testBit 1 i = decide (0 = i) := by rw [show (1 : Nat) = 2 ^ 0 from rfl, Nat.testBit_two_pow]
  rw [Nat.testBit_or, Nat.testBit_or, Bool.or_eq_true, Bool.or_eq_true, h, byte_bit, h1, decide_eq_true_eq]
  constructor
  · rintro (⟨d, h1, h2, h3, h4, h5, h6⟩ | h)
    · exact .inl ⟨by have := hE d h1; omega, .inr ⟨d, h1, h2, h4, h5, h6⟩⟩
    · exact .inr h
  · rintro (⟨_, h | ⟨d, h1, h2, h4, h5, h6⟩⟩ | h)
    · exact .inr h.symm
    · exact .inl ⟨d, h1, h2, by have := hE d h1; omega, h4, h5, h6⟩
    · exact .inr h
theorem moN_or {E : List Edg} {N : Nat} {R : List Nat} {x y met : Nat} {b : Bool} (h : x ||| 1 = y ||| 1) : moN E N R x met b = moN E N R y met b := by unfold moN; rw [h]
end Go.Proofs.YtkedgombccdamaaDoor
namespace Go.Proofs.YtkedgombccdamaaDoor
open Go.RowKit Go.Shelf Go.Maps
set_option linter.unusedVariables false
set_option linter.unusedSimpArgs false
attribute [local go_sem] Oper.semAt_some

set_option maxRecDepth 100000 in
set_option maxHeartbeats 8000000 in
theorem kbehind_any (nb gk N B K c x r e0 cb : Nat) (A : Option Addr) (E : List Edg) (R : List Nat) (hK : K = wordsFor N) (hr : r < 4294967296) (hcb : cb < 256) (w : World) (hM : SMach nb w gk N E R) (hB : B ≤ w.heap.size) (hS : SliceOf w B 1 encU A (wordsN x K)) :
    Calls Tryd.prog 40 #[.pointer (some ⟨gk, 0, none⟩), .agg (momC A K c r e0), .int .u8 cb] w fun e w' => ∃ g, e = .returned (.agg (momC (some ⟨g, 0, none⟩) (wordsFor N) (wordsFor N) (moN E N R (byteN E N x cb) r false).met (moN E N R (byteN E N x cb) r false).end_)) ∧ w.heap.size ≤ g ∧ Own w' w.heap.size 50 1 encU (.slice (some ⟨g, 0, none⟩) (wordsFor N) (wordsFor N)) (wordsN (moN E N R (byteN E N x cb) r false).at_ (wordsFor N)) ∧ Below w.heap.size w w' := by
  subst hK
  have hN := hM.lN
  have hone := hM.fits.one
  have HF := Lib.hid hM.fits
  have hkb : wordsFor N ≤ 1099511627776 := by unfold wordsFor; omega
  have hkI := words_room N
  have hlow := hM.low
  have hEb : ∀ d ∈ E, (0 ≤ d.fr ∧ d.fr < N) ∧ 0 ≤ d.tt ∧ d.tt < N := fun d hd => ⟨HF.out.fr d hd, HF.out.tt d hd⟩
  have Hby := Lib.hid (fun (y : Nat) (h : ∀ i, y.testBit i = true ↔ hopP E x cb N i) => (moN_or (E := E) (N := N) (R := R) (met := r) (b := false) (hop_byte hone hEb h)))
  have HMt := Lib.hid (fun W (hW : Below w.heap.size w W) => hM.below hW hlow)
  have HSl := Lib.hid (fun W (hW : Below w.heap.size w W) => (hS.keep (w' := W) fun k hk => hW.block k (by omega)))
  have c0 : w.cell? ⟨gk, 0, none⟩ = some (.int .i64 (N : Int)) := by
    obtain ⟨h1, A, n, c, B, d, bf, cF, hb, h3, h4, h5⟩ := hM.mem
    exact hb.cellv rfl
  have HEb := Lib.hid hEb
  clear hM hS hEb
  go_enter Tryd.func40, Tryd.ntmps40
  go_upto_region 1 with (fail)
  have h1 : Blk (w.alloc (.cells (momC A (wordsFor N) c r e0) 92)) w.heap.size 92 (momC A (wordsFor N) c r e0) := Blk.new w _ _
  have hB1 : Below w.heap.size w (w.alloc (.cells (momC A (wordsFor N) c r e0) 92)) := below_alloc (Below.refl _ _) _
  obtain ⟨w1, hw1⟩ : ∃ y, y = w.alloc (.cells (momC A (wordsFor N) c r e0) 92) := ⟨_, rfl⟩
  have hs1 : w1.heap.size = w.heap.size + 1 := by rw [hw1]; exact Array.size_push ..
  rw [← hw1] at h1 hB1 ⊢
  clear hw1
  have h16 : Blk (w1.alloc (.cells #[.slice none 0 0, .int .u32 0, .int .u32 0] 92)) w1.heap.size 92 (momC none 0 0 0 0) := Blk.new w1 92 (momC none 0 0 0 0)
  have hB2 : Below w.heap.size w (w1.alloc (.cells #[.slice none 0 0, .int .u32 0, .int .u32 0] 92)) := below_alloc hB1 _
  have h12 := blk_then h1 (below_alloc (Below.refl w1.heap.size w1) (.cells #[.slice none 0 0, .int .u32 0, .int .u32 0] 92))
  obtain ⟨w2, hw2⟩ : ∃ y, y = w1.alloc (.cells #[.slice none 0 0, .int .u32 0, .int .u32 0] 92) := ⟨_, rfl⟩
  have hs2 : w2.heap.size = w.heap.size + 2 := by rw [hw2, show w.heap.size + 2 = w1.heap.size + 1 by omega]; exact Array.size_push ..
  rw [← hw2, hs1] at h16
  rw [← hw2] at hB2 h12 ⊢
  obtain ⟨gx, hgx⟩ : ∃ y, y = w.heap.size := ⟨_, rfl⟩
  rw [← hgx] at h16 h12 ⊢
  have Hgx := Lib.hid hgx
  clear hw2 hs1 h1 hB1 hgx
  go_upto_region 2 with (go_at_call 39; refine (knone_any nb gk N E R _ (HMt.out w2 hB2)).mono ?_; rintro e w3 ⟨g, rfl, hgl, hS3, hB3⟩)
  have hgw : w.heap.size + 2 ≤ g := by omega
  replace hS3 := hS3.mono (base' := w.heap.size) (by omega)
  have hB03 := below_then hB2 hB3
  have h13 := blk_then h12 hB3
  have h63 := blk_then h16 hB3
  have c03 := (World.cell?_of_block (w := w) (hB03.block gk (Nat.lt_of_lt_of_le (HMt.out w (Below.refl _ _)).mem.1 hlow))).trans c0
  clear hB3 hB2 h12 h16 c0 hgl
  have hi0 : ∀ i, Nat.testBit 0 i = true ↔ hopP E x cb 0 i := fun i => by
    constructor
    · intro h; simp at h
    · rintro ⟨d, _, _, h, _⟩; omega
  go_wp2_with (fail)
  go_loopw [18] (fun iv wr => ∃ n y : Nat, n ≤ N ∧ iv = .int .i64 n ∧ below y N ∧ (∀ i, y.testBit i = true ↔ hopP E x cb n i) ∧ Own wr w.heap.size 50 1 encU (.slice (some ⟨g, 0, none⟩) (wordsFor N) (wordsFor N)) (wordsN y (wordsFor N)) ∧ Below w.heap.size w wr ∧ Blk wr gx 92 (momC A (wordsFor N) c r e0) ∧ Blk wr (gx + 1) 92 (momC none 0 0 0 0)) (fun iv _ => N - (intOf iv).toNat)
  case atStart => exact ⟨0, 0, by omega, rfl, below_zero N, hi0, hS3, hB03, h13, h63⟩
  case round =>
    clear hi0 hS3 hB03 h13 h63 c03
    obtain ⟨n, y, hn, rfl, hy, hi, hS, hBw, hx, h6⟩ := hrel
    by_cases hnl : n < N
    · have hnI : (n : Int) < N := by omega
      have hnb : n < 1099511628000 := by omega
      have cx : wr.cell? ⟨gx, 0, none⟩ = some (.slice A (wordsFor N) c) := hx.cellv (i := 0) rfl
      have hh := khas_any A (wordsFor N) c x n (by omega) hkb B wr (HSl.out wr hBw)
      obtain ⟨b, hbt⟩ : ∃ b, x.testBit n = b := ⟨_, rfl⟩
      rw [hbt] at hh
      have Hb := Lib.hid hbt
      have Hi := Lib.hid hi
      have Hy := Lib.hid hy
      clear hbt hi hy
      cases b with
      | false =>
        have hi1 : ∀ i, y.testBit i = true ↔ hopP E x cb (n + 1) i := fun i => (Hi.out i).trans (hopP_skip (fun d hd => (HEb.out d hd).1.1) Hb.out i).symm
        have Hi1 := Lib.hid hi1
        clear hi1
        go_wp2_with (go_at_call 69; refine hh.mono ?_; rintro e w5 ⟨rfl, rfl⟩)
        exact ⟨⟨n + 1, y, by omega, rfl, Hy.out, Hi1.out, hS, hBw, hx, h6⟩, by simp only [intOf]; omega⟩
      | true =>
        obtain ⟨hgk, A1, n1, c1, B1, d1, bf, cF, hbk, hR1, hbf, hfr⟩ := (HMt.out wr hBw).mem
        obtain ⟨As, cs, ce, hAs⟩ := hfr n hnl
        have cF1 : wr.cell? ⟨gk, 3, none⟩ = some (.slice (some ⟨bf, 0, none⟩) N cF) := hbk.cellv (i := 3) rfl
        have hElen : (edgesAt E n).length ≤ 1099511627776 := Nat.le_trans (List.length_filter_le _ _) (HMt.out wr hBw).lE
        have HAs := Lib.hid (fun W (hW : Below w.heap.size w W) => (hAs.keep (w' := W) fun k hk => (hW.block k (by omega)).trans (hBw.block k (by omega)).symm))
        obtain ⟨el, hel⟩ : ∃ el, el = (edgesAt E n).length := ⟨_, rfl⟩
        rw [← hel] at ce hElen
        have Hel := Lib.hid hel
        clear hbk hR1 hfr hAs hel
        go_wp2_with (go_at_call 69; refine hh.mono ?_; rintro e w5 ⟨rfl, rfl⟩)
        go_loopw [34] (fun iv wi => ∃ j z : Nat, j ≤ el ∧ iv = .int .i64 j ∧ below z N ∧ (∀ i, z.testBit i = true ↔ hopP E x cb n i ∨ hopQ E cb n j i) ∧ Own wi w.heap.size 50 1 encU (.slice (some ⟨g, 0, none⟩) (wordsFor N) (wordsFor N)) (wordsN z (wordsFor N)) ∧ Below w.heap.size w wi ∧ Blk wi gx 92 (momC A (wordsFor N) c r e0) ∧ Blk wi (gx + 1) 92 (momC none 0 0 0 0)) (fun iv _ => el - (intOf iv).toNat)
        case atStart => exact ⟨0, y, by omega, rfl, Hy.out, fun i => (Hi.out i).trans ⟨.inl, fun h => h.elim id (fun ⟨d, h, _⟩ => by simp at h)⟩, hS, hBw, hx, h6⟩
        case round =>
          have hBw0 := hBw
          clear hS hBw hx h6 cx hh cF1 ce
          obtain ⟨j, z, hj, rfl, hz, hi, hS, hBw, hx, h6⟩ := hrel
          by_cases hjl : j < el
          · have hjI : (j : Int) < el := by omega
            have hjb : j < 1099511628000 := by omega
            have hjl2 : j < (edgesAt E n).length := by rw [← Hel.out]; exact hjl
            obtain ⟨ba, off, rfl, hba, hrows⟩ := (HAs.out wr hBw).at_ (by omega)
            have hr7 := hrows j hjl2
            have hmem := List.getElem_mem hjl2
            rw [mem_edgesAt] at hmem
            have hq := hopQ_succ (E := E) (cb := cb) hjl2
            obtain ⟨dd, hd⟩ : ∃ d, d = (edgesAt E n)[j] := ⟨_, rfl⟩
            rw [← hd] at hr7 hmem hq
            have htt := HF.out.tt dd hmem.1
            obtain ⟨t, ht⟩ : ∃ t : Nat, dd.tt = (t : Int) := ⟨dd.tt.toNat, by omega⟩
            have htn : dd.tt.toNat = t := by omega
            have Htn := Lib.hid (And.intro ht htn)
            have htN : t < N := by omega
            have Hq := Lib.hid hq
            have Hi2 := Lib.hid hi
            have Hz := Lib.hid hz
            clear hd hmem htt hrows ht htn hq hi hz
            go_upto_region 9 with (first | (refine wl_load_edge_at rfl _ rfl _ _ rfl _ hr7 ?_) | (refine wl_store_edge rfl _ _ rfl _ _ rfl rfl edge0 (Blk.new _ _ _) ?_; intro w4 h12 hg3))
            have hB4 := below_grown (below_alloc (Below.refl _ wr) (.cells #[.int .i64 0, .int .i64 0, .int .i64 0, .int .u64 0, .int .u64 0, .int .u64 0, .int .u64 0] 76)) hg3 (Nat.le_refl _)
            obtain ⟨ge, hge⟩ : ∃ y, y = wr.heap.size := ⟨_, rfl⟩
            rw [← hge] at h12 ⊢
            have hglr := (hS.lt g rfl).2
            have hgeg : ge ≠ g := by omega
            replace hS := hS.then_ hB4
            replace hBw := below_then hBw hB4
            replace hx := blk_then hx hB4
            replace h6 := blk_then h6 hB4
            clear hg3 hr7 hB4 hge hglr
            have c2 : w4.cell? ⟨ge, 2, none⟩ = some (.int .i64 (t : Int)) := by rw [← Htn.out.1]; exact h12.cellv (i := 2) rfl
            simp only [Act.put]
            go_cut [46] from 38 to 47 (fun v wx => Below w4.heap.size w4 wx ∧ v = .bool (decide (dd.kd = 2) && dd.st.getLsbD cb))
            case first =>
              have c1 : w4.cell? ⟨ge, 0, none⟩ = some (.int .i64 dd.kd) := h12.cellv (i := 0) rfl
              have hhas := fun w => has_any dd.st cb hcb w
              clear hS hBw hx h6 c2 Htn HF HMt HSl Hby HEb Hq Hi2 Hz HAs
              by_cases hk : dd.kd = 2
              · rw [hk] at c1
                go_wp2_with (first | (refine wl_load_set_g (want_yes rfl rfl rfl) _ rfl _ _ rfl _ h12.st ?_) | (go_at_call 64; refine (hhas _).mono ?_; rintro e w8 ⟨rfl, hB8⟩))
                all_goals go_meet
                exact ⟨hB8, congrArg Value.bool (by rw [decide_eq_true hk, Bool.true_and]; rfl)⟩
              · have hk2 : (dd.kd == 2) = false := by simpa using hk
                go_wp2_with (fail)
                all_goals go_meet
                exact ⟨Below.refl _ _, by simp [hk]⟩
            obtain ⟨hBc, rfl⟩ := hcut
            replace hS := hS.then_ hBc
            replace hBw := below_then hBw hBc
            replace hx := blk_then hx hBc
            replace h6 := blk_then h6 hBc
            replace c2 : wc.cell? ⟨ge, 2, none⟩ = some (.int .i64 (t : Int)) := by rw [← Htn.out.1]; exact (blk_then h12 hBc).cellv (i := 2) rfl
            replace h12 := blk_then h12 hBc
            clear hBc
            obtain ⟨f, hf⟩ : ∃ f, (decide (dd.kd = 2) && dd.st.getLsbD cb) = f := ⟨_, rfl⟩
            rw [hf]
            have Hf := Lib.hid hf
            clear hf
            cases f with
            | false =>
              have hno : ∀ i, ¬ (dd.kd = 2 ∧ dd.st.getLsbD cb = true ∧ dd.tt.toNat = i) := fun i ⟨a, b, _⟩ => by
                have := Hf.out
                rw [b, decide_eq_true a] at this
                exact absurd this (by decide)
              have Hno := Lib.hid hno
              clear hno
              go_wp2_with (fail)
              refine ⟨⟨j + 1, z, by omega, rfl, Hz.out, fun i => (Hi2.out i).trans (or_congr Iff.rfl ⟨fun h => (Hq.out i).2 (.inl h), fun h => ((Hq.out i).1 h).elim id (fun h => (Hno.out i h).elim)⟩), hS, hBw, hx, h6⟩, by simp only [intOf]; omega⟩
            | true =>
              have hk := (Bool.and_eq_true _ _ ▸ Hf.out : _ ∧ _)
              have hk1 : dd.kd = 2 := of_decide_eq_true hk.1
              have hk2 := hk.2
              have hadd : ∀ i, (z ||| 2 ^ t).testBit i = true ↔ hopP E x cb n i ∨ hopQ E cb n (j + 1) i := fun i => by
                rw [testBit_or_pow, Bool.or_eq_true, decide_eq_true_eq, Hi2.out i, Hq.out i, Htn.out.2]
                constructor
                · rintro ((h | h) | h)
                  · exact .inl h
                  · exact .inr (.inl h)
                  · exact .inr (.inr ⟨hk1, hk2, by omega⟩)
                · rintro (h | h | ⟨_, _, h⟩)
                  · exact .inl (.inl h)
                  · exact .inl (.inr h)
                  · exact .inr (by omega)
              have Hadd := Lib.hid (And.intro hadd (below_or Hz.out (below_pow htN)))
              clear hk hk1 hk2 hadd
              go_wp2_with (go_at_call 66; refine (kadd_any g (wordsFor N) (wordsFor N) z t w.heap.size (by omega) hkb _ hS).mono ?_; rintro e w6 ⟨rfl, hS6, hg6⟩)
              exact ⟨⟨j + 1, z ||| 2 ^ t, by omega, rfl, Hadd.out.2, Hadd.out.1, hS6, below_grown hBw hg6 (by omega), blk_grown hx hg6 (by have := Hgx.out; omega), blk_grown h6 hg6 (by have := Hgx.out; omega)⟩, by simp only [intOf]; omega⟩
          · have hjI : ¬ (j : Int) < el := by omega
            have hst : ∀ i, z.testBit i = true ↔ hopP E x cb (n + 1) i := fun i => (hi i).trans (hopP_step (fun d hd => (HEb.out d hd).1.1) Hb.out j (by rw [← Hel.out]; omega) i).symm
            have Hst := Lib.hid hst
            have Hz := Lib.hid hz
            clear hst hz hi
            go_wp2_with (fail)
            exact ⟨⟨n + 1, z, by omega, rfl, Hz.out, Hst.out, hS, hBw, hx, h6⟩, by simp only [intOf]; omega⟩
    · have hnI : ¬ (n : Int) < N := by omega
      obtain rfl : N = n := by omega
      have cx : wr.cell? ⟨gx, 1, none⟩ = some (.int .u32 (r : Int)) := hx.cellv (i := 1) rfl
      have kM := kmoment_any nb gk N w.heap.size g (wordsFor N) y r E R false hy hr wr (HMt.out wr hBw) hS (by omega)
      rw [Hby.out y hi] at kM
      obtain ⟨M, hMo⟩ : ∃ M, M = moN E N R (byteN E N x cb) r false := ⟨_, rfl⟩
      rw [← hMo] at kM
      have HMo := Lib.hid hMo
      clear hMo hi hy hnI hn
      go_wp2_with (first
        | (go_at_call 38; refine kM.mono ?_; rintro e w6 ⟨rfl, hS6, hT6⟩; have h66 := blk_turn h6 hT6 (by have := Hgx.out; omega))
        | (refine wl_store_mom rfl _ _ rfl (gx + 1) (some ⟨g, 0, none⟩) (wordsFor N) (wordsFor N) M.met M.end_ rfl rfl (momC none 0 0 0 0) rfl h66 ?_; intro wa ka hga))
      refine ret_cell rfl _ rfl ka Tryd.underlying92 rfl (info_mom.trans rfl) rfl ?_
      have hgx := Hgx.out
      rw [← HMo.out]
      refine ⟨g, rfl, by omega, own_grown' hS6 hga (by omega), ?_⟩
      exact below_grown (hBw.trans (Turn.below (N := w.heap.size) hT6 (by omega) hBw.size)) hga (by omega)
end Go.Proofs.YtkedgombccdamaaDoor
namespace Go.Proofs.YtkedgombccdamaaDoor
open Go.RowKit Go.Maps Go.WideMaps
set_option linter.unusedVariables false
set_option linter.unusedSimpArgs false

section
variable {P : Program} {k e : TypeId} {κ : Type} {ok : κ → Prop} {kv : κ → Value} {lit : κ → Lit}
variable {ops : Array Oper} {rest : List Oper} {o : Oper} {a : Act} {Q : Exit → Act → World → Prop} {w : World} {t : TypeId} {b n cnt : Nat} {mf : κ → Option Int}
theorem wl_map_hit (K : KeyEnc P k κ ok kv lit) (ht : P.underlying t = some (.map k e)) (he : P.underlying e = some (.int .i64)) (hz : (zeroValue e).run P w = .ok (.int .i64 0) w)
    (h : IntMap P k e ok lit w b n mf cnt) (hg : o.guard = none) (m x : Operand) (hop : o.op = Op.lookup t m x true) (hm : a.eval m = .map (some b)) (y : κ) (hy : ok y) (hx : a.eval x = kv y) (v : Int) (hv : mf y = some v)
    (hK : wpList P ops Q rest (a.put o.dst (.tuple #[.int .i64 v, .bool true])) w) : wpList P ops Q (o :: rest) a w :=
  wl_map_ok K ht he hz h hg m x hop hm y hy hx (by rw [hv]; exact hK)
theorem wl_map_miss (K : KeyEnc P k κ ok kv lit) (ht : P.underlying t = some (.map k e)) (he : P.underlying e = some (.int .i64)) (hz : (zeroValue e).run P w = .ok (.int .i64 0) w)
    (h : IntMap P k e ok lit w b n mf cnt) (hg : o.guard = none) (m x : Operand) (hop : o.op = Op.lookup t m x true) (hm : a.eval m = .map (some b)) (y : κ) (hy : ok y) (hx : a.eval x = kv y) (hv : mf y = none)
    (hK : wpList P ops Q rest (a.put o.dst (.tuple #[.int .i64 0, .bool false])) w) : wpList P ops Q (o :: rest) a w :=
  wl_map_ok K ht he hz h hg m x hop hm y hy hx (by rw [hv]; exact hK)
end

theorem clsC_put (new old : Nat → Int) (n : Nat) (v : Int) (h : v = new n) : (clsC (upto n new old)).setIfInBounds n (.int .i64 v) = clsC (upto (n + 1) new old) := by
  rw [clsC_set, upto_put new old n v h]
theorem info_cls : (Tryd.prog.info? 30).map (·.size) = some 256 := by kernel_rfl
theorem info_pair : (Tryd.prog.info? 134).map (·.size) = some 2 := by kernel_rfl
theorem zero_cls (w : World) : (zeroValue 30).run Tryd.prog w = .ok (.agg (clsC fun _ => 0)) w := by kernel_rfl

/-- two ints, the second a bit -/
def pairC (y : Int × Bool) : Array Value := intsC .i64 [y.1, if y.2 then 1 else 0]
theorem pairC_size (y : Int × Bool) : (pairC y).size = 2 := rfl
theorem pairC_set (c : Int) : (pairC (c, false)).setIfInBounds 1 (.int .i64 1) = pairC (c, true) := rfl
theorem pairC_inj {x y : Int × Bool} (h : pairC x = pairC y) : x = y := by
  have := intsC_inj h
  obtain ⟨a, b⟩ := x
  obtain ⟨c, d⟩ := y
  simp only [List.cons.injEq] at this
  obtain ⟨rfl, h2, _⟩ := this
  cases b <;> cases d <;> simp_all
theorem pairC_one (y : Int × Bool) : (pairC y).all (·.oneCell') = true := by
  obtain ⟨a, b⟩ := y
  simp [pairC, intsC, Value.oneCell']
theorem arr_pair : ArrKey Tryd.prog 134 3 2 := ⟨Tryd.underlying134, by kernel_rfl, by kernel_rfl, by kernel_rfl⟩
theorem wf_bit (b : Bool) : (Lit.int .i64 (if b then 1 else 0)).wf = true := by cases b <;> decide
def okP (y : Int × Bool) : Prop := (Lit.int .i64 y.1).wf = true
def litP (y : Int × Bool) : Lit := .string (keyBytes ([y.1, if y.2 then 1 else 0].map (Lit.int .i64)))
theorem keyPair : KeyEnc Tryd.prog 134 (Int × Bool) okP (fun y => .agg (pairC y)) litP where
  law := Keyed.of_law (deep_law_laid laid_out (m := 2) (by omega) (of_decide_eq_true (by kernel_rfl)) (by kernel_rfl) (by rw [Tryd.underlying134]))
  key y hy := keyOf_ints arr_pair Tryd.underlying3 types_pos _ rfl (fun x hx => by
    simp only [List.mem_cons, List.not_mem_nil, or_false] at hx
    rcases hx with rfl | rfl
    · exact hy
    · exact wf_bit _)
  inj x y h := pairC_inj (by injection h)
theorem wf_small {c : Int} (h0 : 0 ≤ c) (h1 : c < 65536) : (Lit.int .i64 c).wf = true := by
  have h2 : IntKind.i64.min = -9223372036854775808 := by decide
  have h3 : IntKind.i64.max = 9223372036854775807 := by decide
  simp only [Lit.wf, Bool.and_eq_true, decide_eq_true_eq]
  exact ⟨by omega, by omega⟩

/-- what the map holds at the j-th byte -/
def mapAt {α : Type} [DecidableEq α] (f : Nat → α) (j : Nat) (x : α) : Option Int := if x ∈ firsts f j then some ((firsts f j).idxOf x : Int) else none
section
variable {α : Type} [DecidableEq α] (f : Nat → α) (j : Nat)
theorem mapAt_zero : mapAt f 0 = fun _ => none := by funext x; simp [mapAt, firsts]
theorem mapAt_old (h : f j ∈ firsts f j) : mapAt f j (f j) = some (num f j : Int) := by rw [num_old f j h]; simp [mapAt, h]
theorem mapAt_new (h : ¬ f j ∈ firsts f j) : mapAt f j (f j) = none := by simp [mapAt, h]
theorem mapAt_same (h : f j ∈ firsts f j) : mapAt f (j + 1) = mapAt f j := by
  funext x
  unfold mapAt
  rw [firsts_succ, if_pos h]
theorem mapAt_put (h : ¬ f j ∈ firsts f j) : putM (mapAt f j) (f j) ((firsts f j).length : Int) = mapAt f (j + 1) := by
  funext x
  unfold putM mapAt
  rw [firsts_succ, if_neg h]
  by_cases e : x = f j
  · subst e
    simp [idx_not h]
  · rw [if_neg e]
    by_cases hx : x ∈ firsts f j
    · simp [hx, idx_mem hx]
    · simp [hx, e]
theorem len_old (h : f j ∈ firsts f j) : (firsts f (j + 1)).length = (firsts f j).length := by rw [firsts_succ, if_pos h]
theorem len_new (h : ¬ f j ∈ firsts f j) : (firsts f (j + 1)).length = (firsts f j).length + 1 := by rw [firsts_succ, if_neg h]; simp
end

section
variable {ops : Array Oper} {rest : List Oper} {o : Oper} {a : Act} {w : World} {Q : Exit → Act → World → Prop}
theorem wl_load_cls (hgd : o.guard = none) (x : Operand) (ho : o.op = .load 30 x)
    (g : Nat) (hx : a.eval x = .pointer (some ⟨g, 0, none⟩)) (y : Nat → Int) (hb : Blk w g 30 (clsC y))
    (h : wpList Tryd.prog ops Q rest (a.put o.dst (.agg (clsC y))) w) : wpList Tryd.prog ops Q (o :: rest) a w :=
  wpList_load_row hgd _ x ho g hx _ _ _ _ hb Tryd.underlying30 rfl (info_cls.trans (by rw [clsC_size])) h
theorem wl_store_cls (hgd : o.guard = none) (x y : Operand) (ho : o.op = .store 30 x y)
    (g : Nat) (new : Nat → Int) (hx : a.eval x = .pointer (some ⟨g, 0, none⟩)) (hy : a.eval y = .agg (clsC new)) (old : Nat → Int) (hb : Blk w g 30 (clsC old))
    (h : ∀ w', Blk w' g 30 (clsC new) → w.grownBy w' (some g) → wpList Tryd.prog ops Q rest (a.put o.dst undef) w') : wpList Tryd.prog ops Q (o :: rest) a w :=
  wpList_store_row hgd _ x y ho g _ hx hy _ _ hb (info_cls.trans (by rw [clsC_size])) (by rw [clsC_size, clsC_size]) (clsC_oneCell new) (h _ (hb.setRow_same _) (only_setRow (only_refl _ _) _))
theorem wl_put_cls (hgd : o.guard = none) (x y : Operand) (ho : o.op = .store 3 x y)
    (g i : Nat) (hx : a.eval x = .pointer (some ⟨g, i, none⟩)) (v : Int) (hy : a.eval y = .int .i64 v) (new old : Nat → Int) (hb : Blk w g 30 (clsC (upto i new old))) (hi : i < 256) (hv : v = new i)
    (h : ∀ w', Blk w' g 30 (clsC (upto (i + 1) new old)) → w.grownBy w' (some g) → wpList Tryd.prog ops Q rest (a.put o.dst undef) w') : wpList Tryd.prog ops Q (o :: rest) a w :=
  wl_store_cell hgd _ x y ho g i hx _ _ _ hb (by rw [clsC_size]; exact hi) info_int (by rw [hy]; rfl) (by rw [hy]; rfl) (by rw [hy]; exact clsC_put new old i v hv) h
theorem wl_load_pair (hgd : o.guard = none) (x : Operand) (ho : o.op = .load 134 x)
    (g : Nat) (hx : a.eval x = .pointer (some ⟨g, 0, none⟩)) (y : Int × Bool) (hb : Blk w g 134 (pairC y))
    (h : wpList Tryd.prog ops Q rest (a.put o.dst (.agg (pairC y))) w) : wpList Tryd.prog ops Q (o :: rest) a w :=
  wpList_load_row hgd _ x ho g hx _ _ _ _ hb Tryd.underlying134 rfl (info_pair.trans (by rw [pairC_size])) h
theorem wl_store_pair (hgd : o.guard = none) (x y : Operand) (ho : o.op = .store 134 x y)
    (g : Nat) (new : Int × Bool) (hx : a.eval x = .pointer (some ⟨g, 0, none⟩)) (hy : a.eval y = .agg (pairC new)) (old : Int × Bool) (hb : Blk w g 134 (pairC old))
    (h : ∀ w', Blk w' g 134 (pairC new) → w.grownBy w' (some g) → wpList Tryd.prog ops Q rest (a.put o.dst undef) w') : wpList Tryd.prog ops Q (o :: rest) a w :=
  wpList_store_row hgd _ x y ho g _ hx hy _ _ hb (info_pair.trans (by rw [pairC_size])) (by rw [pairC_size, pairC_size]) (pairC_one new) (h _ (hb.setRow_same _) (only_setRow (only_refl _ _) _))
theorem ret_cls {fn : Func} {p u : Tmp} {g : Nat} {y : Nat → Int} (hres : fn.results = #[.cell p 30, .tmp u])
    (hp : a.tmps.getD p undef = .pointer (some ⟨g, 0, none⟩)) (hb : Blk w g 30 (clsC y))
    (hdf : a.defers = []) {R : Ending → World → Prop} (hR : R (.returned (.tuple #[.agg (clsC y), a.tmps.getD u undef])) w) : bodyPost Tryd.prog fn R .ret a w :=
  ret_cell2 hres _ hp hb Tryd.underlying30 rfl (info_cls.trans (by rw [clsC_size])) hdf hR
end

abbrev PMap (w : World) (b n : Nat) (m : Int × Bool → Option Int) (cnt : Nat) : Prop := IntMap Tryd.prog 134 3 okP litP w b n m cnt

set_option maxHeartbeats 1000000 in
set_option maxRecDepth 100000 in
theorem classes_any (A : Option Addr) (n c : Nat) (l : List BSet) (w : World) (hn : n = l.length) (hm : n ≤ maxLen) (hs : SliceOf w w.heap.size 4 setC A l) :
    Calls Tryd.prog 33 #[.slice A n c] w fun e w' => e = .returned (.tuple #[.agg (clsC (cls l)), .int .i64 (many l)]) ∧ Below w.heap.size w w' := by
  have Hn := Lib.hid hn
  clear hn
  unfold maxLen at hm
  have hz := zero_cls
  have hmm := @run_makeMap Tryd.prog
  have hs2 : w.heap.size ≤ w.heap.size + 1 := by omega
  go_enter Tryd.func33, Tryd.ntmps33
  go_wp2
  go_loopw [15, 5] (fun i m wr => ∃ k : Nat, k ≤ n ∧ i = .int .i64 k ∧ m = .int .i64 (many (l.take k)) ∧ Blk wr (w.heap.size + 1) 30 (clsC (cls (l.take k))) ∧ Blk wr w.heap.size 30 (clsC fun _ => 0) ∧ Below w.heap.size w wr) (fun i _ _ => n - (intOf i).toNat)
  case atStart =>
    refine ⟨0, by omega, rfl, ?_, ?_, ?_, ?_⟩
    · rw [List.take_zero, many_nil]; rfl
    · rw [List.take_zero, clsC_ext (g := cls []) (h := fun _ => 0) fun b _ => cls_nil b]
      exact Blk.new' _ _ _ (World.size_alloc _ _).symm
    · exact (Blk.new _ _ _).alloc _
    · exact ((Below.refl _ _).alloc (Nat.le_refl _) _).alloc (by simp) _
  case round =>
    obtain ⟨k, hk, rfl, rfl, hb1, hb2, hB⟩ := hrel
    by_cases hlt : k < n
    · have hlt' : k < l.length := by have := Hn.out; omega
      obtain ⟨b, off, rfl, hbl, hrow⟩ := (hs.below hB).at_ (by omega)
      have hr := hrow k hlt'
      clear hrow
      have hlt5 : w.heap.size + 1 < wr.heap.size := hb1.lt
      go_wp2_with (first | (refine wl_load_set_at rfl _ rfl _ _ rfl _ hr ?_) | (refine wl_store_set rfl _ _ rfl _ _ rfl rfl 0 (Blk.new _ _ _) ?_; intro w1 hbs hg5))
      have hb1' := (hb1.alloc (.cells (setC 0) 52)).grown hg5 (by simp; omega)
      have hb2' := (hb2.alloc (.cells (setC 0) 52)).grown hg5 (by simp; omega)
      have hB' := (hB.alloc hB.size (.cells (setC 0) 52)).grown hg5 (by simp; omega) (by rintro k ⟨⟩; omega)
      have hM := IntMap.new (P := Tryd.prog) (e := 3) keyPair w1 rfl
      obtain ⟨gs, hgs⟩ : ∃ g, g = wr.heap.size := ⟨_, rfl⟩
      obtain ⟨gm, hgm⟩ : ∃ g, g = w1.heap.size := ⟨_, rfl⟩
      rw [← hgs] at hbs ⊢
      rw [← hgm] at hM ⊢
      have hgw : w.heap.size + 1 < gs := by omega
      have hgsm : gs < gm := by have := hbs.lt; omega
      replace hbs := hbs.alloc (.map #[] 0)
      replace hb1' := hb1'.alloc (.map #[] 0)
      replace hb2' := hb2'.alloc (.map #[] 0)
      replace hB' := below_alloc hB' (.map #[] 0)
      rw [show (fun _ : Int × Bool => (none : Option Int)) = mapAt (keyN (cls (l.take k)) l[k]) 0 from (mapAt_zero _).symm] at hM
      clear hgs hgm hg5 hb1 hb2 hB hr hlt5
      obtain ⟨wo, rfl⟩ : ∃ wo : World, wo = wr := ⟨_, rfl⟩
      obtain ⟨f, hf⟩ : ∃ f, f = keyN (cls (l.take k)) l[k] := ⟨_, rfl⟩
      rw [← hf] at hM
      replace hf := Lib.hid hf
      go_loopw [20] (fun i wr => ∃ j : Nat, j ≤ 256 ∧ i = .int .i64 j ∧ Blk wr (w.heap.size + 1) 30 (clsC (upto j (fun b => (num f b : Int)) (cls (l.take k)))) ∧ Blk wr gs 52 (setC l[k]) ∧ PMap wr gm j (mapAt f j) (firsts f j).length ∧ Blk wr w.heap.size 30 (clsC fun _ => 0) ∧ Below w.heap.size w wr) (fun i _ => 256 - (intOf i).toNat)
      case atStart => exact ⟨0, by omega, rfl, by rw [upto_zero]; exact hb1', hbs, hM, hb2', hB'⟩
      case round =>
        obtain ⟨j, hj, rfl, hb1, hbs, hM, hb2, hB⟩ := hrel
        by_cases hjt : j < 256
        · have hjj := upto_ge (fun b => (num f b : Int)) (cls (l.take k)) (Nat.le_refl j)
          have c1 := hb1.cellv (clsC_at _ j hjt)
          rw [hjj] at c1
          have hC := Below.refl wr.heap.size wr
          have hgr : gm < wr.heap.size := hM.lt
          obtain ⟨v, hv⟩ : ∃ v, v = cls (l.take k) j := ⟨_, rfl⟩
          rw [← hv] at c1
          have hbit : ∃ bv, bv = l[k].getLsbD j := ⟨_, rfl⟩
          obtain ⟨bv, hbv⟩ := hbit
          have hfj : f j = (v, bv) := by rw [hf.out, hv, hbv]; rfl
          have hok : okP (v, bv) := by
            have h0 := cls_ge (l.take k) j
            have h1 := cls_lt (l.take k) hjt
            have h2 := many_le (l.take k)
            exact wf_small (by show 0 ≤ v; omega) (by show v < 65536; omega)
          have hmap : f j ∈ firsts f j ∨ ¬ f j ∈ firsts f j := Classical.em _
          have hlen := firsts_length_le f j
          have hnw := num_lt f (Nat.lt_succ_self j)
          replace hfj := Lib.hid hfj
          clear hjj hv
          rcases hmap with hmap | hmap
          · have hmo := Lib.hid (mapAt_old f j hmap)
            rw [hfj.out] at hmo
            cases bv with
            | true =>
              have hx := Lib.hid hbv.symm
              clear hbv
              go_wp2_with (first
                | (refine wl_load_set rfl _ rfl _ rfl _ (blk_then hbs hC) ?_)
                | (refine wl_store_pair rfl _ _ rfl _ (v, false) rfl rfl (0, false) (Blk.new _ _ _) ?_; intro w2 hk2 hg2; replace hC := below_grown (below_alloc hC (.cells (pairC (0, false)) 134)) hg2 (Nat.le_refl _))
                | (go_at_call 64; refine (has_any _ j hjt _).mono ?_; rw [hx.out]; rintro e w3 ⟨rfl, hB3⟩; replace hC := below_then hC hB3; replace hk2 := blk_then hk2 hB3)
                | (refine wl_store_cell rfl _ _ _ rfl _ _ rfl _ _ (pairC (v, true)) hk2 (by rw [pairC_size]; omega) info_int rfl rfl (pairC_set v) ?_; intro w4 hk4 hg4; replace hC := below_grown hC hg4 (Nat.le_refl _))
                | (refine wl_load_pair rfl _ rfl _ rfl _ hk4 ?_)
                | (at_lookup; refine wl_map_hit keyPair Tryd.underlying133 Tryd.underlying3 (zero_int _) (IntMap.then_ hM hC) rfl _ _ rfl rfl (v, true) hok rfl _ hmo.out ?_)
                | (refine wl_put_cls rfl _ _ rfl _ _ rfl _ rfl _ _ (blk_then hb1 hC) hjt rfl ?_; intro w5 hb5 hg5))
              go_roundw
              case rel =>
                refine ⟨j + 1, by omega, by go_num, hb5, blk_grown (blk_then hbs hC) hg5 (by omega), ?_, blk_grown (blk_then hb2 hC) hg5 (by omega), below_grown (below_then hB hC) hg5 hs2⟩
                rw [mapAt_same f j hmap, len_old f j hmap]
                exact IntMap.more ((IntMap.then_ hM hC).grown hg5 (by omega)) (Nat.le_succ j)
              case measure => simp [intOf]; omega
            | false =>
              have hx := Lib.hid hbv.symm
              clear hbv
              go_wp2_with (first
                | (refine wl_load_set rfl _ rfl _ rfl _ (blk_then hbs hC) ?_)
                | (refine wl_store_pair rfl _ _ rfl _ (v, false) rfl rfl (0, false) (Blk.new _ _ _) ?_; intro w2 hk2 hg2; replace hC := below_grown (below_alloc hC (.cells (pairC (0, false)) 134)) hg2 (Nat.le_refl _))
                | (go_at_call 64; refine (has_any _ j hjt _).mono ?_; rw [hx.out]; rintro e w3 ⟨rfl, hB3⟩; replace hC := below_then hC hB3; replace hk2 := blk_then hk2 hB3)
                | (refine wl_load_pair rfl _ rfl _ rfl _ hk2 ?_)
                | (at_lookup; refine wl_map_hit keyPair Tryd.underlying133 Tryd.underlying3 (zero_int _) (IntMap.then_ hM hC) rfl _ _ rfl rfl (v, false) hok rfl _ hmo.out ?_)
                | (refine wl_put_cls rfl _ _ rfl _ _ rfl _ rfl _ _ (blk_then hb1 hC) hjt rfl ?_; intro w5 hb5 hg5))
              go_roundw
              case rel =>
                refine ⟨j + 1, by omega, by go_num, hb5, blk_grown (blk_then hbs hC) hg5 (by omega), ?_, blk_grown (blk_then hb2 hC) hg5 (by omega), below_grown (below_then hB hC) hg5 hs2⟩
                rw [mapAt_same f j hmap, len_old f j hmap]
                exact IntMap.more ((IntMap.then_ hM hC).grown hg5 (by omega)) (Nat.le_succ j)
              case measure => simp [intOf]; omega
          · have hmo := Lib.hid (mapAt_new f j hmap)
            rw [hfj.out] at hmo
            have hnum : Hid (((firsts f j).length : Int) = (num f j : Int)) := Lib.hid (by rw [num_new f j hmap])
            cases bv with
            | true =>
              have hx := Lib.hid hbv.symm
              clear hbv
              go_wp2_with (first
                | (refine wl_load_set rfl _ rfl _ rfl _ (blk_then hbs hC) ?_)
                | (refine wl_store_pair rfl _ _ rfl _ (v, false) rfl rfl (0, false) (Blk.new _ _ _) ?_; intro w2 hk2 hg2; replace hC := below_grown (below_alloc hC (.cells (pairC (0, false)) 134)) hg2 (Nat.le_refl _))
                | (go_at_call 64; refine (has_any _ j hjt _).mono ?_; rw [hx.out]; rintro e w3 ⟨rfl, hB3⟩; replace hC := below_then hC hB3; replace hk2 := blk_then hk2 hB3)
                | (refine wl_store_cell rfl _ _ _ rfl _ _ rfl _ _ (pairC (v, true)) hk2 (by rw [pairC_size]; omega) info_int rfl rfl (pairC_set v) ?_; intro w4 hk4 hg4; replace hC := below_grown hC hg4 (Nat.le_refl _))
                | (refine wl_load_pair rfl _ rfl _ rfl _ hk4 ?_)
                | (at_lookup; refine wl_map_miss keyPair Tryd.underlying133 Tryd.underlying3 (zero_int _) (IntMap.then_ hM hC) rfl _ _ rfl rfl (v, true) hok rfl hmo.out ?_)
                | (at_len; refine wl_map_len Tryd.underlying133 (IntMap.then_ hM hC) rfl _ rfl rfl ?_)
                | (at_mapUpdate; refine wl_map_put keyPair Tryd.underlying133 Tryd.underlying3 (IntMap.then_ hM hC) (by unfold maxLen; omega) rfl _ _ _ rfl rfl (v, true) hok rfl _ rfl (wf_small (by omega) (by omega)) ?_; intro w6 hM6 hg6)
                | (refine wl_put_cls rfl _ _ rfl _ _ rfl _ rfl _ _ (blk_grown (blk_then hb1 hC) hg6 (by omega)) hjt hnum.out ?_; intro w5 hb5 hg5))
              go_roundw
              case rel =>
                refine ⟨j + 1, by omega, by go_num, hb5, blk_grown (blk_grown (blk_then hbs hC) hg6 (by omega)) hg5 (by omega), ?_, blk_grown (blk_grown (blk_then hb2 hC) hg6 (by omega)) hg5 (by omega), below_grown (below_grown (below_then hB hC) hg6 (by omega)) hg5 hs2⟩
                rw [hmo.out, ← hfj.out, mapAt_put f j hmap] at hM6
                rw [len_new f j hmap]
                exact hM6.grown hg5 (by omega)
              case measure => simp [intOf]; omega
            | false =>
              have hx := Lib.hid hbv.symm
              clear hbv
              go_wp2_with (first
                | (refine wl_load_set rfl _ rfl _ rfl _ (blk_then hbs hC) ?_)
                | (refine wl_store_pair rfl _ _ rfl _ (v, false) rfl rfl (0, false) (Blk.new _ _ _) ?_; intro w2 hk2 hg2; replace hC := below_grown (below_alloc hC (.cells (pairC (0, false)) 134)) hg2 (Nat.le_refl _))
                | (go_at_call 64; refine (has_any _ j hjt _).mono ?_; rw [hx.out]; rintro e w3 ⟨rfl, hB3⟩; replace hC := below_then hC hB3; replace hk2 := blk_then hk2 hB3)
                | (refine wl_load_pair rfl _ rfl _ rfl _ hk2 ?_)
                | (at_lookup; refine wl_map_miss keyPair Tryd.underlying133 Tryd.underlying3 (zero_int _) (IntMap.then_ hM hC) rfl _ _ rfl rfl (v, false) hok rfl hmo.out ?_)
                | (at_len; refine wl_map_len Tryd.underlying133 (IntMap.then_ hM hC) rfl _ rfl rfl ?_)
                | (at_mapUpdate; refine wl_map_put keyPair Tryd.underlying133 Tryd.underlying3 (IntMap.then_ hM hC) (by unfold maxLen; omega) rfl _ _ _ rfl rfl (v, false) hok rfl _ rfl (wf_small (by omega) (by omega)) ?_; intro w6 hM6 hg6)
                | (refine wl_put_cls rfl _ _ rfl _ _ rfl _ rfl _ _ (blk_grown (blk_then hb1 hC) hg6 (by omega)) hjt hnum.out ?_; intro w5 hb5 hg5))
              go_roundw
              case rel =>
                refine ⟨j + 1, by omega, by go_num, hb5, blk_grown (blk_grown (blk_then hbs hC) hg6 (by omega)) hg5 (by omega), ?_, blk_grown (blk_grown (blk_then hb2 hC) hg6 (by omega)) hg5 (by omega), below_grown (below_grown (below_then hB hC) hg6 (by omega)) hg5 hs2⟩
                rw [hmo.out, ← hfj.out, mapAt_put f j hmap] at hM6
                rw [len_new f j hmap]
                exact hM6.grown hg5 (by omega)
              case measure => simp [intOf]; omega
        · obtain rfl : j = 256 := by omega
          rw [upto_all] at hb1
          have hM1 := hM
          have hcl := Lib.hid (clsC_ext (g := fun b => (num f b : Int)) (h := cls (l.take (k + 1))) fun b _ => by rw [take_snoc' l k hlt', cls_snoc, hf.out])
          have hmy := Lib.hid (show (firsts f 256).length = many (l.take (k + 1)) by rw [take_snoc' l k hlt', many_snoc, hf.out])
          rw [hmy.out] at hM
          rw [hcl.out] at hb1
          go_wp2_with (first | (at_len; refine wl_map_len Tryd.underlying133 hM rfl _ rfl rfl ?_))
          go_roundw
          case rel => exact ⟨k + 1, by omega, by go_num, rfl, hb1, hb2, hB⟩
          case measure => simp [intOf]; omega
    · have hkk : l.take k = l := List.take_of_length_le (by have := Hn.out; omega)
      rw [hkk] at hb1
      go_wp2_with (first | (refine wl_load_cls rfl _ rfl _ rfl _ hb1 ?_) | (refine wl_store_cls rfl _ _ rfl _ _ rfl rfl _ hb2 ?_; intro w1 hb4 hg4))
      refine ret_cls rfl rfl hb4 rfl ⟨?_, hB.grown hg4 hB.size (by rintro k ⟨⟩; exact Nat.le_refl _)⟩
      rw [← hkk]
      rfl
end Go.Proofs.YtkedgombccdamaaDoor
namespace Go.Proofs.YtkedgombccdamaaDoor
open Go.RowKit Go.Shelf Go.Maps
set_option linter.unusedVariables false
set_option linter.unusedSimpArgs false
attribute [local go_sem] Oper.semAt_some

def encY (n : Nat) : Array Value := #[.int .u8 (n : Int)]
theorem encY_size (n : Nat) : (encY n).size = 1 := rfl
theorem info_u8one : (Tryd.prog.info? 5).map (·.size) = some 1 := by kernel_rfl
/-- the least byte from i on that is of class c -/
def repAt (f : Nat → Int) (i : Nat) (c : Nat) : Nat := ((List.range' i (256 - i)).find? (fun b => decide (f b = (c : Int)))).getD 0
def repL (f : Nat → Int) (m i : Nat) : List Nat := (List.range m).map (repAt f i)
theorem repL_length (f : Nat → Int) (m i : Nat) : (repL f m i).length = m := by simp [repL]
theorem repAt_top (f : Nat → Int) (c : Nat) : repAt f 256 c = 0 := by simp [repAt]
theorem repL_top (f : Nat → Int) (m : Nat) : repL f m 256 = List.replicate m 0 := by
  apply List.ext_getElem
  · simp [repL]
  · intro i h1 h2
    simp [repL, repAt_top]
theorem repAt_step (f : Nat → Int) {i : Nat} (c : Nat) (hi : i < 256) : repAt f i c = if f i = (c : Int) then i else repAt f (i + 1) c := by
  unfold repAt
  rw [show 256 - i = (256 - (i + 1)) + 1 by omega, List.range'_succ, List.find?_cons]
  by_cases h : f i = (c : Int)
  · simp [h]
  · simp [h]
theorem repL_step (f : Nat → Int) (m : Nat) {i n : Nat} (hi : i < 256) (hn : f i = (n : Int)) : (repL f m (i + 1)).set n i = repL f m i := by
  apply List.ext_getElem
  · simp [repL]
  · intro j h1 h2
    rw [List.getElem_set]
    simp only [repL, List.getElem_map, List.getElem_range]
    rw [repAt_step f j hi]
    by_cases e : n = j
    · subst e; rw [if_pos rfl, if_pos hn]
    · rw [if_neg e, if_neg (by omega)]
theorem repL_lt (f : Nat → Int) (m i : Nat) : ∀ b ∈ repL f m i, b < 256 := by
  intro b hb
  unfold repL at hb
  obtain ⟨c, _, rfl⟩ := List.mem_map.1 hb
  unfold repAt
  cases hf : (List.range' i (256 - i)).find? (fun b => decide (f b = (c : Int))) with
  | none => simp
  | some x =>
    have hm := List.mem_of_find?_eq_some hf
    rw [List.mem_range'_1] at hm
    simp; omega
set_option maxRecDepth 100000 in
set_option maxHeartbeats 2000000 in
theorem kfirst_any (f : Nat → Int) (m : Nat) (hm : m ≤ 256) (hf : ∀ b, b < 256 → 0 ≤ f b ∧ f b < m) (w : World) :
    Calls Tryd.prog 35 #[.agg (clsC f), .int .i64 m] w fun e w' => ∃ g, e = .returned (.slice (some ⟨g, 0, none⟩) m m) ∧ w.heap.size ≤ g ∧ Own w' w.heap.size 5 1 encY (.slice (some ⟨g, 0, none⟩) m m) (repL f m 0) ∧ Below w.heap.size w w' := by
  obtain ⟨i0, hi0, hz0, hz1, hz2⟩ := info_parts info_b3
  have Hf := Lib.hid hf
  clear hf
  go_enter Tryd.func35, Tryd.ntmps35
  go_upto_region 1 with (fail)
  have h2 : Blk (w.alloc (.cells (clsC f) 30)) w.heap.size 30 (clsC f) := Blk.new w _ _
  have hB1 : Below w.heap.size w (w.alloc (.cells (clsC f) 30)) := below_alloc (Below.refl _ _) _
  obtain ⟨w1, hw1⟩ : ∃ y, y = w.alloc (.cells (clsC f) 30) := ⟨_, rfl⟩
  have hs1 : w1.heap.size = w.heap.size + 1 := by rw [hw1]; exact Array.size_push ..
  rw [← hw1] at h2 hB1 ⊢
  obtain ⟨gx, hgx⟩ : ∃ y, y = w.heap.size := ⟨_, rfl⟩
  rw [← hgx] at h2 ⊢
  have Hgx := Lib.hid hgx
  clear hw1 hgx
  go_upto_region 2 with (at_make; refine wpList_make_full _ rfl _ _ 85 rfl w1.heap.size 5 i0 _ 1 Tryd.underlying85 hi0 hz0 hz1 _ _ _ _ m rfl rfl rfl rfl (by rw [hz2]; omega) (by unfold maxLen; omega) (Nat.le_refl _) ?_; intro w2 hown hg)
  have e1 : (madeCells (Value.int .u8 0).cells (m * 1)).toList = flat encY (repL f m 256) := by
    rw [repL_top]
    apply List.ext_getElem
    · rw [Array.length_toList, size_madeCells]
      simp [flat, encY]
    · intro j h1 h2
      simp [madeCells, Value.cells, flat, encY, List.flatMap_replicate]
      rw [Nat.mod_one]
      rfl
  have hS2 : Own w2 w.heap.size 5 1 encY (.slice (some ⟨w.heap.size + 1, 0, none⟩) m m) (repL f m 256) := by
    rw [e1] at hown
    rw [hs1] at hown
    have : Own w2 (w.heap.size + 1) 5 1 encY (.slice (some ⟨w.heap.size + 1, 0, none⟩) m m) (repL f m 256) := by
      unfold Own
      rw [repL_length]
      exact hown
    exact this.mono (by omega)
  have hBg : Below w1.heap.size w1 w2 := ⟨hg.os, hg.tape, hg.output, hg.size, fun k hk => hg.block k hk (by simp)⟩
  have hB2 := below_then hB1 hBg
  have h22 := blk_then h2 hBg
  obtain ⟨g, hgd⟩ : ∃ y, y = w.heap.size + 1 := ⟨_, rfl⟩
  rw [← hgd] at hS2 ⊢
  have Hgd := Lib.hid hgd
  clear e1 hown hg hBg hB1 h2 hs1 hi0 hz0 hz1 hz2 hgd
  go_wp2_with (fail)
  go_loopw [6] (fun iv wr => ∃ i : Nat, i ≤ 256 ∧ iv = .int .i64 ((i : Int) - 1) ∧ Own wr w.heap.size 5 1 encY (.slice (some ⟨g, 0, none⟩) m m) (repL f m i) ∧ Blk wr gx 30 (clsC f) ∧ Below w.heap.size w wr) (fun iv _ => (intOf iv + 1).toNat)
  case atStart => exact ⟨256, by omega, rfl, hS2, h22, hB2⟩
  case round =>
    clear hS2 h22 hB2
    obtain ⟨i, hi, rfl, hS, hx, hB⟩ := hrel
    rcases i with _ | j
    · rw [show (((0 : Nat) : Int) - 1) = -1 by omega]
      go_wp2_with (fail)
      go_ret
      exact ⟨g, rfl, by have := Hgd.out; omega, hS, hB⟩
    · rw [show ((j + 1 : Nat) : Int) - 1 = (j : Int) by omega]
      have hj : j < 256 := by omega
      have hc := Hf.out j hj
      obtain ⟨n, hn⟩ : ∃ n : Nat, f j = (n : Int) := ⟨(f j).toNat, by omega⟩
      have hnm : n < m := by omega
      have hnI : (n : Int) < m := by omega
      have cx : wr.cell? ⟨gx, j, none⟩ = some (.int .i64 (n : Int)) := by rw [← hn]; exact hx.cellv (clsC_at _ j hj)
      have Hn := Lib.hid hn
      clear hc hn
      go_wp2_with (refine wl_store_one (enc := encY) encY_size rfl _ info_u8one _ _ rfl g n m m rfl j rfl rfl rfl hS (by rw [repL_length]; exact hnm) ?_; intro w7 hS7 hg7)
      rw [repL_step f m hj Hn.out] at hS7
      have h1 := Hgx.out
      have h2 := Hgd.out
      exact ⟨⟨j, by omega, rfl, hS7, blk_grown hx hg7 (by omega), below_grown hB hg7 (by omega)⟩, by simp only [intOf]; omega⟩
end Go.Proofs.YtkedgombccdamaaDoor
