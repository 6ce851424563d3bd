/- Part 15 of a proof; packed: the texts that it was made of follow one another. No condition beyond those named in each lemma. -/
import Derived.Test.YtkedgombccdamaaGreatDoorPm12
import Derived.Test.YtkedgombccdamaaGreatDoorPm14
import Derived.Test.YtkedgombccdamaaGreatDoorPm2
import Derived.ArgAppend
namespace Go.Proofs.YtkedgombccdamaaGreatDoor
open Go.RowKit Go.Shelf Go.Maps
set_option linter.unusedVariables false
set_option linter.unusedSimpArgs false
attribute [local go_sem] Oper.semAt_some
theorem run_set97 (w : World) : (Instr.build 53 #[(0, .int .u64 0), (1, .int .u64 8589934592)]).run Tryz.prog w = .ok (.agg (setC st97)) w := by kernel_rfl
theorem run_edge97 (w : World) : (Instr.build 69 #[(0, .int .i64 2), (1, .int .i64 0), (2, .int .i64 1), (3, .agg (setC st97))]).run Tryz.prog w = .ok (.agg (edgC e97)) w := by kernel_rfl
theorem run_two32 (w : World) : (Instr.buildSlice 24 2 #[(0, .int .u32 0), (1, .int .u32 1)]).run Tryz.prog w = .ok (.slice (some ⟨w.heap.size, 0, none⟩) 2 2) (w.alloc (.cells #[.int .u32 0, .int .u32 1] 42)) := by kernel_rfl
theorem run_nfa3 (s : Int) (A B : Option Addr) (n c m d : Nat) (w : World) : (Instr.build 26 #[(0, .int .i64 s), (1, .slice A n c), (2, .slice B m d)]).run Tryz.prog w = .ok (.agg (nfaC s A n c B m d)) w := by kernel_rfl
section
variable {w : World} {ops : Array Oper} {rest : List Oper} {o : Oper} {a : Act} {Q : Exit → Act → World → Prop}
theorem wl_set97 (hgd : o.guard = none) (ho : o.op = .build 53 #[(0, .const (.int .u64 0)), (1, .const (.int .u64 8589934592))])
  (h : wpList Tryz.prog ops Q rest (a.put o.dst (.agg (setC st97))) w) : wpList Tryz.prog ops Q (o :: rest) a w :=
 wl_run hgd (v := .agg (setC st97)) (by unfold execOp; simp only [ho, List.map_toArray, List.map_cons, List.map_nil, Act.eval, Sem.run_bind, run_set97, Result.andThen_ok, Sem.run_pure]) h
theorem wl_edge97 (hgd : o.guard = none) (x : Operand) (ho : o.op = .build 69 #[(0, .const (.int .i64 2)), (1, .const (.int .i64 0)), (2, .const (.int .i64 1)), (3, x)]) (hx : a.eval x = .agg (setC st97))
  (h : wpList Tryz.prog ops Q rest (a.put o.dst (.agg (edgC e97))) w) : wpList Tryz.prog ops Q (o :: rest) a w :=
 wl_run hgd (v := .agg (edgC e97)) (by
  have hc : ∀ v : Value, a.eval (.const v) = v := fun _ => rfl
  unfold execOp; simp only [ho, List.map_toArray, List.map_cons, List.map_nil, hc, hx, Sem.run_bind, run_edge97, Result.andThen_ok, Sem.run_pure]) h
theorem wl_two32 (hgd : o.guard = none) (ho : o.op = .buildSlice 24 2 #[(0, .const (.int .u32 0)), (1, .const (.int .u32 1))])
  (h : wpList Tryz.prog ops Q rest (a.put o.dst (.slice (some ⟨w.heap.size, 0, none⟩) 2 2)) (w.alloc (.cells #[.int .u32 0, .int .u32 1] 42))) : wpList Tryz.prog ops Q (o :: rest) a w :=
 wl_run hgd (v := .slice (some ⟨w.heap.size, 0, none⟩) 2 2) (by unfold execOp; simp only [ho, List.map_toArray, List.map_cons, List.map_nil, Act.eval, Sem.run_bind, run_two32, Result.andThen_ok, Sem.run_pure]) h
theorem wl_nfa3 (hgd : o.guard = none) (s : Int) (y z : Operand) (ho : o.op = .build 26 #[(0, .const (.int .i64 s)), (1, y), (2, z)]) (A B : Option Addr) (n c m d : Nat) (hy : a.eval y = .slice A n c) (hz : a.eval z = .slice B m d)
  (h : wpList Tryz.prog ops Q rest (a.put o.dst (.agg (nfaC s A n c B m d))) w) : wpList Tryz.prog ops Q (o :: rest) a w :=
 wl_run hgd (v := .agg (nfaC s A n c B m d)) (by
  have hc : ∀ v : Value, a.eval (.const v) = v := fun _ => rfl
  unfold execOp; simp only [ho, List.map_toArray, List.map_cons, List.map_nil, hc, hy, hz, Sem.run_bind, run_nfa3, Result.andThen_ok, Sem.run_pure]) h
end
theorem gs_build_dfa0 {ops : Array Oper} {S : Nat → GSpec} {Q : Exit → Act → World → Prop} {i : Nat} {o : Oper} {a : Act} {w : World} (hw : Region.wanted o (yielded ops a.tmps) = true) (ho : o.op = .build 33 #[]) (hp : (S i).p (.agg (dfaC (fun _ => 0) none 0 0 none 0 0 none 0 0)) w) : GStep Tryz.prog ops S Q i o a w :=
 zzx hw (v := .agg (dfaC (fun _ => 0) none 0 0 none 0 0 none 0 0)) (by unfold execOp; simp only [ho, List.map_toArray, List.map_nil, Sem.run_bind, build_dfa0, Result.andThen_ok, Sem.run_pure]) (Below.refl _ _) hp
set_option maxRecDepth 100000 in
set_option maxHeartbeats 4000000 in
theorem one10_any (w : World) : Calls Tryz.prog 18 #[] w fun e w' => ∃ ge gu : Nat, e = .returned (.agg (nfaC 2 (some ⟨ge, 0, none⟩) 1 1 (some ⟨gu, 0, none⟩) 2 2)) ∧ SliceOf w' w'.heap.size 7 edgC (some ⟨ge, 0, none⟩) [e97] ∧ SliceOf w' w'.heap.size 1 encR (some ⟨gu, 0, none⟩) [0, 1] ∧ Below w.heap.size w w' := by
 go_enter Tryz.func18, Tryz.ntmps18
 go_upto_region 1 with (fail)
 have h0 : Blk (w.alloc (.cells #[.int .i64 0, .slice none 0 0, .slice none 0 0] 26)) w.heap.size 26 (nfaC 0 none 0 0 none 0 0) := Blk.new w _ _
 have hB1 := zqc (Below.refl w.heap.size w) (.cells #[.int .i64 0, .slice none 0 0, .slice none 0 0] 26)
 obtain ⟨w1, hw1⟩ : ∃ y, y = w.alloc (.cells #[.int .i64 0, .slice none 0 0, .slice none 0 0] 26) := ⟨_, rfl⟩
 rw [← hw1] at h0 hB1 ⊢
 clear hw1
 have hlw := h0.lt
 have hBe := zqc (Below.refl w1.heap.size w1) (.cells (edgC e97) 69)
 have he := Blk.new w1 69 (edgC e97)
 have hBr := zqc (Below.refl (w1.alloc (.cells (edgC e97) 69)).heap.size (w1.alloc (.cells (edgC e97) 69))) (.cells #[.int .u32 0, .int .u32 1] 42)
 have hu := Blk.new (w1.alloc (.cells (edgC e97) 69)) 42 #[.int .u32 0, .int .u32 1]
 have h2 := zqb (zqb h0 hBe) hBr
 have he2 := zqb he hBr
 have hB2 := zqd (zqd hB1 hBe) hBr
 have HU := Lib.hid hu
 have HE := Lib.hid he2
 have HB := Lib.hid hB2
 clear hu he he2 hB2 hBe hBr h0 hB1
 go_wp2_with (first
  | (refine wl_set97 rfl rfl ?_)
  | (refine wl_edge97 rfl _ rfl rfl ?_)
  | (refine wl_one (d := e97) rfl _ rfl rfl ?_)
  | (refine wl_two32 rfl rfl ?_)
  | (refine wl_nfa3 rfl 2 _ _ rfl _ _ _ _ _ _ rfl rfl ?_)
  | (refine zzw rfl _ _ rfl w.heap.size _ _ _ _ _ _ _ rfl rfl _ _ _ _ _ _ _ h2 ?_; intro w5 h5 hg5))
 refine ret_nfa1 rfl rfl h5 rfl ?_
 refine ⟨_, _, rfl, ?_, ?_, zqh HB.out hg5 (Nat.le_refl _)⟩
 ·exact zxk (enc := edgC) (zqk HE.out hg5 (by have := HB.out.size; omega))
 ·have := (own_made (enc := encR) (size := 1) (ys := [0, 1]) zya (zqk HU.out hg5 (by rw [World.size_alloc]; have := HB.out.size; omega)) rfl rfl (Nat.le_refl _) (by unfold maxLen; decide)).slice_all zya
  exact this
theorem num10_any (v : Int) (w : World) : Calls Tryz.prog 7 #[.int .i64 v] w fun e w' => e = .returned (.int .i64 v) ∧ Below w.heap.size w w' := by
 go_enter Tryz.func7, Tryz.ntmps7
 go_wp2_with (fail)
 go_ret
 exact ⟨rfl, Below.refl _ _⟩
theorem zyo (args : Array Value) (w : World) : (callFunc 7 args).run Tryz.prog w = .ok (.enter 7 args) w := by kernel_rfl
theorem enter_sright (args : Array Value) (w : World) : (callFunc 9 args).run Tryz.prog w = .ok (.enter 9 args) w := by kernel_rfl
theorem dfa97_yes {base : Nat} {e : Ending} {w' : World} (h : DRes 2 [e97] 2 [0, 1] 9 base e w') : ∃ x : TV, e = .returned (.tuple #[.agg x.C', .int .i64 0]) ∧ x.T = tab97 ∧ TOwn w' base x [] [] [] := by
 rcases h with ⟨h, _⟩ | ⟨_, i, x, hd, _, he, hT, hO⟩ | ⟨_, h, _⟩
 ·rw [right97] at h; cases h
 ·have e3 : i = 3 := Done.one hd done97
  subst e3
  exact ⟨x, he, hT.trans tabQ97, hO⟩
 ·have := h 3 done97
  omega
theorem dfa97_no {base : Nat} {e : Ending} {w' : World} (h : DRes 2 [e97] 2 [0, 1] 2 base e w') : e = .returned (.tuple #[zeroD, .int .i64 100]) := by
 rcases h with ⟨h, _⟩ | ⟨_, i, x, hd, hi, _⟩ | ⟨_, _, h⟩
 ·rw [right97] at h; cases h
 ·have e3 : i = 3 := Done.one hd done97
  omega
 ·exact h
theorem tabIn97 {x : TV} {w : World} {base : Nat} (hT : x.T = tab97) (hO : TOwn w base x [] [] []) : TabIn w w.heap.size x := by
 have hr : x.rs.map (·.l) = [[0, 1], [2, 1], [2, 1]] := congrArg Tb.nx hT
 have hf : x.fo = [0, 1, 1] := congrArg Tb.fo hT
 have he : x.en = [0, 1, 1] := congrArg Tb.en hT
 have hl : x.rs.length = 3 := by have := congrArg List.length hr; simpa using this
 refine hO.tab (by omega) (fun r h => ?_) (by rw [hf]; decide) (by rw [he]; decide) (by rw [hf]; decide) (by rw [he]; decide)
 have : r.l ∈ x.rs.map (·.l) := List.mem_map_of_mem h
 rw [hr] at this
 simp at this
 rcases this with h | h <;> rw [h] <;> decide
theorem zero_tab (w : World) : TabIn w w.heap.size ⟨fun _ => 0, [], none, 0, [], none, 0, [], none, 0⟩ :=
 (TOwn.nil w w.heap.size (fun _ => 0)).tab (by simp) (by simp) (by simp) (by simp) (by simp) (by simp)
set_option maxRecDepth 100000 in
set_option maxHeartbeats 8000000 in
theorem known10_any (w : World) : Calls Tryz.prog 5 #[] w fun e w' => e = .returned (.bool true) ∧ Below w.heap.size w w' := by
 go_enter Tryz.func5, Tryz.ntmps5
 go_upto_region 1 with (fail)
 go_upto_region 2 with (first
  | (go_at_call 18; refine (one10_any w).mono ?_; rintro e w1 ⟨ge, gu, rfl, hsE, hsR, hB1⟩)
  | (go_at_call 6; refine (dfa_any 2 _ 1 1 _ 2 2 [e97] [0, 1] 9 rfl (by decide) rfl (by decide) (by decide) w1 hsE hsR).mono ?_; rintro e w2 ⟨hD, hB2⟩; obtain ⟨x, rfl, hT, hO⟩ := dfa97_yes hD; clear hD hsE hsR; unfold TV.C'; have hzc := Blk.new w2 33 Tryz.zeroCells33; rw [zxd] at hzc)
  | (rw [zxd]; refine zyg rfl _ _ rfl w2.heap.size rfl rfl hzc ?_; intro w3 hx hg3))
 have hB3a := zqc (Below.refl w2.heap.size w2) (.cells (dfaC (fun _ => 0) none 0 0 none 0 0 none 0 0) 33)
 have hB3b := zqh hB3a hg3 (Nat.le_refl _)
 have hB3 := zqd (zqd hB1 hB2) hB3b
 replace hO := hO.then_ hB3b
 obtain ⟨gx, hgx⟩ : ∃ y, y = w2.heap.size := ⟨_, rfl⟩
 rw [← hgx] at hx ⊢
 clear hzc hg3 hB1 hB2 hB3a hB3b hgx
 have hr : x.rs.map (·.l) = [[0, 1], [2, 1], [2, 1]] := congrArg Tb.nx hT
 have hf : x.fo = [0, 1, 1] := congrArg Tb.fo hT
 have he : x.en = [0, 1, 1] := congrArg Tb.en hT
 have hl : x.rs.length = 3 := by have := congrArg List.length hr; simpa using this
 have hfl : x.fo.length = 3 := by rw [hf]; rfl
 have hel : x.en.length = 3 := by rw [he]; rfl
 have hf97 : Hid (x.f 97 = 1) := Lib.hid (by rw [show x.f = tab97.cls from congrArg Tb.cls hT]; rfl)
 have hf98 : Hid (x.f 98 = 0) := Lib.hid (by rw [show x.f = tab97.cls from congrArg Tb.cls hT]; rfl)
 have hTx := tabIn97 hT hO
 have hfit : fitsB x.T = true := by rw [hT]; exact fitsB97
 have hRun : ∀ (q : ByteArray) (r : Nat), q.size ≤ 10 → endOf x q = r → ∀ W : World, Below w3.heap.size w3 W → Calls Tryz.prog 12 #[.agg (dfaC x.f x.A 3 x.c x.B 3 x.d x.C 3 x.e), .string q] W fun e w' => e = .returned (.tuple #[.int .u32 ((r : Nat) : Int), .int .i64 0]) ∧ Below W.heap.size W w' := fun q r hq hr W hW => by
  have h9 := srun_any x q (by omega) W (hTx.then_ hW)
  unfold TV.C' at h9
  rw [hl, hfl, hel, runV_yes hfit, hr] at h9
  exact h9
 have hxa : endOf x ⟨#[120, 97, 120]⟩ = 1 := by
  unfold endOf
  rw [hT, show bytesN ⟨#[120, 97, 120]⟩ = [120, 97, 120] from by decide, run97.1, he]
  rfl
 have hxb : endOf x ⟨#[120]⟩ = 0 := by
  unfold endOf
  rw [hT, show bytesN ⟨#[120]⟩ = [120] from by decide, run97.2, he]
  rfl
 have hR1 : ∀ W : World, Below w3.heap.size w3 W → Calls Tryz.prog 9 #[.agg (dfaC x.f x.A 3 x.c x.B 3 x.d x.C 3 x.e)] W fun e w' => e = .returned (.bool true) ∧ Below W.heap.size W w' := fun W hW => by
  have h9 := s_right_any x W (hTx.then_ hW)
  unfold TV.C' at h9
  rw [hl, hfl, hel, hfit] at h9
  exact h9
 have hR0 : ∀ W : World, Calls Tryz.prog 9 #[.agg (dfaC (fun _ => 0) none 0 0 none 0 0 none 0 0)] W fun e w' => e = .returned (.bool false) ∧ Below W.heap.size W w' := fun W => by
  have h9 := s_right_any ⟨fun _ => 0, [], none, 0, [], none, 0, [], none, 0⟩ W (zero_tab W)
  rw [show fitsB (TV.T ⟨fun _ => 0, [], none, 0, [], none, 0, [], none, 0⟩) = false from fitsB0 _] at h9
  exact h9
 obtain ⟨bN, cN, hvN, hbN1, hbN2, _, _⟩ := hO.rows0.form (by omega)
 injection hvN with hXA hvN2 hvN3
 have h1l : 1 < x.rs.length := by omega
 have hrows := hO.rows0
 rw [hXA] at hrows
 have hrow : w3.cell? ⟨bN, 1 * 1 + 0, none⟩ = some (.slice x.rs[1].a x.rs[1].l.length x.rs[1].c) := hrows.row rowC_size 1 h1l 0 _ rfl
 have hr1 : x.rs[1].l = [2, 1] := by
  have h9 : (x.rs.map (·.l))[1]? = some [2, 1] := by rw [hr]; rfl
  rw [List.getElem?_map, List.getElem?_eq_getElem h1l] at h9
  simpa using h9
 have hro := hO.row 1 h1l
 rw [hr1] at hro
 simp only [List.append_nil] at hro
 obtain ⟨bR, cR, hvR, hbR1, hbR2, _, _⟩ := hro.form (by simp)
 injection hvR with hRA hvR2 hvR3
 rw [hRA] at hro
 have hro0 : w3.cell? ⟨bR, 0 * 1 + 0, none⟩ = some (.int .i64 2) := hro.row encZ_size 0 (by simp) 0 _ rfl
 rw [hr1, hRA] at hrow
 obtain ⟨cR', hcR'⟩ : ∃ c, c = x.rs[1].c := ⟨_, rfl⟩
 rw [← hcR'] at hrow
 have hc1 : ∀ W : World, Below w3.heap.size w3 W → W.cell? ⟨bN, 0 + 1 * 1, none⟩ = some (.slice (some ⟨bR, 0, none⟩) 2 cR') := fun W hW => (World.cell?_of_block (hW.block bN hbN2)).trans hrow
 have hc2 : ∀ W : World, Below w3.heap.size w3 W → W.cell? ⟨bR, 0 + 0 * 1, none⟩ = some (.int .i64 2) := fun W hW => (World.cell?_of_block (hW.block bR hbR2)).trans hro0
 rw [hl, hfl, hel] at hx ⊢
 have HXA := Lib.hid hXA
 have Hc1 := Lib.hid hc1
 have Hc2 := Lib.hid hc2
 have HR1 := Lib.hid hR1
 have HR0 := Lib.hid hR0
 have Hra := Lib.hid (hRun ⟨#[120, 97, 120]⟩ 1 (by decide) hxa)
 have Hrb := Lib.hid (hRun ⟨#[120]⟩ 0 (by decide) hxb)
 clear hvN2 hvN3 hbN1 hbN2 hrow hr1 hro hbR1 hbR2 hvR2 hvR3 hRA hro0 hcR' hXA hc1 hc2 hR1 hR0 hRun hxa hxb hrows h1l hr hf he hl hfl hel hTx hfit hT hO
 try simp only [Act.put]
 go_upto_region 3 with (first
  | (go_at_call 18; refine (one10_any w3).mono ?_; rintro e w4 ⟨ge2, gu2, rfl, hsE, hsR, hB4⟩)
  | (go_at_call 6; refine (dfa_any 2 _ 1 1 _ 2 2 [e97] [0, 1] 2 rfl (by decide) rfl (by decide) (by decide) w4 hsE hsR).mono ?_; rintro e w5 ⟨hD, hB5⟩; obtain rfl := dfa97_no hD; clear hD hsE hsR; unfold zeroD; have hzc := Blk.new w5 33 Tryz.zeroCells33; rw [zxd] at hzc)
  | (rw [zxd]; refine zyg rfl _ _ rfl w5.heap.size rfl rfl hzc ?_; intro w6 hx6 hg6))
 have hB6a := zqc (Below.refl w5.heap.size w5) (.cells (dfaC (fun _ => 0) none 0 0 none 0 0 none 0 0) 33)
 have hB6 := zqd (zqd hB4 hB5) (zqh hB6a hg6 (Nat.le_refl _))
 replace hx := zqb hx hB6
 clear hB6a hB4 hB5 hzc hx6 hg6
 try simp only [Act.put]
 have hra := Hra.out w6 hB6
 go_upto_region 4 with (first
  | (refine wl_load_dfa rfl _ rfl gx rfl hx ?_)
  | (go_at_call 12; refine hra.mono ?_; rintro e w7 ⟨rfl, hB7⟩))
 replace hx := zqb hx hB7
 replace hB6 := zqd hB6 hB7
 clear hB7 hra
 have hrb := Hrb.out w7 hB6
 go_upto_region 5 with (first
  | (refine wl_load_dfa rfl _ rfl gx rfl hx ?_)
  | (go_at_call 12; refine hrb.mono ?_; rintro e w8 ⟨rfl, hB8⟩))
 replace hx := zqb hx hB8
 replace hB6 := zqd hB6 hB8
 clear hB8 hrb
 have hR1 : ∀ W : World, Below w8.heap.size w8 W → Calls Tryz.prog 9 #[.agg (dfaC x.f x.A 3 x.c x.B 3 x.d x.C 3 x.e)] W fun e w' => e = .returned (.bool true) ∧ Below W.heap.size W w' := fun W hW => HR1.out W (zqd hB6 hW)
 have hR0 : ∀ W : World, Below w8.heap.size w8 W → Calls Tryz.prog 9 #[.agg (dfaC (fun _ => 0) none 0 0 none 0 0 none 0 0)] W fun e w' => e = .returned (.bool false) ∧ Below W.heap.size W w' := fun W hW => HR0.out W
 refine zqs 35 [eqS (.int .i64 (0)), eqS (.int .i64 (0)), eqS (.bool false), eqS (.bool false), eqS (vF (true && (false == false)) (.int .i64 (100))), eqS (vF (true && (false == false)) (.int .i64 (100))), eqS (vF (true && (false == false)) (.bool false)), eqS (.bool (false || false)), eqS (.bool (false || false)), eqS (vF (true && ((false || false) == false)) (.int .i64 (0))), eqS (vF (true && ((false || false) == false)) (.int .i64 (0))), eqS (vF (true && ((false || false) == false)) (.bool false)), eqS (.bool ((false || false) || false)), eqS (.bool ((false || false) || false)), eqS (vF (true && (((false || false) || false) == false)) (.int .i64 (0))), eqS (vF (true && (((false || false) || false) == false)) (.int .i64 (0))), eqS (vF (true && (((false || false) || false) == false)) (.bool false)), eqS (.bool (((false || false) || false) || false)), eqS (.bool (((false || false) || false) || false)), eqS (vF (true && ((((false || false) || false) || false) == false)) (.int .u32 (1))), eqS (vF (true && ((((false || false) || false) || false) == false)) (.bool false)), eqS (.bool ((((false || false) || false) || false) || false)), eqS (.bool ((((false || false) || false) || false) || false)), eqS (vF (true && (((((false || false) || false) || false) || false) == false)) (.int .u32 (0))), eqS (vF (true && (((((false || false) || false) || false) || false) == false)) (.bool false)), eqS (.bool (((((false || false) || false) || false) || false) || false)), eqS (.bool (((((false || false) || false) || false) || false) || false)), eqS (vF (true && ((((((false || false) || false) || false) || false) || false) == false)) (.agg (dfaC x.f x.A 3 x.c x.B 3 x.d x.C 3 x.e))), eqS (vF (true && ((((((false || false) || false) || false) || false) || false) == false)) (.bool true)), eqS (vF (true && ((((((false || false) || false) || false) || false) || false) == false)) (.bool (!true))), eqS (.bool ((((((false || false) || false) || false) || false) || false) || (!true))), eqS (.bool ((((((false || false) || false) || false) || false) || false) || (!true))), eqS (vF (true && (((((((false || false) || false) || false) || false) || false) || (!true)) == false)) (.agg (dfaC (fun _ => 0) none 0 0 none 0 0 none 0 0))), eqS (vF (true && (((((((false || false) || false) || false) || false) || false) || (!true)) == false)) (.bool false)), eqS (.bool (((((((false || false) || false) || false) || false) || false) || (!true)) || false))] [29, 30, 31, 32, 33, 34, 35, 36, 37, 38, 39, 40, 41, 42, 43, 44, 45, 46, 47, 48, 49, 50, 51, 52, 53, 54, 55, 56, 57, 58, 59, 60, 61, 62, 63] (by kernel_rfl) (by kernel_rfl) ?_ ?_
 ·skip
  refine Steps.cons (fun a' w' hG hB dep => zqi (zqa rfl) _ rfl (id (hG.other 2 rfl))) ?_
  refine Steps.cons (fun a' w' hG hB dep => zze (zqa rfl) _ _ _ rfl zyo _ (map1 (dep 0 rfl 29 rfl)) ((num10_any 0 w').mono fun e w2 ⟨hq9, hb9⟩ => ⟨_, hq9, hb9, rfl⟩)) ?_
  refine Steps.cons (fun a' w' hG hB dep => zzn (zqa rfl) _ _ _ _ rfl _ _ _ (dep 1 rfl 30 rfl) rfl (id (congrArg Value.bool rfl))) ?_
  refine Steps.cons (fun a' w' hG hB dep => zqi (zqa rfl) _ rfl (id (dep 2 rfl 31 rfl))) ?_
  refine Steps.cons (fun a' w' hG hB dep => zqf (c := true) (b' := false) rfl rfl (dep 3 rfl 32 rfl) (fun hc he hw => zqi hw _ rfl (Eq.trans (hG.other 4 rfl) (zqg (on_g hc he) _).symm)) (fun hn => vF_no hn _)) ?_
  refine Steps.cons (fun a' w' hG hB dep => zqf (c := true) (b' := false) rfl rfl (dep 3 rfl 32 rfl) (fun hc he hw => zze hw _ _ _ rfl zyo _ (map1 (Eq.trans (dep 4 rfl 33 rfl) (zqg (on_g hc he) _))) ((num10_any 100 w').mono fun e w2 ⟨hq9, hb9⟩ => ⟨_, hq9, hb9, (zqg (on_g hc he) _).symm⟩)) (fun hn => vF_no hn _)) ?_
  refine Steps.cons (fun a' w' hG hB dep => zqf (c := true) (b' := false) rfl rfl (dep 3 rfl 32 rfl) (fun hc he hw => zzn hw _ _ _ _ rfl _ _ _ (Eq.trans (dep 5 rfl 34 rfl) (zqg (on_g hc he) _)) rfl (Eq.trans (congrArg Value.bool rfl) (zqg (on_g hc he) _).symm)) (fun hn => vF_no hn _)) ?_
  refine Steps.cons (fun a' w' hG hB dep => zqy (zqa rfl) _ _ _ rfl false (dep 3 rfl 32 rfl) (id (zzr (c := true) rfl (dep 6 rfl 35 rfl)))) ?_
  refine Steps.cons (fun a' w' hG hB dep => zqi (zqa rfl) _ rfl (id (dep 7 rfl 36 rfl))) ?_
  refine Steps.cons (fun a' w' hG hB dep => zqf (c := true) (b' := (false || false)) rfl rfl (dep 8 rfl 37 rfl) (fun hc he hw => zqi hw _ rfl (Eq.trans (hG.other 6 rfl) (zqg (on_g hc he) _).symm)) (fun hn => vF_no hn _)) ?_
  refine Steps.cons (fun a' w' hG hB dep => zqf (c := true) (b' := (false || false)) rfl rfl (dep 8 rfl 37 rfl) (fun hc he hw => zze hw _ _ _ rfl zyo _ (map1 (Eq.trans (dep 9 rfl 38 rfl) (zqg (on_g hc he) _))) ((num10_any 0 w').mono fun e w2 ⟨hq9, hb9⟩ => ⟨_, hq9, hb9, (zqg (on_g hc he) _).symm⟩)) (fun hn => vF_no hn _)) ?_
  refine Steps.cons (fun a' w' hG hB dep => zqf (c := true) (b' := (false || false)) rfl rfl (dep 8 rfl 37 rfl) (fun hc he hw => zzn hw _ _ _ _ rfl _ _ _ (Eq.trans (dep 10 rfl 39 rfl) (zqg (on_g hc he) _)) rfl (Eq.trans (congrArg Value.bool rfl) (zqg (on_g hc he) _).symm)) (fun hn => vF_no hn _)) ?_
  refine Steps.cons (fun a' w' hG hB dep => zqy (zqa rfl) _ _ _ rfl (false || false) (dep 8 rfl 37 rfl) (id (zzr (c := true) rfl (dep 11 rfl 40 rfl)))) ?_
  refine Steps.cons (fun a' w' hG hB dep => zqi (zqa rfl) _ rfl (id (dep 12 rfl 41 rfl))) ?_
  refine Steps.cons (fun a' w' hG hB dep => zqf (c := true) (b' := ((false || false) || false)) rfl rfl (dep 13 rfl 42 rfl) (fun hc he hw => zqi hw _ rfl (Eq.trans (hG.other 8 rfl) (zqg (on_g hc he) _).symm)) (fun hn => vF_no hn _)) ?_
  refine Steps.cons (fun a' w' hG hB dep => zqf (c := true) (b' := ((false || false) || false)) rfl rfl (dep 13 rfl 42 rfl) (fun hc he hw => zze hw _ _ _ rfl zyo _ (map1 (Eq.trans (dep 14 rfl 43 rfl) (zqg (on_g hc he) _))) ((num10_any 0 w').mono fun e w2 ⟨hq9, hb9⟩ => ⟨_, hq9, hb9, (zqg (on_g hc he) _).symm⟩)) (fun hn => vF_no hn _)) ?_
  refine Steps.cons (fun a' w' hG hB dep => zqf (c := true) (b' := ((false || false) || false)) rfl rfl (dep 13 rfl 42 rfl) (fun hc he hw => zzn hw _ _ _ _ rfl _ _ _ (Eq.trans (dep 15 rfl 44 rfl) (zqg (on_g hc he) _)) rfl (Eq.trans (congrArg Value.bool rfl) (zqg (on_g hc he) _).symm)) (fun hn => vF_no hn _)) ?_
  refine Steps.cons (fun a' w' hG hB dep => zqy (zqa rfl) _ _ _ rfl ((false || false) || false) (dep 13 rfl 42 rfl) (id (zzr (c := true) rfl (dep 16 rfl 45 rfl)))) ?_
  refine Steps.cons (fun a' w' hG hB dep => zqi (zqa rfl) _ rfl (id (dep 17 rfl 46 rfl))) ?_
  refine Steps.cons (fun a' w' hG hB dep => zqf (c := true) (b' := (((false || false) || false) || false)) rfl rfl (dep 18 rfl 47 rfl) (fun hc he hw => zqi hw _ rfl (Eq.trans (hG.other 5 rfl) (zqg (on_g hc he) _).symm)) (fun hn => vF_no hn _)) ?_
  refine Steps.cons (fun a' w' hG hB dep => zqf (c := true) (b' := (((false || false) || false) || false)) rfl rfl (dep 18 rfl 47 rfl) (fun hc he hw => zzn hw _ _ _ _ rfl _ _ _ (Eq.trans (dep 19 rfl 48 rfl) (zqg (on_g hc he) _)) rfl (Eq.trans (congrArg Value.bool rfl) (zqg (on_g hc he) _).symm)) (fun hn => vF_no hn _)) ?_
  refine Steps.cons (fun a' w' hG hB dep => zqy (zqa rfl) _ _ _ rfl (((false || false) || false) || false) (dep 18 rfl 47 rfl) (id (zzr (c := true) rfl (dep 20 rfl 49 rfl)))) ?_
  refine Steps.cons (fun a' w' hG hB dep => zqi (zqa rfl) _ rfl (id (dep 21 rfl 50 rfl))) ?_
  refine Steps.cons (fun a' w' hG hB dep => zqf (c := true) (b' := ((((false || false) || false) || false) || false)) rfl rfl (dep 22 rfl 51 rfl) (fun hc he hw => zqi hw _ rfl (Eq.trans (hG.other 7 rfl) (zqg (on_g hc he) _).symm)) (fun hn => vF_no hn _)) ?_
  refine Steps.cons (fun a' w' hG hB dep => zqf (c := true) (b' := ((((false || false) || false) || false) || false)) rfl rfl (dep 22 rfl 51 rfl) (fun hc he hw => zzn hw _ _ _ _ rfl _ _ _ (Eq.trans (dep 23 rfl 52 rfl) (zqg (on_g hc he) _)) rfl (Eq.trans (congrArg Value.bool rfl) (zqg (on_g hc he) _).symm)) (fun hn => vF_no hn _)) ?_
  refine Steps.cons (fun a' w' hG hB dep => zqy (zqa rfl) _ _ _ rfl ((((false || false) || false) || false) || false) (dep 22 rfl 51 rfl) (id (zzr (c := true) rfl (dep 24 rfl 53 rfl)))) ?_
  refine Steps.cons (fun a' w' hG hB dep => zqi (zqa rfl) _ rfl (id (dep 25 rfl 54 rfl))) ?_
  refine Steps.cons (fun a' w' hG hB dep => zqf (c := true) (b' := (((((false || false) || false) || false) || false) || false)) rfl rfl (dep 26 rfl 55 rfl) (fun hc he hw => gs_load_dfa hw _ rfl gx (hG.other 1 rfl) (zqb hx hB) (zqg (on_g hc he) _).symm) (fun hn => vF_no hn _)) ?_
  refine Steps.cons (fun a' w' hG hB dep => zqf (c := true) (b' := (((((false || false) || false) || false) || false) || false)) rfl rfl (dep 26 rfl 55 rfl) (fun hc he hw => zze hw _ _ _ rfl enter_sright _ (map1 (Eq.trans (dep 27 rfl 56 rfl) (zqg (on_g hc he) _))) ((hR1 w' hB).mono fun e w2 ⟨hq9, hb9⟩ => ⟨_, hq9, hb9, (zqg (on_g hc he) _).symm⟩)) (fun hn => vF_no hn _)) ?_
  refine Steps.cons (fun a' w' hG hB dep => zqf (c := true) (b' := (((((false || false) || false) || false) || false) || false)) rfl rfl (dep 26 rfl 55 rfl) (fun hc he hw => gs_not_bool hw _ _ rfl _ (Eq.trans (dep 28 rfl 57 rfl) (zqg (on_g hc he) _)) (zqg (on_g hc he) _).symm) (fun hn => vF_no hn _)) ?_
  refine Steps.cons (fun a' w' hG hB dep => zqy (zqa rfl) _ _ _ rfl (((((false || false) || false) || false) || false) || false) (dep 26 rfl 55 rfl) (id (zzr (c := true) rfl (dep 29 rfl 58 rfl)))) ?_
  refine Steps.cons (fun a' w' hG hB dep => zqi (zqa rfl) _ rfl (id (dep 30 rfl 59 rfl))) ?_
  refine Steps.cons (fun a' w' hG hB dep => zqf (c := true) (b' := ((((((false || false) || false) || false) || false) || false) || (!true))) rfl rfl (dep 31 rfl 60 rfl) (fun hc he hw => gs_build_dfa0 hw rfl (zqg (on_g hc he) _).symm) (fun hn => vF_no hn _)) ?_
  refine Steps.cons (fun a' w' hG hB dep => zqf (c := true) (b' := ((((((false || false) || false) || false) || false) || false) || (!true))) rfl rfl (dep 31 rfl 60 rfl) (fun hc he hw => zze hw _ _ _ rfl enter_sright _ (map1 (Eq.trans (dep 32 rfl 61 rfl) (zqg (on_g hc he) _))) ((hR0 w' hB).mono fun e w2 ⟨hq9, hb9⟩ => ⟨_, hq9, hb9, (zqg (on_g hc he) _).symm⟩)) (fun hn => vF_no hn _)) ?_
  refine Steps.cons (fun a' w' hG hB dep => zqy (zqa rfl) _ _ _ rfl ((((((false || false) || false) || false) || false) || false) || (!true)) (dep 31 rfl 60 rfl) (id (zzr (c := true) rfl (dep 33 rfl 62 rfl)))) ?_
  exact Steps.nil
 intro u wp hwp ans
 have hus63 : u 63 = (.bool (((((((false || false) || false) || false) || false) || false) || (!true)) || false)) := ans 34 63 (by decide) rfl
 clear ans
 simp only [zqr, List.foldl_cons, List.foldl_nil, Act.put, List.setIfInBounds_toArray, List.set_cons_zero, List.set_cons_succ, hus63]
 clear hus63
 simp only [List.drop]
 refine wpList_nil ?_
 replace hx := zqb hx hwp
 replace hB6 := zqd hB6 hwp
 rw [show (((((((false || false) || false) || false) || false) || false) || (!true)) || false) = false from rfl]
 have hc1 : ∀ W : World, Below wp.heap.size wp W → W.cell? ⟨bN, 0 + 1 * 1, none⟩ = some (.slice (some ⟨bR, 0, none⟩) 2 cR') := fun W hW => Hc1.out W (zqd hB6 hW)
 have hc2 : ∀ W : World, Below wp.heap.size wp W → W.cell? ⟨bR, 0 + 0 * 1, none⟩ = some (.int .i64 2) := fun W hW => Hc2.out W (zqd hB6 hW)
 have hXA := HXA
 clear hR1 hR0 hwp
 have HX := Lib.hid hx
 have Hc1' := Lib.hid hc1
 have Hc2' := Lib.hid hc2
 clear hx hc1 hc2
 go_upto_region 7 with (fail)
 have hx := HX.out
 have hc1 := Hc1'.out
 have hc2 := Hc2'.out
 refine zqs 46 [eqS (.pointer (some ⟨gx, 256, none⟩)), eqS (.slice (some ⟨bN, 0, none⟩) 3 x.c), eqS (.int .i64 (((3 : Nat) : Int))), eqS (.bool true), eqS (.bool true), eqS (vF (true && (true == true)) (.pointer (some ⟨gx, 257, none⟩))), eqS (vF (true && (true == true)) (.slice x.B 3 x.d)), eqS (vF (true && (true == true)) (.int .i64 (((3 : Nat) : Int)))), eqS (vF (true && (true == true)) (.bool true)), eqS (.bool (true && true)), eqS (.bool (true && true)), eqS (vF (true && ((true && true) == true)) (.pointer (some ⟨gx, 258, none⟩))), eqS (vF (true && ((true && true) == true)) (.slice x.C 3 x.e)), eqS (vF (true && ((true && true) == true)) (.int .i64 (((3 : Nat) : Int)))), eqS (vF (true && ((true && true) == true)) (.bool true)), eqS (.bool ((true && true) && true)), eqS (.bool ((true && true) && true)), eqS (vF (true && (((true && true) && true) == true)) (.pointer (some ⟨gx, 0, none⟩))), eqS (vF (true && (((true && true) && true) == true)) (.pointer (some ⟨gx, 0 + 97 * 1, none⟩))), eqS (vF (true && (((true && true) && true) == true)) (.int .i64 (1))), eqS (vF (true && (((true && true) && true) == true)) (.bool true)), eqS (.bool (((true && true) && true) && true)), eqS (.bool (((true && true) && true) && true)), eqS (vF (true && ((((true && true) && true) && true) == true)) (.pointer (some ⟨gx, 0, none⟩))), eqS (vF (true && ((((true && true) && true) && true) == true)) (.pointer (some ⟨gx, 0 + 98 * 1, none⟩))), eqS (vF (true && ((((true && true) && true) && true) == true)) (.int .i64 (0))), eqS (vF (true && ((((true && true) && true) && true) == true)) (.bool true)), eqS (.bool ((((true && true) && true) && true) && true)), eqS (.bool ((((true && true) && true) && true) && true)), eqS (vF (true && (((((true && true) && true) && true) && true) == true)) (.pointer (some ⟨gx, 256, none⟩))), eqS (vF (true && (((((true && true) && true) && true) && true) == true)) (.slice (some ⟨bN, 0, none⟩) 3 x.c)), eqS (vF (true && (((((true && true) && true) && true) && true) == true)) (.pointer (some ⟨bN, 0 + 1 * 1, none⟩))), eqS (vF (true && (((((true && true) && true) && true) && true) == true)) (.slice (some ⟨bR, 0, none⟩) 2 cR')), eqS (vF (true && (((((true && true) && true) && true) && true) == true)) (.int .i64 (((2 : Nat) : Int)))), eqS (vF (true && (((((true && true) && true) && true) && true) == true)) (.bool true)), eqS (.bool (((((true && true) && true) && true) && true) && true)), eqS (.bool (((((true && true) && true) && true) && true) && true)), eqS (vF (true && ((((((true && true) && true) && true) && true) && true) == true)) (.pointer (some ⟨gx, 256, none⟩))), eqS (vF (true && ((((((true && true) && true) && true) && true) && true) == true)) (.slice (some ⟨bN, 0, none⟩) 3 x.c)), eqS (vF (true && ((((((true && true) && true) && true) && true) && true) == true)) (.pointer (some ⟨bN, 0 + 1 * 1, none⟩))), eqS (vF (true && ((((((true && true) && true) && true) && true) && true) == true)) (.slice (some ⟨bR, 0, none⟩) 2 cR')), eqS (vF (true && ((((((true && true) && true) && true) && true) && true) == true)) (.pointer (some ⟨bR, 0 + 0 * 1, none⟩))), eqS (vF (true && ((((((true && true) && true) && true) && true) && true) == true)) (.int .i64 (2))), eqS (vF (true && ((((((true && true) && true) && true) && true) && true) == true)) (.bool true)), eqS (.bool ((((((true && true) && true) && true) && true) && true) && true)), eqS (.bool ((((((true && true) && true) && true) && true) && true) && true))] [64, 65, 66, 67, 68, 69, 70, 71, 72, 73, 74, 75, 76, 77, 78, 79, 80, 81, 82, 83, 84, 85, 86, 87, 88, 89, 90, 91, 92, 93, 94, 95, 96, 97, 98, 99, 100, 101, 102, 103, 104, 105, 106, 107, 108, 0] (by kernel_rfl) (by kernel_rfl) ?_ ?_
 ·skip
  refine Steps.cons (fun a' w' hG hB dep => zqn (zqa rfl) _ _ _ rfl gx (0) (256) (hG.other 1 rfl) (fun wz => field_dfa_1 gx (0) wz) rfl) ?_
  refine Steps.cons (fun a' w' hG hB dep => zqj (zqa rfl) _ _ rfl gx (256) (dep 0 rfl 64 rfl) (.slice (some ⟨bN, 0, none⟩) 3 x.c) (by have h9 := blk_d1 (zqb hx hB); rw [hXA.out] at h9; exact h9) _ Tryz.underlying31 rfl rfl) ?_
  refine Steps.cons (fun a' w' hG hB dep => gs_len (zqa rfl) _ _ rfl under_rows _ 3 x.c (dep 1 rfl 65 rfl) rfl) ?_
  refine Steps.cons (fun a' w' hG hB dep => zzo (zqa rfl) _ _ _ _ rfl _ _ _ (dep 2 rfl 66 rfl) rfl (id (congrArg Value.bool rfl))) ?_
  refine Steps.cons (fun a' w' hG hB dep => zqi (zqa rfl) _ rfl (id (dep 3 rfl 67 rfl))) ?_
  refine Steps.cons (fun a' w' hG hB dep => zqf (c := true) (b' := true) rfl rfl (dep 4 rfl 68 rfl) (fun hc he hw => zqn hw _ _ _ rfl gx (0) (257) (hG.other 1 rfl) (fun wz => field_dfa_2 gx (0) wz) (zqg (on_g hc he) _).symm) (fun hn => vF_no hn _)) ?_
  refine Steps.cons (fun a' w' hG hB dep => zqf (c := true) (b' := true) rfl rfl (dep 4 rfl 68 rfl) (fun hc he hw => zqj hw _ _ rfl gx (257) (Eq.trans (dep 5 rfl 69 rfl) (zqg (on_g hc he) _)) (.slice x.B 3 x.d) (blk_d2 (zqb hx hB)) _ Tryz.underlying24 rfl (zqg (on_g hc he) _).symm) (fun hn => vF_no hn _)) ?_
  refine Steps.cons (fun a' w' hG hB dep => zqf (c := true) (b' := true) rfl rfl (dep 4 rfl 68 rfl) (fun hc he hw => gs_len hw _ _ rfl zxa _ 3 x.d (Eq.trans (dep 6 rfl 70 rfl) (zqg (on_g hc he) _)) (zqg (on_g hc he) _).symm) (fun hn => vF_no hn _)) ?_
  refine Steps.cons (fun a' w' hG hB dep => zqf (c := true) (b' := true) rfl rfl (dep 4 rfl 68 rfl) (fun hc he hw => zzo hw _ _ _ _ rfl _ _ _ (Eq.trans (dep 7 rfl 71 rfl) (zqg (on_g hc he) _)) rfl (Eq.trans (congrArg Value.bool rfl) (zqg (on_g hc he) _).symm)) (fun hn => vF_no hn _)) ?_
  refine Steps.cons (fun a' w' hG hB dep => zqy (zqa rfl) _ _ _ rfl true (dep 4 rfl 68 rfl) (id (zxq (c := true) rfl (dep 8 rfl 72 rfl)))) ?_
  refine Steps.cons (fun a' w' hG hB dep => zqi (zqa rfl) _ rfl (id (dep 9 rfl 73 rfl))) ?_
  refine Steps.cons (fun a' w' hG hB dep => zqf (c := true) (b' := (true && true)) rfl rfl (dep 10 rfl 74 rfl) (fun hc he hw => zqn hw _ _ _ rfl gx (0) (258) (hG.other 1 rfl) (fun wz => field_dfa_3 gx (0) wz) (zqg (on_g hc he) _).symm) (fun hn => vF_no hn _)) ?_
  refine Steps.cons (fun a' w' hG hB dep => zqf (c := true) (b' := (true && true)) rfl rfl (dep 10 rfl 74 rfl) (fun hc he hw => zqj hw _ _ rfl gx (258) (Eq.trans (dep 11 rfl 75 rfl) (zqg (on_g hc he) _)) (.slice x.C 3 x.e) (blk_d3 (zqb hx hB)) _ Tryz.underlying24 rfl (zqg (on_g hc he) _).symm) (fun hn => vF_no hn _)) ?_
  refine Steps.cons (fun a' w' hG hB dep => zqf (c := true) (b' := (true && true)) rfl rfl (dep 10 rfl 74 rfl) (fun hc he hw => gs_len hw _ _ rfl zxa _ 3 x.e (Eq.trans (dep 12 rfl 76 rfl) (zqg (on_g hc he) _)) (zqg (on_g hc he) _).symm) (fun hn => vF_no hn _)) ?_
  refine Steps.cons (fun a' w' hG hB dep => zqf (c := true) (b' := (true && true)) rfl rfl (dep 10 rfl 74 rfl) (fun hc he hw => zzo hw _ _ _ _ rfl _ _ _ (Eq.trans (dep 13 rfl 77 rfl) (zqg (on_g hc he) _)) rfl (Eq.trans (congrArg Value.bool rfl) (zqg (on_g hc he) _).symm)) (fun hn => vF_no hn _)) ?_
  refine Steps.cons (fun a' w' hG hB dep => zqy (zqa rfl) _ _ _ rfl (true && true) (dep 10 rfl 74 rfl) (id (zxq (c := true) rfl (dep 14 rfl 78 rfl)))) ?_
  refine Steps.cons (fun a' w' hG hB dep => zqi (zqa rfl) _ rfl (id (dep 15 rfl 79 rfl))) ?_
  refine Steps.cons (fun a' w' hG hB dep => zqf (c := true) (b' := ((true && true) && true)) rfl rfl (dep 16 rfl 80 rfl) (fun hc he hw => zqn hw _ _ _ rfl gx (0) (0) (hG.other 1 rfl) (fun wz => field_dfa_0 gx (0) wz) (zqg (on_g hc he) _).symm) (fun hn => vF_no hn _)) ?_
  refine Steps.cons (fun a' w' hG hB dep => zqf (c := true) (b' := ((true && true) && true)) rfl rfl (dep 16 rfl 80 rfl) (fun hc he hw => gs_index_arr hw _ _ _ rfl gx (0) 97 (Eq.trans (dep 17 rfl 81 rfl) (zqg (on_g hc he) _)) rfl (fun wz => index_cls _ _ _ (by omega) wz) (zqg (on_g hc he) _).symm) (fun hn => vF_no hn _)) ?_
  refine Steps.cons (fun a' w' hG hB dep => zqf (c := true) (b' := ((true && true) && true)) rfl rfl (dep 16 rfl 80 rfl) (fun hc he hw => zqj hw _ _ rfl gx (0 + 97 * 1) (Eq.trans (dep 18 rfl 82 rfl) (zqg (on_g hc he) _)) (.int .i64 (1)) (by have h9 := blk_cls (zqb hx hB) (show 97 < 256 by omega); rw [hf97.out] at h9; exact h9) _ Tryz.underlying3 rfl (zqg (on_g hc he) _).symm) (fun hn => vF_no hn _)) ?_
  refine Steps.cons (fun a' w' hG hB dep => zqf (c := true) (b' := ((true && true) && true)) rfl rfl (dep 16 rfl 80 rfl) (fun hc he hw => zzo hw _ _ _ _ rfl _ _ _ (Eq.trans (dep 19 rfl 83 rfl) (zqg (on_g hc he) _)) rfl (Eq.trans (congrArg Value.bool rfl) (zqg (on_g hc he) _).symm)) (fun hn => vF_no hn _)) ?_
  refine Steps.cons (fun a' w' hG hB dep => zqy (zqa rfl) _ _ _ rfl ((true && true) && true) (dep 16 rfl 80 rfl) (id (zxq (c := true) rfl (dep 20 rfl 84 rfl)))) ?_
  refine Steps.cons (fun a' w' hG hB dep => zqi (zqa rfl) _ rfl (id (dep 21 rfl 85 rfl))) ?_
  refine Steps.cons (fun a' w' hG hB dep => zqf (c := true) (b' := (((true && true) && true) && true)) rfl rfl (dep 22 rfl 86 rfl) (fun hc he hw => zqn hw _ _ _ rfl gx (0) (0) (hG.other 1 rfl) (fun wz => field_dfa_0 gx (0) wz) (zqg (on_g hc he) _).symm) (fun hn => vF_no hn _)) ?_
  refine Steps.cons (fun a' w' hG hB dep => zqf (c := true) (b' := (((true && true) && true) && true)) rfl rfl (dep 22 rfl 86 rfl) (fun hc he hw => gs_index_arr hw _ _ _ rfl gx (0) 98 (Eq.trans (dep 23 rfl 87 rfl) (zqg (on_g hc he) _)) rfl (fun wz => index_cls _ _ _ (by omega) wz) (zqg (on_g hc he) _).symm) (fun hn => vF_no hn _)) ?_
  refine Steps.cons (fun a' w' hG hB dep => zqf (c := true) (b' := (((true && true) && true) && true)) rfl rfl (dep 22 rfl 86 rfl) (fun hc he hw => zqj hw _ _ rfl gx (0 + 98 * 1) (Eq.trans (dep 24 rfl 88 rfl) (zqg (on_g hc he) _)) (.int .i64 (0)) (by have h9 := blk_cls (zqb hx hB) (show 98 < 256 by omega); rw [hf98.out] at h9; exact h9) _ Tryz.underlying3 rfl (zqg (on_g hc he) _).symm) (fun hn => vF_no hn _)) ?_
  refine Steps.cons (fun a' w' hG hB dep => zqf (c := true) (b' := (((true && true) && true) && true)) rfl rfl (dep 22 rfl 86 rfl) (fun hc he hw => zzo hw _ _ _ _ rfl _ _ _ (Eq.trans (dep 25 rfl 89 rfl) (zqg (on_g hc he) _)) rfl (Eq.trans (congrArg Value.bool rfl) (zqg (on_g hc he) _).symm)) (fun hn => vF_no hn _)) ?_
  refine Steps.cons (fun a' w' hG hB dep => zqy (zqa rfl) _ _ _ rfl (((true && true) && true) && true) (dep 22 rfl 86 rfl) (id (zxq (c := true) rfl (dep 26 rfl 90 rfl)))) ?_
  refine Steps.cons (fun a' w' hG hB dep => zqi (zqa rfl) _ rfl (id (dep 27 rfl 91 rfl))) ?_
  refine Steps.cons (fun a' w' hG hB dep => zqf (c := true) (b' := ((((true && true) && true) && true) && true)) rfl rfl (dep 28 rfl 92 rfl) (fun hc he hw => zqn hw _ _ _ rfl gx (0) (256) (hG.other 1 rfl) (fun wz => field_dfa_1 gx (0) wz) (zqg (on_g hc he) _).symm) (fun hn => vF_no hn _)) ?_
  refine Steps.cons (fun a' w' hG hB dep => zqf (c := true) (b' := ((((true && true) && true) && true) && true)) rfl rfl (dep 28 rfl 92 rfl) (fun hc he hw => zqj hw _ _ rfl gx (256) (Eq.trans (dep 29 rfl 93 rfl) (zqg (on_g hc he) _)) (.slice (some ⟨bN, 0, none⟩) 3 x.c) (by have h9 := blk_d1 (zqb hx hB); rw [hXA.out] at h9; exact h9) _ Tryz.underlying31 rfl (zqg (on_g hc he) _).symm) (fun hn => vF_no hn _)) ?_
  refine Steps.cons (fun a' w' hG hB dep => zqf (c := true) (b' := ((((true && true) && true) && true) && true)) rfl rfl (dep 28 rfl 92 rfl) (fun hc he hw => zxu hw _ _ _ rfl under_rows 1 size_rowE bN 0 3 x.c (1) (Eq.trans (dep 30 rfl 94 rfl) (zqg (on_g hc he) _)) rfl (by omega) (zqg (on_g hc he) _).symm) (fun hn => vF_no hn _)) ?_
  refine Steps.cons (fun a' w' hG hB dep => zqf (c := true) (b' := ((((true && true) && true) && true) && true)) rfl rfl (dep 28 rfl 92 rfl) (fun hc he hw => zqj hw _ _ rfl bN (0 + 1 * 1) (Eq.trans (dep 31 rfl 95 rfl) (zqg (on_g hc he) _)) (.slice (some ⟨bR, 0, none⟩) 2 cR') (hc1 _ hB) _ Tryz.underlying47 rfl (zqg (on_g hc he) _).symm) (fun hn => vF_no hn _)) ?_
  refine Steps.cons (fun a' w' hG hB dep => zqf (c := true) (b' := ((((true && true) && true) && true) && true)) rfl rfl (dep 28 rfl 92 rfl) (fun hc he hw => gs_len hw _ _ rfl under_ints _ 2 cR' (Eq.trans (dep 32 rfl 96 rfl) (zqg (on_g hc he) _)) (zqg (on_g hc he) _).symm) (fun hn => vF_no hn _)) ?_
  refine Steps.cons (fun a' w' hG hB dep => zqf (c := true) (b' := ((((true && true) && true) && true) && true)) rfl rfl (dep 28 rfl 92 rfl) (fun hc he hw => zzo hw _ _ _ _ rfl _ _ _ (Eq.trans (dep 33 rfl 97 rfl) (zqg (on_g hc he) _)) rfl (Eq.trans (congrArg Value.bool rfl) (zqg (on_g hc he) _).symm)) (fun hn => vF_no hn _)) ?_
  refine Steps.cons (fun a' w' hG hB dep => zqy (zqa rfl) _ _ _ rfl ((((true && true) && true) && true) && true) (dep 28 rfl 92 rfl) (id (zxq (c := true) rfl (dep 34 rfl 98 rfl)))) ?_
  refine Steps.cons (fun a' w' hG hB dep => zqi (zqa rfl) _ rfl (id (dep 35 rfl 99 rfl))) ?_
  refine Steps.cons (fun a' w' hG hB dep => zqf (c := true) (b' := (((((true && true) && true) && true) && true) && true)) rfl rfl (dep 36 rfl 100 rfl) (fun hc he hw => zqn hw _ _ _ rfl gx (0) (256) (hG.other 1 rfl) (fun wz => field_dfa_1 gx (0) wz) (zqg (on_g hc he) _).symm) (fun hn => vF_no hn _)) ?_
  refine Steps.cons (fun a' w' hG hB dep => zqf (c := true) (b' := (((((true && true) && true) && true) && true) && true)) rfl rfl (dep 36 rfl 100 rfl) (fun hc he hw => zqj hw _ _ rfl gx (256) (Eq.trans (dep 37 rfl 101 rfl) (zqg (on_g hc he) _)) (.slice (some ⟨bN, 0, none⟩) 3 x.c) (by have h9 := blk_d1 (zqb hx hB); rw [hXA.out] at h9; exact h9) _ Tryz.underlying31 rfl (zqg (on_g hc he) _).symm) (fun hn => vF_no hn _)) ?_
  refine Steps.cons (fun a' w' hG hB dep => zqf (c := true) (b' := (((((true && true) && true) && true) && true) && true)) rfl rfl (dep 36 rfl 100 rfl) (fun hc he hw => zxu hw _ _ _ rfl under_rows 1 size_rowE bN 0 3 x.c (1) (Eq.trans (dep 38 rfl 102 rfl) (zqg (on_g hc he) _)) rfl (by omega) (zqg (on_g hc he) _).symm) (fun hn => vF_no hn _)) ?_
  refine Steps.cons (fun a' w' hG hB dep => zqf (c := true) (b' := (((((true && true) && true) && true) && true) && true)) rfl rfl (dep 36 rfl 100 rfl) (fun hc he hw => zqj hw _ _ rfl bN (0 + 1 * 1) (Eq.trans (dep 39 rfl 103 rfl) (zqg (on_g hc he) _)) (.slice (some ⟨bR, 0, none⟩) 2 cR') (hc1 _ hB) _ Tryz.underlying47 rfl (zqg (on_g hc he) _).symm) (fun hn => vF_no hn _)) ?_
  refine Steps.cons (fun a' w' hG hB dep => zqf (c := true) (b' := (((((true && true) && true) && true) && true) && true)) rfl rfl (dep 36 rfl 100 rfl) (fun hc he hw => zxu hw _ _ _ rfl under_ints 1 size_intE bR 0 2 cR' (0) (Eq.trans (dep 40 rfl 104 rfl) (zqg (on_g hc he) _)) rfl (by omega) (zqg (on_g hc he) _).symm) (fun hn => vF_no hn _)) ?_
  refine Steps.cons (fun a' w' hG hB dep => zqf (c := true) (b' := (((((true && true) && true) && true) && true) && true)) rfl rfl (dep 36 rfl 100 rfl) (fun hc he hw => zqj hw _ _ rfl bR (0 + 0 * 1) (Eq.trans (dep 41 rfl 105 rfl) (zqg (on_g hc he) _)) (.int .i64 (2)) (hc2 _ hB) _ Tryz.underlying3 rfl (zqg (on_g hc he) _).symm) (fun hn => vF_no hn _)) ?_
  refine Steps.cons (fun a' w' hG hB dep => zqf (c := true) (b' := (((((true && true) && true) && true) && true) && true)) rfl rfl (dep 36 rfl 100 rfl) (fun hc he hw => zzo hw _ _ _ _ rfl _ _ _ (Eq.trans (dep 42 rfl 106 rfl) (zqg (on_g hc he) _)) rfl (Eq.trans (congrArg Value.bool rfl) (zqg (on_g hc he) _).symm)) (fun hn => vF_no hn _)) ?_
  refine Steps.cons (fun a' w' hG hB dep => zqy (zqa rfl) _ _ _ rfl (((((true && true) && true) && true) && true) && true) (dep 36 rfl 100 rfl) (id (zxq (c := true) rfl (dep 43 rfl 107 rfl)))) ?_
  refine Steps.cons (fun a' w' hG hB dep => zxl (zqa rfl) _ rfl (id (dep 44 rfl 108 rfl))) ?_
  exact Steps.nil
 intro u wq hwq ans
 have hus0 : u 0 = (.bool ((((((true && true) && true) && true) && true) && true) && true)) := ans 45 0 (by decide) rfl
 clear ans
 simp only [zqr, List.foldl_cons, List.foldl_nil, Act.put, List.setIfInBounds_toArray, List.set_cons_zero, List.set_cons_succ, hus0]
 clear hus0
 simp only [List.drop]
 refine wpList_nil ?_
 replace hB6 := zqd hB6 hwq
 rw [show ((((((true && true) && true) && true) && true) && true) && true) = true from rfl]
 clear hc1 hc2 hx
 go_wp2_with (fail)
 go_ret
 exact ⟨rfl, zqd hB3 hB6⟩
section
variable {w : World} {ops : Array Oper} {rest : List Oper} {o : Oper} {a : Act} {Q : Exit → Act → World → Prop}
end
theorem tabIn_Q {x : TV} {w : World} {base N i : Nat} {E : List Edg} {R : List Nat} {f : Nat → Int} {bs : List Nat} (hR : ∀ r ∈ R, r < 4294967296) (hbs : bs.length ≤ 256) (hi : i ≤ 4096) (hD : Done (stepM E N R) bs (mo0 E N R) i) (hT : x.T = tabQ E N R f bs i) (hO : TOwn w base x [] [] []) : TabIn w w.heap.size x := by
 have hlen : (bfsN (stepM E N R) bs (mo0 E N R) i).length = i := hD
 have hr : x.rs.map (·.l) = (rowsQ (stepM E N R) bs (mo0 E N R) i).map (fun l => l.map fun (n : Nat) => (n : Int)) := congrArg Tb.nx hT
 have hf : x.fo = (bfsN (stepM E N R) bs (mo0 E N R) i).map Mo.met := congrArg Tb.fo hT
 have he : x.en = (bfsN (stepM E N R) bs (mo0 E N R) i).map Mo.end_ := congrArg Tb.en hT
 have hok : ∀ y ∈ bfsN (stepM E N R) bs (mo0 E N R) i, MoOk N (zqe N) y := bfs_all (p := MoOk N (zqe N)) (moN_ok hR (zzh N) 0 0 true (by decide)) (fun q b hq _ => stepM_ok hR (zzh N) b hq) i
 have hl : x.rs.length = i := by
  have := congrArg List.length hr
  rw [List.length_map, List.length_map, rows_len (by omega)] at this
  exact this
 refine hO.tab (by omega) (fun r h => ?_) (by rw [hf, List.length_map]; omega) (by rw [he, List.length_map]; omega) (fun y hy => ?_) (fun y hy => ?_)
 ·have h1 : r.l ∈ x.rs.map (·.l) := List.mem_map_of_mem h
  rw [hr] at h1
  obtain ⟨l, hl1, hl2⟩ := List.mem_map.1 h1
  unfold rowsQ at hl1
  obtain ⟨q, _, hq⟩ := List.mem_map.1 hl1
  rw [← hl2, List.length_map, ← hq]
  unfold entsQ
  rw [List.length_map]
  omega
 ·rw [hf] at hy
  obtain ⟨q, hq, rfl⟩ := List.mem_map.1 hy
  exact (hok q hq).met
 ·rw [he] at hy
  obtain ⟨q, hq, rfl⟩ := List.mem_map.1 hy
  exact (hok q hq).en
theorem repE_len (E : List Edg) : (repE E).length ≤ 256 := by
 unfold repE
 rw [repL_length]
 exact many_le _
def zeroT : TV := ⟨fun _ => 0, [], none, 0, [], none, 0, [], none, 0⟩
def DAlt (s : Int) (E : List Edg) (m : Nat) (R : List Nat) (most : Int) (x : TV) (k : Int) : Prop :=
 (rightB s E m = false ∧ k = 70 ∧ x = zeroT) ∨ (rightB s E m = true ∧ k = 0 ∧ ∃ i : Nat, Done (stepM E s.toNat R) (repE E) (mo0 E s.toNat R) i ∧ (i : Int) ≤ min most 4096 ∧ x.T = tabQ E s.toNat R (clsE E) (repE E) i) ∨
   (rightB s E m = true ∧ k = 100 ∧ (∀ i : Nat, Done (stepM E s.toNat R) (repE E) (mo0 E s.toNat R) i → min most 4096 < (i : Int)) ∧ x = zeroT)
theorem dres_tab {s : Int} {E : List Edg} {m : Nat} {R : List Nat} {most : Int} {base : Nat} {e : Ending} {w : World} (hR : ∀ r ∈ R, r < 4294967296) (h : DRes s E m R most base e w) : ∃ (x : TV) (k : Int), e = .returned (.tuple #[.agg x.C', .int .i64 k]) ∧ TabIn w w.heap.size x ∧ TOwn w base x [] [] [] ∧ DAlt s E m R most x k := by
 rcases h with ⟨h1, rfl⟩ | ⟨h1, i, x, hD, hi, rfl, hT, hO⟩ | ⟨h1, h2, rfl⟩
 ·exact ⟨zeroT, 70, rfl, zero_tab w, TOwn.nil _ _ _, .inl ⟨h1, rfl, rfl⟩⟩
 ·exact ⟨x, 0, rfl, tabIn_Q hR (repE_len E) (by omega) hD hT hO, hO, .inr (.inl ⟨h1, rfl, i, hD, hi, hT⟩)⟩
 ·exact ⟨zeroT, 100, rfl, zero_tab w, TOwn.nil _ _ _, .inr (.inr ⟨h1, rfl, h2, rfl⟩)⟩
end Go.Proofs.YtkedgombccdamaaGreatDoor
namespace Go.Proofs.YtkedgombccdamaaGreatDoor
open Go.RowKit Go.Maps
set_option linter.unusedVariables false
set_option linter.unusedSimpArgs false
section
variable {rw : Option Nat} {i0 : Nat}
structure GInvW (rw : Option Nat) (i0 : Nat) (ops : Array Oper) (n : Nat) (S : Nat → GSpec) (a0 : Act) (W0 : World) (listed : Array Bool) (a : Act) (w : World) : Prop where
 head : HeadInv .any ops n listed
 base : GBase ops n a0 a
 below : W0.grownBy w rw
 pure_ : listed.getD i0 false = false → Below W0.heap.size W0 w
 done : ∀ j, j < n → listed.getD j false = true → opOk ops S a w j
 turned : listed.getD i0 false = true → ∃ v, (S i0).p v w
theorem wpAny_growW {P : Program} {ops : Array Oper} {n : Nat} {S : Nat → GSpec} {Q : Exit → Act → World → Prop} {a0 : Act} {W0 : World} (hkp : ∀ j, j ≠ i0 → ∀ v w w', (S j).p v w → w.grownBy w' rw → (S j).p v w') (hB : growB ops n a0.tmps.size = true)
  (hstep : ∀ i o, i < n → ops[i]? = some o → ∀ a w, GBase ops n a0 a → W0.grownBy w rw → (i = i0 → Below W0.heap.size W0 w) → (∀ e ∈ o.after, Region.binds .any e = true → opOk ops S a w e.on) → GStepR rw i0 P ops S Q i o a w)
  (hi0 : i0 < n) (hend : ∀ a w, GBase ops n a0 a → W0.grownBy w rw → (∀ j, j < n → opOk ops S a w j) → (∃ v, (S i0).p v w) → wpList P ops Q (ops.toList.drop n) a w) :
  ∀ (m : Nat) (listed : Array Bool) (a : Act) (w : World), GInvW rw i0 ops n S a0 W0 listed a w → unl n listed = m → wpAny P .any ops Q (m + (ops.size - n)) listed a w := by
 simp only [growB, Bool.and_eq_true, Bool.or_eq_true, decide_eq_true_eq] at hB
 obtain ⟨⟨⟨⟨⟨hn, hdup⟩, hlt⟩, hedge⟩, htail⟩, hseq⟩ := hB
 have hedge' : ∀ i o, i < n → ops[i]? = some o → ∀ e ∈ o.after, Region.binds .any e = true → e.on < i := by
  intro i o hi ho e he hb
  have h1 := List.all_eq_true.1 hedge i (List.mem_range.2 hi)
  simp only [ho] at h1
  have h2 := (Array.all_eq_true_iff_forall_mem.1 h1) e he
  simpa [hb] using h2
 have hready : ∀ (listed : Array Bool) (a : Act) (w : World), GInvW rw i0 ops n S a0 W0 listed a w → 0 < unl n listed → ∀ j ∈ Region.ready .any ops listed, j < n := by
  intro listed a w inv hpos j hj
  rcases htail with he | ⟨hs, hc⟩
  ·obtain ⟨_, o, ho, _⟩ := mem_ready.1 hj
   have := (Array.getElem?_eq_some_iff.1 ho).1
   omega
  ·rcases Nat.lt_or_ge n ops.size with hlt' | hge
   ·unfold unl at hpos
    obtain ⟨i, hi⟩ := List.exists_mem_of_length_pos hpos
    simp only [List.mem_filter, List.mem_range, Bool.not_eq_true'] at hi
    have hun : listed.getD i true = false := getD_in (by rw [inv.head.size]; omega) hi.2
    rcases Nat.lt_or_ge j n with h | h
    ·exact h
    ·exact absurd hj (tail_waits hs hc hlt' inv.head _ i rfl hi.1 hun j h)
   ·obtain ⟨_, o, ho, _⟩ := mem_ready.1 hj
    have := (Array.getElem?_eq_some_iff.1 ho).1
    omega
 have hne : ∀ (listed : Array Bool) (a : Act) (w : World), GInvW rw i0 ops n S a0 W0 listed a w → 0 < unl n listed → Region.ready .any ops listed ≠ [] := by
  intro listed a w inv hpos hnil
  have hex : ∃ i, i < n ∧ listed.getD i false = false := by
   unfold unl at hpos
   obtain ⟨i, hi⟩ := List.exists_mem_of_length_pos hpos
   simp only [List.mem_filter, List.mem_range, Bool.not_eq_true'] at hi
   exact ⟨i, hi.1, hi.2⟩
  have hmin : ∃ i, i < n ∧ listed.getD i false = false ∧ ∀ k, k < i → listed.getD k false = true := by
   obtain ⟨i, hi, hf⟩ := hex
   clear hpos
   induction i using Nat.strongRecOn with
   | _ i ih =>
     by_cases h : ∃ k, k < i ∧ listed.getD k false = false
     ·obtain ⟨k, hk, hkf⟩ := h
      exact ih k hk (by omega) hkf
     ·refine ⟨i, hi, hf, fun k hk => ?_⟩
      cases hc : listed.getD k false with
      | true => rfl
      | false => exact absurd ⟨k, hk, hc⟩ h
  obtain ⟨i, hi, hf, hall⟩ := hmin
  have ho : ops[i]? = some ops[i] := Array.getElem?_eq_getElem (by omega)
  have hmem : i ∈ Region.ready .any ops listed := mem_ready.2 ⟨getD_in (by rw [inv.head.size]; omega) hf, _, ho, fun e he hb => hall _ (hedge' i _ hi ho e he hb)⟩
  rw [hnil] at hmem
  cases hmem
 intro m
 induction m with
 | zero =>
   intro listed a w inv hm
   have hall : ∀ j, j < n → listed.getD j false = true := by
    intro j hj
    cases hc : listed.getD j false with
    | true => rfl
    | false => have := unl_pos hj hc; omega
   have hlist : listed = headTrue n (ops.size - n) := by
    have hsz := inv.head.size
    apply Array.ext
    ·simp [headTrue, hsz]; omega
    ·intro j h1 h2
     have hj : j < ops.size := by rw [← hsz]; exact h1
     simp only [headTrue, List.getElem_toArray, List.getElem_append, List.length_replicate, List.getElem_replicate]
     by_cases hjn : j < n
     ·have := hall j hjn
      simp [h1] at this
      simp [hjn, this]
     ·have := inv.head.tail j (by omega) hj
      simp [h1] at this
      simp [hjn, this]
   have hw := hend a w inv.base inv.below (fun j hj => inv.done j hj (hall j hj)) (inv.turned (hall i0 hi0))
   have hdl : (ops.toList.drop n).length = ops.size - n := by simp
   have := wpAny_of_seq (md := .any) (Q' := Q) (ops.toList.drop n) n listed a w (fun j => by simp [List.getElem?_drop]) (by rw [hdl, hlist]; exact hseq) hw
   rw [hdl] at this
   rw [Nat.zero_add]
   exact this
 | succ m ih =>
   intro listed a w inv hm
   rw [show m + 1 + (ops.size - n) = (m + (ops.size - n)) + 1 by omega]
   refine ⟨fun h => absurd h (hne listed a w inv (by omega)), fun i hi => ?_⟩
   have hin := hready listed a w inv (by omega) i hi
   obtain ⟨hun, o, ho, hall⟩ := mem_ready.1 hi
   have hlisted : listed.getD i false = false := getD_both hun
   have hg := hstep i o hin ho a w inv.base inv.below (fun e => inv.pure_ (e ▸ hlisted)) (fun e he hb => inv.done e.on (by have := hedge' i o hin ho e he hb; omega) (hall e he hb))
   have hsz : i < listed.size := by rw [inv.head.size]; omega
   have hnext : ∀ a' w', GKR rw i0 S i o a w a' w' → wpAny P .any ops Q (m + (ops.size - n)) (listed.setIfInBounds i true) a' w' := by
    rintro a' w' ⟨v, rfl, hb, hp⟩
    refine ih _ _ _ ⟨inv.head.set hi hin, ⟨by rw [put_defers]; exact inv.base.defers, by rw [put_size]; exact inv.base.size, fun t ht => ?_⟩, inv.below.trans hb.1, fun hl0 => (by
     have hne : i ≠ i0 := fun e => by
      subst e
      rw [getD_set_same' hsz] at hl0
      cases hl0
     rw [getD_set_ne false hne] at hl0
     have k1 := inv.pure_ hl0
     exact k1.trans ((hb.2 hne).mono k1.size)), fun j hj hl d hd => ?_, fun hl => ?_⟩ (by have := unl_set hin hsz hlisted; omega)
    ·cases hd : o.dst with
     | none => exact inv.base.other t ht
     | some d =>
       have hmem : d ∈ zzd ops n := List.mem_filterMap.2 ⟨o, by
        rw [List.mem_iff_getElem?]
        exact ⟨i, by rw [List.getElem?_take]; simp [hin, ho]⟩, hd⟩
       have hne : d ≠ t := by
        rintro rfl
        rw [List.contains_eq_mem] at ht
        simp [hmem] at ht
       rw [zxp hne]
       exact inv.base.other t ht
    ·by_cases hij : i = j
     ·subst hij
      rw [ho] at hd
      simp only [Option.bind_some] at hd
      rw [hd]
      have hmem : d ∈ zzd ops n := List.mem_filterMap.2 ⟨o, by
       rw [List.mem_iff_getElem?]
       exact ⟨i, by rw [List.getElem?_take]; simp [hin, ho]⟩, hd⟩
      have hdl : d < a.tmps.size := by
       have := List.all_eq_true.1 hlt d hmem
       rw [inv.base.size]; simpa using this
      rw [put_getD_same hdl]
      exact hp
     ·rw [getD_set_ne false hij] at hl
      have hold := inv.done j hj hl d hd
      have hkeep : (a.put o.dst v).tmps.getD d undef = a.tmps.getD d undef := by
       cases hod : o.dst with
       | none => rfl
       | some e =>
         apply zxp
         rintro rfl
         cases hoj : ops[j]? with
         | none => rw [hoj] at hd; cases hd
         | some oj =>
           rw [hoj] at hd
           simp only [Option.bind_some] at hd
           exact hij (noDup_spec _ hdup i j o oj e (by rw [List.getElem?_take]; simp [hin, ho]) (by rw [List.getElem?_take]; simp [hj, hoj]) hod hd)
      rw [hkeep]
      by_cases hj0 : j = i0
      ·exact (S j).st _ _ _ hold (hb.2 (by omega))
      ·exact hkp j hj0 _ _ _ hold hb.1
    ·by_cases hij : i = i0
     ·subst hij
      exact ⟨v, hp⟩
     ·rw [getD_set_ne false hij] at hl
      obtain ⟨v0, h0⟩ := inv.turned hl
      exact ⟨v0, (S i0).st _ _ _ h0 (hb.2 hij)⟩
   unfold wpOp
   simp only [ho]
   unfold GStepR at hg
   split
   ·rename_i hw
    rw [if_pos hw] at hg
    exact .inl (Oper.wp_mono hnext hg)
   ·rename_i hw
    rw [if_neg hw] at hg
    exact hnext _ _ ⟨undef, rfl, ⟨World.grownBy.refl _ _, fun _ => Below.refl _ _⟩, hg⟩
theorem wp_region_growW {P : Program} {id : Nat} {l : List Oper} {Q : Exit → Act → World → Prop} {a : Act} {w : World} (n : Nat) (S : List GSpec) (hm : P.follows .mixedOrders = true) (hkp : ∀ j, j ≠ i0 → ∀ v w w', (zzl S j).p v w → w.grownBy w' rw → (zzl S j).p v w') (hB : growB l.toArray n a.tmps.size = true)
  (hstep : ∀ i o, i < n → l[i]? = some o → ∀ a' w', GBase l.toArray n a a' → w.grownBy w' rw → (i = i0 → Below w.heap.size w w') → (∀ e ∈ o.after, Region.binds .any e = true → opOk l.toArray (zzl S) a' w' e.on) → GStepR rw i0 P l.toArray (zzl S) Q i o a' w')
  (hi0 : i0 < n) (hend : ∀ (u : Nat → Value) w', w.grownBy w' rw → (∀ j d, j < n → (l[j]?).bind (·.dst) = some d → (zzl S j).p (u d) w') → (∃ v, (zzl S i0).p v w') → wpList P l.toArray Q (l.drop n) (zqr a (zzd l.toArray n) u) w') :
  (Code.region id l.toArray true).wp P Q a w := by
 refine wp_region_any hm ?_
 have hdr : ∀ {x : World}, w.grownBy x rw → w.drew.grownBy x rw := fun h => ⟨h.os, h.tape, h.output, h.size, h.block⟩
 have hrd : ∀ {x : World}, w.drew.grownBy x rw → w.grownBy x rw := fun h => ⟨h.os, h.tape, h.output, h.size, h.block⟩
 have hn : n ≤ l.length := by
  simp only [growB, Bool.and_eq_true, decide_eq_true_eq] at hB
  simpa using hB.1.1.1.1.1
 have key := wpAny_growW (P := P) (ops := l.toArray) (n := n) (S := zzl S) (Q := Q) (a0 := a) (W0 := w.drew) hkp hB
  (fun i o hi ho a' w' hb hw hp hd => hstep i o hi (by simpa using ho) a' w' hb (hrd hw) (fun e => ⟨(hp e).os, (hp e).tape, (hp e).output, (hp e).size, (hp e).block⟩) hd)
  hi0 (fun a' w' hb hw hd ht => by
   rw [act_eq hb]
   have := hend (fun d => a'.tmps.getD d undef) w' (hrd hw) (fun j d hj hd' => hd j hj d (by simpa using hd')) ht
   simpa using this)
  n (Array.replicate l.toArray.size false) a w.drew
  ⟨⟨by simp, fun j oj _ hl => (by rw [getD_replicate_false] at hl; cases hl), fun t _ ht => getD_in (by simpa using ht) (getD_replicate_false _ _)⟩, ⟨rfl, rfl, fun _ _ => rfl⟩, World.grownBy.refl _ _, fun _ => Below.refl _ _, fun j _ hl => (by rw [getD_replicate_false] at hl; cases hl), fun hl => (by rw [getD_replicate_false] at hl; cases hl)⟩
  (by
   unfold unl
   rw [List.filter_eq_self.2 (fun j _ => by rw [getD_replicate_false]; rfl), List.length_range])
 rw [show n + (l.toArray.size - n) = l.toArray.size by simp; omega] at key
 exact key
theorem wp_region_stepsW {P : Program} {id : Nat} {l : List Oper} {Q : Exit → Act → World → Prop} {a : Act} {w : World} (n : Nat) (S : List GSpec) (ds : List Nat) (hm : P.follows .mixedOrders = true) (hkp : ∀ j, j ≠ i0 → ∀ v w w', (zzl S j).p v w → w.grownBy w' rw → (zzl S j).p v w') (hB : growB l.toArray n a.tmps.size = true)
  (hds : zzd l.toArray n = ds) (hstep : StepsR rw i0 P l.toArray (zzl S) Q n a w (l.take n) 0)
  (hi0 : i0 < n) (hend : ∀ (u : Nat → Value) w', w.grownBy w' rw → (∀ j d, j < n → (l[j]?).bind (·.dst) = some d → (zzl S j).p (u d) w') → (∃ v, (zzl S i0).p v w') → wpList P l.toArray Q (l.drop n) (zqr a ds u) w') :
  (Code.region id l.toArray true).wp P Q a w := by
 subst hds
 refine wp_region_growW n S hm hkp hB (fun i o hi ho a' w' hb hw hp hd => ?_) hi0 hend
 have := hstep.at_ i o (by rw [List.getElem?_take, if_pos hi]; exact ho) a' w' hb hw (by rw [Nat.zero_add]; exact hp) (fun j hj => by
  obtain ⟨e, he, hh⟩ := List.any_eq_true.1 hj
  simp only [Bool.and_eq_true, beq_iff_eq] at hh
  rw [← hh.2]
  exact hd e (Array.mem_toList_iff.1 he) hh.1)
 rw [Nat.zero_add] at this
 exact this
end
end Go.Proofs.YtkedgombccdamaaGreatDoor
namespace Go.Proofs.YtkedgombccdamaaGreatDoor
open Go.RowKit Go.Shelf Go.Maps
set_option linter.unusedVariables false
set_option linter.unusedSimpArgs false
attribute [local go_sem] Oper.semAt_some
structure PM (base : Nat) (w : World) (v : Value) (ms : List MV) : Prop where
 m : Own w base 26 3 MV.C v ms
 o : ∀ x ∈ ms, MO w base x
theorem PM.then_ {base : Nat} {w w' : World} {v : Value} {ms : List MV} (h : PM base w v ms) (hb : Below w.heap.size w w') : PM base w' v ms := ⟨h.m.then_ hb, fun x hx => (h.o x hx).then_ hb⟩
theorem PM.mpush {base : Nat} {w w' : World} {v u : Value} {ms : List MV} {x : MV} (h : PM base w v ms) (hx : MO w base x) (ho : Own w' base 26 3 MV.C u (ms ++ [x])) (hg : w.grownBy w' v.ownBlock) : PM base w' u (ms ++ [x]) :=
 ⟨ho, fun y hy => by
  rcases List.mem_append.1 hy with hy | hy
  ·exact (h.o y hy).row h.m hg
  ·rw [List.mem_singleton] at hy; subst hy; exact hx.row h.m hg⟩
theorem good_of {nd : Nd} {x : MV} {r : Nat} (hT : nd.isT = true) (hU : ¬ 2048 ≤ nd.U) (hr : r < 32) (hF : x.F = ⟨(Mt.mN nd : Nat), Mt.mE nd, Mt.mR nd r⟩) : MGood x := by
 obtain ⟨h1, h2, h3, h4⟩ := m_good hT hU (r := r) (by omega) hF
 have h5 : Mt.mN nd ≤ 2100 := by rw [Mt.mN_eq hT hU]; unfold placesN; rw [if_pos hT]; have := hU; omega
 exact ⟨by rw [h2]; exact h1, by omega, h3, h4⟩
theorem uFold_few {ms : List MV} (h : ∀ x ∈ ms, MGood x) : (uFold (ms.map MV.F)).E.length ≤ 6145 * ms.length := by
 obtain ⟨k, hk⟩ : ∃ k, k = ms.reverse := ⟨_, rfl⟩
 have e : ms = k.reverse := by rw [hk, List.reverse_reverse]
 subst e
 clear hk
 induction k with
 | nil => simp [uFold]
 | cons x l ih =>
   rw [List.reverse_cons, List.map_append, List.map_cons, List.map_nil, uFold_snoc]
   have h1 := ih fun y hy => h y (by rw [List.reverse_cons]; exact List.mem_append_left _ hy)
   have h2 := (h x (by rw [List.reverse_cons]; simp)).ed
   unfold uStep
   simp only [List.length_append, List.length_cons, List.length_nil, List.length_map] at h1 ⊢
   omega
structure MachOut (w : World) (base : Nat) (x : MV) : Prop where
 fit : ∃ N : Nat, Mt.FitsF x.F N ∧ 1 ≤ N ∧ N ≤ 150
 few : x.F.E.length ≤ 100000
 lt : ∀ r ∈ x.F.R, r < 4294967296
 mo : MO w base x
def MRes (base : Nat) (e : Ending) (w' : World) : Prop := ∃ (x : MV) (ok : Bool), e = .returned (.tuple #[.agg x.C, .bool ok]) ∧ (ok = true → MachOut w' base x)
theorem num10_same (v : Int) (w : World) : Calls Tryz.prog 7 #[.int .i64 v] w fun e w' => e = .returned (.int .i64 v) ∧ w' = w := by
 go_enter Tryz.func7, Tryz.ntmps7
 go_wp2_with (fail)
 go_ret
 exact ⟨rfl, rfl⟩
def zeroM : MV := ⟨⟨0, [], []⟩, none, 0, none, 0⟩
theorem gsr_store_row {g : Nat} {i0 : Nat} {ops : Array Oper} {S : Nat → GSpec} {Q : Exit → Act → World → Prop} {o : Oper} {a : Act} {w : World} (hw : Region.wanted o (yielded ops a.tmps) = true) (ty : TypeId) (x y : Operand) (ho : o.op = .store ty x y) (hx : a.eval x = .pointer (some ⟨g, 0, none⟩)) {cs old : Array Value} {t : TypeId} (hy : a.eval y = .agg cs)
  (hb : Blk w g t old) (hi : (Tryz.prog.info? ty).map (·.size) = some cs.size) (hsz : old.size = cs.size) (h1 : cs.all (·.oneCell') = true) (hp : ∀ w', Blk w' g t cs → (S i0).p undef w') : GStepR (some g) i0 Tryz.prog ops S Q i0 o a w := by
 unfold GStepR
 rw [if_pos hw]
 exact wp_store_row ty x y ho g cs hx hy t old hb hi hsz h1 ⟨undef, rfl, ⟨zxs (zzk _ _) _, fun h => (h rfl).elim⟩, hp _ (hb.setRow_same _)⟩
set_option maxRecDepth 100000 in
set_option maxHeartbeats 16000000 in
theorem machine_any (Ap : Option Addr) (np cp : Nat) (ps : List ByteArray) (hnp : np = ps.length) (hnp2 : np ≤ 1048576) (hcp : np ≤ cp) (w : World) (hM : Mx w) (hps : SliceOf w w.heap.size 1 encStr Ap ps) :
  Calls Tryz.prog 4 #[.slice Ap np cp] w fun e w' => MRes w.heap.size e w' ∧ Below w.heap.size w w' := by
 have Hnp := Lib.hid hnp
 replace hM := Lib.hid hM
 replace hps := Lib.hid hps
 clear hnp
 go_enter Tryz.func4, Tryz.ntmps4
 go_upto_region 1 with (fail)
 have h2 : Blk (w.alloc (.cells #[.int .i64 0, .slice none 0 0, .slice none 0 0] 26)) w.heap.size 26 (nfaC 0 none 0 0 none 0 0) := Blk.new w _ _
 have hB1 := zqc (Below.refl w.heap.size w) (.cells #[.int .i64 0, .slice none 0 0, .slice none 0 0] 26)
 obtain ⟨w1, hw1⟩ : ∃ y, y = w.alloc (.cells #[.int .i64 0, .slice none 0 0, .slice none 0 0] 26) := ⟨_, rfl⟩
 rw [← hw1] at h2 hB1 ⊢
 obtain ⟨g2, hg2⟩ : ∃ y, y = w.heap.size := ⟨_, rfl⟩
 rw [← hg2] at h2 ⊢
 have hg2w : w.heap.size ≤ g2 := by omega
 have hg2l : g2 < w1.heap.size := h2.lt
 have hwb : w.heap.size + 1 ≤ w1.heap.size := by omega
 clear hw1 hg2
 obtain ⟨bv, hbv⟩ : ∃ y, y = w1.heap.size := ⟨_, rfl⟩
 rw [← hbv] at hg2l hwb
 have hbv1 : bv ≤ w1.heap.size := by omega
 clear hbv
 obtain ⟨K, hK⟩ : ∃ K : Nat, K = min np 8 := ⟨_, rfl⟩
 have HK := Lib.hid hK
 clear hK
 go_upto_region 3 with (fail)
 go_cut [19, 20, 21] from 15 to 22 (fun a b c wx => wx = w1 ∧ a = .slice Ap K cp ∧ b = .int .i64 (K : Int) ∧ c = .int .i64 (0 : Nat))
 case first =>
  have hKe := HK.out
  by_cases h20 : (np : Int) ≤ 8
  ·have e1 : K = np := by omega
   have h20b : np ≤ 8 := by omega
   subst e1
   clear hKe
   go_wp2_with (fail)
   go_meet
   exact ⟨rfl, by first | rfl | (congr 1; omega), congrArg (Value.int .i64) (by omega), rfl⟩
  ·have e1 : K = 8 := by omega
   subst e1
   have h20c : (8 : Int) ≤ cp := by omega
   have h20d : 8 ≤ cp := by omega
   have h20e : (8 : Int) < np := by omega
   clear hKe
   go_wp2_with (fail)
   go_meet
   exact ⟨rfl, by first | rfl | (congr 1; omega), congrArg (Value.int .i64) (by omega), rfl⟩
 case rest =>
  obtain ⟨rfl, rfl, rfl, rfl⟩ := hcut
  have hKl : K ≤ ps.length := by have := HK.out; have := Hnp.out; omega
  have hK8 : K ≤ 8 := by have := HK.out; omega
  go_wp2_with (fail)
  go_loopw [21, 4, 5] (fun iv lv sv wr => ∃ (k : Nat) (ms : List MV) (A6 : Option Addr) (n6 c6 st : Nat), k ≤ K ∧ iv = .int .i64 k ∧ lv = .slice A6 n6 c6 ∧ sv = .int .i64 (st : Nat) ∧ n6 ≤ k ∧ Hid (n6 = ms.length ∧ st = 1 + sizesM ms ∧ ∀ x ∈ ms, MGood x) ∧ PM bv wr (.slice A6 n6 c6) ms ∧ Below w.heap.size w wr ∧ Blk wr g2 26 (nfaC 0 none 0 0 none 0 0) ∧ bv ≤ wr.heap.size) (fun iv _ _ _ => K - (intOf iv).toNat)
  case atStart => exact ⟨0, [], none, 0, 0, 1, by omega, rfl, rfl, rfl, by omega, Lib.hid ⟨rfl, rfl, fun x hx => absurd hx (by simp)⟩, ⟨Own.nil_ _ _ _ _ _, fun x hx => absurd hx (by simp)⟩, hB1, h2, hbv1⟩
  case round =>
   clear hB1 h2 hbv1
   obtain ⟨k, ms, A6, n6, c6, st, hk, rfl, rfl, rfl, hn6, hms, hU, hBw, h2, hbv1⟩ := hrel
   have hst : st ≤ 16801 := by have := sizesM_le hms.out.2.2; have := hms.out.1; have := hms.out.2.1; omega
   by_cases hkn : k < K
   ·have hkI : (k : Int) < K := by omega
    have hkl : k < ps.length := by omega
    obtain ⟨ba, off, hAp, hba, hrows⟩ := hps.out.at_ (by omega)
    obtain ⟨s, hs⟩ : ∃ s, ps[k] = s := ⟨_, rfl⟩
    have hcs : wr.cell? ⟨ba, off + k, none⟩ = some (.string s) := by
     have := ((hrows k hkl).keep (hBw.block ba (by omega))) 0 _ rfl
     rw [hs, Nat.mul_one, Nat.add_zero] at this
     exact this
    have HAp := Lib.hid hAp
    rw [hAp]
    clear hrows hs hAp
    have kP := parse_any s wr (hM.out.then_ (hBw.mono (Nat.le_refl _)))
    have hgood := (Ere.trees_hold s).good
    obtain ⟨⟨nd, a, e⟩, hr⟩ : ∃ r, Ere.parseR s = r := ⟨_, rfl⟩
    rw [hr] at kP hgood
    simp only at kP hgood
    replace hgood := Lib.hid hgood
    clear hr
    go_upto_region 7 with (first
     | (go_at_call 15; refine kP.mono ?_; rintro en w2 ⟨hB2, x7, bs7, rfl, hO2⟩)
     | (refine zqx rfl _ _ rfl _ x7 rfl rfl _ rfl (Blk.new _ _ zeroC) ?_; intro w3 k11 hg3))
    have hBa := zqc (Below.refl w2.heap.size w2) (.cells zeroC 56)
    have hBr : Below wr.heap.size wr w3 := zqh (zqd hB2 hBa) hg3 (by have := hB2.size; omega)
    have hO3 := (hO2.then_ hBa).keep (w' := w3) (fun b hb => hg3.block b (by have := (hO2.lt b hb).2; simp; omega) (fun e => by injection e with e; have := (hO2.lt b hb).2; omega))
    have hx := hO3.toIn
    replace hU := hU.then_ hBr
    replace hBw := zqd hBw hBr
    replace h2 := zqb h2 hBr
    replace hbv1 := Nat.le_trans hbv1 hBr.size
    obtain ⟨g8, hg8⟩ : ∃ y, y = w2.heap.size := ⟨_, rfl⟩
    rw [← hg8] at k11 ⊢
    clear hg3 hO2 hB2 kP hBa hg8 hBr hcs hO3
    try simp only [Act.put]
    have kN := num10_any (e : Int) w3
    by_cases he : e = 0
    ·obtain ⟨-, hTT, hp1, hp2, -⟩ := hgood.out he
     subst he
     have hpl := placesN_eq nd
     rw [← hpl] at hp2
     have hUU : ¬ 2048 ≤ nd.U := by unfold placesN at hp2; rw [if_pos hTT] at hp2; omega
     have kMk : Hid (∀ x : MV, x.F = ⟨(Mt.mN nd : Nat), Mt.mE nd, Mt.mR nd k⟩ → MGood x) := Lib.hid fun x hx => good_of hTT hUU (by omega) hx
     have kB : Hid (∀ W : World, Below w3.heap.size w3 W → _) := Lib.hid (fun W (hW : Below w3.heap.size w3 W) => build_mo nd hTT hUU k (by omega) w3.heap.size W x7.C (hx.then_ hW (Nat.le_refl _)) hW.size)
     clear hp1 hp2 hpl hTT hUU hx hgood
     go_upto_region 8 with (go_at_call 7; refine kN.mono ?_; clear kN; rintro en w4 ⟨rfl, hB4⟩)
     replace hU := hU.then_ hB4
     replace hBw := zqd hBw hB4
     replace h2 := zqb h2 hB4
     replace k11 := zqb k11 hB4
     replace hbv1 := Nat.le_trans hbv1 hB4.size
     have kB4 := kB.out w4 hB4
     clear kB hB4
     go_upto_region 9 with (first
      | (refine wl_load_nv rfl _ rfl g8 rfl x7 k11 ?_)
      | (go_at_call 16; refine kB4.mono ?_; clear kB4; rintro en w5 ⟨hB5, x, hxF, rfl, hMO5⟩)
      | (refine wl_store_mv rfl _ _ rfl _ x rfl rfl _ rfl (Blk.new _ _ _) ?_; intro w6 k14 hg6))
     have kMx := Lib.hid (kMk.out x hxF)
     have hBb := zqc (Below.refl w5.heap.size w5) (.cells #[.int .i64 0, .slice none 0 0, .slice none 0 0] 26)
     have hBn := zqd hB5 (zqh hBb hg6 (Nat.le_refl _))
     have hMO := ((hMO5.then_ hBb).box (Blk.new _ _ _) hg6).mono (B' := bv) hbv1
     replace hU := hU.then_ hBn
     replace hBw := zqd hBw hBn
     replace h2 := zqb h2 hBn
     replace hbv1 := Nat.le_trans hbv1 hBn.size
     obtain ⟨g14, hg14⟩ : ∃ y, y = w5.heap.size := ⟨_, rfl⟩
     rw [← hg14] at k14 ⊢
     have hg14b := k14.lt
     clear hBb hBn hMO5 hg6 hB5 hg14 hxF kMk k11
     try simp only [Act.put]
     have kN := num10_any 0 w6
     go_upto_region 11 with (go_at_call 7; refine kN.mono ?_; clear kN; rintro en w7 ⟨rfl, hB7⟩)
     replace hU := hU.then_ hB7
     replace hMO := hMO.then_ hB7
     replace hBw := zqd hBw hB7
     replace h2 := zqb h2 hB7
     replace k14 := zqb k14 hB7
     replace hbv1 := Nat.le_trans hbv1 hB7.size
     clear hB7
     obtain ⟨i3, hi3, hz0, hz1, hz2⟩ := info_parts info_nfaR3
     obtain ⟨sx, hsx⟩ : ∃ n : Nat, x.F.s = (n : Int) := ⟨x.F.s.toNat, by have := kMx.out.fit.1; omega⟩
     have hsx2 : sx ≤ 2100 := by have := kMx.out.few; omega
     have c0 : w7.cell? ⟨g14, 0, none⟩ = some (.int .i64 (sx : Int)) := by rw [← hsx]; exact k14.cellv (i := 0) rfl
     have Hsx := Lib.hid hsx
     clear hsx
     have hadd : (st : Int) + (sx : Int) = ((st + sx : Nat) : Int) := by omega
     have Hadd := Lib.hid hadd
     clear hadd
     have hmsn : n6 = ms.length := hms.out.1
     have Hmsn := Lib.hid hmsn
     clear hmsn
     go_upto_region 13 with (first | (refine wl_load_mv rfl _ rfl g14 rfl x k14 ?_) | (refine wl_bs_mv rfl _ rfl x rfl ?_) | (at_builtin; refine park ?_))
     refine Parked.mk ?_
     have hBq : Below w7.heap.size w7 (w7.alloc (.cells x.C 26)) := zqc (Below.refl _ _) _
     have hUq := hU.then_ hBq
     have hMOq := hMO.then_ hBq
     have hBwq := zqd hBw hBq
     have hone := zxk (enc := MV.C) (size := 3) (y := x) (w := w7.alloc (.cells x.C 26)) (g := w7.heap.size) (t := 26) (Blk.new _ _ _)
     refine zxh _ rfl _ _ 50 rfl bv 26 i3 _ 3 56 Tryz.underlying50 hi3 hz0 hz1 hz2 rfl (by decide) MV.C_size MV.C_one (.slice A6 _ c6) _ rfl hUq.m _ _ 1 1 [x] rfl rfl hone (by rw [← Hmsn.out]; unfold maxLen; omega) (by rw [← Hmsn.out]; omega) (Nat.le_trans hbv1 hBq.size) ?_
     intro v9 w9 ho9 hg9 hb9
     have hU9 := hUq.mpush hMOq ho9 hg9
     have hBw9 := hBwq.grown hg9 hBwq.size (fun j e => by have := (hUq.m.lt j e).1; omega)
     have h29 := zyc (zqb h2 hBq) hUq.m hg9 hg2l
     obtain ⟨A9, c9, hv9, _, _⟩ := ho9.shape
     have hml : (ms ++ [x]).length = n6 + 1 := by rw [List.length_append, ← Hmsn.out]; rfl
     rw [hml] at hv9
     subst hv9
     have hms9 : Hid (n6 + 1 = (ms ++ [x]).length ∧ st + sx = 1 + sizesM (ms ++ [x]) ∧ ∀ y ∈ ms ++ [x], MGood y) := Lib.hid ⟨hml.symm, by rw [sizesM_snoc, hms.out.2.1, Hsx.out]; omega, fun y hy => by
      rcases List.mem_append.1 hy with hy | hy
      ·exact hms.out.2.2 y hy
      ·rw [List.mem_singleton] at hy
       subst hy
       exact kMx.out⟩
     have hbv9 : bv ≤ w9.heap.size := Nat.le_trans hbv1 (Nat.le_trans hBq.size hg9.size)
     clear ho9 hg9 hb9 hone hBwq hMOq hUq hBq hU hMO hi3 hz0 hz1 hz2 k14 hml c0 h2 hbv1 hBw
     simp only [Act.put, List.setIfInBounds_toArray, List.set_cons_zero, List.set_cons_succ]
     go_wp2_with (fail)
     exact ⟨⟨k + 1, ms ++ [x], A9, n6 + 1, c9, st + sx, by omega, rfl, rfl, congrArg (Value.int .i64) Hadd.out, by omega, hms9, hU9, hBw9, h29, hbv9⟩, by simp only [intOf]; omega⟩
    ·have heI : ¬ (e : Int) = 0 := by omega
     have heI2 : ((e : Int) != 0) = true := by rw [bne_iff_ne]; omega
     replace he := Lib.hid he
     clear hx hgood k11
     have Hap := HAp
     go_wp2_with (go_at_call 7; refine kN.mono ?_; clear kN; rintro en w4 ⟨rfl, hB4⟩)
     exact ⟨⟨k + 1, ms, A6, n6, c6, st, by omega, rfl, rfl, rfl, by omega, hms, hU.then_ hB4, zqd hBw hB4, zqb h2 hB4, Nat.le_trans hbv1 hB4.size⟩, by simp only [intOf]; omega⟩
   ·have hkI : ¬ (k : Int) < K := by omega
    by_cases hbig : 150 < st
    ·have hbI : (st : Int) > 150 := by omega
     go_wp2_with (first
      | (refine wl_nfa0 rfl rfl ?_)
      | (refine zzw rfl _ _ rfl g2 _ _ _ _ _ _ _ rfl rfl _ _ _ _ _ _ _ h2 ?_; intro w5 h5 hg5))
     refine ret_cell2 rfl _ rfl h5 Tryz.underlying26 rfl (info_nfa3.trans rfl) rfl ?_
     exact ⟨⟨zeroM, false, rfl, fun h => by cases h⟩, zqh hBw hg5 hg2w⟩
    ·have hbI : ¬ (st : Int) > 150 := by omega
     have hlen : ms.length ≤ 12 := by have := hms.out.1; omega
     have kU := union_mo A6 c6 ms hlen hms.out.2.2 wr (by rw [← hms.out.1]; exact hU.m) hU.o
     rw [← hms.out.1] at kU
     go_upto_region 17 with (first
      | (go_at_call 17; refine kU.mono ?_; clear kU; rintro en w4 ⟨hB4, u, hxF, rfl, hMO4⟩)
      | (refine wl_store_mv rfl _ _ rfl _ u rfl rfl _ rfl (Blk.new _ _ _) ?_; intro w5 k13 hg5))
     have hBb := zqc (Below.refl w4.heap.size w4) (.cells #[.int .i64 0, .slice none 0 0, .slice none 0 0] 26)
     have hBn := zqd hB4 (zqh hBb hg5 (Nat.le_refl _))
     have hMO := ((hMO4.then_ hBb).box (Blk.new _ _ _) hg5).mono (B' := w.heap.size) (by have := hBw.size; omega)
     replace hBw := zqd hBw hBn
     replace h2 := zqb h2 hBn
     obtain ⟨g13, hg13⟩ : ∃ y, y = w4.heap.size := ⟨_, rfl⟩
     rw [← hg13] at k13 ⊢
     have hg13b : bv ≤ g13 := by rw [hg13]; exact Nat.le_trans hbv1 hB4.size
     clear hBb hBn hMO4 hg5 hB4 hg13 hU
     try simp only [Act.put]
     have kN := fun W => num10_any 0 W
     have h213 : some g13 ≠ some g2 := fun e => by injection e with e; omega
     refine wp_region_stepsW (rw := some g2) (i0 := 4) 6 [eqS (.agg u.C), eqS (.int .i64 0), eqS (.int .i64 0), eqS (.bool true), ⟨fun _ W => Blk W g2 26 u.C, fun _ _ _ h hb => zqb h hb⟩, eqS (.bool true)] [62, 63, 64, 65, 3] zqp ?_ (by kernel_rfl) (by kernel_rfl) ?_ (by omega) ?_
     ·intro j hj v wa wb hp hg
      rcases j with _ | _ | _ | _ | _ | _ | j <;> first | exact hp | exact absurd rfl hj
     ·skip
      refine StepsR.cons (fun a' w' hG hW hP dep => GStepR.of (gs_load (zqa rfl) _ _ rfl g13 (hG.other 13 rfl) _ _ (k13.grown hW h213) _ Tryz.underlying26 rfl (info_nfa3.trans rfl) rfl)) ?_
      refine StepsR.cons (fun a' w' hG hW hP dep => GStepR.of (zqi (zqa rfl) _ rfl (hG.other 14 rfl))) ?_
      refine StepsR.cons (fun a' w' hG hW hP dep => GStepR.of (zze (zqa rfl) _ _ _ rfl zyo _ (map1 (dep 1 rfl 63 rfl)) ((kN w').mono fun e w2 ⟨hq9, hb9⟩ => ⟨_, hq9, hb9, rfl⟩))) ?_
      refine StepsR.cons (fun a' w' hG hW hP dep => GStepR.of (zzo (zqa rfl) _ _ _ _ rfl _ _ _ (dep 2 rfl 64 rfl) rfl (congrArg Value.bool rfl))) ?_
      refine StepsR.cons (fun a' w' hG hW hP dep => gsr_store_row (zqa rfl) _ _ _ rfl (hG.other 2 rfl) (dep 0 rfl 62 rfl) (zqb h2 (hP rfl)) (info_nfa3.trans rfl) rfl (by simp [MV.C, nfaC, Value.oneCell']) (fun w9 h9 => h9)) ?_
      refine StepsR.cons (fun a' w' hG hW hP dep => GStepR.of (zxl (zqa rfl) _ rfl (dep 3 rfl 65 rfl))) ?_
      exact StepsR.nil
     intro uu w7 hg7 ans hturn
     obtain ⟨_, h7⟩ := hturn
     have u3 : uu 3 = .bool true := ans 5 3 (by decide) rfl
     clear ans
     simp only [zqr, List.foldl_cons, List.foldl_nil, Act.put, List.setIfInBounds_toArray, List.set_cons_zero, List.set_cons_succ, u3]
     clear u3
     simp only [List.drop]
     refine wpList_nil ?_
     go_wp2_with (fail)
     refine ret_cell2 rfl _ rfl h7 Tryz.underlying26 rfl (info_nfa3.trans rfl) rfl ?_
     have hfits := union_fits ⟨#[]⟩ ms hlen hms.out.2.2
     have hfew := uFold_few hms.out.2.2
     have hn8 := hms.out.1
     have hst1 := hms.out.2.1
     refine ⟨⟨u, true, rfl, fun _ => ⟨⟨1 + sizesM ms, by rw [hxF]; exact hfits.1, by omega, by omega⟩, by rw [hxF]; omega, by rw [hxF]; exact hfits.2.2.2.1, hMO.box h2 hg7⟩⟩, zqh hBw hg7 hg2w⟩
end Go.Proofs.YtkedgombccdamaaGreatDoor
namespace Go.Proofs.YtkedgombccdamaaGreatDoor
set_option linter.unusedVariables false
set_option linter.unusedSimpArgs false
theorem and_or_self (a b : Nat) : a &&& (a ||| b) = a := by
 apply Nat.eq_of_testBit_eq
 intro i
 rw [Nat.testBit_and, Nat.testBit_or]
 cases a.testBit i <;> simp
theorem moN_fe (E : List Edg) (N : Nat) (R : List Nat) (x met : Nat) (b : Bool) : (moN E N R x met b).met &&& (moN E N R x met b).end_ = (moN E N R x met b).met := and_or_self _ _
theorem step_met (E : List Edg) (N : Nat) (R : List Nat) (q : Mo) (b : Nat) : q.met &&& (stepM E N R q b).met = q.met := and_or_self _ _
theorem many_pos (l : List BSet) : 1 ≤ many l := by
 have h1 := cls_lt l (b := 0) (by omega)
 have h2 := cls_ge l 0
 omega
theorem nx_at {α : Type} {step : α → Nat → α} [DecidableEq α] {bs : List Nat} {Q : List α} {L : List α} {s : Nat} (h : s < L.length) : ((L.map (entsQ step bs Q)).map fun l => l.map fun (n : Nat) => (n : Int)).getD s [] = (entsQ step bs Q L[s]).map fun (n : Nat) => (n : Int) := by
 simp [List.getD_eq_getElem?_getD, h]
theorem nxtQ_at {α : Type} {step : α → Nat → α} [DecidableEq α] {bs : List Nat} {Q : List α} {L : List α} {s c : Nat} {x : α} {b : Nat} (h : L[s]? = some x) (hc : bs[c]? = some b) : (((L.map (entsQ step bs Q)).map fun l => l.map fun (n : Nat) => (n : Int)).getD s []).getD c 0 = ((Q.idxOf (step x b) : Nat) : Int) := by
 obtain ⟨h1, h2⟩ := List.getElem?_eq_some_iff.1 h
 rw [nx_at h1, h2, List.getD_eq_getElem?_getD, List.getElem?_map]
 unfold entsQ
 rw [List.getElem?_map, hc]
 rfl
section
variable {E : List Edg} {N : Nat} {R : List Nat} {i : Nat}
theorem tabQ_len (hD : Done (stepM E N R) (repE E) (mo0 E N R) i) : (tabQ E N R (clsE E) (repE E) i).nx.length = i := by
 unfold tabQ
 simp only [List.length_map]
 exact rows_len (Nat.le_of_eq (show (bfsN (stepM E N R) (repE E) (mo0 E N R) i).length = i from hD).symm)
theorem done_pos (hD : Done (stepM E N R) (repE E) (mo0 E N R) i) : 1 ≤ i := by
 have h1 := bfs_len (step := stepM E N R) (bs := repE E) (mo0 E N R) (Nat.zero_le i)
 have h2 : (bfsN (stepM E N R) (repE E) (mo0 E N R) 0).length = 1 := rfl
 have h3 : (bfsN (stepM E N R) (repE E) (mo0 E N R) i).length = i := hD
 omega
theorem repE_many (E : List Edg) : (repE E).length = many (setsL E) := by
 unfold repE
 rw [repL_length]
theorem fits_Q (hi : i ≤ 4096) (hD : Done (stepM E N R) (repE E) (mo0 E N R) i) : s_Fits (tabQ E N R (clsE E) (repE E) i) := by
 have hpos := done_pos hD
 have hlen : (bfsN (stepM E N R) (repE E) (mo0 E N R) i).length = i := hD
 have hnl := tabQ_len hD
 have hnx : (tabQ E N R (clsE E) (repE E) i).nx = ((bfsN (stepM E N R) (repE E) (mo0 E N R) i).map (entsQ (stepM E N R) (repE E) (bfsN (stepM E N R) (repE E) (mo0 E N R) i))).map fun l => l.map fun (n : Nat) => (n : Int) := by
  unfold tabQ
  rw [rows_done hD]
 have hrow : ∀ s, s < i → ((tabQ E N R (clsE E) (repE E) i).nx.getD s []).length = many (setsL E) := fun s hs => by
  rw [hnx, nx_at (by rw [hlen]; exact hs), List.length_map]
  unfold entsQ
  rw [List.length_map, repE_many]
 have hmany : (tabQ E N R (clsE E) (repE E) i).many = many (setsL E) := hrow 0 (by omega)
 have hfo : ∀ s (hs : s < i), (tabQ E N R (clsE E) (repE E) i).fo.getD s 0 = ((bfsN (stepM E N R) (repE E) (mo0 E N R) i)[s]'(by rw [hlen]; exact hs)).met := fun s hs => by
  show ((bfsN (stepM E N R) (repE E) (mo0 E N R) i).map Mo.met).getD s 0 = _
  simp [List.getD_eq_getElem?_getD, hlen, hs]
 have hen : ∀ s (hs : s < i), (tabQ E N R (clsE E) (repE E) i).en.getD s 0 = ((bfsN (stepM E N R) (repE E) (mo0 E N R) i)[s]'(by rw [hlen]; exact hs)).end_ := fun s hs => by
  show ((bfsN (stepM E N R) (repE E) (mo0 E N R) i).map Mo.end_).getD s 0 = _
  simp [List.getD_eq_getElem?_getD, hlen, hs]
 refine ⟨by omega, by omega, ?_, ?_, ?_, ?_, fun b hb => ?_, fun s hs => ?_, fun s hs => ?_, fun s c hs hc => ?_⟩
 ·rw [hnl]
  show ((bfsN (stepM E N R) (repE E) (mo0 E N R) i).map Mo.met).length = i
  rw [List.length_map, hlen]
 ·rw [hnl]
  show ((bfsN (stepM E N R) (repE E) (mo0 E N R) i).map Mo.end_).length = i
  rw [List.length_map, hlen]
 ·rw [hmany]; exact many_pos _
 ·rw [hmany]; exact many_le _
 ·rw [hmany]; exact ⟨cls_ge _ _, cls_lt _ hb⟩
 ·rw [hmany]; exact hrow s (by omega)
 ·rw [hnl] at hs
  rw [hfo s hs, hen s hs]
  have := bfs_all (p := fun q : Mo => q.met &&& q.end_ = q.met) (step := stepM E N R) (bs := repE E) (a0 := mo0 E N R) (moN_fe _ _ _ _ _ _) (fun q b _ _ => moN_fe _ _ _ _ _ _) i
  exact this _ (List.getElem_mem _)
 ·rw [hnl] at hs
  rw [hmany] at hc
  have hsl2 : s < (bfsN (stepM E N R) (repE E) (mo0 E N R) i).length := Nat.lt_of_lt_of_eq hs hlen.symm
  have hcl : c < (repE E).length := Nat.lt_of_lt_of_eq hc (repE_many E).symm
  obtain ⟨x, hx⟩ : ∃ x, (bfsN (stepM E N R) (repE E) (mo0 E N R) i)[s]? = some x := ⟨_, List.getElem?_eq_getElem hsl2⟩
  obtain ⟨b, hb⟩ : ∃ b, (repE E)[c]? = some b := ⟨_, List.getElem?_eq_getElem hcl⟩
  have hnx2 : (tabQ E N R (clsE E) (repE E) i).nxt s ((c : Nat) : Int) = (((bfsN (stepM E N R) (repE E) (mo0 E N R) i).idxOf (stepM E N R x b) : Nat) : Int) := by
   unfold Tb.nxt
   rw [hnx, Int.toNat_natCast]
   exact nxtQ_at hx hb
  have hin : stepM E N R x b ∈ bfsN (stepM E N R) (repE E) (mo0 E N R) i :=
   bfs_closed (mo0 E N R) i _ (by
    rw [List.take_of_length_le (Nat.le_of_eq hlen)]
    exact List.mem_of_getElem? hx) _ (List.mem_of_getElem? hb)
  have hlt := List.idxOf_lt_length_of_mem hin
  rw [hlen] at hlt
  have hxs : (bfsN (stepM E N R) (repE E) (mo0 E N R) i)[s]'hsl2 = x := (List.getElem?_eq_some_iff.1 hx).2
  rw [hnx2, hnl]
  refine ⟨by omega, by omega, ?_⟩
  rw [Int.toNat_natCast, hfo s hs, hfo _ hlt, hxs, List.getElem_idxOf]
  exact step_met _ _ _ _ _
theorem fitsB_Q (hi : i ≤ 4096) (hD : Done (stepM E N R) (repE E) (mo0 E N R) i) : fitsB (tabQ E N R (clsE E) (repE E) i) = true := by
 unfold fitsB
 exact @decide_eq_true _ (Classical.propDecidable _) (fits_Q hi hD)
end
section
variable {α : Type} [DecidableEq α] {step : α → Nat → α} {bs : List Nat}
end
end Go.Proofs.YtkedgombccdamaaGreatDoor
namespace Go.Proofs.YtkedgombccdamaaGreatDoor
open Go.RowKit Go.Shelf Go.Maps
set_option linter.unusedVariables false
set_option linter.unusedSimpArgs false
def DoneF (F : NF) (i : Nat) : Prop := Done (stepM F.E F.s.toNat F.R) (repE F.E) (mo0 F.E F.s.toNat F.R) i
noncomputable def TQ (F : NF) (i : Nat) : Tb := tabQ F.E F.s.toNat F.R (clsE F.E) (repE F.E) i
def KAlt (F : NF) (most : Int) (x : TV) (k : Int) : Prop :=
 (k = 0 ∧ ∃ i : Nat, DoneF F i ∧ (i : Int) ≤ min most 4096 ∧ x.T = TQ F i) ∨ (k = 100 ∧ (∀ i : Nat, DoneF F i → min most 4096 < (i : Int)) ∧ x = zeroT)
def KRes (F : NF) (most : Int) (e : Ending) (w' : World) : Prop := ∃ (x : TV) (k : Int), e = .returned (.tuple #[.agg x.C', .int .i64 k]) ∧ TabIn w' w'.heap.size x ∧ KAlt F most x k
theorem kb_any {x : MV} {w W : World} {base : Nat} (hx : MachOut w base x) (hB : Below w.heap.size w W) (most : Int) :
  Calls Tryz.prog 6 #[.agg x.C, .int .i64 most] W fun e w' => KRes x.F most e w' ∧ Below W.heap.size W w' := by
 obtain ⟨N, hf, hN1, hN2⟩ := hx.fit
 have hs := hf.1
 have hr : rightB x.F.s x.F.E x.F.R.length = true := fits_right7 hf
 have hm := hx.mo.then_ hB
 refine (dfa_any x.F.s x.A x.F.E.length x.c x.B x.F.R.length x.d x.F.E x.F.R most rfl hx.few rfl hx.lt (by omega) W (hm.1.slice_all zxt) (hm.2.slice_all zya)).mono ?_
 rintro e w' ⟨hD, hb⟩
 refine ⟨?_, hb⟩
 obtain ⟨y, k, he, hT, _, hA⟩ := dres_tab hx.lt hD
 refine ⟨y, k, he, hT, ?_⟩
 rcases hA with ⟨h1, _⟩ | ⟨_, h2, i, h3, h4, h5⟩ | ⟨_, h2, h3, h4⟩
 ·rw [hr] at h1; cases h1
 ·exact .inl ⟨h2, i, h3, h4, h5⟩
 ·exact .inr ⟨h2, h3, h4⟩
theorem nx_len {x : TV} {F : NF} {i : Nat} (hi : DoneF F i) (hx : x.T = TQ F i) : x.rs.length = i := by
 have h1 : (TQ F i).nx.length = i := tabQ_len hi
 rw [← hx] at h1
 simpa [TV.T] using h1
theorem fo_len {x : TV} {F : NF} {i : Nat} (hi : DoneF F i) (h4 : i ≤ 4096) (hx : x.T = TQ F i) : x.fo.length = x.rs.length ∧ x.en.length = x.rs.length := by
 have hF : s_Fits (TQ F i) := fits_Q h4 hi
 have h1 : (TQ F i).fo.length = (TQ F i).nx.length := hF.nf
 have h2 : (TQ F i).en.length = (TQ F i).nx.length := hF.ne
 rw [← hx] at h1 h2
 exact ⟨by simpa [TV.T] using h1, by simpa [TV.T] using h2⟩
section
variable {ops : Array Oper} {rest : List Oper} {o : Oper} {a : Act} {w : World} {Q : Exit → Act → World → Prop}
end
theorem byte_one (E : List Edg) (N x c : Nat) (hN : 1 ≤ N) : byteN E N x c ||| 1 = byteN E N x c := by
 apply bits_ext
 intro i
 have h1 : Nat.testBit 1 i = decide (0 = i) := by rw [show (1 : Nat) = 2 ^ 0 from rfl, Nat.testBit_two_pow]
 rw [Nat.testBit_or, h1]
 by_cases e : i = 0
 ·subst e
  have h2 : (byteN E N x c).testBit 0 = true := (byte_bit E N x c 0).2 ⟨by omega, .inl rfl⟩
  simp [h2]
 ·have h2 : decide (0 = i) = false := decide_eq_false (by omega)
  rw [h2, Bool.or_false]
structure MW (E : List Edg) (N : Nat) (R : List Nat) (q : Mo) (k : Wk) : Prop where
 at_ : q.at_ = k.at_
 met : q.met = k.met
 fin : q.end_ = endW E N R k
theorem mw_beg (E : List Edg) (N : Nat) (R : List Nat) : MW E N R (mo0 E N R) (begW E N R) := by
 constructor <;> simp [mo0, moN, begW, endW]
theorem mw_step {E : List Edg} {N : Nat} {R : List Nat} {q : Mo} {k : Wk} (hN : 1 ≤ N) (h : MW E N R q k) (c : Nat) : MW E N R (stepM E N R q c) (byteW E N R k c) := by
 obtain ⟨h1, h2, _⟩ := h
 have hb := byte_one E N k.at_ c hN
 unfold stepM moN byteW
 rw [h1, h2, hb]
 exact ⟨rfl, rfl, rfl⟩
theorem stepS_keep (l : List BSet) (e : Edg) {s : BSet} (h : s ∈ l) : s ∈ stepS l e := by
 unfold stepS
 split
 ·exact List.mem_append_left _ h
 ·exact h
theorem stepS_has (l : List BSet) (e : Edg) (h : e.kd = 2) : e.st ∈ stepS l e := by
 unfold stepS
 split
 ·simp
 ·rename_i h2
  by_cases e2 : e.st ∈ l
  ·exact e2
  ·exact absurd ⟨h, e2⟩ h2
theorem sets_fold (es : List Edg) : ∀ l : List BSet, (∀ s ∈ l, s ∈ es.foldl stepS l) ∧ ∀ e ∈ es, e.kd = 2 → e.st ∈ es.foldl stepS l := by
 induction es with
 | nil => exact fun l => ⟨fun s h => h, fun e h => absurd h (by simp)⟩
 | cons x es ih =>
   intro l
   have := ih (stepS l x)
   rw [List.foldl_cons]
   refine ⟨fun s h => this.1 s (stepS_keep l x h), fun e he hk => ?_⟩
   rcases List.mem_cons.1 he with rfl | h2
   ·exact this.1 _ (stepS_has l e hk)
   ·exact this.2 e h2 hk
theorem mem_sets {es : List Edg} {e : Edg} (h : e ∈ es) (hk : e.kd = 2) : e.st ∈ setsL es := (sets_fold es []).2 e h hk
theorem byte_cls {E : List Edg} (N x : Nat) {a b : Nat} (h : cls (setsL E) a = cls (setsL E) b) : byteN E N x a = byteN E N x b := by
 have hs : sig (setsL E) a = sig (setsL E) b := by
  unfold cls at h
  rw [Int.natCast_inj, num_iff] at h
  exact h
 have hb : ∀ d ∈ E, d.kd = 2 → d.st.getLsbD a = d.st.getLsbD b := fun d hd hk => by
  unfold sig at hs
  exact (List.map_inj_left.1 hs) _ (mem_sets hd hk)
 apply bits_ext
 intro i
 rw [byte_bit, byte_bit]
 constructor
 ·rintro ⟨h1, h2 | ⟨d, h2, h3, h4, h5, h6⟩⟩
  ·exact ⟨h1, .inl h2⟩
  ·exact ⟨h1, .inr ⟨d, h2, h3, h4, (hb d h2 h3).symm.trans h5, h6⟩⟩
 ·rintro ⟨h1, h2 | ⟨d, h2, h3, h4, h5, h6⟩⟩
  ·exact ⟨h1, .inl h2⟩
  ·exact ⟨h1, .inr ⟨d, h2, h3, h4, (hb d h2 h3).trans h5, h6⟩⟩
section
variable {F : NF} {i : Nat}
noncomputable def moAt (F : NF) (i s : Nat) : Option Mo := (bfsN (stepM F.E F.s.toNat F.R) (repE F.E) (mo0 F.E F.s.toNat F.R) i)[s]?
theorem moAt_zero (hi : DoneF F i) : moAt F i 0 = some (mo0 F.E F.s.toNat F.R) := by
 obtain ⟨r, hr⟩ := bfs_prefix (step := stepM F.E F.s.toNat F.R) (bs := repE F.E) (mo0 F.E F.s.toNat F.R) (Nat.zero_le i)
 unfold moAt
 rw [hr]
 rfl
theorem told_at (hi : DoneF F i) {s : Nat} {q : Mo} (h : moAt F i s = some q) : s < i ∧ (TQ F i).fo[s]? = some q.met ∧ (TQ F i).en[s]? = some q.end_ := by
 have hlen : (bfsN (stepM F.E F.s.toNat F.R) (repE F.E) (mo0 F.E F.s.toNat F.R) i).length = i := hi
 unfold moAt at h
 have hs := (List.getElem?_eq_some_iff.1 h).1
 refine ⟨by omega, ?_, ?_⟩
 ·show ((bfsN (stepM F.E F.s.toNat F.R) (repE F.E) (mo0 F.E F.s.toNat F.R) i).map Mo.met)[s]? = _
  rw [List.getElem?_map, h]
  rfl
 ·show ((bfsN (stepM F.E F.s.toNat F.R) (repE F.E) (mo0 F.E F.s.toNat F.R) i).map Mo.end_)[s]? = _
  rw [List.getElem?_map, h]
  rfl
theorem goes_at (hi : DoneF F i) {s : Nat} {q : Mo} (h : moAt F i s = some q) {c : Nat} (hc : c < 256) : ∃ t : Nat, (TQ F i).nxt s ((TQ F i).cls c) = (t : Int) ∧ t < i ∧ moAt F i t = some (stepM F.E F.s.toNat F.R q c) := by
 have hlen : (bfsN (stepM F.E F.s.toNat F.R) (repE F.E) (mo0 F.E F.s.toNat F.R) i).length = i := hi
 unfold moAt at h
 have hcl := cls_lt (setsL F.E) hc
 have hcg := cls_ge (setsL F.E) c
 obtain ⟨m, hm⟩ : ∃ m : Nat, cls (setsL F.E) c = (m : Int) := ⟨(cls (setsL F.E) c).toNat, by omega⟩
 have hml : m < many (setsL F.E) := by omega
 have hcl2 : m < (repE F.E).length := Nat.lt_of_lt_of_eq hml (repE_many F.E).symm
 obtain ⟨b, hb⟩ : ∃ b, (repE F.E)[m]? = some b := ⟨_, List.getElem?_eq_getElem hcl2⟩
 have hbc : cls (setsL F.E) b = cls (setsL F.E) c := by
  unfold repE repL at hb
  rw [List.getElem?_map, List.getElem?_range hml] at hb
  have hb2 : repAt (cls (setsL F.E)) 0 m = b := by simpa using hb
  rw [← hb2, hm]
  exact (repAt_of (cls (setsL F.E)) 0 m c (Nat.zero_le _) hc hm).1
 have hst : stepM F.E F.s.toNat F.R q b = stepM F.E F.s.toNat F.R q c := by
  unfold stepM
  rw [byte_cls F.s.toNat q.at_ hbc]
 have hin : stepM F.E F.s.toNat F.R q b ∈ bfsN (stepM F.E F.s.toNat F.R) (repE F.E) (mo0 F.E F.s.toNat F.R) i :=
  bfs_closed (mo0 F.E F.s.toNat F.R) i _ (by
   rw [List.take_of_length_le (Nat.le_of_eq hlen)]
   exact List.mem_of_getElem? h) _ (List.mem_of_getElem? hb)
 have hlt := List.idxOf_lt_length_of_mem hin
 have hcls : (TQ F i).cls c = (m : Int) := hm
 refine ⟨(bfsN (stepM F.E F.s.toNat F.R) (repE F.E) (mo0 F.E F.s.toNat F.R) i).idxOf (stepM F.E F.s.toNat F.R q b), ?_, ?_, ?_⟩
 ·rw [hcls]
  unfold Tb.nxt
  rw [Int.toNat_natCast]
  unfold TQ tabQ
  simp only
  rw [rows_done hi]
  exact nxtQ_at h hb
 ·omega
 ·unfold moAt
  rw [List.getElem?_eq_getElem hlt, List.getElem_idxOf, hst]
theorem au_snoc (A : Au) (c : Nat) : ∀ (l : List Nat) (s : Nat), A.run s (l ++ [c]) = A.go (A.run s l) c
 | [], s => rfl
 | b :: l, s => by
   rw [List.cons_append]
   exact au_snoc A c l (A.go s b)
theorem runs_at (hN : 1 ≤ F.s.toNat) (hi : DoneF F i) (l : List Nat) (hl : ∀ b ∈ l, b < 256) : ∃ q, moAt F i ((TQ F i).au.run 0 l) = some q ∧ MW F.E F.s.toNat F.R q (goesW F.E F.s.toNat F.R l (begW F.E F.s.toNat F.R)) := by
 obtain ⟨k, hk⟩ : ∃ k, k = l.reverse := ⟨_, rfl⟩
 have e : l = k.reverse := by rw [hk, List.reverse_reverse]
 subst e
 clear hk
 induction k with
 | nil => exact ⟨_, moAt_zero hi, mw_beg _ _ _⟩
 | cons c k ih =>
   rw [List.reverse_cons] at hl ⊢
   obtain ⟨q, h1, h2⟩ := ih fun b hb => hl b (List.mem_append_left _ hb)
   have hc : c < 256 := hl c (by simp)
   obtain ⟨t, h3, h4, h5⟩ := goes_at hi h1 hc
   rw [au_snoc, goesW_snoc]
   refine ⟨_, ?_, mw_step hN h2 c⟩
   have e : (TQ F i).au.go ((TQ F i).au.run 0 k.reverse) c = t := by
    show ((TQ F i).nxt ((TQ F i).au.run 0 k.reverse) ((TQ F i).cls c)).toNat = t
    rw [h3]
    exact Int.toNat_natCast t
   rw [e]
   exact h5
end
end Go.Proofs.YtkedgombccdamaaGreatDoor
