/- least.marked: things get new marks, by their old ones and another number. No condition beyond those named in each lemma. -/
import Derived.Test.YtgahdookojbbiaaLUsed
import Derived.Test.YtgahdookojbbiaaMap
namespace Go.Proofs.Ytgahdookojbbiaa
open Go.RowKit Go.Maps Go.WideMaps
set_option linter.unusedVariables false
set_option linter.unusedSimpArgs false
attribute [local go_sem] Oper.semAt_some

/-- two ints -/
def pairZ (y : Int × Int) : Array Value := intsC .i64 [y.1, y.2]
theorem pairZ_size (y : Int × Int) : (pairZ y).size = 2 := rfl
theorem pairZ_inj {x y : Int × Int} (h : pairZ x = pairZ y) : x = y := by
  have := intsC_inj h
  obtain ⟨a, b⟩ := x
  obtain ⟨c, d⟩ := y
  simp only [List.cons.injEq] at this
  obtain ⟨rfl, rfl, _⟩ := this
  rfl
theorem pairZ_one (y : Int × Int) : (pairZ y).all (·.oneCell') = true := by simp [pairZ, intsC, Value.oneCell']
theorem arr_pair : ArrKey Try.prog 116 3 2 := ⟨Try.underlying116, by kernel_rfl, by kernel_rfl, by kernel_rfl⟩
theorem info_pair : (Try.prog.info? 116).map (·.size) = some 2 := by kernel_rfl
def okZ (y : Int × Int) : Prop := (Lit.int .i64 y.1).wf = true ∧ (Lit.int .i64 y.2).wf = true
def litZ (y : Int × Int) : Lit := .string (keyBytes ([y.1, y.2].map (Lit.int .i64)))
theorem keyZ : KeyEnc Try.prog 116 (Int × Int) okZ (fun y => .agg (pairZ y)) litZ where
  law := Keyed.of_law (deep_law_laid laid_out (m := 2) (by omega) (of_decide_eq_true (by kernel_rfl)) (by kernel_rfl) (by rw [Try.underlying116]))
  key y hy := keyOf_ints arr_pair Try.underlying3 types_pos _ rfl (fun x hx => by
    simp only [List.mem_cons, List.not_mem_nil, or_false] at hx
    rcases hx with rfl | rfl
    · exact hy.1
    · exact hy.2)
  inj x y h := pairZ_inj (by injection h)
theorem wf_of {c : Int} (h0 : 0 ≤ c) (h1 : c < 9223372036854775808) : (Lit.int .i64 c).wf = true := by
  have h2 : IntKind.i64.min = -9223372036854775808 := by decide
  have h3 : IntKind.i64.max = 9223372036854775807 := by decide
  simp only [Lit.wf, Bool.and_eq_true, decide_eq_true_eq]
  exact ⟨by omega, by omega⟩
/-- what the map holds at the j-th thing -/
def mapAt {α : Type} [DecidableEq α] (f : Nat → α) (j : Nat) (x : α) : Option Int := if x ∈ firsts f j then some ((firsts f j).idxOf x : Int) else none
section
variable {α : Type} [DecidableEq α] (f : Nat → α) (j : Nat)
theorem mapAt_zero : mapAt f 0 = fun _ => none := by funext x; simp [mapAt, firsts]
theorem mapAt_old (h : f j ∈ firsts f j) : mapAt f j (f j) = some (num f j : Int) := by rw [num_old f j h]; simp [mapAt, h]
theorem mapAt_new (h : ¬ f j ∈ firsts f j) : mapAt f j (f j) = none := by simp [mapAt, h]
theorem mapAt_same (h : f j ∈ firsts f j) : mapAt f (j + 1) = mapAt f j := by
  funext x
  unfold mapAt
  rw [firsts_succ, if_pos h]
theorem mapAt_put (h : ¬ f j ∈ firsts f j) : putM (mapAt f j) (f j) ((firsts f j).length : Int) = mapAt f (j + 1) := by
  funext x
  unfold putM mapAt
  rw [firsts_succ, if_neg h]
  by_cases e : x = f j
  · subst e
    simp [idx_not h]
  · rw [if_neg e]
    by_cases hx : x ∈ firsts f j
    · simp [hx, idx_mem hx]
    · simp [hx, e]
end
section
variable {P : Program} {k e : TypeId} {κ : Type} {ok : κ → Prop} {kv : κ → Value} {lit : κ → Lit}
variable {ops : Array Oper} {rest : List Oper} {o : Oper} {a : Act} {Q : Exit → Act → World → Prop} {w : World} {t : TypeId} {b n cnt : Nat} {mf : κ → Option Int}
theorem wl_map_hit (K : KeyEnc P k κ ok kv lit) (ht : P.underlying t = some (.map k e)) (he : P.underlying e = some (.int .i64)) (hz : (zeroValue e).run P w = .ok (.int .i64 0) w)
    (h : IntMap P k e ok lit w b n mf cnt) (hg : o.guard = none) (m x : Operand) (hop : o.op = Op.lookup t m x true) (hm : a.eval m = .map (some b)) (y : κ) (hy : ok y) (hx : a.eval x = kv y) (v : Int) (hv : mf y = some v)
    (hK : wpList P ops Q rest (a.put o.dst (.tuple #[.int .i64 v, .bool true])) w) : wpList P ops Q (o :: rest) a w :=
  wl_map_ok K ht he hz h hg m x hop hm y hy hx (by rw [hv]; exact hK)
theorem wl_map_miss (K : KeyEnc P k κ ok kv lit) (ht : P.underlying t = some (.map k e)) (he : P.underlying e = some (.int .i64)) (hz : (zeroValue e).run P w = .ok (.int .i64 0) w)
    (h : IntMap P k e ok lit w b n mf cnt) (hg : o.guard = none) (m x : Operand) (hop : o.op = Op.lookup t m x true) (hm : a.eval m = .map (some b)) (y : κ) (hy : ok y) (hx : a.eval x = kv y) (hv : mf y = none)
    (hK : wpList P ops Q rest (a.put o.dst (.tuple #[.int .i64 0, .bool false])) w) : wpList P ops Q (o :: rest) a w :=
  wl_map_ok K ht he hz h hg m x hop hm y hy hx (by rw [hv]; exact hK)
theorem wl_map_val (K : KeyEnc P k κ ok kv lit) (ht : P.underlying t = some (.map k e)) (he : P.underlying e = some (.int .i64)) (hz : (zeroValue e).run P w = .ok (.int .i64 0) w)
    (h : IntMap P k e ok lit w b n mf cnt) (hg : o.guard = none) (m x : Operand) (hop : o.op = Op.lookup t m x false) (hm : a.eval m = .map (some b)) (y : κ) (hy : ok y) (hx : a.eval x = kv y) (v : Int) (hv : mf y = some v)
    (hK : wpList P ops Q rest (a.put o.dst (.int .i64 v)) w) : wpList P ops Q (o :: rest) a w :=
  wl_map_at K ht he hz h hg m x hop hm y hy hx (by rw [hv]; exact hK)
end
theorem build_pairZ (y : Int × Int) (w : World) : (Instr.build 116 #[(0, .int .i64 y.1), (1, .int .i64 y.2)]).run Try.prog w = .ok (.agg (pairZ y)) w := by kernel_rfl
theorem alloc_pairZ (w : World) : (Instr.alloc 116 true (.tuple #[])).run Try.prog w = .ok (.pointer (some ⟨w.heap.size, 0, none⟩)) (w.alloc (.cells (pairZ (0, 0)) 116)) := by kernel_rfl
section
variable {ops : Array Oper} {S : Nat → GSpec} {Q : Exit → Act → World → Prop} {i : Nat} {o : Oper} {a : Act} {w : World} {rest : List Oper}
theorem gs_build_pairZ (hw : Region.wanted o (yielded ops a.tmps) = true) (x y : Operand) (ho : o.op = .build 116 #[(0, x), (1, y)]) (u v : Int) (hx : a.eval x = .int .i64 u) (hy : a.eval y = .int .i64 v) (hp : (S i).p (.agg (pairZ (u, v))) w) : GStep Try.prog ops S Q i o a w :=
  gs_run hw (v := .agg (pairZ (u, v)))
    (by
      have e : (#[(0, x), (1, y)] : Array (Nat × Operand)).map (fun (i, x) => (i, a.eval x)) = #[(0, .int .i64 u), (1, .int .i64 v)] := by simp [hx, hy]
      unfold execOp; simp only [ho, e, Sem.run_bind, build_pairZ (u, v), Result.andThen_ok, Sem.run_pure])
    (Below.refl _ _) hp
theorem gs_alloc_pairZ (hw : Region.wanted o (yielded ops a.tmps) = true) (ho : o.op = .alloc 116) (b0 : Nat) (hb : b0 ≤ w.heap.size) (hp : ∀ v w', (newS b0 116 (pairZ (0, 0))).p v w' → (S i).p v w') : GStep Try.prog ops S Q i o a w :=
  gs_run hw (v := .pointer (some ⟨w.heap.size, 0, none⟩)) (w' := w.alloc (.cells (pairZ (0, 0)) 116)) (by unfold execOp; simp only [ho, Sem.run_bind, alloc_pairZ, Result.andThen_ok, Sem.run_pure]) (below_alloc (Below.refl _ _) _) (hp _ _ ⟨_, rfl, hb, Blk.new _ _ _⟩)
theorem wl_load_pairZ (hgd : o.guard = none) (x : Operand) (ho : o.op = .load 116 x)
    (g : Nat) (hx : a.eval x = .pointer (some ⟨g, 0, none⟩)) (y : Int × Int) (hb : Blk w g 116 (pairZ y))
    (h : wpList Try.prog ops Q rest (a.put o.dst (.agg (pairZ y))) w) : wpList Try.prog ops Q (o :: rest) a w :=
  wpList_load_row hgd _ x ho g hx _ _ _ _ hb Try.underlying116 rfl (info_pair.trans (by rw [pairZ_size])) h
theorem wl_store_pairZ (hgd : o.guard = none) (x y : Operand) (ho : o.op = .store 116 x y)
    (g : Nat) (new : Int × Int) (hx : a.eval x = .pointer (some ⟨g, 0, none⟩)) (hy : a.eval y = .agg (pairZ new)) (old : Int × Int) (hb : Blk w g 116 (pairZ old))
    (h : ∀ w', Blk w' g 116 (pairZ new) → w.grownBy w' (some g) → wpList Try.prog ops Q rest (a.put o.dst undef) w') : wpList Try.prog ops Q (o :: rest) a w :=
  wpList_store_row hgd _ x y ho g _ hx hy _ _ hb (info_pair.trans (by rw [pairZ_size])) (by rw [pairZ_size, pairZ_size]) (pairZ_one new) (h _ (hb.setRow_same _) (only_setRow (only_refl _ _) _))
end
abbrev ZMap (w : World) (b n : Nat) (m : Int × Int → Option Int) (cnt : Nat) : Prop := IntMap Try.prog 116 3 okZ litZ w b n m cnt
set_option maxRecDepth 100000 in
set_option maxHeartbeats 4000000 in
theorem marked_any (f : FuncId) (cap : Array Value) (hf : ∀ args w, (callFunc f args).run Try.prog w = .ok (.enter f args) w) (K O : Nat → Int) (ts : List Nat) (n g : Nat) (A1 : Option Addr) (c1 : Nat) (w : World)
    (hS : SliceOf w w.heap.size 1 encZ A1 (zs ts)) (hAg : ∀ b, A1 = some b → b.block ≠ g) (hk : Blk w g 3 (arr eZ n K)) (hnd : ts.Nodup) (hpos : 0 < ts.length) (hlt : ∀ s ∈ ts, s < n) (hn : n ≤ 1048576)
    (hKw : ∀ s ∈ ts, (Lit.int .i64 (K s)).wf = true) (hOw : ∀ s ∈ ts, (Lit.int .i64 (O s)).wf = true)
    (hcall : ∀ s ∈ ts, ∀ X : World, w.grownBy X (some g) → Calls Try.prog f (#[.int .i64 (s : Nat)] ++ cap) X fun e X' => e = .returned (.int .i64 (O s)) ∧ Below X.heap.size X X') :
    Calls Try.prog 67 #[.slice A1 ts.length c1, .slice (some ⟨g, 0, none⟩) n n, .func (.func f) #[] cap] w fun e w' => e = .returned (.int .i64 (cntK (remark K O ts) ts : Nat)) ∧ Blk w' g 3 (arr eZ n (remark K O ts)) ∧ w.grownBy w' (some g) := by
  have htn : ts.length ≤ n := nodup_len hnd hlt
  have hgl := hk.lt
  have hmm := @run_makeMap Try.prog
  obtain ⟨bS, oS, rfl, hbS, hrS⟩ := hS.at_ (by rw [zs_len]; omega)
  have hbg : bS ≠ g := hAg _ rfl
  clear hpos hAg
  go_enter Try.func67, Try.ntmps67
  go_upto_region 2 with (fail)
  clear hmm
  have hM := IntMap.new (P := Try.prog) (e := 3) keyZ w rfl
  rw [show (fun _ : Int × Int => (none : Option Int)) = mapAt (keyF K O ts) 0 from (mapAt_zero _).symm] at hM
  have hgw : w.grownBy (w.alloc (.map #[] 0)) (some g) := only_of_below (below_alloc (Below.refl _ _) _) _
  replace hk := hk.alloc (.map #[] 0)
  rw [← markU_zero (K := K) (O := O) (ts := ts)] at hk
  obtain ⟨w1, hw1⟩ : ∃ y, y = w.alloc (.map #[] 0) := ⟨_, rfl⟩
  rw [← hw1] at hM hgw hk ⊢
  clear hw1
  obtain ⟨gm, hgm⟩ : ∃ g, g = w.heap.size := ⟨_, rfl⟩
  rw [← hgm] at hM ⊢
  have hgmg : gm ≠ g := by omega
  have hgmw : w.heap.size ≤ gm := by omega
  clear hgm
  obtain ⟨F, hF⟩ : ∃ F, keyF K O ts = F := ⟨_, rfl⟩
  rw [hF] at hM
  replace hF := Lib.hid hF
  go_upto_region 3 with (fail)
  go_loopw [16] (fun jv wr => ∃ j : Nat, j ≤ ts.length ∧ jv = .int .i64 j ∧ Blk wr g 3 (arr eZ n (markU K O ts j)) ∧ ZMap wr gm j (mapAt F j) (firsts F j).length ∧ w.grownBy wr (some g)) (fun jv _ => ts.length - (intOf jv).toNat)
  case atStart => exact ⟨0, by omega, rfl, hk, hM, hgw⟩
  case round =>
    clear hk hM hgw
    obtain ⟨j, hj, rfl, hk, hM, hgw⟩ := hrel
    by_cases hjl : j < ts.length
    · have hjI : (j : Int) < ts.length := by omega
      obtain ⟨s, hs⟩ : ∃ s, ts[j] = s := ⟨_, rfl⟩
      have hsm : s ∈ ts := by rw [← hs]; exact List.getElem_mem _
      have hsn := hlt s hsm
      have cS : wr.cell? ⟨bS, oS + j, none⟩ = some (.int .i64 (s : Nat)) := by
        have h9 := hrS j (by rw [zs_len]; exact hjl) 0 _ rfl
        have h5 : (zs ts)[j]'(by rw [zs_len]; exact hjl) = (s : Int) := by simp [zs, hs]
        rw [h5] at h9
        rw [show oS + j * 1 + 0 = oS + j by omega] at h9
        exact (World.cell?_of_block (hgw.block bS hbS (fun e => by injection e with e; exact hbg e))).trans h9
      obtain ⟨z1, hz1⟩ : ∃ z, K s = z := ⟨_, rfl⟩
      obtain ⟨z2, hz2⟩ : ∃ z, O s = z := ⟨_, rfl⟩
      have hFj : F j = (z1, z2) := by rw [← hF.out, keyF_at hjl, hs, hz1, hz2]
      have hok : okZ (z1, z2) := ⟨by rw [← hz1]; exact hKw s hsm, by rw [← hz2]; exact hOw s hsm⟩
      have hmk : markU K O ts j s = z1 := by rw [← hs, markU_at hnd hjl, hs, hz1]
      have hput := markU_put (K := K) (O := O) hnd hjl
      rw [hF.out, hs] at hput
      replace hz1 := Lib.hid hmk
      replace hz2 := Lib.hid hz2
      replace hFj := Lib.hid hFj
      replace hput := Lib.hid hput
      replace hok := Lib.hid hok
      have hsI : (s : Int) < n := by omega
      clear hs hmk
      go_upto_region 5 with (fail)
      clear cS
      refine wp_region_steps 9 [eqS (.slice (some ⟨g, 0, none⟩) n n), eqS (.int .i64 (((s : Nat) : Int))), eqS (.pointer (some ⟨g, 0 + s * 1, none⟩)), eqS (.int .i64 (z1)), eqS (.func (.func f) #[] cap), eqS (.int .i64 (((s : Nat) : Int))), eqS (.int .i64 (z2)), eqS (.agg (pairZ (z1, z2))), newS wr.heap.size 116 (pairZ (0, 0))] [20, 21, 22, 23, 24, 25, 26, 27, 10] rfl (by kernel_rfl) rfl ?_ ?_
      · skip
        refine Steps.cons (fun a' w' hG hB dep => gs_move (want_none rfl) _ rfl (id (hG.other 1 rfl))) ?_
        refine Steps.cons (fun a' w' hG hB dep => gs_move (want_none rfl) _ rfl (id (hG.other 9 rfl))) ?_
        refine Steps.cons (fun a' w' hG hB dep => gs_index (want_none rfl) _ _ _ rfl under_ints 1 size_intE g 0 n n (s) (dep 0 rfl 20 rfl) (dep 1 rfl 21 rfl) hsn rfl) ?_
        refine Steps.cons (fun a' w' hG hB dep => gs_load1 (want_none rfl) _ _ rfl g (0 + s * 1) (dep 2 rfl 22 rfl) (.int .i64 (z1)) (blk_arr_eq (blk_then hk hB) hsn hz1.out) _ Try.underlying3 rfl rfl) ?_
        refine Steps.cons (fun a' w' hG hB dep => gs_move (want_none rfl) _ rfl (id (hG.other 2 rfl))) ?_
        refine Steps.cons (fun a' w' hG hB dep => gs_move (want_none rfl) _ rfl (id (hG.other 9 rfl))) ?_
        refine Steps.cons (fun a' w' hG hB dep => gs_callv (want_none rfl) f _ cap _ _ rfl (dep 4 rfl 24 rfl) hf _ (congrArg (· ++ cap) (map1 (dep 5 rfl 25 rfl))) ((hcall s hsm w' (hgw.trans (only_of_below hB _))).mono fun e w2 ⟨hq1, hb⟩ => ⟨_, hq1, hb, by rw [hz2.out]; rfl⟩)) ?_
        refine Steps.cons (fun a' w' hG hB dep => gs_build_pairZ (want_none rfl) _ _ rfl z1 z2 (dep 3 rfl 23 rfl) (dep 6 rfl 26 rfl) rfl) ?_
        refine Steps.cons (fun a' w' hG hB dep => gs_alloc_pairZ (want_none rfl) rfl wr.heap.size hB.size (fun _ _ h => h)) ?_
        exact Steps.nil
      intro u w4 hw4 ans
      obtain ⟨gp, hu10, hgp, hp⟩ := ans 8 10 (by decide) rfl
      have hu27 : u 27 = .agg (pairZ (z1, z2)) := ans 7 27 (by decide) rfl
      clear ans
      simp only [putAll, List.foldl_cons, List.foldl_nil, Act.put, List.setIfInBounds_toArray, List.set_cons_zero, List.set_cons_succ, hu10, hu27]
      clear hu10 hu27
      simp only [List.drop]
      have hglr := hk.lt
      have hgmr := hM.lt
      have hw0 := hgw.size
      have hggp : g ≠ gp := by omega
      have hgmp : gm ≠ gp := by omega
      replace hk := blk_then hk hw4
      replace hM := hM.then_ hw4
      replace hgw := hgw.trans (only_of_below hw4 _)
      clear hw4
      refine wl_store_pairZ rfl _ _ rfl gp (z1, z2) rfl rfl _ hp ?_
      intro w5 hp5 hG5
      have hm : F j ∈ firsts F j ∨ ¬ F j ∈ firsts F j := Classical.em _
      replace hk := hk.grown hG5 (by simpa using hggp)
      replace hM := hM.grown hG5 hgmp
      replace hgw := grown_on hgw hG5 (.inr fun k e => by injection e with e; omega)
      clear hG5 hp hglr
      have hlen := firsts_length_le F j
      rcases hm with hm | hm
      · have hmo := mapAt_old F j hm
        rw [hFj.out] at hmo
        replace hmo := Lib.hid hmo
        have hme := Lib.hid (mapAt_same F j hm)
        have hle : (firsts F (j + 1)).length = (firsts F j).length := by rw [firsts_succ, if_pos hm]
        replace hle := Lib.hid hle
        clear hm
        obtain ⟨nz, hnz⟩ : ∃ nz, ((num F j : Nat) : Int) = nz := ⟨_, rfl⟩
        rw [hnz] at hmo hput
        clear hnz
        go_wp2_with (first
          | (refine wl_load_pairZ rfl _ rfl _ rfl _ hp5 ?_)
          | (at_lookup; refine wl_map_hit keyZ Try.underlying115 Try.underlying3 (zero_int _) hM rfl _ _ rfl rfl (z1, z2) hok.out rfl _ hmo.out ?_)
          | (at_lookup; refine wl_map_val keyZ Try.underlying115 Try.underlying3 (zero_int _) hM rfl _ _ rfl rfl (z1, z2) hok.out rfl _ hmo.out ?_)
          | (refine wl_store_arr eZ nz rfl _ _ _ rfl g s n _ _ hk rfl rfl hsn info_intS rfl rfl ?_; intro w6 hk6 hG6))
        rw [hput.out] at hk6
        exact ⟨⟨j + 1, by omega, rfl, hk6, by rw [hme.out, hle.out]; exact IntMap.more (hM.grown hG6 hgmg) (by omega), hgw.trans hG6⟩, by simp only [intOf]; omega⟩
      · have hmo := mapAt_new F j hm
        rw [hFj.out] at hmo
        have hme := mapAt_put F j hm
        rw [hFj.out] at hme
        have hmv : mapAt F (j + 1) (z1, z2) = some ((firsts F j).length : Int) := by rw [← hme]; simp [putM]
        have hle : (firsts F (j + 1)).length = (firsts F j).length + 1 := by rw [firsts_succ, if_neg hm]; simp
        have hnw := num_new F j hm
        rw [hnw] at hput
        replace hle := Lib.hid hle
        replace hmo := Lib.hid hmo
        replace hme := Lib.hid hme
        replace hmv := Lib.hid hmv
        have hwf := Lib.hid (wf_of (c := ((firsts F j).length : Int)) (by omega) (by omega))
        have hjm : j < maxLen := by unfold maxLen; omega
        clear hm hnw
        go_wp2_with (first
          | (refine wl_load_pairZ rfl _ rfl _ rfl _ hp5 ?_)
          | (at_lookup; refine wl_map_miss keyZ Try.underlying115 Try.underlying3 (zero_int _) hM rfl _ _ rfl rfl (z1, z2) hok.out rfl hmo.out ?_)
          | (at_len; refine wl_map_len Try.underlying115 hM rfl _ rfl rfl ?_)
          | (at_mapUpdate; refine wl_map_put keyZ Try.underlying115 Try.underlying3 hM hjm rfl _ _ _ rfl rfl (z1, z2) hok.out rfl _ rfl hwf.out ?_; intro w7 hM7 hG7; rw [hme.out, hmo.out] at hM7; replace hp5 := hp5.grown hG7 (by simpa using hgmp.symm); replace hk := hk.grown hG7 (by simpa using hgmg.symm); replace hgw := grown_on hgw hG7 (.inr fun k e => by injection e with e; omega); clear hM hG7)
          | (at_lookup; refine wl_map_val keyZ Try.underlying115 Try.underlying3 (zero_int _) hM7 rfl _ _ rfl rfl (z1, z2) hok.out rfl _ hmv.out ?_)
          | (refine wl_store_arr eZ ((firsts F j).length : Int) rfl _ _ _ rfl g s n _ _ hk rfl rfl hsn info_intS rfl rfl ?_; intro w6 hk6 hG6))
        rw [hput.out] at hk6
        exact ⟨⟨j + 1, by omega, rfl, hk6, by rw [hle.out]; exact hM7.grown hG6 hgmg, hgw.trans hG6⟩, by simp only [intOf]; omega⟩
    · have hjI : ¬ (j : Int) < ts.length := by omega
      have hje : j = ts.length := by omega
      have hcn : (firsts F j).length = cntK (remark K O ts) ts := by rw [cntK_remark, hF.out, hje]
      rw [hcn] at hM
      rw [hje] at hk hM
      replace hcn := Lib.hid hcn
      clear hje
      go_wp2_with (at_len; refine wl_map_len Try.underlying115 hM rfl _ rfl rfl ?_)
      go_ret
      exact ⟨rfl, hk, hgw⟩
theorem enter_marked (args : Array Value) (w : World) : (callFunc 67 args).run Try.prog w = .ok (.enter 67 args) w := by kernel_rfl
end Go.Proofs.Ytgahdookojbbiaa
