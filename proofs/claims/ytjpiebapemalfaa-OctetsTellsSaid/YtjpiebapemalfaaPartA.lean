/- The walks of package part. -/
import Derived.Test.YtjpiebapemalfaaMap
import Derived.Test.YtjpiebapemalfaaOctC
namespace Go.Proofs.Ytjpiebapemalfaa
open Go.RowKit Go.Maps Go.WideMaps
set_option linter.unusedVariables false
set_option linter.unusedSimpArgs false

section
variable {P : Program} {k e : TypeId} {κ : Type} {ok : κ → Prop} {kv : κ → Value} {lit : κ → Lit}
variable {ops : Array Oper} {rest : List Oper} {o : Oper} {a : Act} {Q : Exit → Act → World → Prop} {w : World} {t : TypeId} {b n cnt : Nat} {mf : κ → Option Int}
theorem wl_map_hit (K : KeyEnc P k κ ok kv lit) (ht : P.underlying t = some (.map k e)) (he : P.underlying e = some (.int .i64)) (hz : (zeroValue e).run P w = .ok (.int .i64 0) w)
    (h : IntMap P k e ok lit w b n mf cnt) (hg : o.guard = none) (m x : Operand) (hop : o.op = Op.lookup t m x true) (hm : a.eval m = .map (some b)) (y : κ) (hy : ok y) (hx : a.eval x = kv y) (v : Int) (hv : mf y = some v)
    (hK : wpList P ops Q rest (a.put o.dst (.tuple #[.int .i64 v, .bool true])) w) : wpList P ops Q (o :: rest) a w :=
  wl_map_ok K ht he hz h hg m x hop hm y hy hx (by rw [hv]; exact hK)
theorem wl_map_miss (K : KeyEnc P k κ ok kv lit) (ht : P.underlying t = some (.map k e)) (he : P.underlying e = some (.int .i64)) (hz : (zeroValue e).run P w = .ok (.int .i64 0) w)
    (h : IntMap P k e ok lit w b n mf cnt) (hg : o.guard = none) (m x : Operand) (hop : o.op = Op.lookup t m x true) (hm : a.eval m = .map (some b)) (y : κ) (hy : ok y) (hx : a.eval x = kv y) (hv : mf y = none)
    (hK : wpList P ops Q rest (a.put o.dst (.tuple #[.int .i64 0, .bool false])) w) : wpList P ops Q (o :: rest) a w :=
  wl_map_ok K ht he hz h hg m x hop hm y hy hx (by rw [hv]; exact hK)
end

theorem clsC_put (new old : Nat → Int) (n : Nat) (v : Int) (h : v = new n) : (clsC (upto n new old)).setIfInBounds n (.int .i64 v) = clsC (upto (n + 1) new old) := by
  rw [clsC_set, upto_put new old n v h]
theorem info_cls : (Try.prog.info? 39).map (·.size) = some 256 := by kernel_rfl
theorem info_pair : (Try.prog.info? 57).map (·.size) = some 2 := by kernel_rfl
theorem zero_cls (w : World) : (zeroValue 39).run Try.prog w = .ok (.agg (clsC fun _ => 0)) w := by kernel_rfl

/-- two ints, the second a bit -/
def pairC (y : Int × Bool) : Array Value := intsC .i64 [y.1, if y.2 then 1 else 0]
theorem pairC_size (y : Int × Bool) : (pairC y).size = 2 := rfl
theorem pairC_at0 (y : Int × Bool) : (pairC y)[0]? = some (.int .i64 y.1) := rfl
theorem pairC_set (c : Int) : (pairC (c, false)).setIfInBounds 1 (.int .i64 1) = pairC (c, true) := rfl
theorem pairC_inj {x y : Int × Bool} (h : pairC x = pairC y) : x = y := by
  have := intsC_inj h
  obtain ⟨a, b⟩ := x
  obtain ⟨c, d⟩ := y
  simp only [List.cons.injEq] at this
  obtain ⟨rfl, h2, _⟩ := this
  cases b <;> cases d <;> simp_all
theorem pairC_one (y : Int × Bool) : (pairC y).all (·.oneCell') = true := by
  obtain ⟨a, b⟩ := y
  simp [pairC, intsC, Value.oneCell']
theorem arr_pair : ArrKey Try.prog 57 3 2 := ⟨Try.underlying57, by kernel_rfl, by kernel_rfl, by kernel_rfl⟩
theorem wf_bit (b : Bool) : (Lit.int .i64 (if b then 1 else 0)).wf = true := by cases b <;> decide
def okP (y : Int × Bool) : Prop := (Lit.int .i64 y.1).wf = true
def litP (y : Int × Bool) : Lit := .string (keyBytes ([y.1, if y.2 then 1 else 0].map (Lit.int .i64)))
theorem keyPair : KeyEnc Try.prog 57 (Int × Bool) okP (fun y => .agg (pairC y)) litP where
  law := Keyed.of_law (deep_law_laid laid_out (m := 2) (by omega) (of_decide_eq_true (by kernel_rfl)) (by kernel_rfl) (by rw [Try.underlying57]))
  key y hy := keyOf_ints arr_pair Try.underlying3 types_pos _ rfl (fun x hx => by
    simp only [List.mem_cons, List.not_mem_nil, or_false] at hx
    rcases hx with rfl | rfl
    · exact hy
    · exact wf_bit _)
  inj x y h := pairC_inj (by injection h)
theorem wf_small {c : Int} (h0 : 0 ≤ c) (h1 : c < 65536) : (Lit.int .i64 c).wf = true := by
  have h2 : IntKind.i64.min = -9223372036854775808 := by decide
  have h3 : IntKind.i64.max = 9223372036854775807 := by decide
  simp only [Lit.wf, Bool.and_eq_true, decide_eq_true_eq]
  exact ⟨by omega, by omega⟩

/-- what the map holds at the j-th byte -/
def mapAt {α : Type} [DecidableEq α] (f : Nat → α) (j : Nat) (x : α) : Option Int := if x ∈ firsts f j then some ((firsts f j).idxOf x : Int) else none
section
variable {α : Type} [DecidableEq α] (f : Nat → α) (j : Nat)
theorem mapAt_zero : mapAt f 0 = fun _ => none := by funext x; simp [mapAt, firsts]
theorem mapAt_old (h : f j ∈ firsts f j) : mapAt f j (f j) = some (num f j : Int) := by rw [num_old f j h]; simp [mapAt, h]
theorem mapAt_new (h : ¬ f j ∈ firsts f j) : mapAt f j (f j) = none := by simp [mapAt, h]
theorem mapAt_same (h : f j ∈ firsts f j) : mapAt f (j + 1) = mapAt f j := by
  funext x
  unfold mapAt
  rw [firsts_succ, if_pos h]
theorem mapAt_put (h : ¬ f j ∈ firsts f j) : putM (mapAt f j) (f j) ((firsts f j).length : Int) = mapAt f (j + 1) := by
  funext x
  unfold putM mapAt
  rw [firsts_succ, if_neg h]
  by_cases e : x = f j
  · subst e
    simp [idx_not h]
  · rw [if_neg e]
    by_cases hx : x ∈ firsts f j
    · simp [hx, idx_mem hx]
    · simp [hx, e]
theorem len_old (h : f j ∈ firsts f j) : (firsts f (j + 1)).length = (firsts f j).length := by rw [firsts_succ, if_pos h]
theorem len_new (h : ¬ f j ∈ firsts f j) : (firsts f (j + 1)).length = (firsts f j).length + 1 := by rw [firsts_succ, if_neg h]; simp
end

section
variable {ops : Array Oper} {rest : List Oper} {o : Oper} {a : Act} {w : World} {Q : Exit → Act → World → Prop}
theorem wl_load_cls (hgd : o.guard = none) (x : Operand) (ho : o.op = .load 39 x)
    (g : Nat) (hx : a.eval x = .pointer (some ⟨g, 0, none⟩)) (y : Nat → Int) (hb : Blk w g 39 (clsC y))
    (h : wpList Try.prog ops Q rest (a.put o.dst (.agg (clsC y))) w) : wpList Try.prog ops Q (o :: rest) a w :=
  wpList_load_row hgd _ x ho g hx _ _ _ _ hb Try.underlying39 rfl (info_cls.trans (by rw [clsC_size])) h
theorem wl_store_cls (hgd : o.guard = none) (x y : Operand) (ho : o.op = .store 39 x y)
    (g : Nat) (new : Nat → Int) (hx : a.eval x = .pointer (some ⟨g, 0, none⟩)) (hy : a.eval y = .agg (clsC new)) (old : Nat → Int) (hb : Blk w g 39 (clsC old))
    (h : ∀ w', Blk w' g 39 (clsC new) → w.grownBy w' (some g) → wpList Try.prog ops Q rest (a.put o.dst undef) w') : wpList Try.prog ops Q (o :: rest) a w :=
  wpList_store_row hgd _ x y ho g _ hx hy _ _ hb (info_cls.trans (by rw [clsC_size])) (by rw [clsC_size, clsC_size]) (clsC_oneCell new) (h _ (hb.setRow_same _) (only_setRow (only_refl _ _) _))
theorem wl_put_cls (hgd : o.guard = none) (x y : Operand) (ho : o.op = .store 3 x y)
    (g i : Nat) (hx : a.eval x = .pointer (some ⟨g, i, none⟩)) (v : Int) (hy : a.eval y = .int .i64 v) (new old : Nat → Int) (hb : Blk w g 39 (clsC (upto i new old))) (hi : i < 256) (hv : v = new i)
    (h : ∀ w', Blk w' g 39 (clsC (upto (i + 1) new old)) → w.grownBy w' (some g) → wpList Try.prog ops Q rest (a.put o.dst undef) w') : wpList Try.prog ops Q (o :: rest) a w :=
  wl_store_cell hgd _ x y ho g i hx _ _ _ hb (by rw [clsC_size]; exact hi) info_int (by rw [hy]; rfl) (by rw [hy]; rfl) (by rw [hy]; exact clsC_put new old i v hv) h
theorem wl_load_pair (hgd : o.guard = none) (x : Operand) (ho : o.op = .load 57 x)
    (g : Nat) (hx : a.eval x = .pointer (some ⟨g, 0, none⟩)) (y : Int × Bool) (hb : Blk w g 57 (pairC y))
    (h : wpList Try.prog ops Q rest (a.put o.dst (.agg (pairC y))) w) : wpList Try.prog ops Q (o :: rest) a w :=
  wpList_load_row hgd _ x ho g hx _ _ _ _ hb Try.underlying57 rfl (info_pair.trans (by rw [pairC_size])) h
theorem wl_store_pair (hgd : o.guard = none) (x y : Operand) (ho : o.op = .store 57 x y)
    (g : Nat) (new : Int × Bool) (hx : a.eval x = .pointer (some ⟨g, 0, none⟩)) (hy : a.eval y = .agg (pairC new)) (old : Int × Bool) (hb : Blk w g 57 (pairC old))
    (h : ∀ w', Blk w' g 57 (pairC new) → w.grownBy w' (some g) → wpList Try.prog ops Q rest (a.put o.dst undef) w') : wpList Try.prog ops Q (o :: rest) a w :=
  wpList_store_row hgd _ x y ho g _ hx hy _ _ hb (info_pair.trans (by rw [pairC_size])) (by rw [pairC_size, pairC_size]) (pairC_one new) (h _ (hb.setRow_same _) (only_setRow (only_refl _ _) _))
theorem ret_cls {fn : Func} {p u : Tmp} {g : Nat} {y : Nat → Int} (hres : fn.results = #[.cell p 39, .tmp u])
    (hp : a.tmps.getD p undef = .pointer (some ⟨g, 0, none⟩)) (hb : Blk w g 39 (clsC y))
    (hdf : a.defers = []) {R : Ending → World → Prop} (hR : R (.returned (.tuple #[.agg (clsC y), a.tmps.getD u undef])) w) : bodyPost Try.prog fn R .ret a w :=
  ret_cell2 hres _ hp hb Try.underlying39 rfl (info_cls.trans (by rw [clsC_size])) hdf hR
end

abbrev PMap (w : World) (b n : Nat) (m : Int × Bool → Option Int) (cnt : Nat) : Prop := IntMap Try.prog 57 3 okP litP w b n m cnt

set_option maxHeartbeats 1000000 in
set_option maxRecDepth 100000 in
theorem classes_any (A : Option Addr) (n c : Nat) (l : List BSet) (w : World) (hn : n = l.length) (hm : n ≤ maxLen) (hs : SliceOf w w.heap.size 4 setC A l) :
    Calls Try.prog 19 #[.slice A n c] w fun e w' => e = .returned (.tuple #[.agg (clsC (cls l)), .int .i64 (many l)]) ∧ Below w.heap.size w w' := by
  have Hn := Lib.hid hn
  clear hn
  unfold maxLen at hm
  have hz := zero_cls
  have hmm := @run_makeMap Try.prog
  have hs2 : w.heap.size ≤ w.heap.size + 1 := by omega
  go_enter Try.func19, Try.ntmps19
  go_wp2
  go_loopw [15, 5] (fun i m wr => ∃ k : Nat, k ≤ n ∧ i = .int .i64 k ∧ m = .int .i64 (many (l.take k)) ∧ Blk wr (w.heap.size + 1) 39 (clsC (cls (l.take k))) ∧ Blk wr w.heap.size 39 (clsC fun _ => 0) ∧ Below w.heap.size w wr) (fun i _ _ => n - (intOf i).toNat)
  case atStart =>
    refine ⟨0, by omega, rfl, ?_, ?_, ?_, ?_⟩
    · rw [List.take_zero, many_nil]; rfl
    · rw [List.take_zero, clsC_ext (g := cls []) (h := fun _ => 0) fun b _ => cls_nil b]
      exact Blk.new' _ _ _ (World.size_alloc _ _).symm
    · exact (Blk.new _ _ _).alloc _
    · exact ((Below.refl _ _).alloc (Nat.le_refl _) _).alloc (by simp) _
  case round =>
    obtain ⟨k, hk, rfl, rfl, hb1, hb2, hB⟩ := hrel
    by_cases hlt : k < n
    · have hlt' : k < l.length := by have := Hn.out; omega
      obtain ⟨b, off, rfl, hbl, hrow⟩ := (hs.below hB).at_ (by omega)
      have hr := hrow k hlt'
      clear hrow
      have hlt5 : w.heap.size + 1 < wr.heap.size := hb1.lt
      go_wp2_with (first | (refine wl_load_set_at rfl _ rfl _ _ rfl _ hr ?_) | (refine wl_store_set rfl _ _ rfl _ _ rfl rfl 0 (Blk.new _ _ _) ?_; intro w1 hbs hg5))
      have hb1' := (hb1.alloc (.cells (setC 0) 31)).grown hg5 (by simp; omega)
      have hb2' := (hb2.alloc (.cells (setC 0) 31)).grown hg5 (by simp; omega)
      have hB' := (hB.alloc hB.size (.cells (setC 0) 31)).grown hg5 (by simp; omega) (by rintro k ⟨⟩; omega)
      have hM := IntMap.new (P := Try.prog) (e := 3) keyPair w1 rfl
      obtain ⟨gs, hgs⟩ : ∃ g, g = wr.heap.size := ⟨_, rfl⟩
      obtain ⟨gm, hgm⟩ : ∃ g, g = w1.heap.size := ⟨_, rfl⟩
      rw [← hgs] at hbs ⊢
      rw [← hgm] at hM ⊢
      have hgw : w.heap.size + 1 < gs := by omega
      have hgsm : gs < gm := by have := hbs.lt; omega
      replace hbs := hbs.alloc (.map #[] 0)
      replace hb1' := hb1'.alloc (.map #[] 0)
      replace hb2' := hb2'.alloc (.map #[] 0)
      replace hB' := below_alloc hB' (.map #[] 0)
      rw [show (fun _ : Int × Bool => (none : Option Int)) = mapAt (keyN (cls (l.take k)) l[k]) 0 from (mapAt_zero _).symm] at hM
      clear hgs hgm hg5 hb1 hb2 hB hr hlt5
      obtain ⟨wo, rfl⟩ : ∃ wo : World, wo = wr := ⟨_, rfl⟩
      obtain ⟨f, hf⟩ : ∃ f, f = keyN (cls (l.take k)) l[k] := ⟨_, rfl⟩
      rw [← hf] at hM
      replace hf := Lib.hid hf
      go_loopw [20] (fun i wr => ∃ j : Nat, j ≤ 256 ∧ i = .int .i64 j ∧ Blk wr (w.heap.size + 1) 39 (clsC (upto j (fun b => (num f b : Int)) (cls (l.take k)))) ∧ Blk wr gs 31 (setC l[k]) ∧ PMap wr gm j (mapAt f j) (firsts f j).length ∧ Blk wr w.heap.size 39 (clsC fun _ => 0) ∧ Below w.heap.size w wr) (fun i _ => 256 - (intOf i).toNat)
      case atStart => exact ⟨0, by omega, rfl, by rw [upto_zero]; exact hb1', hbs, hM, hb2', hB'⟩
      case round =>
        obtain ⟨j, hj, rfl, hb1, hbs, hM, hb2, hB⟩ := hrel
        by_cases hjt : j < 256
        · have hjj := upto_ge (fun b => (num f b : Int)) (cls (l.take k)) (Nat.le_refl j)
          have c1 := hb1.cellv (clsC_at _ j hjt)
          rw [hjj] at c1
          have hC := Below.refl wr.heap.size wr
          have hgr : gm < wr.heap.size := hM.lt
          obtain ⟨v, hv⟩ : ∃ v, v = cls (l.take k) j := ⟨_, rfl⟩
          rw [← hv] at c1
          have hbit : ∃ bv, bv = l[k].getLsbD j := ⟨_, rfl⟩
          obtain ⟨bv, hbv⟩ := hbit
          have hfj : f j = (v, bv) := by rw [hf.out, hv, hbv]; rfl
          have hok : okP (v, bv) := by
            have h0 := cls_ge (l.take k) j
            have h1 := cls_lt (l.take k) hjt
            have h2 := many_le (l.take k)
            exact wf_small (by show 0 ≤ v; omega) (by show v < 65536; omega)
          have hmap : f j ∈ firsts f j ∨ ¬ f j ∈ firsts f j := Classical.em _
          have hlen := firsts_length_le f j
          have hnw := num_lt f (Nat.lt_succ_self j)
          replace hfj := Lib.hid hfj
          clear hjj hv
          rcases hmap with hmap | hmap
          · have hmo := Lib.hid (mapAt_old f j hmap)
            rw [hfj.out] at hmo
            cases bv with
            | true =>
              have hx := Lib.hid hbv.symm
              clear hbv
              go_wp2_with (first
                | (refine wl_load_set rfl _ rfl _ rfl _ (blk_then hbs hC) ?_)
                | (refine wl_store_pair rfl _ _ rfl _ (v, false) rfl rfl (0, false) (Blk.new _ _ _) ?_; intro w2 hk2 hg2; replace hC := below_grown (below_alloc hC (.cells (pairC (0, false)) 57)) hg2 (Nat.le_refl _))
                | (go_at_call 22; refine (has_any _ j hjt _).mono ?_; rw [hx.out]; rintro e w3 ⟨rfl, hB3⟩; replace hC := below_then hC hB3; replace hk2 := blk_then hk2 hB3)
                | (refine wl_store_cell rfl _ _ _ rfl _ _ rfl _ _ (pairC (v, true)) hk2 (by rw [pairC_size]; omega) info_int rfl rfl (pairC_set v) ?_; intro w4 hk4 hg4; replace hC := below_grown hC hg4 (Nat.le_refl _))
                | (refine wl_load_pair rfl _ rfl _ rfl _ hk4 ?_)
                | (at_lookup; refine wl_map_hit keyPair Try.underlying75 Try.underlying3 (zero_int _) (IntMap.then_ hM hC) rfl _ _ rfl rfl (v, true) hok rfl _ hmo.out ?_)
                | (refine wl_put_cls rfl _ _ rfl _ _ rfl _ rfl _ _ (blk_then hb1 hC) hjt rfl ?_; intro w5 hb5 hg5))
              go_roundw
              case rel =>
                refine ⟨j + 1, by omega, by go_num, hb5, blk_grown (blk_then hbs hC) hg5 (by omega), ?_, blk_grown (blk_then hb2 hC) hg5 (by omega), below_grown (below_then hB hC) hg5 hs2⟩
                rw [mapAt_same f j hmap, len_old f j hmap]
                exact IntMap.more ((IntMap.then_ hM hC).grown hg5 (by omega)) (Nat.le_succ j)
              case measure => simp [intOf]; omega
            | false =>
              have hx := Lib.hid hbv.symm
              clear hbv
              go_wp2_with (first
                | (refine wl_load_set rfl _ rfl _ rfl _ (blk_then hbs hC) ?_)
                | (refine wl_store_pair rfl _ _ rfl _ (v, false) rfl rfl (0, false) (Blk.new _ _ _) ?_; intro w2 hk2 hg2; replace hC := below_grown (below_alloc hC (.cells (pairC (0, false)) 57)) hg2 (Nat.le_refl _))
                | (go_at_call 22; refine (has_any _ j hjt _).mono ?_; rw [hx.out]; rintro e w3 ⟨rfl, hB3⟩; replace hC := below_then hC hB3; replace hk2 := blk_then hk2 hB3)
                | (refine wl_load_pair rfl _ rfl _ rfl _ hk2 ?_)
                | (at_lookup; refine wl_map_hit keyPair Try.underlying75 Try.underlying3 (zero_int _) (IntMap.then_ hM hC) rfl _ _ rfl rfl (v, false) hok rfl _ hmo.out ?_)
                | (refine wl_put_cls rfl _ _ rfl _ _ rfl _ rfl _ _ (blk_then hb1 hC) hjt rfl ?_; intro w5 hb5 hg5))
              go_roundw
              case rel =>
                refine ⟨j + 1, by omega, by go_num, hb5, blk_grown (blk_then hbs hC) hg5 (by omega), ?_, blk_grown (blk_then hb2 hC) hg5 (by omega), below_grown (below_then hB hC) hg5 hs2⟩
                rw [mapAt_same f j hmap, len_old f j hmap]
                exact IntMap.more ((IntMap.then_ hM hC).grown hg5 (by omega)) (Nat.le_succ j)
              case measure => simp [intOf]; omega
          · have hmo := Lib.hid (mapAt_new f j hmap)
            rw [hfj.out] at hmo
            have hnum : Hid (((firsts f j).length : Int) = (num f j : Int)) := Lib.hid (by rw [num_new f j hmap])
            cases bv with
            | true =>
              have hx := Lib.hid hbv.symm
              clear hbv
              go_wp2_with (first
                | (refine wl_load_set rfl _ rfl _ rfl _ (blk_then hbs hC) ?_)
                | (refine wl_store_pair rfl _ _ rfl _ (v, false) rfl rfl (0, false) (Blk.new _ _ _) ?_; intro w2 hk2 hg2; replace hC := below_grown (below_alloc hC (.cells (pairC (0, false)) 57)) hg2 (Nat.le_refl _))
                | (go_at_call 22; refine (has_any _ j hjt _).mono ?_; rw [hx.out]; rintro e w3 ⟨rfl, hB3⟩; replace hC := below_then hC hB3; replace hk2 := blk_then hk2 hB3)
                | (refine wl_store_cell rfl _ _ _ rfl _ _ rfl _ _ (pairC (v, true)) hk2 (by rw [pairC_size]; omega) info_int rfl rfl (pairC_set v) ?_; intro w4 hk4 hg4; replace hC := below_grown hC hg4 (Nat.le_refl _))
                | (refine wl_load_pair rfl _ rfl _ rfl _ hk4 ?_)
                | (at_lookup; refine wl_map_miss keyPair Try.underlying75 Try.underlying3 (zero_int _) (IntMap.then_ hM hC) rfl _ _ rfl rfl (v, true) hok rfl hmo.out ?_)
                | (at_len; refine wl_map_len Try.underlying75 (IntMap.then_ hM hC) rfl _ rfl rfl ?_)
                | (at_mapUpdate; refine wl_map_put keyPair Try.underlying75 Try.underlying3 (IntMap.then_ hM hC) (by unfold maxLen; omega) rfl _ _ _ rfl rfl (v, true) hok rfl _ rfl (wf_small (by omega) (by omega)) ?_; intro w6 hM6 hg6)
                | (refine wl_put_cls rfl _ _ rfl _ _ rfl _ rfl _ _ (blk_grown (blk_then hb1 hC) hg6 (by omega)) hjt hnum.out ?_; intro w5 hb5 hg5))
              go_roundw
              case rel =>
                refine ⟨j + 1, by omega, by go_num, hb5, blk_grown (blk_grown (blk_then hbs hC) hg6 (by omega)) hg5 (by omega), ?_, blk_grown (blk_grown (blk_then hb2 hC) hg6 (by omega)) hg5 (by omega), below_grown (below_grown (below_then hB hC) hg6 (by omega)) hg5 hs2⟩
                rw [hmo.out, ← hfj.out, mapAt_put f j hmap] at hM6
                rw [len_new f j hmap]
                exact hM6.grown hg5 (by omega)
              case measure => simp [intOf]; omega
            | false =>
              have hx := Lib.hid hbv.symm
              clear hbv
              go_wp2_with (first
                | (refine wl_load_set rfl _ rfl _ rfl _ (blk_then hbs hC) ?_)
                | (refine wl_store_pair rfl _ _ rfl _ (v, false) rfl rfl (0, false) (Blk.new _ _ _) ?_; intro w2 hk2 hg2; replace hC := below_grown (below_alloc hC (.cells (pairC (0, false)) 57)) hg2 (Nat.le_refl _))
                | (go_at_call 22; refine (has_any _ j hjt _).mono ?_; rw [hx.out]; rintro e w3 ⟨rfl, hB3⟩; replace hC := below_then hC hB3; replace hk2 := blk_then hk2 hB3)
                | (refine wl_load_pair rfl _ rfl _ rfl _ hk2 ?_)
                | (at_lookup; refine wl_map_miss keyPair Try.underlying75 Try.underlying3 (zero_int _) (IntMap.then_ hM hC) rfl _ _ rfl rfl (v, false) hok rfl hmo.out ?_)
                | (at_len; refine wl_map_len Try.underlying75 (IntMap.then_ hM hC) rfl _ rfl rfl ?_)
                | (at_mapUpdate; refine wl_map_put keyPair Try.underlying75 Try.underlying3 (IntMap.then_ hM hC) (by unfold maxLen; omega) rfl _ _ _ rfl rfl (v, false) hok rfl _ rfl (wf_small (by omega) (by omega)) ?_; intro w6 hM6 hg6)
                | (refine wl_put_cls rfl _ _ rfl _ _ rfl _ rfl _ _ (blk_grown (blk_then hb1 hC) hg6 (by omega)) hjt hnum.out ?_; intro w5 hb5 hg5))
              go_roundw
              case rel =>
                refine ⟨j + 1, by omega, by go_num, hb5, blk_grown (blk_grown (blk_then hbs hC) hg6 (by omega)) hg5 (by omega), ?_, blk_grown (blk_grown (blk_then hb2 hC) hg6 (by omega)) hg5 (by omega), below_grown (below_grown (below_then hB hC) hg6 (by omega)) hg5 hs2⟩
                rw [hmo.out, ← hfj.out, mapAt_put f j hmap] at hM6
                rw [len_new f j hmap]
                exact hM6.grown hg5 (by omega)
              case measure => simp [intOf]; omega
        · obtain rfl : j = 256 := by omega
          rw [upto_all] at hb1
          have hM1 := hM
          have hcl := Lib.hid (clsC_ext (g := fun b => (num f b : Int)) (h := cls (l.take (k + 1))) fun b _ => by rw [take_snoc' l k hlt', cls_snoc, hf.out])
          have hmy := Lib.hid (show (firsts f 256).length = many (l.take (k + 1)) by rw [take_snoc' l k hlt', many_snoc, hf.out])
          rw [hmy.out] at hM
          rw [hcl.out] at hb1
          go_wp2_with (first | (at_len; refine wl_map_len Try.underlying75 hM rfl _ rfl rfl ?_))
          go_roundw
          case rel => exact ⟨k + 1, by omega, by go_num, rfl, hb1, hb2, hB⟩
          case measure => simp [intOf]; omega
    · have hkk : l.take k = l := List.take_of_length_le (by have := Hn.out; omega)
      rw [hkk] at hb1
      go_wp2_with (first | (refine wl_load_cls rfl _ rfl _ rfl _ hb1 ?_) | (refine wl_store_cls rfl _ _ rfl _ _ rfl rfl _ hb2 ?_; intro w1 hb4 hg4))
      refine ret_cls rfl rfl hb4 rfl ⟨?_, hB.grown hg4 hB.size (by rintro k ⟨⟩; exact Nat.le_refl _)⟩
      rw [← hkk]
      rfl
end Go.Proofs.Ytjpiebapemalfaa
