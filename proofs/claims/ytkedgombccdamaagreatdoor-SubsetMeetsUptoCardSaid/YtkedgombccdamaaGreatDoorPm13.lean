/- Part 13 of a proof; packed: the texts that it was made of follow one another. No condition beyond those named in each lemma. -/
import Derived.Test.YtkedgombccdamaaGreatDoorPm1
import Derived.Test.YtkedgombccdamaaGreatDoorPm11
import Derived.Test.YtkedgombccdamaaGreatDoorPm12
namespace Go.Proofs.YtkedgombccdamaaGreatDoor
set_option linter.unusedVariables false
set_option linter.unusedSimpArgs false
section
variable {α : Type} [DecidableEq α] (step : α → Nat → α) (bs : List Nat)
def addQ (Q : List α) (x : α) : List α := if x ∈ Q then Q else Q ++ [x]
def rowQ (q : α) (bs : List Nat) (Q : List α) : List α := bs.foldl (fun Q b => addQ Q (step q b)) Q
def bfsN (a0 : α) : Nat → List α
 | 0 => [a0]
 | i + 1 => match (bfsN a0 i)[i]? with
   | some q => rowQ step q bs (bfsN a0 i)
   | none => bfsN a0 i
variable {step bs}
theorem addQ_prefix (Q : List α) (x : α) : ∃ r, addQ Q x = Q ++ r := by
 unfold addQ
 split
 ·exact ⟨[], by simp⟩
 ·exact ⟨[x], rfl⟩
theorem addQ_mem (Q : List α) (x : α) : x ∈ addQ Q x := by
 unfold addQ
 split
 ·assumption
 ·simp
theorem rowQ_prefix (q : α) : ∀ (bs : List Nat) (Q : List α), ∃ r, rowQ step q bs Q = Q ++ r
 | [], Q => ⟨[], by simp [rowQ]⟩
 | b :: bs, Q => by
   obtain ⟨r, hr⟩ := addQ_prefix Q (step q b)
   obtain ⟨s, hs⟩ := rowQ_prefix q bs (addQ Q (step q b))
   exact ⟨r ++ s, by rw [show rowQ step q (b :: bs) Q = rowQ step q bs (addQ Q (step q b)) from rfl, hs, hr, List.append_assoc]⟩
theorem rowQ_snoc (q : α) (bs : List Nat) (b : Nat) (Q : List α) : rowQ step q (bs ++ [b]) Q = addQ (rowQ step q bs Q) (step q b) := by
 unfold rowQ
 rw [List.foldl_append]
 rfl
theorem rowQ_mem (q : α) : ∀ (bs : List Nat) (Q : List α) (b : Nat), b ∈ bs → step q b ∈ rowQ step q bs Q
 | c :: bs, Q, b, h => by
   rw [show rowQ step q (c :: bs) Q = rowQ step q bs (addQ Q (step q c)) from rfl]
   rcases List.mem_cons.1 h with rfl | h
   ·obtain ⟨r, hr⟩ := rowQ_prefix (step := step) q bs (addQ Q (step q b))
    rw [hr]
    exact List.mem_append_left _ (addQ_mem _ _)
   ·exact rowQ_mem q bs _ b h
theorem rowQ_all {p : α → Prop} (q : α) : ∀ (bs : List Nat) (Q : List α), (∀ x ∈ Q, p x) → (∀ b ∈ bs, p (step q b)) → ∀ x ∈ rowQ step q bs Q, p x
 | [], Q, h, _ => h
 | b :: bs, Q, h, h2 => rowQ_all q bs (addQ Q (step q b)) (by
   intro x hx
   unfold addQ at hx
   split at hx
   ·exact h x hx
   ·rcases List.mem_append.1 hx with hx | hx
    ·exact h x hx
    ·rw [List.mem_singleton.1 hx]
     exact h2 b (List.mem_cons_self ..)) (fun b hb => h2 b (List.mem_cons_of_mem _ hb))
theorem bfs_succ {a0 : α} {i : Nat} (h : i < (bfsN step bs a0 i).length) : bfsN step bs a0 (i + 1) = rowQ step (bfsN step bs a0 i)[i] bs (bfsN step bs a0 i) := by
 rw [bfsN, List.getElem?_eq_getElem h]
theorem bfs_stay {a0 : α} {i : Nat} (h : (bfsN step bs a0 i).length ≤ i) : bfsN step bs a0 (i + 1) = bfsN step bs a0 i := by
 rw [bfsN, List.getElem?_eq_none h]
theorem bfs_prefix1 (a0 : α) (i : Nat) : ∃ r, bfsN step bs a0 (i + 1) = bfsN step bs a0 i ++ r := by
 by_cases h : i < (bfsN step bs a0 i).length
 ·rw [bfs_succ h]
  exact rowQ_prefix _ _ _
 ·rw [bfs_stay (by omega)]
  exact ⟨[], by simp⟩
theorem bfs_prefix (a0 : α) {i j : Nat} (h : i ≤ j) : ∃ r, bfsN step bs a0 j = bfsN step bs a0 i ++ r := by
 induction j with
 | zero => rw [show i = 0 by omega]; exact ⟨[], by simp⟩
 | succ j ih =>
   by_cases e : i = j + 1
   ·rw [e]; exact ⟨[], by simp⟩
   ·obtain ⟨r, hr⟩ := ih (by omega)
    obtain ⟨s, hs⟩ := bfs_prefix1 (step := step) (bs := bs) a0 j
    exact ⟨r ++ s, by rw [hs, hr, List.append_assoc]⟩
theorem bfs_len (a0 : α) {i j : Nat} (h : i ≤ j) : (bfsN step bs a0 i).length ≤ (bfsN step bs a0 j).length := by
 obtain ⟨r, hr⟩ := bfs_prefix (step := step) (bs := bs) a0 h
 rw [hr]; simp
def Done (step : α → Nat → α) (bs : List Nat) (a0 : α) (i : Nat) : Prop := (bfsN step bs a0 i).length = i
theorem Done.stay {a0 : α} {i : Nat} (h : Done step bs a0 i) : ∀ j, i ≤ j → bfsN step bs a0 j = bfsN step bs a0 i := by
 intro j
 induction j with
 | zero => intro hj; rw [show i = 0 by omega]
 | succ j ih =>
   intro hj
   by_cases e : i = j + 1
   ·rw [e]
   ·have := ih (by omega)
    rw [bfs_stay (by rw [this, h]; omega), this]
theorem Done.one {a0 : α} {i j : Nat} (h : Done step bs a0 i) (k : Done step bs a0 j) : i = j := by
 rcases Nat.le_total i j with e | e
 ·have := h.stay j e
  have h2 : (bfsN step bs a0 j).length = j := k
  rw [this] at h2
  exact h.symm.trans h2
 ·have := k.stay i e
  have h2 : (bfsN step bs a0 i).length = i := h
  rw [this] at h2
  exact h2.symm.trans k
theorem Done.gt {a0 : α} {i k m : Nat} (hk : Done step bs a0 k) (hi : i < (bfsN step bs a0 i).length) (hm : m ≤ (bfsN step bs a0 (i + 1)).length) : m ≤ k := by
 have h1 : (bfsN step bs a0 k).length = k := hk
 rcases Nat.lt_or_ge i k with e | e
 ·have := bfs_len (step := step) (bs := bs) a0 (show i + 1 ≤ k from e)
  omega
 ·have := hk.stay i e
  rw [this, h1] at hi
  omega
theorem bfs_all {p : α → Prop} {a0 : α} (h0 : p a0) (hs : ∀ q b, p q → b ∈ bs → p (step q b)) : ∀ i, ∀ x ∈ bfsN step bs a0 i, p x
 | 0, x, hx => by rw [show x = a0 by simpa [bfsN] using hx]; exact h0
 | i + 1, x, hx => by
   have ih := bfs_all h0 hs i
   by_cases h : i < (bfsN step bs a0 i).length
   ·rw [bfs_succ h] at hx
    exact rowQ_all _ _ _ ih (fun b hb => hs _ b (ih _ (List.getElem_mem h)) hb) x hx
   ·rw [bfs_stay (by omega)] at hx
    exact ih x hx
def entsQ (step : α → Nat → α) (bs : List Nat) (Q : List α) (q : α) : List Nat := bs.map fun b => Q.idxOf (step q b)
theorem ents_grow {Q r : List α} {q : α} (h : ∀ b ∈ bs, step q b ∈ Q) : entsQ step bs (Q ++ r) q = entsQ step bs Q q := by
 unfold entsQ
 apply List.map_congr_left
 intro b hb
 rw [List.idxOf_append, if_pos (h b hb)]
def rowsQ (step : α → Nat → α) (bs : List Nat) (a0 : α) (i : Nat) : List (List Nat) := ((bfsN step bs a0 i).take i).map (entsQ step bs (bfsN step bs a0 i))
theorem bfs_closed (a0 : α) : ∀ i, ∀ x ∈ (bfsN step bs a0 i).take i, ∀ b ∈ bs, step x b ∈ bfsN step bs a0 i
 | 0, x, hx, b, hb => by simp at hx
 | i + 1, x, hx, b, hb => by
   by_cases h : i < (bfsN step bs a0 i).length
   ·obtain ⟨r, hr⟩ := rowQ_prefix (step := step) (bfsN step bs a0 i)[i] bs (bfsN step bs a0 i)
    rw [bfs_succ h] at hx ⊢
    have ht : (rowQ step (bfsN step bs a0 i)[i] bs (bfsN step bs a0 i)).take (i + 1) = (bfsN step bs a0 i).take i ++ [(bfsN step bs a0 i)[i]] := by
     rw [hr, List.take_append_of_le_length (by omega), List.take_succ_eq_append_getElem h]
    rw [ht] at hx
    rcases List.mem_append.1 hx with hx | hx
    ·have := bfs_closed a0 i x hx b hb
     rw [hr]
     exact List.mem_append_left _ this
    ·rw [List.mem_singleton.1 hx]
     exact rowQ_mem _ _ _ b hb
   ·have hs := bfs_stay (step := step) (bs := bs) (a0 := a0) (i := i) (by omega)
    rw [hs] at hx ⊢
    rw [List.take_of_length_le (by omega)] at hx
    exact bfs_closed a0 i x (by rw [List.take_of_length_le (by omega)]; exact hx) b hb
theorem rows_succ {a0 : α} {i : Nat} (h : i < (bfsN step bs a0 i).length) : rowsQ step bs a0 (i + 1) = rowsQ step bs a0 i ++ [entsQ step bs (bfsN step bs a0 (i + 1)) (bfsN step bs a0 i)[i]] := by
 obtain ⟨r, hr⟩ := bfs_prefix1 (step := step) (bs := bs) a0 i
 unfold rowsQ
 rw [hr, List.take_append_of_le_length (by omega), List.take_succ_eq_append_getElem h, List.map_append]
 congr 1
 apply List.map_congr_left
 intro x hx
 exact ents_grow fun b hb => bfs_closed a0 i x hx b hb
theorem rows_done {a0 : α} {i : Nat} (h : Done step bs a0 i) : rowsQ step bs a0 i = (bfsN step bs a0 i).map (entsQ step bs (bfsN step bs a0 i)) := by
 have h1 : (bfsN step bs a0 i).length = i := h
 unfold rowsQ
 rw [List.take_of_length_le (by omega)]
theorem rows_len {a0 : α} {i : Nat} (h : i ≤ (bfsN step bs a0 i).length) : (rowsQ step bs a0 i).length = i := by
 unfold rowsQ
 rw [List.length_map, List.length_take]
 omega
theorem ents_snoc {Q : List α} {q : α} {bs : List Nat} {b : Nat} (h : ∀ c ∈ bs, step q c ∈ Q) : entsQ step (bs ++ [b]) (addQ Q (step q b)) q = entsQ step bs Q q ++ [(addQ Q (step q b)).idxOf (step q b)] := by
 obtain ⟨r, hr⟩ := addQ_prefix Q (step q b)
 unfold entsQ
 rw [List.map_append]
 congr 1
 apply List.map_congr_left
 intro c hc
 rw [hr, List.idxOf_append, if_pos (h c hc)]
end
end Go.Proofs.YtkedgombccdamaaGreatDoor
namespace Go.Proofs.YtkedgombccdamaaGreatDoor
open Go.RowKit Go.Maps
set_option linter.unusedVariables false
set_option linter.unusedSimpArgs false
attribute [local go_sem] Oper.semAt_some
theorem getD_at {α : Type} (l : List α) (d : α) {i : Nat} (h : i < l.length) : l.getD i d = l[i] := by simp [h]
theorem nxt_at {x : TV} {s : Nat} {c : Nat} (hs : s < x.rs.length) (hc : c < x.rs[s].l.length) : x.T.nxt s (c : Nat) = x.rs[s].l[c] := by
 have hs2 : s < (x.rs.map (·.l)).length := by simpa using hs
 show (((x.rs.map (·.l)).getD s []).getD ((c : Nat) : Int).toNat 0) = _
 rw [getD_at _ _ hs2]
 simp only [List.getElem_map, Int.toNat_natCast]
 rw [getD_at _ _ hc]
theorem fits_row {x : TV} (hF : s_Fits x.T) {s : Nat} (hs : s < x.rs.length) : x.rs[s].l.length = x.T.many := by
 have := hF.row s (by show s < (x.rs.map (·.l)).length; simpa using hs)
 have hs2 : s < (x.rs.map (·.l)).length := by simpa using hs
 have e : (x.T.nx.getD s []) = x.rs[s].l := by
  show (x.rs.map (·.l)).getD s [] = _
  rw [getD_at _ _ hs2, List.getElem_map]
 rw [e] at this
 exact this
theorem fits_n {x : TV} : x.T.nx.length = x.rs.length := List.length_map _
theorem fits_au {x : TV} : x.T.au.n = x.rs.length := List.length_map _
theorem fits_go {x : TV} (hF : s_Fits x.T) {s b : Nat} (hs : s < x.rs.length) (hb : b < 256) : ∃ c : Nat, x.f b = (c : Int) ∧ c < x.T.many ∧ ∃ hc : c < x.rs[s].l.length, x.rs[s].l[c] = ((x.T.au.go s b : Nat) : Int) := by
 obtain ⟨h0, h1⟩ := hF.cl b hb
 obtain ⟨c, hc⟩ := Int.eq_ofNat_of_zero_le h0
 have hcf : x.f b = (c : Int) := hc
 have hcm : c < x.T.many := by omega
 have hcr : c < x.rs[s].l.length := by rw [fits_row hF hs]; exact hcm
 refine ⟨c, hcf, hcm, hcr, ?_⟩
 have h3 := (hF.tr s c (by rw [fits_n]; exact hs) hcm).1
 rw [nxt_at hs hcr] at h3
 show _ = (((x.T.nxt s (x.T.cls b)).toNat : Nat) : Int)
 rw [show x.T.cls b = ((c : Nat) : Int) from hc, nxt_at hs hcr, Int.toNat_of_nonneg h3]
noncomputable def fitsB (T : Tb) : Bool := @decide (s_Fits T) (Classical.propDecidable _)
theorem fitsB_yes {T : Tb} (h : s_Fits T) : fitsB T = true := @decide_eq_true _ (Classical.propDecidable _) h
theorem fitsB_no {T : Tb} (h : ¬ s_Fits T) : fitsB T = false := @decide_eq_false _ (Classical.propDecidable _) h
def ToOk (T : Tb) (s : Nat) (z : Int) : Prop := 0 ≤ z ∧ z < T.nx.length ∧ T.fo.getD s 0 &&& T.fo.getD z.toNat 0 = T.fo.getD s 0
def RowOk (T : Tb) (s : Nat) : Prop := (T.nx.getD s []).length = T.many ∧ T.fo.getD s 0 &&& T.en.getD s 0 = T.fo.getD s 0
theorem fits_of {T : Tb} (h1 : 1 ≤ T.nx.length) (h2 : T.nx.length ≤ 4096) (h3 : T.fo.length = T.nx.length) (h4 : T.en.length = T.nx.length) (h5 : 1 ≤ T.many) (h6 : T.many ≤ 256) (h7 : ∀ b, b < 256 → 0 ≤ T.cls b ∧ T.cls b < T.many)
  (h8 : ∀ s, s < T.nx.length → RowOk T s ∧ ∀ c, c < T.many → ToOk T s (T.nxt s (c : Nat))) : s_Fits T :=
 ⟨h1, h2, h3, h4, h5, h6, h7, fun s hs => (h8 s hs).1.1, fun s hs => (h8 s hs).1.2, fun s c hs hc => (h8 s hs).2 c hc⟩
theorem s_row_at {x : TV} {s : Nat} (hs : s < x.rs.length) : x.T.nx.getD s [] = x.rs[s].l := by
 have hs2 : s < (x.rs.map (·.l)).length := by simpa using hs
 show (x.rs.map (·.l)).getD s [] = _
 rw [getD_at _ _ hs2, List.getElem_map]
theorem many_at {x : TV} (hs : 0 < x.rs.length) : x.T.many = x.rs[0].l.length := by
 unfold Tb.many
 rw [s_row_at hs]
theorem bne_nat (a b : Nat) : ((a : Int) != (b : Int)) = decide (a ≠ b) := by
 by_cases e : a = b
 ·subst e; simp
 ·simp [e]; omega
set_option maxRecDepth 100000 in
set_option maxHeartbeats 4000000 in
theorem within_any (x : TV) (y : Nat) (z : Int) (hy32 : y < 4294967296) (hfo : x.fo.length = x.rs.length) (w : World) (hT : TabIn w w.heap.size x) :
  Calls Tryz.prog 30 #[.agg x.C', .int .u32 (y : Nat), .int .i64 z] w fun e w' => ∃ b : Bool, (b = true ↔ 0 ≤ z ∧ z < x.rs.length ∧ y &&& x.fo.getD z.toNat 0 = y) ∧ e = .returned (.bool b) ∧ Below w.heap.size w w' := by
 unfold TV.C'
 replace hfo := Lib.hid hfo
 go_enter Tryz.func30, Tryz.ntmps30
 obtain ⟨A, hA⟩ : ∃ A, A = x.A := ⟨_, rfl⟩
 have h1 := Blk.new w 33 (dfaC x.f x.A x.rs.length x.c x.B x.fo.length x.d x.C x.en.length x.e)
 have hB1 := zqc (Below.refl w.heap.size w) (.cells (dfaC x.f x.A x.rs.length x.c x.B x.fo.length x.d x.C x.en.length x.e) 33)
 go_upto_region 1 with (fail)
 obtain ⟨w1, hw1⟩ : ∃ y, y = w.alloc (.cells (dfaC x.f x.A x.rs.length x.c x.B x.fo.length x.d x.C x.en.length x.e) 33) := ⟨_, rfl⟩
 rw [← hw1] at h1 hB1 ⊢
 clear hw1 hA A
 by_cases hzr : 0 ≤ z ∧ z < x.rs.length
 ·obtain ⟨t, rfl⟩ := Int.eq_ofNat_of_zero_le hzr.1
  have htl : t < x.rs.length := by omega
  have htF : t < x.fo.length := by rw [hfo.out]; exact htl
  obtain ⟨bF, oF, hFo, hbF, hrF⟩ := hT.fo.at_ (by omega)
  replace hFo := Lib.hid hFo
  obtain ⟨v, hv⟩ : ∃ v, v = x.fo[t] := ⟨_, rfl⟩
  have hv32 : v < 4294967296 := by rw [hv]; exact hT.f32 _ (List.getElem_mem _)
  have cF : ∀ {X : World}, Below w1.heap.size w1 X → X.cell? ⟨w.heap.size, 257, none⟩ = some (.slice (some ⟨bF, oF, none⟩) x.fo.length x.d) := fun hB => by rw [← hFo.out]; exact blk_d2 (zqb h1 hB)
  have cv : ∀ {X : World}, Below w1.heap.size w1 X → X.cell? ⟨bF, oF + t * 1, none⟩ = some (.int .u32 ((v : Nat) : Int)) := fun hB => by rw [hv]; exact cell_keep (hrF t htF 0 _ rfl) hbF (zqd hB1 hB)
  have vT : x.fo.getD ((t : Nat) : Int).toNat 0 = v := by rw [hv, Int.toNat_natCast]; exact getD_at x.fo 0 htF
  replace vT := Lib.hid vT
  clear hv
  obtain ⟨q, hq⟩ : ∃ q, (((y &&& (4294967295 - v) : Nat) : Int) == 0) = q := ⟨_, rfl⟩
  have hp1 : decide ((0 : Int) ≤ ((t : Nat) : Int)) = true := decide_eq_true (by omega)
  have hp2 : decide (((t : Nat) : Int) < ((x.rs.length : Nat) : Int)) = true := decide_eq_true (by omega)
  refine zqs 20 [eqS (.int .i64 (((t : Nat) : Int))), eqS (.bool true), eqS (.bool true), eqS (vF (true && (true == true)) (.int .i64 (((t : Nat) : Int)))), eqS (vF (true && (true == true)) (.pointer (some ⟨w.heap.size, 256, none⟩))), eqS (vF (true && (true == true)) (.slice x.A x.rs.length x.c)), eqS (vF (true && (true == true)) (.int .i64 (((x.rs.length : Nat) : Int)))), eqS (vF (true && (true == true)) (.bool true)), eqS (.bool (true && true)), eqS (.bool (true && true)), eqS (vF (true && ((true && true) == true)) (.int .u32 (((y : Nat) : Int)))), eqS (vF (true && ((true && true) == true)) (.pointer (some ⟨w.heap.size, 257, none⟩))), eqS (vF (true && ((true && true) == true)) (.slice (some ⟨bF, oF, none⟩) x.fo.length x.d)), eqS (vF (true && ((true && true) == true)) (.int .i64 (((t : Nat) : Int)))), eqS (vF (true && ((true && true) == true)) (.pointer (some ⟨bF, oF + t * 1, none⟩))), eqS (vF (true && ((true && true) == true)) (.int .u32 (((v : Nat) : Int)))), eqS (vF (true && ((true && true) == true)) (.int .u32 ((((y) &&& (4294967295 - (v)) : Nat) : Int)))), eqS (vF (true && ((true && true) == true)) (.bool q)), eqS (.bool ((true && true) && q)), eqS (.bool ((true && true) && q))] [7, 8, 9, 10, 11, 12, 13, 14, 15, 16, 17, 18, 19, 20, 21, 22, 23, 24, 25, 6] (by kernel_rfl) rfl ?_ ?_
  ·skip
   refine Steps.cons (fun a' w' hG hB dep => zqi (zqa rfl) _ rfl (id (hG.other 2 rfl))) ?_
   refine Steps.cons (fun a' w' hG hB dep => gs_geq_int (zqa rfl) _ _ _ _ rfl _ _ _ (dep 0 rfl 7 rfl) rfl (id (congrArg Value.bool hp1))) ?_
   refine Steps.cons (fun a' w' hG hB dep => zqi (zqa rfl) _ rfl (id (dep 1 rfl 8 rfl))) ?_
   refine Steps.cons (fun a' w' hG hB dep => zqf (c := true) (b' := true) rfl rfl (dep 2 rfl 9 rfl) (fun hc he hw => zqi hw _ rfl (Eq.trans (hG.other 2 rfl) (zqg (on_g hc he) _).symm)) (fun hn => vF_no hn _)) ?_
   refine Steps.cons (fun a' w' hG hB dep => zqf (c := true) (b' := true) rfl rfl (dep 2 rfl 9 rfl) (fun hc he hw => zqn hw _ _ _ rfl w.heap.size (0) (256) (hG.other 3 rfl) (fun wz => field_dfa_1 w.heap.size (0) wz) (zqg (on_g hc he) _).symm) (fun hn => vF_no hn _)) ?_
   refine Steps.cons (fun a' w' hG hB dep => zqf (c := true) (b' := true) rfl rfl (dep 2 rfl 9 rfl) (fun hc he hw => zqj hw _ _ rfl w.heap.size (256) (Eq.trans (dep 4 rfl 11 rfl) (zqg (on_g hc he) _)) (.slice x.A x.rs.length x.c) (blk_d1 (zqb h1 hB)) _ Tryz.underlying31 rfl (zqg (on_g hc he) _).symm) (fun hn => vF_no hn _)) ?_
   refine Steps.cons (fun a' w' hG hB dep => zqf (c := true) (b' := true) rfl rfl (dep 2 rfl 9 rfl) (fun hc he hw => gs_len hw _ _ rfl under_rows _ x.rs.length x.c (Eq.trans (dep 5 rfl 12 rfl) (zqg (on_g hc he) _)) (zqg (on_g hc he) _).symm) (fun hn => vF_no hn _)) ?_
   refine Steps.cons (fun a' w' hG hB dep => zqf (c := true) (b' := true) rfl rfl (dep 2 rfl 9 rfl) (fun hc he hw => gs_lss_int hw _ _ _ _ rfl _ _ _ (Eq.trans (dep 3 rfl 10 rfl) (zqg (on_g hc he) _)) (Eq.trans (dep 6 rfl 13 rfl) (zqg (on_g hc he) _)) (Eq.trans (congrArg Value.bool hp2) (zqg (on_g hc he) _).symm)) (fun hn => vF_no hn _)) ?_
   refine Steps.cons (fun a' w' hG hB dep => zqy (zqa rfl) _ _ _ rfl true (dep 2 rfl 9 rfl) (id (zxq (c := true) rfl (dep 7 rfl 14 rfl)))) ?_
   refine Steps.cons (fun a' w' hG hB dep => zqi (zqa rfl) _ rfl (id (dep 8 rfl 15 rfl))) ?_
   refine Steps.cons (fun a' w' hG hB dep => zqf (c := true) (b' := (true && true)) rfl rfl (dep 9 rfl 16 rfl) (fun hc he hw => zqi hw _ rfl (Eq.trans (hG.other 1 rfl) (zqg (on_g hc he) _).symm)) (fun hn => vF_no hn _)) ?_
   refine Steps.cons (fun a' w' hG hB dep => zqf (c := true) (b' := (true && true)) rfl rfl (dep 9 rfl 16 rfl) (fun hc he hw => zqn hw _ _ _ rfl w.heap.size (0) (257) (hG.other 3 rfl) (fun wz => field_dfa_2 w.heap.size (0) wz) (zqg (on_g hc he) _).symm) (fun hn => vF_no hn _)) ?_
   refine Steps.cons (fun a' w' hG hB dep => zqf (c := true) (b' := (true && true)) rfl rfl (dep 9 rfl 16 rfl) (fun hc he hw => zqj hw _ _ rfl w.heap.size (257) (Eq.trans (dep 11 rfl 18 rfl) (zqg (on_g hc he) _)) (.slice (some ⟨bF, oF, none⟩) x.fo.length x.d) (cF hB) _ Tryz.underlying24 rfl (zqg (on_g hc he) _).symm) (fun hn => vF_no hn _)) ?_
   refine Steps.cons (fun a' w' hG hB dep => zqf (c := true) (b' := (true && true)) rfl rfl (dep 9 rfl 16 rfl) (fun hc he hw => zqi hw _ rfl (Eq.trans (hG.other 2 rfl) (zqg (on_g hc he) _).symm)) (fun hn => vF_no hn _)) ?_
   refine Steps.cons (fun a' w' hG hB dep => zqf (c := true) (b' := (true && true)) rfl rfl (dep 9 rfl 16 rfl) (fun hc he hw => zxu hw _ _ _ rfl zxa 1 size_ruleE bF oF x.fo.length x.d (t) (Eq.trans (dep 12 rfl 19 rfl) (zqg (on_g hc he) _)) (Eq.trans (dep 13 rfl 20 rfl) (zqg (on_g hc he) _)) htF (zqg (on_g hc he) _).symm) (fun hn => vF_no hn _)) ?_
   refine Steps.cons (fun a' w' hG hB dep => zqf (c := true) (b' := (true && true)) rfl rfl (dep 9 rfl 16 rfl) (fun hc he hw => zqj hw _ _ rfl bF (oF + t * 1) (Eq.trans (dep 14 rfl 21 rfl) (zqg (on_g hc he) _)) (.int .u32 (((v : Nat) : Int))) (cv hB) _ Tryz.underlying42 rfl (zqg (on_g hc he) _).symm) (fun hn => vF_no hn _)) ?_
   refine Steps.cons (fun a' w' hG hB dep => zqf (c := true) (b' := (true && true)) rfl rfl (dep 9 rfl 16 rfl) (fun hc he hw => gs_andnot_u32 hw _ _ _ _ rfl (y) (v) (Eq.trans (dep 10 rfl 17 rfl) (zqg (on_g hc he) _)) (Eq.trans (dep 15 rfl 22 rfl) (zqg (on_g hc he) _)) hy32 hv32 (zqg (on_g hc he) _).symm) (fun hn => vF_no hn _)) ?_
   refine Steps.cons (fun a' w' hG hB dep => zqf (c := true) (b' := (true && true)) rfl rfl (dep 9 rfl 16 rfl) (fun hc he hw => zzo hw _ _ _ _ rfl _ _ _ (Eq.trans (dep 16 rfl 23 rfl) (zqg (on_g hc he) _)) rfl (Eq.trans (congrArg Value.bool hq) (zqg (on_g hc he) _).symm)) (fun hn => vF_no hn _)) ?_
   refine Steps.cons (fun a' w' hG hB dep => zqy (zqa rfl) _ _ _ rfl (true && true) (dep 9 rfl 16 rfl) (id (zxq (c := true) rfl (dep 17 rfl 24 rfl)))) ?_
   refine Steps.cons (fun a' w' hG hB dep => zxl (zqa rfl) _ rfl (id (dep 18 rfl 25 rfl))) ?_
   exact Steps.nil
  intro u w2 hw2 ans
  have hus6 : u 6 = (.bool ((true && true) && q)) := ans 19 6 (by decide) rfl
  clear ans
  simp only [zqr, List.foldl_cons, List.foldl_nil, Act.put, List.setIfInBounds_toArray, List.set_cons_zero, List.set_cons_succ, hus6]
  clear hus6
  simp only [List.drop]
  refine wpList_nil ?_
  have hB2 := zqd hB1 hw2
  have hres : (q = true ↔ 0 ≤ ((t : Nat) : Int) ∧ ((t : Nat) : Int) < x.rs.length ∧ y &&& x.fo.getD ((t : Nat) : Int).toNat 0 = y) := by
   rw [vT.out, ← andnot_zero y v hy32 hv32, ← hq, beq_iff_eq]
   constructor
   ·intro h; exact ⟨by omega, by omega, by omega⟩
   ·intro h; have := h.2.2; omega
  replace hres := Lib.hid hres
  clear hp1 hp2 hq hw2 cF cv hzr
  go_wp2_with (fail)
  go_ret
  exact ⟨q, hres.out, by cases q <;> rfl, hB2⟩
 ·obtain ⟨p, hp⟩ : ∃ p, decide ((0 : Int) ≤ z) = p := ⟨_, rfl⟩
  obtain ⟨q, hq⟩ : ∃ q, decide (z < ((x.rs.length : Nat) : Int)) = q := ⟨_, rfl⟩
  have hpq : (p && q) = false := by
   by_cases hz0 : 0 ≤ z
   ·rw [← hq, decide_eq_false (by omega), Bool.and_false]
   ·rw [← hp, decide_eq_false hz0, Bool.false_and]
  have hne : ¬ ((p && q) = true) := by rw [hpq]; decide
  replace hpq := Lib.hid hpq
  refine zqs 20 [eqS (.int .i64 (z)), eqS (.bool p), eqS (.bool p), eqS (vF (true && (p == true)) (.int .i64 (z))), eqS (vF (true && (p == true)) (.pointer (some ⟨w.heap.size, 256, none⟩))), eqS (vF (true && (p == true)) (.slice x.A x.rs.length x.c)), eqS (vF (true && (p == true)) (.int .i64 (((x.rs.length : Nat) : Int)))), eqS (vF (true && (p == true)) (.bool q)), eqS (.bool (p && q)), eqS (.bool (p && q)), eqS (vF (true && ((p && q) == true)) undef), eqS (vF (true && ((p && q) == true)) undef), eqS (vF (true && ((p && q) == true)) undef), eqS (vF (true && ((p && q) == true)) undef), eqS (vF (true && ((p && q) == true)) undef), eqS (vF (true && ((p && q) == true)) undef), eqS (vF (true && ((p && q) == true)) undef), eqS (vF (true && ((p && q) == true)) (.bool false)), eqS (.bool ((p && q) && false)), eqS (.bool ((p && q) && false))] [7, 8, 9, 10, 11, 12, 13, 14, 15, 16, 17, 18, 19, 20, 21, 22, 23, 24, 25, 6] (by kernel_rfl) rfl ?_ ?_
  ·skip
   refine Steps.cons (fun a' w' hG hB dep => zqi (zqa rfl) _ rfl (id (hG.other 2 rfl))) ?_
   refine Steps.cons (fun a' w' hG hB dep => gs_geq_int (zqa rfl) _ _ _ _ rfl _ _ _ (dep 0 rfl 7 rfl) rfl (id (congrArg Value.bool hp))) ?_
   refine Steps.cons (fun a' w' hG hB dep => zqi (zqa rfl) _ rfl (id (dep 1 rfl 8 rfl))) ?_
   refine Steps.cons (fun a' w' hG hB dep => zqf (c := true) (b' := p) rfl rfl (dep 2 rfl 9 rfl) (fun hc he hw => zqi hw _ rfl (Eq.trans (hG.other 2 rfl) (zqg (on_g hc he) _).symm)) (fun hn => vF_no hn _)) ?_
   refine Steps.cons (fun a' w' hG hB dep => zqf (c := true) (b' := p) rfl rfl (dep 2 rfl 9 rfl) (fun hc he hw => zqn hw _ _ _ rfl w.heap.size (0) (256) (hG.other 3 rfl) (fun wz => field_dfa_1 w.heap.size (0) wz) (zqg (on_g hc he) _).symm) (fun hn => vF_no hn _)) ?_
   refine Steps.cons (fun a' w' hG hB dep => zqf (c := true) (b' := p) rfl rfl (dep 2 rfl 9 rfl) (fun hc he hw => zqj hw _ _ rfl w.heap.size (256) (Eq.trans (dep 4 rfl 11 rfl) (zqg (on_g hc he) _)) (.slice x.A x.rs.length x.c) (blk_d1 (zqb h1 hB)) _ Tryz.underlying31 rfl (zqg (on_g hc he) _).symm) (fun hn => vF_no hn _)) ?_
   refine Steps.cons (fun a' w' hG hB dep => zqf (c := true) (b' := p) rfl rfl (dep 2 rfl 9 rfl) (fun hc he hw => gs_len hw _ _ rfl under_rows _ x.rs.length x.c (Eq.trans (dep 5 rfl 12 rfl) (zqg (on_g hc he) _)) (zqg (on_g hc he) _).symm) (fun hn => vF_no hn _)) ?_
   refine Steps.cons (fun a' w' hG hB dep => zqf (c := true) (b' := p) rfl rfl (dep 2 rfl 9 rfl) (fun hc he hw => gs_lss_int hw _ _ _ _ rfl _ _ _ (Eq.trans (dep 3 rfl 10 rfl) (zqg (on_g hc he) _)) (Eq.trans (dep 6 rfl 13 rfl) (zqg (on_g hc he) _)) (Eq.trans (congrArg Value.bool hq) (zqg (on_g hc he) _).symm)) (fun hn => vF_no hn _)) ?_
   refine Steps.cons (fun a' w' hG hB dep => zqy (zqa rfl) _ _ _ rfl p (dep 2 rfl 9 rfl) (id (zxq (c := true) rfl (dep 7 rfl 14 rfl)))) ?_
   refine Steps.cons (fun a' w' hG hB dep => zqi (zqa rfl) _ rfl (id (dep 8 rfl 15 rfl))) ?_
   refine Steps.cons (fun a' w' hG hB dep => zqf (c := true) (b' := (p && q)) rfl rfl (dep 9 rfl 16 rfl) (fun hc he hw => absurd he hne) (fun hn => vF_no hn _)) ?_
   refine Steps.cons (fun a' w' hG hB dep => zqf (c := true) (b' := (p && q)) rfl rfl (dep 9 rfl 16 rfl) (fun hc he hw => absurd he hne) (fun hn => vF_no hn _)) ?_
   refine Steps.cons (fun a' w' hG hB dep => zqf (c := true) (b' := (p && q)) rfl rfl (dep 9 rfl 16 rfl) (fun hc he hw => absurd he hne) (fun hn => vF_no hn _)) ?_
   refine Steps.cons (fun a' w' hG hB dep => zqf (c := true) (b' := (p && q)) rfl rfl (dep 9 rfl 16 rfl) (fun hc he hw => absurd he hne) (fun hn => vF_no hn _)) ?_
   refine Steps.cons (fun a' w' hG hB dep => zqf (c := true) (b' := (p && q)) rfl rfl (dep 9 rfl 16 rfl) (fun hc he hw => absurd he hne) (fun hn => vF_no hn _)) ?_
   refine Steps.cons (fun a' w' hG hB dep => zqf (c := true) (b' := (p && q)) rfl rfl (dep 9 rfl 16 rfl) (fun hc he hw => absurd he hne) (fun hn => vF_no hn _)) ?_
   refine Steps.cons (fun a' w' hG hB dep => zqf (c := true) (b' := (p && q)) rfl rfl (dep 9 rfl 16 rfl) (fun hc he hw => absurd he hne) (fun hn => vF_no hn _)) ?_
   refine Steps.cons (fun a' w' hG hB dep => zqf (c := true) (b' := (p && q)) rfl rfl (dep 9 rfl 16 rfl) (fun hc he hw => absurd he hne) (fun hn => vF_no hn _)) ?_
   refine Steps.cons (fun a' w' hG hB dep => zqy (zqa rfl) _ _ _ rfl (p && q) (dep 9 rfl 16 rfl) (id (zxq (c := true) rfl (dep 17 rfl 24 rfl)))) ?_
   refine Steps.cons (fun a' w' hG hB dep => zxl (zqa rfl) _ rfl (id (dep 18 rfl 25 rfl))) ?_
   exact Steps.nil
  intro u w2 hw2 ans
  have hus6 : u 6 = (.bool ((p && q) && false)) := ans 19 6 (by decide) rfl
  clear ans
  simp only [zqr, List.foldl_cons, List.foldl_nil, Act.put, List.setIfInBounds_toArray, List.set_cons_zero, List.set_cons_succ, hus6]
  clear hus6
  simp only [List.drop]
  refine wpList_nil ?_
  have hB2 := zqd hB1 hw2
  rw [hpq.out]
  clear hp hq hpq hne hw2
  replace hzr := Lib.hid hzr
  go_wp2_with (fail)
  go_ret
  exact ⟨false, ⟨fun h => (by cases h), fun h => absurd ⟨h.1, h.2.1⟩ hzr.out⟩, rfl, hB2⟩
theorem enter_within (args : Array Value) (w : World) : (callFunc 30 args).run Tryz.prog w = .ok (.enter 30 args) w := by kernel_rfl
def withinB (x : TV) (y : Nat) (z : Int) : Bool := decide (0 ≤ z ∧ z < x.rs.length ∧ y &&& x.fo.getD z.toNat 0 = y)
theorem within_any2 (x : TV) (y : Nat) (z : Int) (hy32 : y < 4294967296) (hfo : x.fo.length = x.rs.length) (w : World) (hT : TabIn w w.heap.size x) :
  Calls Tryz.prog 30 #[.agg x.C', .int .u32 (y : Nat), .int .i64 z] w fun e w' => e = .returned (.bool (withinB x y z)) ∧ Below w.heap.size w w' :=
 (within_any x y z hy32 hfo w hT).mono fun e w' ⟨b, hb, he, hB⟩ => ⟨by rw [he, show b = withinB x y z by rw [Bool.eq_iff_iff, hb]; unfold withinB; rw [decide_eq_true_iff]], hB⟩
set_option maxRecDepth 100000 in
set_option maxHeartbeats 4000000 in
theorem s_right_any (x : TV) (w : World) (hT : TabIn w w.heap.size x) :
  Calls Tryz.prog 9 #[.agg x.C'] w fun e w' => e = .returned (.bool (fitsB x.T)) ∧ Below w.heap.size w w' := by
 unfold TV.C'
 go_enter Tryz.func9, Tryz.ntmps9
 obtain ⟨A, hA⟩ : ∃ A, A = x.A := ⟨_, rfl⟩
 have h1 := Blk.new w 33 (dfaC x.f x.A x.rs.length x.c x.B x.fo.length x.d x.C x.en.length x.e)
 have hB1 := zqc (Below.refl w.heap.size w) (.cells (dfaC x.f x.A x.rs.length x.c x.B x.fo.length x.d x.C x.en.length x.e) 33)
 go_upto_region 1 with (fail)
 obtain ⟨w1, hw1⟩ : ∃ y, y = w.alloc (.cells (dfaC x.f x.A x.rs.length x.c x.B x.fo.length x.d x.C x.en.length x.e) 33) := ⟨_, rfl⟩
 rw [← hw1] at h1 hB1 ⊢
 clear hw1 hA A
 have c1 : w1.cell? ⟨w.heap.size, 256, none⟩ = some (.slice x.A x.rs.length x.c) := blk_d1 h1
 go_upto_region 2 with (fail)
 clear c1
 obtain ⟨p1, hp1⟩ : ∃ p, decide (((x.rs.length : Nat) : Int) < 1) = p := ⟨_, rfl⟩
 obtain ⟨p2, hp2⟩ : ∃ p, decide (((x.rs.length : Nat) : Int) > 4096) = p := ⟨_, rfl⟩
 obtain ⟨p3, hp3⟩ : ∃ p, (((x.fo.length : Nat) : Int) != ((x.rs.length : Nat) : Int)) = p := ⟨_, rfl⟩
 obtain ⟨p4, hp4⟩ : ∃ p, (((x.en.length : Nat) : Int) != ((x.rs.length : Nat) : Int)) = p := ⟨_, rfl⟩
 refine zqs 20 [eqS (.int .i64 (((x.rs.length : Nat) : Int))), eqS (.bool p1), eqS (.bool p1), eqS (vF (true && (p1 == false)) (.int .i64 (((x.rs.length : Nat) : Int)))), eqS (vF (true && (p1 == false)) (.bool p2)), eqS (.bool (p1 || p2)), eqS (.bool (p1 || p2)), eqS (vF (true && ((p1 || p2) == false)) (.pointer (some ⟨w.heap.size, 257, none⟩))), eqS (vF (true && ((p1 || p2) == false)) (.slice x.B x.fo.length x.d)), eqS (vF (true && ((p1 || p2) == false)) (.int .i64 (((x.fo.length : Nat) : Int)))), eqS (vF (true && ((p1 || p2) == false)) (.int .i64 (((x.rs.length : Nat) : Int)))), eqS (vF (true && ((p1 || p2) == false)) (.bool p3)), eqS (.bool ((p1 || p2) || p3)), eqS (.bool ((p1 || p2) || p3)), eqS (vF (true && (((p1 || p2) || p3) == false)) (.pointer (some ⟨w.heap.size, 258, none⟩))), eqS (vF (true && (((p1 || p2) || p3) == false)) (.slice x.C x.en.length x.e)), eqS (vF (true && (((p1 || p2) || p3) == false)) (.int .i64 (((x.en.length : Nat) : Int)))), eqS (vF (true && (((p1 || p2) || p3) == false)) (.int .i64 (((x.rs.length : Nat) : Int)))), eqS (vF (true && (((p1 || p2) || p3) == false)) (.bool p4)), eqS (.bool (((p1 || p2) || p3) || p4))] [14, 15, 16, 17, 18, 19, 20, 21, 22, 23, 24, 25, 26, 27, 28, 29, 30, 31, 32, 33] (by kernel_rfl) rfl ?_ ?_
 ·skip
  refine Steps.cons (fun a' w' hG hB dep => zqi (zqa rfl) _ rfl (id (hG.other 3 rfl))) ?_
  refine Steps.cons (fun a' w' hG hB dep => gs_lss_int (zqa rfl) _ _ _ _ rfl _ _ _ (dep 0 rfl 14 rfl) rfl (id (congrArg Value.bool hp1))) ?_
  refine Steps.cons (fun a' w' hG hB dep => zqi (zqa rfl) _ rfl (id (dep 1 rfl 15 rfl))) ?_
  refine Steps.cons (fun a' w' hG hB dep => zqf (c := true) (b' := p1) rfl rfl (dep 2 rfl 16 rfl) (fun hc he hw => zqi hw _ rfl (Eq.trans (hG.other 3 rfl) (zqg (on_g hc he) _).symm)) (fun hn => vF_no hn _)) ?_
  refine Steps.cons (fun a' w' hG hB dep => zqf (c := true) (b' := p1) rfl rfl (dep 2 rfl 16 rfl) (fun hc he hw => gs_gtr_int hw _ _ _ _ rfl _ _ _ (Eq.trans (dep 3 rfl 17 rfl) (zqg (on_g hc he) _)) rfl (Eq.trans (congrArg Value.bool hp2) (zqg (on_g hc he) _).symm)) (fun hn => vF_no hn _)) ?_
  refine Steps.cons (fun a' w' hG hB dep => zqy (zqa rfl) _ _ _ rfl p1 (dep 2 rfl 16 rfl) (id (zzr (c := true) rfl (dep 4 rfl 18 rfl)))) ?_
  refine Steps.cons (fun a' w' hG hB dep => zqi (zqa rfl) _ rfl (id (dep 5 rfl 19 rfl))) ?_
  refine Steps.cons (fun a' w' hG hB dep => zqf (c := true) (b' := (p1 || p2)) rfl rfl (dep 6 rfl 20 rfl) (fun hc he hw => zqn hw _ _ _ rfl w.heap.size (0) (257) (hG.other 1 rfl) (fun wz => field_dfa_2 w.heap.size (0) wz) (zqg (on_g hc he) _).symm) (fun hn => vF_no hn _)) ?_
  refine Steps.cons (fun a' w' hG hB dep => zqf (c := true) (b' := (p1 || p2)) rfl rfl (dep 6 rfl 20 rfl) (fun hc he hw => zqj hw _ _ rfl w.heap.size (257) (Eq.trans (dep 7 rfl 21 rfl) (zqg (on_g hc he) _)) (.slice x.B x.fo.length x.d) (blk_d2 (zqb h1 hB)) _ Tryz.underlying24 rfl (zqg (on_g hc he) _).symm) (fun hn => vF_no hn _)) ?_
  refine Steps.cons (fun a' w' hG hB dep => zqf (c := true) (b' := (p1 || p2)) rfl rfl (dep 6 rfl 20 rfl) (fun hc he hw => gs_len hw _ _ rfl zxa _ x.fo.length x.d (Eq.trans (dep 8 rfl 22 rfl) (zqg (on_g hc he) _)) (zqg (on_g hc he) _).symm) (fun hn => vF_no hn _)) ?_
  refine Steps.cons (fun a' w' hG hB dep => zqf (c := true) (b' := (p1 || p2)) rfl rfl (dep 6 rfl 20 rfl) (fun hc he hw => zqi hw _ rfl (Eq.trans (hG.other 3 rfl) (zqg (on_g hc he) _).symm)) (fun hn => vF_no hn _)) ?_
  refine Steps.cons (fun a' w' hG hB dep => zqf (c := true) (b' := (p1 || p2)) rfl rfl (dep 6 rfl 20 rfl) (fun hc he hw => zzn hw _ _ _ _ rfl _ _ _ (Eq.trans (dep 9 rfl 23 rfl) (zqg (on_g hc he) _)) (Eq.trans (dep 10 rfl 24 rfl) (zqg (on_g hc he) _)) (Eq.trans (congrArg Value.bool hp3) (zqg (on_g hc he) _).symm)) (fun hn => vF_no hn _)) ?_
  refine Steps.cons (fun a' w' hG hB dep => zqy (zqa rfl) _ _ _ rfl (p1 || p2) (dep 6 rfl 20 rfl) (id (zzr (c := true) rfl (dep 11 rfl 25 rfl)))) ?_
  refine Steps.cons (fun a' w' hG hB dep => zqi (zqa rfl) _ rfl (id (dep 12 rfl 26 rfl))) ?_
  refine Steps.cons (fun a' w' hG hB dep => zqf (c := true) (b' := ((p1 || p2) || p3)) rfl rfl (dep 13 rfl 27 rfl) (fun hc he hw => zqn hw _ _ _ rfl w.heap.size (0) (258) (hG.other 1 rfl) (fun wz => field_dfa_3 w.heap.size (0) wz) (zqg (on_g hc he) _).symm) (fun hn => vF_no hn _)) ?_
  refine Steps.cons (fun a' w' hG hB dep => zqf (c := true) (b' := ((p1 || p2) || p3)) rfl rfl (dep 13 rfl 27 rfl) (fun hc he hw => zqj hw _ _ rfl w.heap.size (258) (Eq.trans (dep 14 rfl 28 rfl) (zqg (on_g hc he) _)) (.slice x.C x.en.length x.e) (blk_d3 (zqb h1 hB)) _ Tryz.underlying24 rfl (zqg (on_g hc he) _).symm) (fun hn => vF_no hn _)) ?_
  refine Steps.cons (fun a' w' hG hB dep => zqf (c := true) (b' := ((p1 || p2) || p3)) rfl rfl (dep 13 rfl 27 rfl) (fun hc he hw => gs_len hw _ _ rfl zxa _ x.en.length x.e (Eq.trans (dep 15 rfl 29 rfl) (zqg (on_g hc he) _)) (zqg (on_g hc he) _).symm) (fun hn => vF_no hn _)) ?_
  refine Steps.cons (fun a' w' hG hB dep => zqf (c := true) (b' := ((p1 || p2) || p3)) rfl rfl (dep 13 rfl 27 rfl) (fun hc he hw => zqi hw _ rfl (Eq.trans (hG.other 3 rfl) (zqg (on_g hc he) _).symm)) (fun hn => vF_no hn _)) ?_
  refine Steps.cons (fun a' w' hG hB dep => zqf (c := true) (b' := ((p1 || p2) || p3)) rfl rfl (dep 13 rfl 27 rfl) (fun hc he hw => zzn hw _ _ _ _ rfl _ _ _ (Eq.trans (dep 16 rfl 30 rfl) (zqg (on_g hc he) _)) (Eq.trans (dep 17 rfl 31 rfl) (zqg (on_g hc he) _)) (Eq.trans (congrArg Value.bool hp4) (zqg (on_g hc he) _).symm)) (fun hn => vF_no hn _)) ?_
  refine Steps.cons (fun a' w' hG hB dep => zqy (zqa rfl) _ _ _ rfl ((p1 || p2) || p3) (dep 13 rfl 27 rfl) (id (zzr (c := true) rfl (dep 18 rfl 32 rfl)))) ?_
  exact Steps.nil
 intro u w2 hw2 ans
 have hus33 : u 33 = (.bool (((p1 || p2) || p3) || p4)) := ans 19 33 (by decide) rfl
 clear ans
 simp only [zqr, List.foldl_cons, List.foldl_nil, Act.put, List.setIfInBounds_toArray, List.set_cons_zero, List.set_cons_succ, hus33]
 clear hus33
 simp only [List.drop]
 refine wpList_nil ?_
 have hB2 := zqd hB1 hw2
 replace h1 := zqb h1 hw2
 clear hw2 hB1
 obtain ⟨r, hr⟩ : ∃ r, (((p1 || p2) || p3) || p4) = r := ⟨_, rfl⟩
 rw [hr]
 cases r with
 | true =>
   have hno : ¬ s_Fits x.T := fun hF => by
    have e1 := hF.n1
    have e2 := hF.n2
    have e3 := hF.nf
    have e4 := hF.ne
    rw [fits_n] at e1 e2 e3 e4
    replace e3 : x.fo.length = x.rs.length := e3
    replace e4 : x.en.length = x.rs.length := e4
    have q1 : p1 = false := by rw [← hp1]; exact decide_eq_false (by omega)
    have q2 : p2 = false := by rw [← hp2]; exact decide_eq_false (by omega)
    have q3 : p3 = false := by rw [← hp3, e3]; exact bne_self_eq_false _
    have q4 : p4 = false := by rw [← hp4, e4]; exact bne_self_eq_false _
    rw [q1, q2, q3, q4] at hr
    cases hr
   have hv := Lib.hid (fitsB_no hno)
   clear hr hp1 hp2 hp3 hp4
   go_wp2_with (fail)
   go_ret
   exact ⟨by rw [hv.out]; rfl, hB2⟩
 | false =>
   simp only [Bool.or_eq_false_iff] at hr
   obtain ⟨⟨⟨rfl, rfl⟩, rfl⟩, rfl⟩ := hr
   have n1 : 1 ≤ x.rs.length := by have := of_decide_eq_false hp1; omega
   have n2 : x.rs.length ≤ 4096 := by have := of_decide_eq_false hp2; omega
   have n3 : x.fo.length = x.rs.length := by rw [bne_nat] at hp3; exact Decidable.not_not.1 (of_decide_eq_false hp3)
   have n4 : x.en.length = x.rs.length := by rw [bne_nat] at hp4; exact Decidable.not_not.1 (of_decide_eq_false hp4)
   clear hp1 hp2 hp3 hp4
   replace n3 := Lib.hid n3
   replace n4 := Lib.hid n4
   obtain ⟨bN, oN, hA, hbN, hrows⟩ := hT.rows.at_ (by omega)
   have c1 : w2.cell? ⟨w.heap.size, 256, none⟩ = some (.slice (some ⟨bN, oN, none⟩) x.rs.length x.c) := by rw [← hA]; exact blk_d1 h1
   have c2 : w2.cell? ⟨bN, oN, none⟩ = some (.slice x.rs[0].a x.rs[0].l.length x.rs[0].c) := by
    have c2' : w2.cell? ⟨bN, oN + 0 * 1 + 0, none⟩ = some (.slice x.rs[0].a x.rs[0].l.length x.rs[0].c) := cell_keep (hrows 0 (by omega) 0 _ rfl) hbN hB2
    simpa using c2'
   have hmany := many_at (x := x) (by omega)
   obtain ⟨m, hm⟩ : ∃ m, m = x.rs[0].l.length := ⟨_, rfl⟩
   rw [← hm] at hmany c2
   have Hm := Lib.hid hm
   have Hmany := Lib.hid hmany
   clear hm hmany
   have hn1 : (0 : Int) < x.rs.length := by omega
   replace hA := Lib.hid hA
   go_upto_region 5 with (fail)
   clear c1 c2
   obtain ⟨p5, hp5⟩ : ∃ p, decide (((m : Nat) : Int) < 1) = p := ⟨_, rfl⟩
   obtain ⟨p6, hp6⟩ : ∃ p, decide (((m : Nat) : Int) > 256) = p := ⟨_, rfl⟩
   refine zqs 6 [eqS (.int .i64 (((m : Nat) : Int))), eqS (.bool p5), eqS (.bool p5), eqS (vF (true && (p5 == false)) (.int .i64 (((m : Nat) : Int)))), eqS (vF (true && (p5 == false)) (.bool p6)), eqS (.bool (p5 || p6))] [39, 40, 41, 42, 43, 44] (by kernel_rfl) rfl ?_ ?_
   ·skip
    refine Steps.cons (fun a' w' hG hB dep => zqi (zqa rfl) _ rfl (id (hG.other 4 rfl))) ?_
    refine Steps.cons (fun a' w' hG hB dep => gs_lss_int (zqa rfl) _ _ _ _ rfl _ _ _ (dep 0 rfl 39 rfl) rfl (id (congrArg Value.bool hp5))) ?_
    refine Steps.cons (fun a' w' hG hB dep => zqi (zqa rfl) _ rfl (id (dep 1 rfl 40 rfl))) ?_
    refine Steps.cons (fun a' w' hG hB dep => zqf (c := true) (b' := p5) rfl rfl (dep 2 rfl 41 rfl) (fun hc he hw => zqi hw _ rfl (Eq.trans (hG.other 4 rfl) (zqg (on_g hc he) _).symm)) (fun hn => vF_no hn _)) ?_
    refine Steps.cons (fun a' w' hG hB dep => zqf (c := true) (b' := p5) rfl rfl (dep 2 rfl 41 rfl) (fun hc he hw => gs_gtr_int hw _ _ _ _ rfl _ _ _ (Eq.trans (dep 3 rfl 42 rfl) (zqg (on_g hc he) _)) rfl (Eq.trans (congrArg Value.bool hp6) (zqg (on_g hc he) _).symm)) (fun hn => vF_no hn _)) ?_
    refine Steps.cons (fun a' w' hG hB dep => zqy (zqa rfl) _ _ _ rfl p5 (dep 2 rfl 41 rfl) (id (zzr (c := true) rfl (dep 4 rfl 43 rfl)))) ?_
    exact Steps.nil
   intro u w3 hw3 ans
   have hus44 : u 44 = (.bool (p5 || p6)) := ans 5 44 (by decide) rfl
   clear ans
   simp only [zqr, List.foldl_cons, List.foldl_nil, Act.put, List.setIfInBounds_toArray, List.set_cons_zero, List.set_cons_succ, hus44]
   clear hus44
   simp only [List.drop]
   refine wpList_nil ?_
   have hB3 := zqd hB2 hw3
   replace h1 := zqb h1 hw3
   clear hw3 hB2
   obtain ⟨r, hr⟩ : ∃ r, (p5 || p6) = r := ⟨_, rfl⟩
   rw [hr]
   cases r with
   | true =>
     have hno : ¬ s_Fits x.T := fun hF => by
      have e1 := hF.m1
      have e2 := hF.m2
      rw [Hmany.out] at e1 e2
      have q1 : p5 = false := by rw [← hp5]; exact decide_eq_false (by omega)
      have q2 : p6 = false := by rw [← hp6]; exact decide_eq_false (by omega)
      rw [q1, q2] at hr
      cases hr
     have hv := Lib.hid (fitsB_no hno)
     clear hr hp5 hp6
     go_wp2_with (fail)
     go_ret
     exact ⟨by rw [hv.out]; rfl, hB3⟩
   | false =>
     simp only [Bool.or_eq_false_iff] at hr
     obtain ⟨rfl, rfl⟩ := hr
     have m1 : 1 ≤ m := by have := of_decide_eq_false hp5; omega
     have m2 : m ≤ 256 := by have := of_decide_eq_false hp6; omega
     clear hp5 hp6
     have hrc := dfaC_cls _ _ _ _ _ _ _ _ _ _ (RowAt.of_blk h1)
     go_upto_region 8 with (refine s_wl_load_cls rfl _ rfl _ rfl _ hrc ?_)
     clear hrc
     go_loopw [47, 6] (fun iv _ wr => ∃ b : Nat, b ≤ 256 ∧ iv = .int .i64 b ∧ Below w.heap.size w wr ∧ Blk wr w.heap.size 33 (dfaC x.f x.A x.rs.length x.c x.B x.fo.length x.d x.C x.en.length x.e) ∧ (∀ j, j < b → 0 ≤ x.f j ∧ x.f j < m)) (fun iv _ _ => 256 - (intOf iv).toNat)
     case atStart => exact ⟨0, by omega, rfl, hB3, h1, fun j hj => by omega⟩
     case round =>
      clear h1 hB3
      obtain ⟨b, hb, rfl, hB3, h1, hall⟩ := hrel
      replace hall := Lib.hid hall
      by_cases hbl : b < 256
      ·have hbI : (b : Int) < 256 := by omega
       obtain ⟨z, hz⟩ : ∃ z, z = x.f b := ⟨_, rfl⟩
       have ci : ∀ w, (Instr.index 30 (.agg (clsC x.f)) (.int .i64 (b : Int))).run Tryz.prog w = .ok (.int .i64 z) w := fun w => by rw [hz]; exact run_index_cls w x.f b hbl
       replace hz := Lib.hid hz
       go_upto_region 10 with (fail)
       obtain ⟨p7, hp7⟩ : ∃ p, decide (z < 0) = p := ⟨_, rfl⟩
       obtain ⟨p8, hp8⟩ : ∃ p, decide (((m : Nat) : Int) ≤ z) = p := ⟨_, rfl⟩
       clear ci
       refine zqs 7 [eqS (.int .i64 (z)), eqS (.bool p7), eqS (.bool p7), eqS (vF (true && (p7 == false)) (.int .i64 (z))), eqS (vF (true && (p7 == false)) (.int .i64 (((m : Nat) : Int)))), eqS (vF (true && (p7 == false)) (.bool p8)), eqS (.bool (p7 || p8))] [50, 51, 52, 53, 54, 55, 56] (by kernel_rfl) rfl ?_ ?_
       ·skip
        refine Steps.cons (fun a' w' hG hB dep => zqi (zqa rfl) _ rfl (id (hG.other 6 rfl))) ?_
        refine Steps.cons (fun a' w' hG hB dep => gs_lss_int (zqa rfl) _ _ _ _ rfl _ _ _ (dep 0 rfl 50 rfl) rfl (id (congrArg Value.bool hp7))) ?_
        refine Steps.cons (fun a' w' hG hB dep => zqi (zqa rfl) _ rfl (id (dep 1 rfl 51 rfl))) ?_
        refine Steps.cons (fun a' w' hG hB dep => zqf (c := true) (b' := p7) rfl rfl (dep 2 rfl 52 rfl) (fun hc he hw => zqi hw _ rfl (Eq.trans (hG.other 6 rfl) (zqg (on_g hc he) _).symm)) (fun hn => vF_no hn _)) ?_
        refine Steps.cons (fun a' w' hG hB dep => zqf (c := true) (b' := p7) rfl rfl (dep 2 rfl 52 rfl) (fun hc he hw => zqi hw _ rfl (Eq.trans (hG.other 4 rfl) (zqg (on_g hc he) _).symm)) (fun hn => vF_no hn _)) ?_
        refine Steps.cons (fun a' w' hG hB dep => zqf (c := true) (b' := p7) rfl rfl (dep 2 rfl 52 rfl) (fun hc he hw => gs_geq_int hw _ _ _ _ rfl _ _ _ (Eq.trans (dep 3 rfl 53 rfl) (zqg (on_g hc he) _)) (Eq.trans (dep 4 rfl 54 rfl) (zqg (on_g hc he) _)) (Eq.trans (congrArg Value.bool hp8) (zqg (on_g hc he) _).symm)) (fun hn => vF_no hn _)) ?_
        refine Steps.cons (fun a' w' hG hB dep => zqy (zqa rfl) _ _ _ rfl p7 (dep 2 rfl 52 rfl) (id (zzr (c := true) rfl (dep 5 rfl 55 rfl)))) ?_
        exact Steps.nil
       intro u w4 hw4 ans
       have hus56 : u 56 = (.bool (p7 || p8)) := ans 6 56 (by decide) rfl
       clear ans
       simp only [zqr, List.foldl_cons, List.foldl_nil, Act.put, List.setIfInBounds_toArray, List.set_cons_zero, List.set_cons_succ, hus56]
       clear hus56
       simp only [List.drop]
       refine wpList_nil ?_
       have hB4 := zqd hB3 hw4
       replace h1 := zqb h1 hw4
       clear hw4
       obtain ⟨r, hr⟩ : ∃ r, (p7 || p8) = r := ⟨_, rfl⟩
       rw [hr]
       cases r with
       | true =>
         have hno : ¬ s_Fits x.T := fun hF => by
          have e1 := hF.cl b hbl
          rw [Hmany.out, show x.T.cls b = z from hz.out.symm] at e1
          have q1 : p7 = false := by rw [← hp7]; exact decide_eq_false (by omega)
          have q2 : p8 = false := by rw [← hp8]; exact decide_eq_false (by omega)
          rw [q1, q2] at hr
          cases hr
         have hv := Lib.hid (fitsB_no hno)
         clear hr hp7 hp8
         go_wp2_with (fail)
         go_ret
         exact ⟨by rw [hv.out]; rfl, hB4⟩
       | false =>
         simp only [Bool.or_eq_false_iff] at hr
         obtain ⟨rfl, rfl⟩ := hr
         have z1 : 0 ≤ z ∧ z < m := by have := of_decide_eq_false hp7; have := of_decide_eq_false hp8; omega
         have hZ := Lib.hid z1
         clear hp7 hp8 z1
         go_wp2_with (fail)
         exact ⟨⟨b + 1, by omega, rfl, hB4, h1, fun j hj => by
          rcases Nat.lt_or_ge j b with h | h
          ·exact hall.out j h
          ·have : j = b := by omega
           subst this
           rw [← hz.out]
           exact hZ.out⟩, by simp only [intOf]; omega⟩
      ·have hbI : ¬ (b : Int) < 256 := by omega
       have hcls : ∀ j, j < 256 → 0 ≤ x.f j ∧ x.f j < m := fun j hj => hall.out j (by omega)
       replace hcls := Lib.hid hcls
       clear hall
       have c1 : wr.cell? ⟨w.heap.size, 256, none⟩ = some (.slice (some ⟨bN, oN, none⟩) x.rs.length x.c) := by rw [← hA.out]; exact blk_d1 h1
       go_upto_region 14 with (fail)
       clear c1
       obtain ⟨bF, oF, hFo, hbF, hrF⟩ := hT.fo.at_ (by have := n3.out; omega)
       obtain ⟨bE, oE, hEn, hbE, hrE⟩ := hT.en.at_ (by have := n4.out; omega)
       replace hFo := Lib.hid hFo
       replace hEn := Lib.hid hEn
       clear hbI hbl hb
       go_loopw [61] (fun iv wr => ∃ s : Nat, s ≤ x.rs.length ∧ iv = .int .i64 s ∧ Below w.heap.size w wr ∧ Blk wr w.heap.size 33 (dfaC x.f x.A x.rs.length x.c x.B x.fo.length x.d x.C x.en.length x.e) ∧ (∀ j, j < s → RowOk x.T j ∧ ∀ c, c < m → ToOk x.T j (x.T.nxt j (c : Nat)))) (fun iv _ => x.rs.length - (intOf iv).toNat)
       case atStart => exact ⟨0, by omega, rfl, hB3, h1, fun j hj => by omega⟩
       case round =>
        clear h1 hB3
        obtain ⟨s, hs, rfl, hB3, h1, hall⟩ := hrel
        replace hall := Lib.hid hall
        by_cases hsl : s < x.rs.length
        ·have hsI : (s : Int) < x.rs.length := by omega
         have hsF : s < x.fo.length := by rw [n3.out]; exact hsl
         have hsE : s < x.en.length := by rw [n4.out]; exact hsl
         obtain ⟨r, hr⟩ : ∃ r, r = x.rs[s] := ⟨_, rfl⟩
         obtain ⟨y, hy⟩ : ∃ y, y = x.fo[s] := ⟨_, rfl⟩
         obtain ⟨e, he⟩ : ∃ e, e = x.en[s] := ⟨_, rfl⟩
         have hy32 : y < 4294967296 := by rw [hy]; exact hT.f32 _ (List.getElem_mem _)
         have he32 : e < 4294967296 := by rw [he]; exact hT.e32 _ (List.getElem_mem _)
         have hrow := hT.row _ (List.getElem_mem hsl)
         rw [← hr] at hrow
         have c2 : wr.cell? ⟨bN, oN + s, none⟩ = some (.slice r.a r.l.length r.c) := by
          rw [hr]
          have := cell_keep (hrows s hsl 0 _ rfl) hbN hB3
          rw [show oN + s * 1 + 0 = oN + s by omega] at this
          exact this
         have cF : ∀ {X : World}, Below wr.heap.size wr X → X.cell? ⟨w.heap.size, 257, none⟩ = some (.slice (some ⟨bF, oF, none⟩) x.fo.length x.d) := fun hB => by rw [← hFo.out]; exact blk_d2 (zqb h1 hB)
         have cE : ∀ {X : World}, Below wr.heap.size wr X → X.cell? ⟨w.heap.size, 258, none⟩ = some (.slice (some ⟨bE, oE, none⟩) x.en.length x.e) := fun hB => by rw [← hEn.out]; exact blk_d3 (zqb h1 hB)
         have cy : ∀ {X : World}, Below wr.heap.size wr X → X.cell? ⟨bF, oF + s * 1, none⟩ = some (.int .u32 ((y : Nat) : Int)) := fun hB => by rw [hy]; exact cell_keep (hrF s hsF 0 _ rfl) hbF (zqd hB3 hB)
         have ce : ∀ {X : World}, Below wr.heap.size wr X → X.cell? ⟨bE, oE + s * 1, none⟩ = some (.int .u32 ((e : Nat) : Int)) := fun hB => by rw [he]; exact cell_keep (hrE s hsE 0 _ rfl) hbE (zqd hB3 hB)
         have yT : x.T.fo.getD s 0 = y := by rw [hy]; exact getD_at x.fo 0 hsF
         have eT : x.T.en.getD s 0 = e := by rw [he]; exact getD_at x.en 0 hsE
         have rT : x.T.nx.getD s [] = r.l := by rw [s_row_at hsl, hr]
         replace hr := Lib.hid hr
         replace yT := Lib.hid yT
         replace eT := Lib.hid eT
         replace rT := Lib.hid rT
         clear hy he
         go_upto_region 16 with (fail)
         clear c2
         obtain ⟨p, hp⟩ : ∃ p, (((r.l.length : Nat) : Int) != ((m : Nat) : Int)) = p := ⟨_, rfl⟩
         obtain ⟨q, hq⟩ : ∃ q, (((y &&& (4294967295 - e) : Nat) : Int) != 0) = q := ⟨_, rfl⟩
         refine zql 18 [eqS (.slice r.a r.l.length r.c), eqS (.int .i64 (((r.l.length : Nat) : Int))), eqS (.int .i64 (((m : Nat) : Int))), eqS (.bool p), eqS (.bool p), eqS (vF (true && (p == false)) (.pointer (some ⟨w.heap.size, 257, none⟩))), eqS (vF (true && (p == false)) (.slice (some ⟨bF, oF, none⟩) x.fo.length x.d)), eqS (vF (true && (p == false)) (.int .i64 (((s : Nat) : Int)))), eqS (vF (true && (p == false)) (.pointer (some ⟨bF, oF + s * 1, none⟩))), eqS (vF (true && (p == false)) (.int .u32 (((y : Nat) : Int)))), eqS (vF (true && (p == false)) (.pointer (some ⟨w.heap.size, 258, none⟩))), eqS (vF (true && (p == false)) (.slice (some ⟨bE, oE, none⟩) x.en.length x.e)), eqS (vF (true && (p == false)) (.int .i64 (((s : Nat) : Int)))), eqS (vF (true && (p == false)) (.pointer (some ⟨bE, oE + s * 1, none⟩))), eqS (vF (true && (p == false)) (.int .u32 (((e : Nat) : Int)))), eqS (vF (true && (p == false)) (.int .u32 ((((y) &&& (4294967295 - (e)) : Nat) : Int)))), eqS (vF (true && (p == false)) (.bool q)), eqS (.bool (p || q))] [66, 67, 68, 69, 70, 71, 72, 73, 74, 75, 76, 77, 78, 79, 80, 81, 82, 83] rfl (by kernel_rfl) rfl ?_ ?_
         ·skip
          refine Steps.cons (fun a' w' hG hB dep => zqi (zqa rfl) _ rfl (id (hG.other 8 rfl))) ?_
          refine Steps.cons (fun a' w' hG hB dep => gs_len (zqa rfl) _ _ rfl under_ints _ r.l.length r.c (dep 0 rfl 66 rfl) rfl) ?_
          refine Steps.cons (fun a' w' hG hB dep => zqi (zqa rfl) _ rfl (id (hG.other 4 rfl))) ?_
          refine Steps.cons (fun a' w' hG hB dep => zzn (zqa rfl) _ _ _ _ rfl _ _ _ (dep 1 rfl 67 rfl) (dep 2 rfl 68 rfl) (id (congrArg Value.bool hp))) ?_
          refine Steps.cons (fun a' w' hG hB dep => zqi (zqa rfl) _ rfl (id (dep 3 rfl 69 rfl))) ?_
          refine Steps.cons (fun a' w' hG hB dep => zqf (c := true) (b' := p) rfl rfl (dep 4 rfl 70 rfl) (fun hc he hw => zqn hw _ _ _ rfl w.heap.size (0) (257) (hG.other 1 rfl) (fun wz => field_dfa_2 w.heap.size (0) wz) (zqg (on_g hc he) _).symm) (fun hn => vF_no hn _)) ?_
          refine Steps.cons (fun a' w' hG hB dep => zqf (c := true) (b' := p) rfl rfl (dep 4 rfl 70 rfl) (fun hc he hw => zqj hw _ _ rfl w.heap.size (257) (Eq.trans (dep 5 rfl 71 rfl) (zqg (on_g hc he) _)) (.slice (some ⟨bF, oF, none⟩) x.fo.length x.d) (cF hB) _ Tryz.underlying24 rfl (zqg (on_g hc he) _).symm) (fun hn => vF_no hn _)) ?_
          refine Steps.cons (fun a' w' hG hB dep => zqf (c := true) (b' := p) rfl rfl (dep 4 rfl 70 rfl) (fun hc he hw => zqi hw _ rfl (Eq.trans (hG.other 7 rfl) (zqg (on_g hc he) _).symm)) (fun hn => vF_no hn _)) ?_
          refine Steps.cons (fun a' w' hG hB dep => zqf (c := true) (b' := p) rfl rfl (dep 4 rfl 70 rfl) (fun hc he hw => zxu hw _ _ _ rfl zxa 1 size_ruleE bF oF x.fo.length x.d (s) (Eq.trans (dep 6 rfl 72 rfl) (zqg (on_g hc he) _)) (Eq.trans (dep 7 rfl 73 rfl) (zqg (on_g hc he) _)) hsF (zqg (on_g hc he) _).symm) (fun hn => vF_no hn _)) ?_
          refine Steps.cons (fun a' w' hG hB dep => zqf (c := true) (b' := p) rfl rfl (dep 4 rfl 70 rfl) (fun hc he hw => zqj hw _ _ rfl bF (oF + s * 1) (Eq.trans (dep 8 rfl 74 rfl) (zqg (on_g hc he) _)) (.int .u32 (((y : Nat) : Int))) (cy hB) _ Tryz.underlying42 rfl (zqg (on_g hc he) _).symm) (fun hn => vF_no hn _)) ?_
          refine Steps.cons (fun a' w' hG hB dep => zqf (c := true) (b' := p) rfl rfl (dep 4 rfl 70 rfl) (fun hc he hw => zqn hw _ _ _ rfl w.heap.size (0) (258) (hG.other 1 rfl) (fun wz => field_dfa_3 w.heap.size (0) wz) (zqg (on_g hc he) _).symm) (fun hn => vF_no hn _)) ?_
          refine Steps.cons (fun a' w' hG hB dep => zqf (c := true) (b' := p) rfl rfl (dep 4 rfl 70 rfl) (fun hc he hw => zqj hw _ _ rfl w.heap.size (258) (Eq.trans (dep 10 rfl 76 rfl) (zqg (on_g hc he) _)) (.slice (some ⟨bE, oE, none⟩) x.en.length x.e) (cE hB) _ Tryz.underlying24 rfl (zqg (on_g hc he) _).symm) (fun hn => vF_no hn _)) ?_
          refine Steps.cons (fun a' w' hG hB dep => zqf (c := true) (b' := p) rfl rfl (dep 4 rfl 70 rfl) (fun hc he hw => zqi hw _ rfl (Eq.trans (hG.other 7 rfl) (zqg (on_g hc he) _).symm)) (fun hn => vF_no hn _)) ?_
          refine Steps.cons (fun a' w' hG hB dep => zqf (c := true) (b' := p) rfl rfl (dep 4 rfl 70 rfl) (fun hc he hw => zxu hw _ _ _ rfl zxa 1 size_ruleE bE oE x.en.length x.e (s) (Eq.trans (dep 11 rfl 77 rfl) (zqg (on_g hc he) _)) (Eq.trans (dep 12 rfl 78 rfl) (zqg (on_g hc he) _)) hsE (zqg (on_g hc he) _).symm) (fun hn => vF_no hn _)) ?_
          refine Steps.cons (fun a' w' hG hB dep => zqf (c := true) (b' := p) rfl rfl (dep 4 rfl 70 rfl) (fun hc he hw => zqj hw _ _ rfl bE (oE + s * 1) (Eq.trans (dep 13 rfl 79 rfl) (zqg (on_g hc he) _)) (.int .u32 (((e : Nat) : Int))) (ce hB) _ Tryz.underlying42 rfl (zqg (on_g hc he) _).symm) (fun hn => vF_no hn _)) ?_
          refine Steps.cons (fun a' w' hG hB dep => zqf (c := true) (b' := p) rfl rfl (dep 4 rfl 70 rfl) (fun hc he hw => gs_andnot_u32 hw _ _ _ _ rfl (y) (e) (Eq.trans (dep 9 rfl 75 rfl) (zqg (on_g hc he) _)) (Eq.trans (dep 14 rfl 80 rfl) (zqg (on_g hc he) _)) hy32 he32 (zqg (on_g hc he) _).symm) (fun hn => vF_no hn _)) ?_
          refine Steps.cons (fun a' w' hG hB dep => zqf (c := true) (b' := p) rfl rfl (dep 4 rfl 70 rfl) (fun hc he hw => zzn hw _ _ _ _ rfl _ _ _ (Eq.trans (dep 15 rfl 81 rfl) (zqg (on_g hc he) _)) rfl (Eq.trans (congrArg Value.bool hq) (zqg (on_g hc he) _).symm)) (fun hn => vF_no hn _)) ?_
          refine Steps.cons (fun a' w' hG hB dep => zqy (zqa rfl) _ _ _ rfl p (dep 4 rfl 70 rfl) (id (zzr (c := true) rfl (dep 16 rfl 82 rfl)))) ?_
          exact Steps.nil
         intro u w6 hw6 ans
         have hus83 : u 83 = (.bool (p || q)) := ans 17 83 (by decide) rfl
         clear ans
         simp only [zqr, List.foldl_cons, List.foldl_nil, Act.put, List.setIfInBounds_toArray, List.set_cons_zero, List.set_cons_succ, hus83]
         clear hus83
         simp only [List.drop]
         refine wpList_nil ?_
         have hB6 := zqd hB3 hw6
         replace h1 := zqb h1 hw6
         obtain ⟨rr, hrr⟩ : ∃ r, (p || q) = r := ⟨_, rfl⟩
         rw [hrr]
         cases rr with
         | true =>
           have hno : ¬ s_Fits x.T := fun hF => by
            have e1 := hF.row s (by rw [fits_n]; exact hsl)
            have e2 := hF.fe s (by rw [fits_n]; exact hsl)
            rw [rT.out, Hmany.out] at e1
            rw [yT.out, eT.out] at e2
            have q1 : p = false := by rw [← hp, e1]; exact bne_self_eq_false _
            have q2 : q = false := by rw [← hq, (andnot_zero y e hy32 he32).2 e2]; rfl
            rw [q1, q2] at hrr
            cases hrr
           have hv := Lib.hid (fitsB_no hno)
           clear hrr hp hq cF cE cy ce
           go_wp2_with (fail)
           go_ret
           exact ⟨by rw [hv.out]; rfl, hB6⟩
         | false =>
           simp only [Bool.or_eq_false_iff] at hrr
           obtain ⟨rfl, rfl⟩ := hrr
           have hrm : r.l.length = m := by rw [bne_nat] at hp; exact Decidable.not_not.1 (of_decide_eq_false hp)
           have hye : y &&& e = y := (andnot_zero y e hy32 he32).1 (by have := bne_eq_false_iff_eq.1 hq; omega)
           have hRow : RowOk x.T s := ⟨by rw [rT.out, Hmany.out]; exact hrm, by rw [yT.out, eT.out]; exact hye⟩
           replace hrm := Lib.hid hrm
           replace hRow := Lib.hid hRow
           clear hp hq hye cF cE cy ce
           obtain ⟨bR, oR, hRa, hbR, hrR⟩ := hrow.at_ (by have := hrm.out; omega)
           rw [hRa]
           replace hRa := Lib.hid hRa
           clear hw6 hB3
           obtain ⟨wo, hwo⟩ : ∃ y, y = w6 := ⟨_, rfl⟩
           rw [← hwo] at h1 hB6 ⊢
           clear hwo
           go_upto_region 19 with (fail)
           go_loopw [86] (fun iv wr => ∃ c : Nat, c ≤ m ∧ iv = .int .i64 c ∧ Below w.heap.size w wr ∧ Blk wr w.heap.size 33 (dfaC x.f x.A x.rs.length x.c x.B x.fo.length x.d x.C x.en.length x.e) ∧ (∀ j, j < c → ToOk x.T s (x.T.nxt s (j : Nat)))) (fun iv _ => m - (intOf iv).toNat)
           case atStart => exact ⟨0, by omega, rfl, hB6, h1, fun j hj => by omega⟩
           case round =>
            clear h1 hB6
            obtain ⟨c, hc, rfl, hBw, h1, hall2⟩ := hrel
            replace hall2 := Lib.hid hall2
            by_cases hcl : c < r.l.length
            ·have hcI : (c : Int) < r.l.length := by omega
             have hcm : c < m := by rw [← hrm.out]; exact hcl
             obtain ⟨z, hz⟩ : ∃ z, z = r.l[c] := ⟨_, rfl⟩
             have hzT : x.T.nxt s (c : Nat) = z := by
              have hcr2 : c < x.rs[s].l.length := by rw [← hr.out]; exact hcl
              rw [nxt_at hsl hcr2, hz]
              simp only [hr.out]
             replace hzT := Lib.hid hzT
             have c3 : wr.cell? ⟨bR, oR + c, none⟩ = some (.int .i64 z) := by
              rw [hz]
              have := cell_keep (hrR c hcl 0 _ rfl) hbR hBw
              rw [show oR + c * 1 + 0 = oR + c by omega] at this
              exact this
             clear hz
             go_upto_region 21 with (fail)
             clear c3
             have cF : ∀ {X : World}, Below wr.heap.size wr X → X.cell? ⟨w.heap.size, 257, none⟩ = some (.slice (some ⟨bF, oF, none⟩) x.fo.length x.d) := fun hB => by rw [← hFo.out]; exact blk_d2 (zqb h1 hB)
             have cy : ∀ {X : World}, Below wr.heap.size wr X → X.cell? ⟨bF, oF + s * 1, none⟩ = some (.int .u32 ((y : Nat) : Int)) := fun hB => by
              have e1 : y = x.fo[s] := by rw [← yT.out]; exact getD_at x.fo 0 hsF
              rw [e1]
              exact cell_keep (hrF s hsF 0 _ rfl) hbF (zqd hBw hB)
             have hTX : ∀ {X : World}, Below wr.heap.size wr X → TabIn X X.heap.size x := fun hB => hT.then_ (zqd hBw hB)
             obtain ⟨bq, hbq⟩ : ∃ b, withinB x y z = b := ⟨_, rfl⟩
             refine zql 9 [eqS (.agg (dfaC x.f x.A x.rs.length x.c x.B x.fo.length x.d x.C x.en.length x.e)), eqS (.pointer (some ⟨w.heap.size, 257, none⟩)), eqS (.slice (some ⟨bF, oF, none⟩) x.fo.length x.d), eqS (.int .i64 (((s : Nat) : Int))), eqS (.pointer (some ⟨bF, oF + s * 1, none⟩)), eqS (.int .u32 (((y : Nat) : Int))), eqS (.int .i64 (z)), eqS (.bool bq), eqS (.bool (!bq))] [90, 91, 92, 93, 94, 95, 96, 97, 98] rfl (by kernel_rfl) rfl ?_ ?_
             ·skip
              refine Steps.cons (fun a' w' hG hB dep => gs_load_dfa (zqa rfl) _ rfl w.heap.size (hG.other 1 rfl) (zqb h1 hB) rfl) ?_
              refine Steps.cons (fun a' w' hG hB dep => zqn (zqa rfl) _ _ _ rfl w.heap.size (0) (257) (hG.other 1 rfl) (fun wz => field_dfa_2 w.heap.size (0) wz) rfl) ?_
              refine Steps.cons (fun a' w' hG hB dep => zqj (zqa rfl) _ _ rfl w.heap.size (257) (dep 1 rfl 91 rfl) (.slice (some ⟨bF, oF, none⟩) x.fo.length x.d) (cF hB) _ Tryz.underlying24 rfl rfl) ?_
              refine Steps.cons (fun a' w' hG hB dep => zqi (zqa rfl) _ rfl (id (hG.other 7 rfl))) ?_
              refine Steps.cons (fun a' w' hG hB dep => zxu (zqa rfl) _ _ _ rfl zxa 1 size_ruleE bF oF x.fo.length x.d (s) (dep 2 rfl 92 rfl) (dep 3 rfl 93 rfl) hsF rfl) ?_
              refine Steps.cons (fun a' w' hG hB dep => zqj (zqa rfl) _ _ rfl bF (oF + s * 1) (dep 4 rfl 94 rfl) (.int .u32 (((y : Nat) : Int))) (cy hB) _ Tryz.underlying42 rfl rfl) ?_
              refine Steps.cons (fun a' w' hG hB dep => zqi (zqa rfl) _ rfl (id (hG.other 10 rfl))) ?_
              refine Steps.cons (fun a' w' hG hB dep => zze (zqa rfl) _ _ _ rfl enter_within _ (map3 (dep 0 rfl 90 rfl) (dep 5 rfl 95 rfl) (dep 6 rfl 96 rfl)) ((within_any2 x y z hy32 n3.out w' (hTX hB)).mono fun e w2 ⟨he, hb⟩ => ⟨_, he, hb, by rw [hbq]; rfl⟩)) ?_
              refine Steps.cons (fun a' w' hG hB dep => gs_not_bool (zqa rfl) _ _ rfl _ (dep 7 rfl 97 rfl) rfl) ?_
              exact Steps.nil
             intro u w8 hw8 ans
             have hus98 : u 98 = (.bool (!bq)) := ans 8 98 (by decide) rfl
             clear ans
             simp only [zqr, List.foldl_cons, List.foldl_nil, Act.put, List.setIfInBounds_toArray, List.set_cons_zero, List.set_cons_succ, hus98]
             clear hus98
             simp only [List.drop]
             refine wpList_nil ?_
             have hB8 := zqd hBw hw8
             replace h1 := zqb h1 hw8
             clear hw8 cF cy hTX
             cases bq with
             | false =>
               have hno : ¬ s_Fits x.T := fun hF => by
                have e1 := hF.tr s c (by rw [fits_n]; exact hsl) (by rw [Hmany.out]; exact hcm)
                rw [hzT.out, fits_n, yT.out] at e1
                have : withinB x y z = true := decide_eq_true ⟨e1.1, e1.2.1, e1.2.2⟩
                rw [hbq] at this
                cases this
               have hv := Lib.hid (fitsB_no hno)
               clear hbq
               go_wp2_with (fail)
               go_ret
               exact ⟨by rw [hv.out]; rfl, hB8⟩
             | true =>
               have hTo : ToOk x.T s (x.T.nxt s (c : Nat)) := by
                have e1 := of_decide_eq_true hbq
                rw [hzT.out]
                refine ⟨e1.1, by rw [fits_n]; exact e1.2.1, ?_⟩
                rw [yT.out]
                exact e1.2.2
               replace hTo := Lib.hid hTo
               clear hbq
               go_wp2_with (fail)
               exact ⟨⟨c + 1, by omega, rfl, hB8, h1, fun j hj => by
                rcases Nat.lt_or_ge j c with h | h
                ·exact hall2.out j h
                ·have : j = c := by omega
                 subst this
                 exact hTo.out⟩, by simp only [intOf]; omega⟩
            ·have hcI : ¬ (c : Int) < r.l.length := by omega
             have hcm : ¬ c < m := by rw [← hrm.out]; exact hcl
             have hRt : RowOk x.T s ∧ ∀ c, c < m → ToOk x.T s (x.T.nxt s (c : Nat)) := ⟨hRow.out, fun j hj => hall2.out j (by omega)⟩
             replace hRt := Lib.hid hRt
             clear hall2
             go_wp2_with (fail)
             exact ⟨⟨s + 1, by omega, rfl, hBw, h1, fun j hj => by
              rcases Nat.lt_or_ge j s with h | h
              ·exact hall.out j h
              ·have : j = s := by omega
               subst this
               exact hRt.out⟩, by simp only [intOf]; omega⟩
        ·have hsI : ¬ (s : Int) < x.rs.length := by omega
         have hyes : s_Fits x.T := fits_of (by rw [fits_n]; exact n1) (by rw [fits_n]; exact n2) (by rw [fits_n]; exact n3.out) (by rw [fits_n]; exact n4.out) (by rw [Hmany.out]; exact m1) (by rw [Hmany.out]; exact m2)
          (fun b hb => by rw [Hmany.out]; exact hcls.out b hb) (fun j hj => by rw [fits_n] at hj; rw [Hmany.out]; exact hall.out j (by omega))
         have hv := Lib.hid (fitsB_yes hyes)
         clear hyes hall
         go_wp2_with (fail)
         go_ret
         exact ⟨by rw [hv.out]; rfl, hB3⟩
end Go.Proofs.YtkedgombccdamaaGreatDoor
namespace Go.Proofs.YtkedgombccdamaaGreatDoor
open Go.RowKit Go.Maps
set_option linter.unusedVariables false
set_option linter.unusedSimpArgs false
def upd {α : Type} (f : Nat → α) (i : Nat) (v : α) (j : Nat) : α := if j = i then v else f j
theorem upd_self {α : Type} (f : Nat → α) (i : Nat) (v : α) : upd f i v i = v := by simp [upd]
theorem upd_ne {α : Type} (f : Nat → α) {i j : Nat} (v : α) (h : j ≠ i) : upd f i v j = f j := by simp [upd, h]
def arr {α : Type} (e : α → Value) (n : Nat) (K : Nat → α) : Array Value := ((List.range n).map fun i => e (K i)).toArray
section
variable {α : Type} (e : α → Value) (n : Nat) (K : Nat → α)
theorem arr_size : (arr e n K).size = n := by simp [arr]
theorem arr_at {i : Nat} (h : i < n) : (arr e n K)[i]? = some (e (K i)) := by simp [arr, h]
theorem arr_set {i : Nat} (v : α) : (arr e n K).setIfInBounds i (e v) = arr e n (upd K i v) := by
 apply Array.ext
 ·simp [arr]
 ·intro j h1 h2
  have hj : j < n := by simpa [arr] using h2
  have h3 : j < (arr e n K).size := by simpa [arr] using hj
  have e1 : (arr e n K)[j] = e (K j) := by simp [arr]
  have e2 : (arr e n (upd K i v))[j] = e (upd K i v j) := by simp [arr]
  rw [e2, Array.getElem_setIfInBounds h3, e1]
  unfold upd
  by_cases h : i = j
  ·subst h; simp
  ·rw [if_neg h, if_neg (fun x => h x.symm)]
theorem arr_made (z : α) (he : (e z).cells = #[e z]) : madeCells (e z).cells (n * 1) = arr e n fun _ => z := by
 rw [he]
 apply Array.ext
 ·simp [arr, size_madeCells]
 ·intro j h1 h2
  simp [madeCells, arr]
  rw [Nat.mod_one]
  rfl
end
attribute [irreducible] arr
section
variable {α : Type} {e : α → Value} {w : World} {g n : Nat} {K : Nat → α} {t : TypeId}
end
section
variable {ops : Array Oper} {rest : List Oper} {o : Oper} {a : Act} {w : World} {Q : Exit → Act → World → Prop}
end
section
variable {A : Au} {p0 p : Nat → Bool} {more : Bool} {k : Nat}
end
section
variable {α β : Type} {enc : α → Array Value} {enc2 : β → Array Value} {size size2 base base2 B g r n c : Nat} {e e2 t : TypeId} {W W' : World} {v v2 : Value} {ys : List α} {zs : List β} {cs : Array Value} {row : Option Nat}
theorem own_made (hs : ∀ y, (enc y).size = size) (hb : Blk W g e cs) (hcs : cs.toList = flat enc ys) (hn : n = ys.length) (hg : base ≤ g) (hm : n ≤ maxLen) : Own W base e size enc (.slice (some ⟨g, 0, none⟩) n n) ys := by
 subst hn
 refine ⟨zyn hs ys, .inr ⟨g, _, cs, rfl, hg, hb, Nat.le_refl _, hm, ?_, ?_⟩⟩
 ·rw [← Array.length_toList, hcs, zyn hs]
 ·rw [hcs, ← zyn hs ys, List.take_length]
theorem own_take {A : Option Addr} {zs' : List α} (hs : ∀ y, (enc y).size = size) (h : Own W base e size enc (.slice A n c) (ys ++ zs')) : SliceOf W W.heap.size size enc A ys := by
 have := h.slice hs ys.length
 rwa [List.take_left'] at this
 rfl
theorem ownBlock_slice (A : Option Addr) (n c : Nat) : (Value.slice A n c).ownBlock = A.map (·.block) := by cases A <;> rfl
end
theorem encZ_one (y : Int) : (encZ y).all (·.oneCell') = true := by simp [encZ, Value.oneCell']
theorem rowC_one (y : RV) : (rowC y).all (·.oneCell') = true := by simp [rowC, Value.oneCell']
structure TOwn (w : World) (base : Nat) (x : TV) (xr : List Int) (xf : List Nat) (xn : List RV) : Prop where
 rows : Own w base 47 1 rowC (.slice x.A (x.rs.length + xn.length) x.c) (x.rs ++ xn)
 fo : Own w base 42 1 encR (.slice x.B (x.fo.length + xf.length) x.d) (x.fo ++ xf)
 en : Own w base 42 1 encR (.slice x.C (x.en.length + xf.length) x.e) (x.en ++ xf)
 row : ∀ i (h : i < x.rs.length), Own w base 3 1 encZ (.slice x.rs[i].a (x.rs[i].l.length + xr.length) x.rs[i].c) (x.rs[i].l ++ xr)
 ap : ∀ i j (hi : i < x.rs.length) (hj : j < x.rs.length) a b, i ≠ j → x.rs[i].a = some a → x.rs[j].a = some b → a.block ≠ b.block
 fe : ∀ a b, x.B = some a → x.C = some b → a.block ≠ b.block
section
variable {w w' : World} {base g : Nat} {x : TV} {xr : List Int} {xf : List Nat} {xn : List RV} {t : TypeId} {cs : Array Value}
theorem TOwn.then_ (h : TOwn w base x xr xf xn) (hb : Below w.heap.size w w') : TOwn w' base x xr xf xn :=
 ⟨h.rows.then_ hb, h.fo.then_ hb, h.en.then_ hb, fun i hi => (h.row i hi).then_ hb, h.ap, h.fe⟩
theorem TOwn.mono {base' : Nat} (h : TOwn w base x xr xf xn) (hb : base' ≤ base) : TOwn w base' x xr xf xn :=
 ⟨h.rows.mono hb, h.fo.mono hb, h.en.mono hb, fun i hi => (h.row i hi).mono hb, h.ap, h.fe⟩
theorem TOwn.low (h : TOwn w base x xr xf xn) (hg : w.grownBy w' (some g)) (hr : g < base) : TOwn w' base x xr xf xn :=
 ⟨zxr h.rows hg hr, zxr h.fo hg hr, zxr h.en hg hr, fun i hi => zxr (h.row i hi) hg hr, h.ap, h.fe⟩
theorem TOwn.tab (h : TOwn w base x xr xf xn) (nb : x.rs.length ≤ 2199023255552) (rb : ∀ r ∈ x.rs, r.l.length ≤ 2199023255552) (fb : x.fo.length ≤ 2199023255552) (eb : x.en.length ≤ 2199023255552) (f32 : ∀ y ∈ x.fo, y < 4294967296) (e32 : ∀ y ∈ x.en, y < 4294967296) : TabIn w w.heap.size x :=
 ⟨own_take rowC_size h.rows, fun r hr => by
  obtain ⟨i, hi, rfl⟩ := List.mem_iff_getElem.1 hr
  exact own_take encZ_size (h.row i hi), own_take zya h.fo, own_take zya h.en, nb, rb, fb, eb, f32, e32⟩
theorem TOwn.nil (w : World) (base : Nat) (f : Nat → Int) : TOwn w base ⟨f, [], none, 0, [], none, 0, [], none, 0⟩ [] [] [] :=
 ⟨Own.nil_ _ _ _ _ _, Own.nil_ _ _ _ _ _, Own.nil_ _ _ _ _ _, fun i hi => absurd hi (by simp), fun i j hi => absurd hi (by simp), fun a b h => by cases h⟩
end
theorem info_rowsS : (Tryz.prog.info? 31).map (·.size) = some 1 := by kernel_rfl
theorem info_rows3 : (Tryz.prog.info? 47).map (fun i => (i.zero, i.size, i.bytes)) = some (some (.slice none 0 0), 1, 24) := by kernel_rfl
section
variable {ops : Array Oper} {rest : List Oper} {o : Oper} {a : Act} {w : World} {Q : Exit → Act → World → Prop}
variable {f : Nat → Int} {A B C A' : Option Addr} {n c m d k e n' c' : Nat}
theorem wl_store_d1 (hgd : o.guard = none) (x y : Operand) (ho : o.op = .store 31 x y) (g : Nat) (hx : a.eval x = .pointer (some ⟨g, 256, none⟩)) (hy : a.eval y = .slice A' n' c') (hb : Blk w g 33 (dfaC f A n c B m d C k e))
  (h : ∀ w', Blk w' g 33 (dfaC f A' n' c' B m d C k e) → w.grownBy w' (some g) → wpList Tryz.prog ops Q rest (a.put o.dst undef) w') : wpList Tryz.prog ops Q (o :: rest) a w :=
 zqt hgd _ x y ho g 256 hx _ _ (dfaC f A' n' c' B m d C k e) hb (by rw [dfaC_size]; omega) info_rowsS (by rw [hy]; rfl) (by rw [hy]; rfl) (by rw [hy]; exact dfaC_set1 _ _ _ _ _ _ _ _ _ _ _ _ _) h
end
end Go.Proofs.YtkedgombccdamaaGreatDoor
namespace Go.Proofs.YtkedgombccdamaaGreatDoor
open Go.RowKit Go.Shelf Go.Maps
set_option linter.unusedVariables false
set_option linter.unusedSimpArgs false
attribute [local go_sem] Oper.semAt_some
noncomputable def stepM (E : List Edg) (N : Nat) (R : List Nat) (q : Mo) (b : Nat) : Mo := moN E N R (byteN E N q.at_ b) q.met false
noncomputable def mo0 (E : List Edg) (N : Nat) (R : List Nat) : Mo := moN E N R 0 0 true
theorem moN_ok {E : List Edg} {N K : Nat} {R : List Nat} (hR : ∀ r ∈ R, r < 4294967296) (hK : N ≤ 64 * K) (x met : Nat) (b : Bool) (hm : met < 4294967296) : MoOk N K (moN E N R x met b) := by
 have h1 : met ||| metN R (zzf E N b false (x ||| 1)) N < 4294967296 := or_lt32 hm (met_lt hR _ _)
 exact ⟨spread_below _ _ _ _ _, hK, h1, or_lt32 h1 (met_lt hR _ _)⟩
theorem stepM_ok {E : List Edg} {N K : Nat} {R : List Nat} (hR : ∀ r ∈ R, r < 4294967296) (hK : N ≤ 64 * K) {q : Mo} (b : Nat) (hq : MoOk N K q) : MoOk N K (stepM E N R q b) := moN_ok hR hK _ _ _ hq.met
noncomputable def tabQ (E : List Edg) (N : Nat) (R : List Nat) (f : Nat → Int) (bs : List Nat) (i : Nat) : Tb :=
 ⟨f, (rowsQ (stepM E N R) bs (mo0 E N R) i).map (fun l => l.map fun (n : Nat) => (n : Int)), (bfsN (stepM E N R) bs (mo0 E N R) i).map Mo.met, (bfsN (stepM E N R) bs (mo0 E N R) i).map Mo.end_⟩
noncomputable def clsE (E : List Edg) : Nat → Int := cls (setsL E)
noncomputable def repE (E : List Edg) : List Nat := repL (cls (setsL E)) (many (setsL E)) 0
def eV (v : Value) : Value := v
theorem info_edgesZ : (Tryz.prog.info? 23).map (fun i => (i.zero, i.size, i.bytes)) = some (some (.slice none 0 0), 1, 24) := by kernel_rfl
theorem run_makeE (N : Nat) (hN : N ≤ 1048576) (w : World) : (Instr.makeSlice 65 (.int .i64 N) (.int .i64 N)).run Tryz.prog w = .ok (.slice (some ⟨w.heap.size, 0, none⟩) N N) (w.alloc (.cells (arr eV N fun _ => .slice none 0 0) 23)) := by
 obtain ⟨i, h1, h2, h3, h4⟩ := info_parts info_edgesZ
 have := run_makeSlice (P := Tryz.prog) w 65 23 i _ Tryz.underlying65 h1 h2 .i64 .i64 (N : Int) (N : Int) (by omega) (by omega) (by rw [h3]; omega) (by rw [h4]; omega) (by omega)
 rw [this, h3, Int.toNat_natCast, ← arr_made eV N (.slice none 0 0) rfl]
 rfl
theorem run_buildK (s : Int) (A : Option Addr) (n c : Nat) (B : Option Addr) (m d g N cF : Nat) (w : World) : (Instr.build 67 #[(0, .agg (nfaC s A n c B m d)), (1, .slice (some ⟨g, 0, none⟩) N cF)]).run Tryz.prog w = .ok (.agg #[.int .i64 s, .slice A n c, .slice B m d, .slice (some ⟨g, 0, none⟩) N cF]) w := by kernel_rfl
theorem run_boxK (s : Int) (A : Option Addr) (n c : Nat) (B : Option Addr) (m d g N cF : Nat) (w : World) : (Instr.box 67 (.agg #[.int .i64 s, .slice A n c, .slice B m d, .slice (some ⟨g, 0, none⟩) N cF])).run Tryz.prog w = .ok (.pointer (some ⟨w.heap.size, 0, none⟩)) (w.alloc (.cells #[.int .i64 s, .slice A n c, .slice B m d, .slice (some ⟨g, 0, none⟩) N cF] 67)) := by kernel_rfl
theorem info_nfa3 : (Tryz.prog.info? 26).map (·.size) = some 3 := by kernel_rfl
theorem field_k_1 (b off : Nat) (w : World) : (Instr.fieldAt 67 (.pointer (some ⟨b, off, none⟩)) 1).run Tryz.prog w = .ok (.pointer (some ⟨b, off + 3, none⟩)) w := by kernel_rfl
theorem under_edgesF : Tryz.prog.underlying 65 = some (.slice (Tryz.prog.elem 65)) := by kernel_rfl
theorem size_edgesF (w : World) : (sizeOf (Tryz.prog.elem 65)).run Tryz.prog w = .ok 1 w := by kernel_rfl
theorem info_edgesS : (Tryz.prog.info? 23).map (·.size) = some 1 := by kernel_rfl
section
variable {ops : Array Oper} {S : Nat → GSpec} {Q : Exit → Act → World → Prop} {i : Nat} {o : Oper} {a : Act} {w : World}
theorem gs_makeE (hw : Region.wanted o (yielded ops a.tmps) = true) (x y : Operand) (ho : o.op = .makeSlice 65 x y) (N : Nat) (hN : N ≤ 1048576) (hx : a.eval x = .int .i64 N) (hy : a.eval y = .int .i64 N)
  (hp : ∀ g w', w.heap.size ≤ g → Blk w' g 23 (arr eV N fun _ => .slice none 0 0) → (S i).p (.slice (some ⟨g, 0, none⟩) N N) w') : GStep Tryz.prog ops S Q i o a w :=
 zzx hw (v := .slice (some ⟨w.heap.size, 0, none⟩) N N) (by unfold execOp; simp only [ho, hx, hy, Sem.run_bind, run_makeE N hN, Result.andThen_ok, Sem.run_pure]) (zqc (Below.refl _ _) _) (hp _ _ (Nat.le_refl _) (Blk.new _ _ _))
theorem gs_buildK (hw : Region.wanted o (yielded ops a.tmps) = true) (x y : Operand) (ho : o.op = .build 67 #[(0, x), (1, y)]) (s : Int) (A : Option Addr) (n c : Nat) (B : Option Addr) (m d g N cF : Nat) (hx : a.eval x = .agg (nfaC s A n c B m d)) (hy : a.eval y = .slice (some ⟨g, 0, none⟩) N cF)
  (hp : (S i).p (.agg #[.int .i64 s, .slice A n c, .slice B m d, .slice (some ⟨g, 0, none⟩) N cF]) w) : GStep Tryz.prog ops S Q i o a w :=
 zzx hw (v := .agg #[.int .i64 s, .slice A n c, .slice B m d, .slice (some ⟨g, 0, none⟩) N cF]) (by unfold execOp; simp only [ho, List.map_toArray, List.map_cons, List.map_nil, hx, hy, Sem.run_bind, run_buildK, Result.andThen_ok, Sem.run_pure]) (Below.refl _ _) hp
theorem gs_boxK (hw : Region.wanted o (yielded ops a.tmps) = true) (x : Operand) (ho : o.op = .box 67 x) (s : Int) (A : Option Addr) (n c : Nat) (B : Option Addr) (m d g N cF : Nat) (hx : a.eval x = .agg #[.int .i64 s, .slice A n c, .slice B m d, .slice (some ⟨g, 0, none⟩) N cF])
  (hp : ∀ gk w', w.heap.size ≤ gk → Blk w' gk 67 #[.int .i64 s, .slice A n c, .slice B m d, .slice (some ⟨g, 0, none⟩) N cF] → (S i).p (.pointer (some ⟨gk, 0, none⟩)) w') : GStep Tryz.prog ops S Q i o a w :=
 zzx hw (v := .pointer (some ⟨w.heap.size, 0, none⟩)) (by unfold execOp; simp only [ho, hx, Sem.run_bind, run_boxK, Result.andThen_ok, Sem.run_pure]) (zqc (Below.refl _ _) _) (hp _ _ (Nat.le_refl _) (Blk.new _ _ _))
theorem gs_load_nfaB (hw : Region.wanted o (yielded ops a.tmps) = true) (x : Operand) (ho : o.op = .load 26 x) (g : Nat) (hx : a.eval x = .pointer (some ⟨g, 0, none⟩)) {s : Int} {A : Option Addr} {n c : Nat} {B : Option Addr} {m d : Nat} (hg : Blk w g 26 (nfaC s A n c B m d))
  (hp : (S i).p (.agg (nfaC s A n c B m d)) w) : GStep Tryz.prog ops S Q i o a w :=
 gs_load hw _ x ho g hx _ _ hg _ Tryz.underlying26 rfl (info_nfa3.trans rfl) hp
end
theorem build_dfa1 (f : Nat → Int) (w : World) : (Instr.build 33 #[(0, .agg (clsC f))]).run Tryz.prog w = .ok (.agg (dfaC f none 0 0 none 0 0 none 0 0)) w := by kernel_rfl
def madeS (lo N g : Nat) : GSpec := ⟨fun v w => v = .slice (some ⟨g, 0, none⟩) N N ∧ lo ≤ g ∧ Blk w g 23 (arr eV N fun _ => .slice none 0 0), fun v w w' ⟨h1, h2, h3⟩ hb => ⟨h1, h2, zqb h3 hb⟩⟩
structure FromI (lo bf N : Nat) (W : World) (FV : Nat → Value) (l : List Edg) : Prop where
 b : Blk W bf 23 (arr eV N FV)
 own : ∀ s, s < N → Own W lo 69 7 edgC (FV s) (zqq l s)
 ap : ∀ s t, s < N → t < N → s ≠ t → (FV s).ownBlock = (FV t).ownBlock → (FV s).ownBlock = none
theorem edgesAt_snocN (l : List Edg) (d : Edg) (s n0 : Nat) (hfr : d.fr = (n0 : Int)) : zqq (l ++ [d]) s = if s = n0 then zqq l s ++ [d] else zqq l s := by
 unfold zqq
 rw [List.filter_append]
 by_cases e : s = n0
 ·subst e
  simp [hfr]
 ·have : ¬ ((n0 : Int) = (s : Int)) := by omega
  simp [hfr, this, e]
theorem FromI.nil {lo bf N : Nat} {W : World} (h : Blk W bf 23 (arr eV N fun _ => .slice none 0 0)) : FromI lo bf N W (fun _ => .slice none 0 0) [] :=
 ⟨h, fun s hs => Own.nil_ _ _ _ _ _, fun _ _ _ _ _ _ => rfl⟩
theorem FromI.then_ {lo bf N : Nat} {W W' : World} {FV : Nat → Value} {l : List Edg} (h : FromI lo bf N W FV l) (hb : Below W.heap.size W W') : FromI lo bf N W' FV l :=
 ⟨zqb h.b hb, fun s hs => (h.own s hs).then_ hb, h.ap⟩
theorem FromI.step {lo bf N n0 : Nat} {W W1 W2 : World} {FV : Nat → Value} {l : List Edg} {d : Edg} {v : Value} (h : FromI lo bf N W FV l) (hn : n0 < N) (hfr : d.fr = (n0 : Int)) (hg : W.grownBy W1 (FV n0).ownBlock) (ho : Own W1 lo 69 7 edgC v (zqq l n0 ++ [d]))
  (hv : v.ownBlock = (FV n0).ownBlock ∨ ∃ k, v.ownBlock = some k ∧ W.heap.size ≤ k) (hb : Blk W2 bf 23 (arr eV N (upd FV n0 v))) (hb1 : Blk W1 bf 23 (arr eV N FV)) (hg2 : W1.grownBy W2 (some bf)) : FromI lo bf N W2 (upd FV n0 v) (l ++ [d]) := by
 refine ⟨hb, fun s hs => ?_, fun s t hs ht hne he => ?_⟩
 ·rw [edgesAt_snocN l d s n0 hfr]
  by_cases e : s = n0
  ·subst e
   rw [upd_self, if_pos rfl]
   exact zxb ho hb1 hg2 (by decide)
  ·rw [upd_ne _ _ e, if_neg e]
   refine zxb ((h.own s hs).kept_ hg (fun j e1 e2 => ?_)) hb1 hg2 (by decide)
   have := h.ap s n0 hs hn e (e1.trans e2.symm)
   rw [this] at e1; cases e1
 ·have hlt : ∀ s, s < N → ∀ k, (FV s).ownBlock = some k → k < W.heap.size := fun s hs k e => ((h.own s hs).lt k e).2
  by_cases e1 : s = n0
  ·subst e1
   rw [upd_self] at he ⊢
   rw [upd_ne _ _ (fun x => hne x.symm)] at he
   rcases hv with hv | ⟨k, hv, hk⟩
   ·rw [hv] at he ⊢
    exact h.ap s t hs ht hne he
   ·rw [hv] at he
    have := hlt t ht k he.symm
    omega
  ·rw [upd_ne _ _ e1] at he ⊢
   by_cases e2 : t = n0
   ·subst e2
    rw [upd_self] at he
    rcases hv with hv | ⟨k, hv, hk⟩
    ·rw [hv] at he
     exact h.ap s t hs ht hne he
    ·rw [hv] at he
     have := hlt s hs k he
     omega
   ·rw [upd_ne _ _ e2] at he
    exact h.ap s t hs ht hne he
theorem FromI.mach {lo bf N gk c n d m : Nat} {W : World} {FV : Nat → Value} {A B : Option Addr} {E : List Edg} {R : List Nat} (h : FromI lo bf N W FV E) (hF : Fits N E R) (hN : N ≤ 1048576) (hE : E.length ≤ 100000) (hR : ∀ r ∈ R, r < 4294967296) (hm : m = R.length) (hk : Blk W gk 67 (kmC N A n c B m d bf N)) (hRs : SliceOf W W.heap.size 1 encR B R) : SMach W.heap.size W gk N E R := by
 subst hm
 refine ⟨hF, hN, by omega, hR, Nat.le_refl _, hk.lt, A, n, c, B, d, bf, N, hk, hRs, h.b.lt, fun s hs => ?_⟩
 obtain ⟨As, cs, hv, _, _⟩ := (h.own s hs).shape
 refine ⟨As, cs, ?_, ?_⟩
 ·have := h.b.cellv (arr_at eV N FV hs)
  rw [hv] at this
  exact this
 ·have := h.own s hs
  rw [hv] at this
  exact this.slice_all zxt
theorem QSt.start {N K gd bm gm gq : Nat} {f : Nat → Int} {W : World} (ho : gd < bm ∧ bm < gm ∧ gm < gq ∧ gq < W.heap.size) (hm : Blk W gm 76 #[.map (some bm)]) (him : IntMap Tryz.prog 9 3 okS litK W bm 0 (fun _ => none) 0) (hq : Blk W gq 77 #[.slice none 0 0]) (hd : Blk W gd 33 (dfaC f none 0 0 none 0 0 none 0 0)) : QSt N K W.heap.size gd bm gm gq f none 0 0 [] W :=
 ⟨⟨ho.1, ho.2.1, ho.2.2.1, ho.2.2.2, Nat.le_refl _⟩, hm, by rw [List.map_nil, idxM_nil]; exact him, ⟨none, 0, hq, Own.nil_ _ _ _ _ _⟩, fun x hx => absurd hx (by simp), ⟨none, 0, none, 0, hd, Own.nil_ _ _ _ _ _, Own.nil_ _ _ _ _ _, fun a b h => by cases h⟩, fun x hx => absurd hx (by simp)⟩
theorem zero_cells_cls : Tryz.zeroCells30 = clsC (fun _ => 0) := by kernel_rfl
theorem zxd : Tryz.zeroCells33 = dfaC (fun _ => 0) none 0 0 none 0 0 none 0 0 := by kernel_rfl
section
variable {ops : Array Oper} {rest : List Oper} {o : Oper} {a : Act} {w : World} {Q : Exit → Act → World → Prop}
theorem wl_build_dfa0 (hgd : o.guard = none) (ho : o.op = .build 33 #[]) (h : wpList Tryz.prog ops Q rest (a.put o.dst (.agg (dfaC (fun _ => 0) none 0 0 none 0 0 none 0 0))) w) : wpList Tryz.prog ops Q (o :: rest) a w :=
 wl_run hgd (v := .agg (dfaC (fun _ => 0) none 0 0 none 0 0 none 0 0)) (by unfold execOp; simp only [ho, List.map_toArray, List.map_nil, Sem.run_bind, build_dfa0, Result.andThen_ok, Sem.run_pure]) h
theorem wl_build_dfa1 (hgd : o.guard = none) (x : Operand) (ho : o.op = .build 33 #[(0, x)]) (f : Nat → Int) (hx : a.eval x = .agg (clsC f)) (h : wpList Tryz.prog ops Q rest (a.put o.dst (.agg (dfaC f none 0 0 none 0 0 none 0 0))) w) : wpList Tryz.prog ops Q (o :: rest) a w :=
 wl_run hgd (v := .agg (dfaC f none 0 0 none 0 0 none 0 0)) (by unfold execOp; simp only [ho, List.map_toArray, List.map_cons, List.map_nil, hx, Sem.run_bind, build_dfa1, Result.andThen_ok, Sem.run_pure]) h
theorem ret_dfa {fn : Func} {p u : Tmp} {g : Nat} {f : Nat → Int} {A : Option Addr} {n c : Nat} {B : Option Addr} {m d : Nat} {C : Option Addr} {k e : Nat} (hres : fn.results = #[.cell p 33, .tmp u])
  (hp : a.tmps.getD p undef = .pointer (some ⟨g, 0, none⟩)) (hb : Blk w g 33 (dfaC f A n c B m d C k e))
  (hdf : a.defers = []) {R : Ending → World → Prop} (hR : R (.returned (.tuple #[.agg (dfaC f A n c B m d C k e), a.tmps.getD u undef])) w) : bodyPost Tryz.prog fn R .ret a w :=
 ret_cell2 hres _ hp hb Tryz.underlying33 rfl (info_dfa.trans (by rw [dfaC_size])) hdf hR
end
section
variable {N K b0 gd bm gm gq : Nat} {f : Nat → Int} {AN : Option Addr} {nN cN : Nat} {L : List MQ} {W W' : World}
theorem QSt.own {α : Type} {enc : α → Array Value} {size base : Nat} {e : TypeId} {v : Value} {ys : List α} (h : QSt N K b0 gd bm gm gq f AN nN cN L W) (ho : Own W base e size enc v ys) (hb : b0 ≤ base) (h1 : e ≠ 81) (h2 : e ≠ 51) (h3 : e ≠ 42) (hg : W.grownBy W' v.ownBlock) : QSt N K b0 gd bm gm gq f AN nN cN L W' := by
 obtain ⟨A, c, q1, q2⟩ := h.q
 obtain ⟨AF, cF, AE, cE, d1, d2, d3, d4⟩ := h.d
 have o := h.ord
 exact ⟨⟨o.1, o.2.1, o.2.2.1, o.2.2.2.1, Nat.le_trans o.2.2.2.2 hg.size⟩, zyc h.m ho hg (by omega), h.im.grown' hg (fun e => by have := (ho.lt _ e.symm).1; omega), ⟨A, c, zyc q1 ho hg (by omega), zxw q2 ho hg h1⟩, fun x hx => zxw (h.ins x hx) ho hg h2, ⟨AF, cF, AE, cE, zyc d1 ho hg (by omega), zxw d2 ho hg h3, zxw d3 ho hg h3, d4⟩, h.ok⟩
theorem QSt.next (h : QSt N K b0 gd bm gm gq f AN nN cN L W) : ∃ AF cF AE cE, Blk W gd 33 (dfaC f AN nN cN AF L.length cF AE L.length cE) ∧
  ∀ W' AN' nN' cN', W.grownBy W' (some gd) → Blk W' gd 33 (dfaC f AN' nN' cN' AF L.length cF AE L.length cE) → QSt N K b0 gd bm gm gq f AN' nN' cN' L W' := by
 obtain ⟨A, c, q1, q2⟩ := h.q
 obtain ⟨AF, cF, AE, cE, d1, d2, d3, d4⟩ := h.d
 have o := h.ord
 refine ⟨AF, cF, AE, cE, d1, fun W' AN' nN' cN' hg hb => ?_⟩
 exact ⟨⟨o.1, o.2.1, o.2.2.1, o.2.2.2.1, Nat.le_trans o.2.2.2.2 hg.size⟩, zqk h.m hg (by omega), h.im.grown hg (by omega), ⟨A, c, zqk q1 hg (by omega), zxr q2 hg (by omega)⟩, fun x hx => zxr (h.ins x hx) hg (by omega), ⟨AF, cF, AE, cE, hb, zxr d2 hg (by omega), zxr d3 hg (by omega), d4⟩, h.ok⟩
end
structure BI (w0 : World) (nb b0 gd bm gm gq gk gb g4 N K M : Nat) (f : Nat → Int) (E : List Edg) (R : List Nat) (AN : Option Addr) (cN : Nat) (rs : List RV) (L : List MQ) (W : World) : Prop where
 ord : g4 < nb ∧ nb ≤ gb ∧ gb < gd ∧ w0.heap.size ≤ nb
 mach : SMach nb W gk N E R
 q : QSt N K b0 gd bm gm gq f AN rs.length cN L W
 bytes : Own W nb 5 1 encY (.slice (some ⟨gb, 0, none⟩) M M) (repL f M 0)
 res : Blk W g4 33 (dfaC (fun _ => 0) none 0 0 none 0 0 none 0 0)
 bel : Below w0.heap.size w0 W
 rows : Own W b0 47 1 rowC (.slice AN rs.length cN) rs
 row : ∀ i (h : i < rs.length), Own W b0 3 1 encZ (.slice rs[i].a rs[i].l.length rs[i].c) rs[i].l
 ap : ∀ i j (hi : i < rs.length) (hj : j < rs.length) a b, i ≠ j → rs[i].a = some a → rs[j].a = some b → a.block ≠ b.block
section
variable {w0 : World} {nb b0 gd bm gm gq gk gb g4 N K M : Nat} {f : Nat → Int} {E : List Edg} {R : List Nat} {AN : Option Addr} {cN : Nat} {rs : List RV} {L : List MQ} {W W' : World}
theorem BI.then_ (h : BI w0 nb b0 gd bm gm gq gk gb g4 N K M f E R AN cN rs L W) (hb : Below W.heap.size W W') : BI w0 nb b0 gd bm gm gq gk gb g4 N K M f E R AN cN rs L W' :=
 ⟨h.ord, h.mach.below hb h.mach.low, h.q.then_ hb, h.bytes.then_ hb, zqb h.res hb, zqd h.bel hb, h.rows.then_ hb, fun i hi => (h.row i hi).then_ hb, h.ap⟩
theorem BI.fq {L' : List MQ} (h : BI w0 nb b0 gd bm gm gq gk gb g4 N K M f E R AN cN rs L W) (hq : QSt N K b0 gd bm gm gq f AN rs.length cN L' W') (hf : FQ b0 gd bm gq W W') : BI w0 nb b0 gd bm gm gq gk gb g4 N K M f E R AN cN rs L' W' := by
 have o := h.ord
 have p := h.q.ord
 refine ⟨o, h.mach.fq hf (by omega) (by omega) (by omega) (by omega), hq, h.bytes.fq hf (fun k e => ?_) (by decide), blk_fq h.res hf (by omega) (by omega) (by omega) (.inl (by omega)), ?_, h.rows.fq hf (fun k e => ?_) (by decide), fun i hi => (h.row i hi).fq hf (fun k e => ?_) (by decide), h.ap⟩
 ·have : gb = k := by simpa [Value.ownBlock] using e
  omega
 ·have hb := h.bel
  exact ⟨hf.os.trans hb.os, hf.tape.trans hb.tape, hf.output.trans hb.output, Nat.le_trans hb.size hf.size, fun k hk => (hf.block k (Nat.lt_of_lt_of_le hk hb.size) (by omega) (by omega) (by omega) (.inl (by omega))).trans (hb.block k hk)⟩
 ·have := (h.rows.lt k e).1
  omega
 ·have := ((h.row i hi).lt k e).1
  omega
theorem BI.ownI {α : Type} {enc : α → Array Value} {size base n c : Nat} {A : Option Addr} {ys : List α} (h : BI w0 nb b0 gd bm gm gq gk gb g4 N K M f E R AN cN rs L W) (ho : Own W base 3 size enc (.slice A n c) ys) (hb : b0 ≤ base) (hr : ∀ i (hi : i < rs.length) a, rs[i].a = some a → a.block < base) (hg : W.grownBy W' (Value.slice A n c).ownBlock) : BI w0 nb b0 gd bm gm gq gk gb g4 N K M f E R AN cN rs L W' := by
 have o := h.ord
 have p := h.q.ord
 have hlt := fun k e => (ho.lt k e).1
 refine ⟨o, h.mach.keep (fun k hk => hg.block k (Nat.lt_of_lt_of_le hk h.mach.low) (fun e => by have := hlt k e.symm; omega)) hg.size, h.q.own ho hb (by decide) (by decide) (by decide) hg, zxw h.bytes ho hg (by decide), zyc h.res ho hg (by omega), ?_, zxw h.rows ho hg (by decide), fun i hi => ?_, h.ap⟩
 ·exact h.bel.grown hg h.bel.size (fun k e => by have := hlt k e; omega)
 ·refine (h.row i hi).kept_ hg (fun j e1 e2 => ?_)
  have h1 := hlt j e2
  rw [ownBlock_slice] at e1
  rcases ha : rs[i].a with _ | a
  ·rw [ha] at e1; cases e1
  ·rw [ha] at e1
   have := hr i hi a ha
   simp at e1
   omega
theorem BI.rowLt (h : BI w0 nb b0 gd bm gm gq gk gb g4 N K M f E R AN cN rs L W) : ∀ i (hi : i < rs.length) a, rs[i].a = some a → a.block < W.heap.size := fun i hi a ha => own_blk_lt (h.row i hi) a ha
theorem BI.addRow {W1 W2 : World} {AN' : Option Addr} {cN' base : Nat} {r : RV} (h : BI w0 nb b0 gd bm gm gq gk gb g4 N K M f E R AN cN rs L W) (hr : Own W base 3 1 encZ (.slice r.a r.l.length r.c) r.l) (hb : b0 ≤ base) (hrl : ∀ i (hi : i < rs.length) a, rs[i].a = some a → a.block < base)
  (hg1 : W.grownBy W1 (Value.slice AN rs.length cN).ownBlock) (ho : Own W1 b0 47 1 rowC (.slice AN' (rs.length + 1) cN') (rs ++ [r])) (hg2 : W1.grownBy W2 (some gd)) (hq : QSt N K b0 gd bm gm gq f AN' (rs.length + 1) cN' L W2) : BI w0 nb b0 gd bm gm gq gk gb g4 N K M f E R AN' cN' (rs ++ [r]) L W2 := by
 have o := h.ord
 have p := h.q.ord
 have hlt := fun k e => (h.rows.lt k e).1
 have hl : (rs ++ [r]).length = rs.length + 1 := by simp
 refine ⟨o, h.mach.keep (fun k hk => (hg2.block k (Nat.lt_of_lt_of_le (Nat.lt_of_lt_of_le hk h.mach.low) hg1.size) (fun e => by injection e with e; omega)).trans (hg1.block k (Nat.lt_of_lt_of_le hk h.mach.low) (fun e => by have := hlt k e.symm; omega))) (Nat.le_trans hg1.size hg2.size), by rw [hl]; exact hq, ?_, zqk (zyc h.res h.rows hg1 (by omega)) hg2 (by omega), ?_, by rw [hl]; exact zxr ho hg2 (by omega), fun i hi => ?_, fun i j hi hj a b hij ha hb2 => ?_⟩
 ·exact (zxw h.bytes h.rows hg1 (by decide)).kept_ hg2 (fun k e1 e2 => by
   have : gb = k := by simpa [Value.ownBlock] using e1
   injection e2 with e2
   omega)
 ·exact (h.bel.grown hg1 h.bel.size (fun k e => by have := hlt k e; omega)).grown hg2 (Nat.le_trans h.bel.size hg1.size) (fun k e => by injection e with e; omega)
 ·rw [hl] at hi
  by_cases e : i < rs.length
  ·simp only [List.getElem_append_left e]
   exact zxr (zxw (h.row i e) h.rows hg1 (by decide)) hg2 (by omega)
  ·have : i = rs.length := by omega
   subst this
   simp only [List.getElem_concat_length]
   exact zxr ((zxw hr h.rows hg1 (by decide)).mono hb) hg2 (by omega)
 ·rw [hl] at hi hj
  have hrg : ∀ a, r.a = some a → base ≤ a.block := fun a ha => (hr.lt a.block (by rw [ownBlock_slice, ha]; rfl)).1
  by_cases ei : i < rs.length
  ·simp only [List.getElem_append_left ei] at ha
   by_cases ej : j < rs.length
   ·simp only [List.getElem_append_left ej] at hb2
    exact h.ap i j ei ej a b hij ha hb2
   ·have : j = rs.length := by omega
    subst this
    simp only [List.getElem_concat_length] at hb2
    have h1 := hrl i ei a ha
    have h2 := hrg b hb2
    omega
  ·have : i = rs.length := by omega
   subst this
   simp only [List.getElem_concat_length] at ha
   have ej : j < rs.length := by omega
   simp only [List.getElem_append_left ej] at hb2
   have h1 := hrl j ej b hb2
   have h2 := hrg a ha
   omega
end
theorem run_bsRow (A : Option Addr) (n c : Nat) (w : World) : (Instr.buildSlice 31 1 #[(0, .slice A n c)]).run Tryz.prog w = .ok (.slice (some ⟨w.heap.size, 0, none⟩) 1 1) (w.alloc (.cells #[.slice A n c] 47)) := by kernel_rfl
section
variable {ops : Array Oper} {rest : List Oper} {o : Oper} {a : Act} {w : World} {Q : Exit → Act → World → Prop}
theorem wl_load_mom_at (hgd : o.guard = none) (x : Operand) (ho : o.op = .load 81 x) (g off : Nat) (hx : a.eval x = .pointer (some ⟨g, off, none⟩)) (K : Nat) (y : MQ) (hr : RowAt w g off (encM K y))
  (h : wpList Tryz.prog ops Q rest (a.put o.dst (.agg (momC (some ⟨y.g, 0, none⟩) K y.c y.mo.met y.mo.end_))) w) : wpList Tryz.prog ops Q (o :: rest) a w :=
 wpList_load_at hgd _ x ho g off hx _ _ hr Tryz.underlying81 rfl (info_mom.trans rfl) h
theorem wl_bsRow (hgd : o.guard = none) (x : Operand) (ho : o.op = .buildSlice 31 1 #[(0, x)]) (A : Option Addr) (n c : Nat) (hx : a.eval x = .slice A n c)
  (h : wpList Tryz.prog ops Q rest (a.put o.dst (.slice (some ⟨w.heap.size, 0, none⟩) 1 1)) (w.alloc (.cells #[.slice A n c] 47))) : wpList Tryz.prog ops Q (o :: rest) a w :=
 wpList_plain hgd fun _ hK => by
  unfold Oper.wp execOp
  simp only [ho, List.map_toArray, List.map_cons, List.map_nil, hx, Sem.run_bind, run_bsRow, Result.andThen_ok, Sem.run_pure]
  exact hK _ _ h
theorem wl_pushRow (hgd : o.guard = none) (s x : Operand) (ho : o.op = .call { callee := .builtin .append, args := #[s, x], argTypes := #[31, 31] })
  (base : Nat) (l : List RV) (z : RV) {A : Option Addr} {n c g : Nat} (hs : a.eval s = .slice A n c) (hx : a.eval x = .slice (some ⟨g, 0, none⟩) 1 1) (hb1 : Blk w g 47 (rowC z)) (hown : Own w base 47 1 rowC (.slice A n c) l) (hn : n = l.length) (hl : l.length ≤ 1099511627) (hbase : base ≤ w.heap.size)
  (h : ∀ A' c' w', Own w' base 47 1 rowC (.slice A' (n + 1) c') (l ++ [z]) → w.grownBy w' (Value.slice A n c).ownBlock → wpList Tryz.prog ops Q rest (a.put o.dst (.slice A' (n + 1) c')) w') : wpList Tryz.prog ops Q (o :: rest) a w := by
 obtain ⟨ii, hii, hz0, hz1, hz2⟩ := info_parts info_rows3
 subst hn
 refine zxh _ hgd _ _ 31 ho base 47 ii _ 1 24 Tryz.underlying31 hii hz0 hz1 hz2 rfl (by decide) rowC_size rowC_one (.slice A l.length c) l hs hown _ _ 1 1 [z] hx rfl (zxk (enc := rowC) hb1) (by unfold maxLen; omega) (by omega) hbase ?_
 intro v' w' ho' hg hv
 obtain ⟨A', c', rfl, _, _⟩ := ho'.shape
 have hl8 : (l ++ [z]).length = l.length + 1 := by simp
 rw [hl8] at ho' hv ⊢
 exact h _ _ _ ho' hg
theorem wl_pushZ (hgd : o.guard = none) (s x : Operand) (ho : o.op = .call { callee := .builtin .append, args := #[s, x], argTypes := #[47, 47] })
  (base : Nat) (l : List Int) (z : Int) {A : Option Addr} {n c g : Nat} (hs : a.eval s = .slice A n c) (hx : a.eval x = .slice (some ⟨g, 0, none⟩) 1 1) (hb1 : Blk w g 3 (encZ z)) (hown : Own w base 3 1 encZ (.slice A n c) l) (hn : n = l.length) (hl : l.length ≤ 1099511627776) (hbase : base ≤ w.heap.size)
  (h : ∀ A' c' w', Own w' base 3 1 encZ (.slice A' (n + 1) c') (l ++ [z]) → w.grownBy w' (Value.slice A n c).ownBlock → wpList Tryz.prog ops Q rest (a.put o.dst (.slice A' (n + 1) c')) w') : wpList Tryz.prog ops Q (o :: rest) a w := by
 obtain ⟨ii, hii, hz0, hz1, hz2⟩ := info_parts info_int3
 subst hn
 refine zxh _ hgd _ _ 47 ho base 3 ii _ 1 8 Tryz.underlying47 hii hz0 hz1 hz2 rfl (by decide) encZ_size encZ_one (.slice A l.length c) l hs hown _ _ 1 1 [z] hx rfl (zxk (enc := encZ) hb1) (by unfold maxLen; omega) (by omega) hbase ?_
 intro v' w' ho' hg hv
 obtain ⟨A', c', rfl, _, _⟩ := ho'.shape
 have hl8 : (l ++ [z]).length = l.length + 1 := by simp
 rw [hl8] at ho' hv ⊢
 exact h _ _ _ ho' hg
end
theorem addM_mo (L : List MQ) (x : MQ) : (addM L x).map MQ.mo = addQ (L.map MQ.mo) x.mo := by
 unfold addM addQ
 split
 ·rfl
 ·simp
theorem addM_len (L : List MQ) (x : MQ) : (addM L x).length ≤ L.length + 1 := by
 unfold addM
 split <;> simp
def intsL (l : List Nat) : List Int := l.map fun (n : Nat) => (n : Int)
theorem intsL_length (l : List Nat) : (intsL l).length = l.length := by simp [intsL]
theorem intsL_snoc (l : List Nat) (n : Nat) : intsL (l ++ [n]) = intsL l ++ [(n : Int)] := by simp [intsL]
theorem blk_row {w : World} {A : Option Addr} {n c : Nat} {r : RV} (h : rowC r = #[.slice A n c]) : Blk (w.alloc (.cells #[.slice A n c] 47)) w.heap.size 47 (rowC r) := by
 have := Blk.new w 47 #[.slice A n c]
 unfold Blk at this ⊢
 rw [this, h]
section
variable {w0 : World} {nb b0 gd bm gm gq gk gb g4 N K M : Nat} {f : Nat → Int} {E : List Edg} {R : List Nat} {AN : Option Addr} {cN : Nat} {rs : List RV} {L : List MQ} {W W' : World}
theorem BI.at_ (h : BI w0 nb b0 gd bm gm gq gk gb g4 N K M f E R AN cN rs L W) {A : Option Addr} {c n : Nat} (hq : Own W b0 81 3 (encM K) (.slice A n c) L) {i : Nat} {q : Mo} (hi : (L.map MQ.mo)[i]? = some q) : ∃ (y : MQ) (gA : Nat), y ∈ L ∧ y.mo = q ∧ i < L.length ∧ A = some ⟨gA, 0, none⟩ ∧ RowAt W gA (i * 3) (encM K y) := by
 rw [List.getElem?_map] at hi
 obtain ⟨y, hy, hm⟩ := Option.map_eq_some_iff.1 hi
 obtain ⟨hl, hye⟩ := List.getElem?_eq_some_iff.1 hy
 obtain ⟨gA, cap, hv, _⟩ := hq.form (by omega)
 injection hv with hA hn hc
 subst hA
 refine ⟨y, gA, hye ▸ List.getElem_mem hl, hm, hl, rfl, ?_⟩
 have := hq.row (encM_size K) i hl
 rw [hye] at this
 exact this
theorem BI.tab (h : BI w0 nb b0 gd bm gm gq gk gb g4 N K M f E R AN cN rs L W) : ∃ x : TV, x.f = f ∧ x.rs = rs ∧ x.fo = L.map (·.mo.met) ∧ x.en = L.map (·.mo.end_) ∧ Blk W gd 33 x.C' ∧ TOwn W b0 x [] [] [] := by
 obtain ⟨AF, cF, AE, cE, d1, d2, d3, d4⟩ := h.q.d
 refine ⟨⟨f, rs, AN, cN, L.map (·.mo.met), AF, cF, L.map (·.mo.end_), AE, cE⟩, rfl, rfl, rfl, rfl, ?_, ?_⟩
 ·unfold TV.C'
  simp only [List.length_map]
  exact d1
 ·refine ⟨?_, ?_, ?_, fun i hi => ?_, h.ap, d4⟩
  ·simpa using h.rows
  ·simpa using d2
  ·simpa using d3
  ·simpa using h.row i hi
end
end Go.Proofs.YtkedgombccdamaaGreatDoor
