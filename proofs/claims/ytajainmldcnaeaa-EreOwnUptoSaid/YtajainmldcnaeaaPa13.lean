/- Part 13 of a proof; packed: the texts that it was made of follow one another. No condition beyond those named in each lemma. -/
import Derived.Test.YtajainmldcnaeaaPa10
import Derived.Test.YtajainmldcnaeaaPa4
import Derived.Test.YtajainmldcnaeaaPa6
import Derived.Test.YtajainmldcnaeaaPa8
namespace Go.Proofs.Ytajainmldcnaeaa
set_option linter.unusedVariables false
set_option linter.unusedSimpArgs false

mutual
/-- how many nodes have a list that is not empty -/
def Nd.cnt : Nd → Nat
  | .mk _ _ l _ _ => (if l.isEmpty then 0 else 1) + Nd.cnts l
def Nd.cnts : List Nd → Nat
  | [] => 0
  | x :: l => x.cnt + Nd.cnts l
end
theorem Nd.cnts_append (l m : List Nd) : Nd.cnts (l ++ m) = Nd.cnts l + Nd.cnts m := by
  induction l with
  | nil => simp [Nd.cnts]
  | cons x l ih => simp [Nd.cnts, ih]; omega
theorem Nd.cnts_one (x : Nd) : Nd.cnts [x] = x.cnt := by simp [Nd.cnts]
theorem Nd.cnts_step (l : List Nd) (k : Nat) (h : k < l.length) : Nd.cnts (l.take (k + 1)) = Nd.cnts (l.take k) + l[k].cnt := by
  rw [List.take_succ_eq_append_getElem h, Nd.cnts_append, Nd.cnts_one]
theorem Nd.cnts_take (l : List Nd) (k : Nat) : Nd.cnts (l.take k) ≤ Nd.cnts l := by
  have := Nd.cnts_append (l.take k) (l.drop k)
  rw [List.take_append_drop] at this
  omega
namespace Ere
section
variable {p : ByteArray}
theorem someN_cnt (k : Int) (l : List Nd) : (someN k l).cnt ≤ Nd.cnts l + 1 ∧ (l.length ≤ 1 → (someN k l).cnt ≤ Nd.cnts l) := by
  rcases l with _ | ⟨x, _ | ⟨y, l⟩⟩
  · simp [someN, Nd.cnt, Nd.cnts]
  · simp [someN, Nd.cnts]
  · refine ⟨?_, fun h => by simp at h⟩
    simp only [someN, Nd.cnt]
    simp
    omega
theorem repeatR_cnt {t u : Nd} {i j : Nat} (h : repeatR p t i = .got u j) : u.cnt + i ≤ t.cnt + j := by
  have key : ∀ a b, (timesN t a b).cnt = t.cnt + 1 := fun a b => by simp [timesN, Nd.cnt, Nd.cnts]; omega
  unfold repeatR at h
  split at h
  · injection h with h1 h2; rw [← h1, key]; omega
  split at h
  · injection h with h1 h2; rw [← h1, key]; omega
  split at h
  · injection h with h1 h2; rw [← h1, key]; omega
  split at h
  · cases hc : countsR p i with
    | fault e a => rw [hc] at h; cases h
    | got c k =>
      rw [hc] at h
      injection h with h1 h2
      have := countsR_fwd hc
      rw [← h1, key]
      omega
  · injection h with h1 h2; rw [← h1]; omega
theorem leaf_cnt (k : Int) (s : BSet) (a b : Int) : (Nd.mk k s [] a b).cnt = 0 := by simp [Nd.cnt, Nd.cnts]
theorem setR_cnt {s i j : Nat} {t : Nd} (h : setR p s i = .got t j) : t.cnt = 0 := by
  unfold setR at h
  cases hc : itemsR p s (p.size + 2) true (if isAt p i 94 then i + 1 else i) 0 with
  | fault e a => rw [hc] at h; cases h
  | got y k =>
    rw [hc] at h
    injection h with h _
    rw [← h]
    exact leaf_cnt _ _ _ _
theorem pieceR_cnt {inner : Option (Nat → Res Nd)} (hin : ∀ f, inner = some f → ∀ i t j, f i = .got t j → t.cnt + i ≤ j) (hfw : ∀ f, inner = some f → ∀ i t j, i ≤ p.size → f i = .got t j → i ≤ j ∧ j ≤ p.size) {i j : Nat} {t : Nd} (hi : i < p.size) (h : pieceR p inner i = .got t j) : t.cnt + i + 1 ≤ j := by
  have hf := pieceR_fwd hfw h hi
  unfold pieceR at h
  simp only at h
  split at h
  · injection h with h1 h2; rw [← h1, leaf_cnt]; omega
  split at h
  · injection h with h1 h2; rw [← h1, leaf_cnt]; omega
  split at h
  · cases h
  split at h
  · cases inner with
    | none => cases h
    | some f =>
      simp only at h
      cases hf : f (i + 1) with
      | fault e k => rw [hf] at h; cases h
      | got u k =>
        rw [hf] at h
        simp only [Res.bind] at h
        have h1 := hin f rfl (i + 1) u k hf
        split at h
        · cases h
        · have := repeatR_cnt h
          omega
  split at h
  · cases hf : setR p i (i + 1) with
    | fault e k => rw [hf] at h; cases h
    | got u k =>
      rw [hf] at h
      simp only [Res.bind] at h
      have h1 := setR_fwd hf
      have h2 := setR_cnt hf
      have := repeatR_cnt h
      omega
  split at h
  · have := repeatR_cnt h
    unfold setN at this
    rw [leaf_cnt] at this
    omega
  split at h
  · split at h
    · have := repeatR_cnt h
      unfold setN at this
      rw [leaf_cnt] at this
      omega
    · cases h
  · have := repeatR_cnt h
    unfold setN at this
    rw [leaf_cnt] at this
    omega
theorem altR_cnt {top : Bool} {pc : Nat → Res Nd} (hpc : ∀ i t j, i < p.size → pc i = .got t j → t.cnt + i + 1 ≤ j) {i0 : Nat} : ∀ n i l t j, Nd.cnts l + l.length + i0 ≤ i → altR p top pc n i l = .got t j → t.cnt + i0 ≤ j
  | 0, _, _, _, _, _, h => by cases h
  | n + 1, i, l, t, j, hl, h => by
    have hs := someN_cnt 3 l
    have hle : (someN 3 l).cnt + i0 ≤ i := by
      by_cases h1 : l.length ≤ 1
      · have := hs.2 h1; omega
      · omega
    unfold altR at h
    split at h
    · injection h with h1 h2; rw [← h1, ← h2]; exact hle
    · rename_i hd
      simp only [Bool.or_eq_true, decide_eq_true_eq, not_or] at hd
      split at h
      · split at h
        · cases h
        · injection h with h1 h2; rw [← h1, ← h2]; exact hle
      · cases hc : pc i with
        | fault e k => rw [hc] at h; cases h
        | got u k =>
          rw [hc] at h
          have h1 := hpc i u k (by omega) hc
          exact altR_cnt hpc n k (l ++ [u]) t j (by rw [Nd.cnts_append, Nd.cnts_one, List.length_append]; simp only [List.length_cons, List.length_nil]; omega) h
theorem patL_cnt {al : Nat → Res Nd} (hal : ∀ i t j, al i = .got t j → t.cnt + i ≤ j) {i0 : Nat} : ∀ n i l t j, Nd.cnts l + l.length + i0 ≤ i → patL p al n i l = .got t j → t.cnt + i0 ≤ j
  | 0, _, _, _, _, _, h => by cases h
  | n + 1, i, l, t, j, hl, h => by
    unfold patL at h
    cases hc : al i with
    | fault e k => rw [hc] at h; cases h
    | got u k =>
      rw [hc] at h
      simp only [Res.bind] at h
      have h1 := hal i u k hc
      have e1 : Nd.cnts (l ++ [u]) = Nd.cnts l + u.cnt := by rw [Nd.cnts_append, Nd.cnts_one]
      have e2 : (l ++ [u]).length = l.length + 1 := by simp
      split at h
      · exact patL_cnt hal n (k + 1) (l ++ [u]) t j (by omega) h
      · injection h with h2 h3
        have hs := someN_cnt 4 (l ++ [u])
        rw [← h2, ← h3]
        by_cases h4 : l.length = 0
        · have := hs.2 (by omega)
          omega
        · omega
theorem patR_cnt : ∀ n i t j, patR p n i = .got t j → t.cnt + i ≤ j
  | 0, i, t, j, h => by
    unfold patR at h
    exact patL_cnt (fun i t j h => altR_cnt (fun i t j hi h => pieceR_cnt (fun f e => by cases e) (fun f e => by cases e) hi h) _ _ _ _ _ (by simp [Nd.cnts]) h) _ _ _ _ _ (by simp [Nd.cnts]) h
  | n + 1, i, t, j, h => by
    unfold patR at h
    exact patL_cnt (fun i t j h => altR_cnt (fun i t j hi h => pieceR_cnt (fun f e => by injection e with e; subst e; exact fun i t j h => patR_cnt n i t j h) (fun f e => by injection e with e; subst e; exact fun i t j h1 h2 => patR_fwd n i t j h1 h2) hi h) _ _ _ _ _ (by simp [Nd.cnts]) h) _ _ _ _ _ (by simp [Nd.cnts]) h
theorem parse_cnt (p : ByteArray) : (parseR p).1.cnt ≤ 1024 := by
  have hz : zeroN.cnt = 0 := leaf_cnt _ _ _ _
  obtain ⟨R, hR⟩ : ∃ R, parseR p = R := ⟨_, rfl⟩
  rw [hR]
  unfold parseR at hR
  split at hR
  · subst hR; simp only; omega
  rename_i hs
  split at hR
  · subst hR; simp only; omega
  split at hR
  · subst hR; simp only; omega
  rename_i t j he
  have h1 := patR_cnt _ _ _ _ he
  have h2 := patR_fwd 64 0 t j (by omega) he
  split at hR
  · subst hR; simp only; omega
  · subst hR; simp only; omega
end
end Ere
end Go.Proofs.Ytajainmldcnaeaa
namespace Go.Proofs.Ytajainmldcnaeaa
open Go.RowKit Go.Maps
set_option linter.unusedVariables false
set_option linter.unusedSimpArgs false
attribute [local go_sem] Oper.semAt_some

/-- 'l = append(l, t)', up to 2^40 -/
theorem wl_pushN' {ops : Array Oper} {rest : List Oper} {o : Oper} {a : Act} {w : World} {Q : Exit → Act → World → Prop} (hgd : o.guard = none) (s x : Operand) (ho : o.op = .call { callee := .builtin .append, args := #[s, x], argTypes := #[25, 25] })
    {B : Nat} {A : Option Addr} {n c : Nat} {l : List Nd} {cl : List NV} {bl : List (List Nat)} (hL : NdL w B A n c l cl bl) {t : Nd} {z : NV} {bs : List Nat} (ht : NdO w B t z bs) (hdis : ∀ b ∈ bs, b ∉ ownL A ++ bl.flatten)
    (hs : a.eval s = .slice A n c) (g : Nat) (hx : a.eval x = .slice (some ⟨g, 0, none⟩) 1 1) (hb : Blk w g 27 z.C) (hmax : n + 1 ≤ 1099511627776) (hB : B ≤ w.heap.size)
    (h : ∀ A' c' w', NdL w' B A' (n + 1) c' (l ++ [t]) (cl ++ [z]) (bl ++ [bs]) → w.grownBy w' (Value.slice A n c).ownBlock → wpList Try.prog ops Q rest (a.put o.dst (.slice A' (n + 1) c')) w') : wpList Try.prog ops Q (o :: rest) a w := by
  have hi := info_node3
  cases hI : Try.prog.info? 27 with
  | none => rw [hI] at hi; cases hi
  | some ii =>
    rw [hI] at hi
    simp only [Option.map_some, Option.some.injEq, Prod.mk.injEq, Option.map_eq_some_iff] at hi
    obtain ⟨⟨z0, hz0, hz1⟩, hz2, hz3⟩ := hi
    have hcn : cl.length = n := by rw [hL.hcl, hL.hn]
    refine wl_append w hgd s x 25 ho B 27 ii z0 8 80 Try.underlying25 hI hz0 hz2 hz3 hz1 (by decide) NV.size NV.one _ cl hs hL.ho w.heap.size (some ⟨g, 0, none⟩) 1 1 [z] hx rfl (slice_one hb) (by unfold maxLen; omega) (by omega) hB ?_
    intro v' w' ho' hg hv
    obtain ⟨A', c', rfl, hL'⟩ := hL.push ht hdis (by omega) ho' hg hv
    exact h A' c' w' hL' hg
set_option maxRecDepth 100000 in
set_option maxHeartbeats 8000000 in
theorem deep_any (nd : Nd) : ∀ (B : Nat) (w : World) (cs : Array Value), NdIn w B nd cs → B ≤ w.heap.size →
    Calls Try.prog 23 #[.agg cs] w fun e w' => Below w.heap.size w w' ∧ ∃ x bs, e = .returned (.agg (NV.C x)) ∧ NdO w' w.heap.size nd x bs := by
  induction nd using Nd.ind with
  | h kd st l mi ma ih =>
  intro B w cs hin hB
  obtain ⟨A, n, c, cl, rfl, hn, hcl, hmax, hs, hr⟩ := hin.inv
  have Hn := Lib.hid hn
  have Hcl := Lib.hid hcl
  have Hr := Lib.hid hr
  have Ih := Lib.hid ih
  clear hn hcl hr ih hin
  go_enter Try.func23, Try.ntmps23
  have k1 : Blk ((w.alloc (.cells (nodeC kd st A n c mi ma) 27)).alloc (.cells zeroC 27)) w.heap.size 27 (nodeC kd st A n c mi ma) := (Blk.new _ _ _).alloc _
  have k2 : Blk ((w.alloc (.cells (nodeC kd st A n c mi ma) 27)).alloc (.cells zeroC 27)) (w.heap.size + 1) 27 zeroC := Blk.new' _ _ _ (by simp)
  have hB1 : Below w.heap.size w ((w.alloc (.cells (nodeC kd st A n c mi ma) 27)).alloc (.cells zeroC 27)) := below_alloc (below_alloc (Below.refl _ _) _) _
  unfold zeroC at k1 k2 hB1
  go_upto_region 1 with (fail)
  obtain ⟨w1, hw1⟩ : ∃ y, y = (w.alloc (.cells (nodeC kd st A n c mi ma) 27)).alloc (.cells zeroC 27) := ⟨_, rfl⟩
  unfold zeroC at hw1
  rw [← hw1] at k1 k2 hB1 ⊢
  clear hw1
  have k2l := k2.lt
  obtain ⟨B0, hB0⟩ : ∃ y, y = w1.heap.size := ⟨_, rfl⟩
  obtain ⟨g1, hg1⟩ : ∃ y, y = w.heap.size := ⟨_, rfl⟩
  obtain ⟨g2, hg2⟩ : ∃ y, y = w.heap.size + 1 := ⟨_, rfl⟩
  have hwb := Lib.hid (show g1 < B0 ∧ g2 < B0 ∧ g1 ≠ g2 ∧ w.heap.size ≤ g1 ∧ w.heap.size ≤ g2 ∧ w.heap.size ≤ B0 ∧ B ≤ g1 by have := hB1.size; omega)
  have hBw : B0 ≤ w1.heap.size := by omega
  rw [← hg2] at k2
  rw [← hg1] at k1
  rw [← hg2, ← hg1]
  replace hBw := Lib.hid hBw
  clear hB0 hg1 hg2 k2l
  have c5 : w1.cell? ⟨g1, 5, none⟩ = some (.slice A n c) := k1.cellv (i := 5) rfl
  go_wp2_with (fail)
  clear c5
  go_loopw [3, 9] (fun lv iv wr => ∃ (k c1 : Nat) (A1 : Option Addr) (cl1 : List NV) (bl1 : List (List Nat)), iv = .int .i64 k ∧ k ≤ n ∧ lv = .slice A1 k c1 ∧ NdL wr B0 A1 k c1 (l.take k) cl1 bl1 ∧ B0 ≤ wr.heap.size ∧ Below w.heap.size w wr ∧ Blk wr g1 27 (nodeC kd st A n c mi ma) ∧ Blk wr g2 27 #[.int .i64 0, .int .u64 0, .int .u64 0, .int .u64 0, .int .u64 0, .slice none 0 0, .int .i64 0, .int .i64 0]) (fun _ iv _ => n - (intOf iv).toNat)
  case atStart => exact ⟨0, 0, none, [], [], rfl, by omega, rfl, NdL.nil_ _ _, hBw.out, hB1, k1, k2⟩
  case round =>
    clear hBw hB1 k1 k2
    obtain ⟨k, c1, A1, cl1, bl1, rfl, hk, rfl, hL, hBw, hT, k1, k2⟩ := hrel
    replace hBw := Lib.hid hBw
    replace hL := Lib.hid hL
    by_cases hkn : k < n
    · have hkI : (k : Int) < n := by omega
      have hkl : k < l.length := by rw [← Hn.out]; exact hkn
      have hkc : k < cl.length := by rw [Hcl.out]; exact hkl
      obtain ⟨ba, off, rfl, hba, hrows⟩ := hs.at_ (by omega)
      have hrow := (hrows k hkc).keep (hT.block ba (by omega))
      have hsub := Hr.out k hkl hkc
      have htk := Lib.hid (List.take_succ_eq_append_getElem hkl)
      obtain ⟨⟨kd', st', l', mi', ma'⟩, hx⟩ : ∃ x, x = l[k] := ⟨_, rfl⟩
      have hmem : l[k] ∈ l := List.getElem_mem hkl
      rw [← hx] at hsub hmem htk
      obtain ⟨A', n', c', cl', hce, -⟩ := hsub.inv
      rw [hce] at hrow hsub
      have hkb : k < 1099511628000 := by omega
      have hcall := Lib.hid (fun W h => Ih.out _ hmem B W _ (hsub.keep (w' := W) h))
      clear hx hce hsub hrows hmem
      go_upto_region 5 with (first | (refine wl_load_node_at rfl _ rfl _ _ rfl _ _ _ _ _ _ _ hrow ?_) | (refine wl_store_node rfl _ _ rfl _ kd' st' A' n' c' mi' ma' rfl rfl _ rfl (Blk.new _ _ zeroC) ?_; intro w4 h6 hg6))
      have hB4 := below_grown (below_alloc (Below.refl wr.heap.size wr) (.cells zeroC 27)) hg6 (Nat.le_refl _)
      have hT4 := below_then hT hB4
      have hL4 := Lib.hid (hL.out.then_ hB4)
      have hBw4 := Lib.hid (Nat.le_trans hBw.out hB4.size)
      replace k1 := blk_then k1 hB4
      replace k2 := blk_then k2 hB4
      have hc4 := hcall.out w4 (fun j hj => hT4.block j (by have := hwb.out; omega)) (by have := hT4.size; omega)
      obtain ⟨g6, hg6e⟩ : ∃ y, y = wr.heap.size := ⟨_, rfl⟩
      rw [← hg6e] at h6 ⊢
      clear hg6 hg6e hB4 hT hL hBw hcall hrow
      have hLl := Lib.hid hL4.out.lt
      have hn9 := Lib.hid (show k + 1 ≤ 1099511627776 by omega)
      go_wp2_with (first
        | (refine wl_load_node rfl _ rfl g6 rfl kd' st' A' n' c' mi' ma' h6 ?_)
        | (go_at_call 23; refine hc4.mono ?_; rintro e w5 ⟨hB5, x, bs, rfl, hO5⟩
           have hL6 := Lib.hid ((hL4.out.then_ hB5).then_ (below_alloc (Below.refl w5.heap.size w5) (.cells x.C 27)))
           have hO6 := Lib.hid ((hO5.mono hBw4.out).then_ (below_alloc (Below.refl w5.heap.size w5) (.cells x.C 27)))
           have hdis := Lib.hid (show ∀ b ∈ bs, b ∉ ownL A1 ++ bl1.flatten from fun b hb hb2 => by have := (hO5.lt b hb).1; have := (hLl.out b hb2).2; omega)
           have hBa := Lib.hid (below_alloc (Below.refl w5.heap.size w5) (.cells x.C 27)))
        | (refine wl_build1n rfl _ rfl x rfl ?_)
        | (at_builtin; refine wl_pushN' rfl _ _ rfl hL6.out hO6.out hdis.out rfl _ rfl (Blk.new w5 27 x.C) hn9.out (by have := hBw4.out; have := hB5.size; have := hBa.out.size; omega) ?_; intro A9 c9 w7 hL7 hg7))
      have hrow : ∀ q, (Value.slice A1 k c1).ownBlock = some q → B0 ≤ q := fun q hq => (hLl.out q (List.mem_append_left _ (mem_ownL.2 hq))).1
      have hB56 := below_then hB5 hBa.out
      have hT7 := (below_then hT4 hB56).grown hg7 (by have := hT4.size; have := hB56.size; omega) (fun q e => by have := hrow q e; have := hwb.out; omega)
      have k17 := (blk_then k1 hB56).grown hg7 (fun e => by have := hrow g1 e.symm; have := hwb.out; omega)
      have k27 := (blk_then k2 hB56).grown hg7 (fun e => by have := hrow g2 e.symm; have := hwb.out; omega)
      rw [← htk.out] at hL7
      exact ⟨⟨k + 1, c9, A9, _, _, by congr 1, by omega, rfl, hL7, by have := hBw4.out; have := hB56.size; have := hg7.size; omega, hT7, k17, k27⟩, by simp only [intOf]; omega⟩
    · have hkI : ¬ (k : Int) < n := by omega
      have hke : l.take k = l := List.take_of_length_le (by have := Hn.out; omega)
      have hL2 := hL.out
      rw [hke] at hL2
      clear hke hL
      replace hL2 := Lib.hid hL2
      have f5 := k1.frozen 5
      have c5 : wr.cell? ⟨g1, 5, none⟩ = some (.slice A n c) := k1.cellv (i := 5) rfl
      go_upto_region 8 with (fail)
      have k13 : Blk (wr.setCell ⟨g1, 5, none⟩ (.slice A1 k c1)) g1 27 (nodeC kd st A1 k c1 mi ma) := k1.set_ 5 (.slice A1 k c1)
      have k23 := k2.far (p := ⟨g1, 5, none⟩) (by have := hwb.out; simp; omega) (.slice A1 k c1)
      have hTs : Turn g1 (g1 + 1) wr (wr.setCell ⟨g1, 5, none⟩ (.slice A1 k c1)) := (Turn.refl g1 (g1 + 1) wr).grown (only_setCell (World.grownBy.refl wr (some g1)) (.inl rfl) _) (fun q e => by injection e with e; left; omega)
      have hL3 := Lib.hid (hL2.out.turn hTs hwb.out.1)
      have hT3 := hT.trans (hTs.below (N := w.heap.size) hwb.out.2.2.2.1 hT.size)
      obtain ⟨w3, hw3⟩ : ∃ y, y = wr.setCell ⟨g1, 5, none⟩ (.slice A1 k c1) := ⟨_, rfl⟩
      rw [← hw3] at k13 k23 hT3 hL3 ⊢
      clear hw3 hTs f5 c5 k1 k2 hL2 hT
      go_wp2_with (first | (refine wl_load_node rfl _ rfl g1 rfl kd st A1 k c1 mi ma k13 ?_) | (refine wl_store_nv rfl _ _ rfl g2 ⟨kd, st, A1, k, c1, mi, ma⟩ rfl rfl _ rfl k23 ?_; intro w4 h4 hg4))
      refine ret_nv rfl rfl h4 rfl ?_
      have hL4 := hL3.out.keep (w' := w4) (fun b hb => hg4.block b (hL3.out.lt b hb).2 (fun e => by injection e with e; have := (hL3.out.lt b hb).1; have := hwb.out; omega))
      exact ⟨below_grown hT3 hg4 hwb.out.2.2.2.2.1, _, rfl, _, ((hL4.node kd st mi ma).mono hwb.out.2.2.2.2.2.1)⟩
end Go.Proofs.Ytajainmldcnaeaa
namespace Go.Proofs.Ytajainmldcnaeaa
open Go.RowKit Go.Maps
set_option linter.unusedVariables false
set_option linter.unusedSimpArgs false
attribute [local go_sem] Oper.semAt_some

/-- a block of lists of nodes -/
def LsBlk (w : World) (k : Nat) : Prop := ∃ cs, Blk w k 25 cs
/-- what may turn: blocks of lists of nodes from lo on -/
structure QT (lo : Nat) (w w' : World) : Prop where
  os : w'.os = w.os
  tape : w'.tape = w.tape
  output : w'.output = w.output
  size : w.heap.size ≤ w'.heap.size
  block : ∀ k, k < w.heap.size → (k < lo ∨ ¬ LsBlk w k) → w'.heap[k]? = w.heap[k]?
section
variable {lo : Nat} {w w' w2 : World}
theorem QT.refl (lo : Nat) (w : World) : QT lo w w := ⟨rfl, rfl, rfl, Nat.le_refl _, fun _ _ _ => rfl⟩
theorem QT.trans (h : QT lo w w') (k : QT lo w' w2) : QT lo w w2 :=
  ⟨k.os.trans h.os, k.tape.trans h.tape, k.output.trans h.output, Nat.le_trans h.size k.size, fun j hj hh => by
    have e := h.block j hj hh
    refine (k.block j (Nat.lt_of_lt_of_le hj h.size) ?_).trans e
    rcases hh with hh | hh
    · exact .inl hh
    · exact .inr fun ⟨cs, hI⟩ => hh ⟨cs, e.symm.trans hI⟩⟩
theorem QT.of_below (h : Below w.heap.size w w') : QT lo w w' := ⟨h.os, h.tape, h.output, h.size, fun k hk _ => h.block k hk⟩
theorem QT.then_ (h : QT lo w w') (k : Below w'.heap.size w' w2) : QT lo w w2 := h.trans (QT.of_below k)
theorem QT.grown {row : Option Nat} (h : QT lo w w') (hg : w'.grownBy w2 row) (hr : ∀ b, row = some b → w.heap.size ≤ b ∨ (lo ≤ b ∧ LsBlk w' b)) : QT lo w w2 :=
  ⟨hg.os.trans h.os, hg.tape.trans h.tape, hg.output.trans h.output, Nat.le_trans h.size hg.size, fun j hj hh => by
    have e := h.block j hj hh
    refine (hg.block j (Nat.lt_of_lt_of_le hj h.size) (fun er => ?_)).trans e
    rcases hr j er.symm with h1 | ⟨h1, ⟨cs, h2⟩⟩
    · omega
    · rcases hh with hh | hh
      · omega
      · exact hh ⟨cs, e.symm.trans h2⟩⟩
theorem QT.below {N : Nat} (h : QT lo w w') (h2 : N ≤ lo) (h3 : N ≤ w.heap.size) : Below N w w' := ⟨h.os, h.tape, h.output, h.size, fun k hk => h.block k (by omega) (.inl (by omega))⟩
theorem blk_qt {b : Nat} {t : TypeId} {cs : Array Value} (h : Blk w b t cs) (ht : t ≠ 25) (k : QT lo w w') : Blk w' b t cs :=
  (k.block b h.lt (.inr fun ⟨cs', h'⟩ => ht (by
    have e := h.symm.trans h'
    injection e with e
    injection e))).trans h
theorem own_qt {α : Type} {enc : α → Array Value} {size base : Nat} {e : TypeId} {v : Value} {ys : List α} (h : Own w base e size enc v ys) (ht : e ≠ 25) (k : QT lo w w') : Own w' base e size enc v ys :=
  own_block h fun j hj => by
    obtain ⟨cs, hc⟩ := own_typed h j hj
    exact (blk_qt hc ht k).trans hc.symm
theorem NdO.qt {B : Nat} {nd : Nd} {x : NV} {bs : List Nat} (h : NdO w B nd x bs) (k : QT lo w w') : NdO w' B nd x bs :=
  h.keep fun b hb => by
    obtain ⟨cs, hc⟩ := h.typed b hb
    exact (blk_qt hc (by decide) k).trans hc.symm
end
/-- a list of nodes that fills a block from its start -/
structure SL where
  blk : Nat
  n : Nat
  c : Nat
def SL.v (s : SL) : Value := .slice (some ⟨s.blk, 0, none⟩) s.n s.c
def encS (s : SL) : Array Value := #[s.v]
theorem encS_size (s : SL) : (encS s).size = 1 := rfl
theorem encS_one (s : SL) : (encS s).all (·.oneCell') = true := by simp [encS, SL.v, Value.oneCell']
/-- such a list, in memory of its own -/
def OwnS (w : World) (B : Nat) (s : SL) : Prop := s.n ≤ 1099511627776 ∧ ∃ ys : List NV, Own w B 27 8 NV.C s.v ys
/-- lists of lists, no two in one block -/
def GL (w : World) (B : Nat) (L : List SL) (bs : List Nat) : Prop := (L.map SL.blk).Nodup ∧ ∀ s ∈ L, s.blk ∈ bs ∧ OwnS w B s
section
variable {w w' : World} {B lo : Nat} {L M : List SL} {bs cs : List Nat}
theorem GL.nil (w : World) (B : Nat) (bs : List Nat) : GL w B [] bs := ⟨List.nodup_nil, fun s h => by cases h⟩
theorem GL.qt (h : GL w B L bs) (k : QT lo w w') : GL w' B L bs := ⟨h.1, fun s hs => ⟨(h.2 s hs).1, by
  obtain ⟨hn, ys, ho⟩ := (h.2 s hs).2
  exact ⟨hn, ys, own_qt ho (by decide) k⟩⟩⟩
theorem GL.sub (h : GL w B L bs) (hb : ∀ b ∈ bs, b ∈ cs) : GL w B L cs := ⟨h.1, fun s hs => ⟨hb _ (h.2 s hs).1, (h.2 s hs).2⟩⟩
theorem GL.append (h : GL w B L bs) (k : GL w B M cs) (hd : ∀ b ∈ bs, b ∉ cs) : GL w B (L ++ M) (bs ++ cs) := by
  refine ⟨?_, fun s hs => ?_⟩
  · rw [List.map_append, List.nodup_append]
    refine ⟨h.1, k.1, fun a ha b hb e => ?_⟩
    subst e
    obtain ⟨s, hs, rfl⟩ := List.mem_map.1 ha
    obtain ⟨t, ht, e⟩ := List.mem_map.1 hb
    exact hd _ (h.2 s hs).1 (e ▸ (k.2 t ht).1)
  · rcases List.mem_append.1 hs with hs | hs
    · exact ⟨List.mem_append_left _ (h.2 s hs).1, (h.2 s hs).2⟩
    · exact ⟨List.mem_append_right _ (k.2 s hs).1, (k.2 s hs).2⟩
theorem GL.one {s : SL} (h : OwnS w B s) : GL w B [s] [s.blk] := ⟨by simp, fun t ht => by rw [List.mem_singleton.1 ht]; exact ⟨by simp, h⟩⟩
end
theorem info_slN : (Try.prog.info? 25).map (fun i => (i.zero, i.size, i.bytes)) = some (some (.slice none 0 0), 1, 24) := by kernel_rfl
theorem wl_pushS {ops : Array Oper} {rest : List Oper} {o : Oper} {a : Act} {w : World} {Q : Exit → Act → World → Prop} (hgd : o.guard = none) (s x : Operand) (ho : o.op = .call { callee := .builtin .append, args := #[s, x], argTypes := #[45, 45] })
    {lo n c : Nat} {A : Option Addr} {L : List SL} (hO : Own w lo 25 1 encS (.slice A n c) L) (hs : a.eval s = .slice A n c) (g : Nat) (z : SL) (hx : a.eval x = .slice (some ⟨g, 0, none⟩) 1 1) (hb : Blk w g 25 (encS z)) (hmax : n ≤ 1000000) (hB : lo ≤ w.heap.size)
    (h : ∀ A' c' w', Own w' lo 25 1 encS (.slice A' (n + 1) c') (L ++ [z]) → w.grownBy w' (Value.slice A n c).ownBlock → wpList Try.prog ops Q rest (a.put o.dst (.slice A' (n + 1) c')) w') : wpList Try.prog ops Q (o :: rest) a w := by
  have hi := info_slN
  cases hI : Try.prog.info? 25 with
  | none => rw [hI] at hi; cases hi
  | some ii =>
    rw [hI] at hi
    simp only [Option.map_some, Option.some.injEq, Prod.mk.injEq] at hi
    obtain ⟨hz0, hz1, hz2⟩ := hi
    have hxn := own_len hO
    subst hxn
    refine wl_append w hgd s x 45 ho lo 25 ii _ 1 24 Try.underlying45 hI hz0 hz1 hz2 rfl (by decide) encS_size encS_one _ L hs hO w.heap.size (some ⟨g, 0, none⟩) 1 1 [z] hx rfl (slice_one (enc := encS) hb) (by unfold maxLen; omega) (by omega) hB ?_
    intro v' w' ho' hg hv
    obtain ⟨A', c', rfl, _, _⟩ := ho'.shape
    have hl8 : (L ++ [z]).length = L.length + 1 := by simp
    rw [hl8] at ho' ⊢
    exact h _ _ _ ho' hg
set_option maxRecDepth 100000 in
set_option maxHeartbeats 8000000 in
theorem gather_any (nd : Nd) : ∀ (B lo : Nat) (x : NV) (bs : List Nat) (L0 : List SL) (A0 : Option Addr) (n0 c0 : Nat) (w : World) (dp : Int), NdO w B nd x bs → Own w lo 25 1 encS (.slice A0 n0 c0) L0 → lo ≤ w.heap.size → L0.length + nd.cnt ≤ 100000 →
    Calls Try.prog 24 #[.slice A0 n0 c0, .agg x.C, .int .i64 dp] w fun e w' => QT lo w w' ∧ ∃ (A' : Option Addr) (n' c' : Nat) (L : List SL), e = .returned (.slice A' n' c') ∧ Own w' lo 25 1 encS (.slice A' n' c') (L0 ++ L) ∧ L.length ≤ nd.cnt ∧ GL w' B L bs := by
  induction nd using Nd.ind with
  | h kd st l mi ma ih =>
  intro B lo x bs L0 A0 n0 c0 w dp hN hO hlo hmax
  obtain ⟨A, n, c, cl, bl, rfl, rfl, hL⟩ := hN.list
  have hcnt : (Nd.mk kd st l mi ma).cnt = (if l.isEmpty then 0 else 1) + Nd.cnts l := by simp [Nd.cnt]
  rw [hcnt] at hmax
  have Ih := Lib.hid ih
  have HL := Lib.hid hL
  have hmax2 : L0.length + Nd.cnts l ≤ 100000 := by split at hmax <;> omega
  have Hmax := Lib.hid hmax2
  have Hcnt := Lib.hid hcnt
  have Hlo := Lib.hid hlo
  have HO := Lib.hid hO
  clear ih hN hL hmax hmax2 hcnt hlo hO
  go_enter Try.func24, Try.ntmps24
  have k4 := Blk.new w 27 (nodeC kd st A n c mi ma)
  have hB1 : Below w.heap.size w (w.alloc (.cells (nodeC kd st A n c mi ma) 27)) := below_alloc (Below.refl _ _) _
  go_upto_region 1 with (fail)
  obtain ⟨w1, hw1⟩ : ∃ y, y = w.alloc (.cells (nodeC kd st A n c mi ma) 27) := ⟨_, rfl⟩
  rw [← hw1] at k4 hB1
  try unfold NV.C
  try rw [← hw1]
  clear hw1
  have hT : QT lo w w1 := QT.of_below hB1
  have hO1 := Lib.hid (own_then HO.out hB1)
  have hL1 := Lib.hid (HL.out.then_ hB1)
  obtain ⟨g4, hg4⟩ : ∃ y, y = w.heap.size := ⟨_, rfl⟩
  rw [← hg4] at k4
  try rw [← hg4]
  clear hg4 hB1 HO
  have c5 : w1.cell? ⟨g4, 5, none⟩ = some (.slice A n c) := k4.cellv (i := 5) rfl
  go_wp2_with (fail)
  clear c5
  go_loopw [0, 12] (fun lv iv wr => ∃ (k : Nat) (L : List SL) (A1 : Option Addr) (n1 c1 : Nat), iv = .int .i64 k ∧ k ≤ n ∧ lv = .slice A1 n1 c1 ∧ Own wr lo 25 1 encS (.slice A1 n1 c1) (L0 ++ L) ∧ Hid (L.length ≤ Nd.cnts (l.take k)) ∧ GL wr B L (bl.take k).flatten ∧ QT lo w wr ∧ Blk wr g4 27 (nodeC kd st A n c mi ma)) (fun _ iv _ => n - (intOf iv).toNat)
  case atStart => exact ⟨0, [], A0, n0, c0, rfl, by omega, rfl, by rw [List.append_nil]; exact hO1.out, Lib.hid (by simp), GL.nil _ _ _, hT, k4⟩
  case round =>
    clear hO1 hL1 hT k4
    obtain ⟨k, L, A1, n1, c1, rfl, hk, rfl, hO, hLc, hG, hT, k4⟩ := hrel
    replace hO := Lib.hid hO
    replace hG := Lib.hid hG
    have hL := Lib.hid (NdL.keep HL.out (w' := wr) (fun b hb => by
      obtain ⟨cs, hc⟩ := (HL.out.node 0 0 0 0).typed b hb
      exact (blk_qt hc (by decide) hT).trans hc.symm))
    by_cases hkn : k < n
    · have hkI : (k : Int) < n := by omega
      have hkl : k < l.length := by rw [← hL.out.hn]; exact hkn
      have hkc : k < cl.length := by rw [hL.out.hcl]; exact hkl
      have hkb : k < bl.length := by rw [hL.out.hbl]; exact hkl
      obtain ⟨ba, off, hA, hba, hrows⟩ := (hL.out.ho.slice_all NV.size).at_ (by omega)
      have hrow := hrows k hkc
      have hsub := hL.out.hr k hkl hkc hkb
      have hmem : l[k] ∈ l := List.getElem_mem hkl
      have hst := Nd.cnts_step l k hkl
      have htk := Nd.cnts_take l (k + 1)
      have hflat : (bl.take (k + 1)).flatten = (bl.take k).flatten ++ bl[k] := by
        rw [List.take_succ_eq_append_getElem hkb, List.flatten_append, List.flatten_cons, List.flatten_nil, List.append_nil]
      have hdj : ∀ b ∈ (bl.take k).flatten, b ∉ bl[k] := by
        intro b h1 h2
        have hnd := hL.out.hd
        rw [List.nodup_append] at hnd
        have h3 := hnd.2.1
        rw [← List.take_append_drop (k + 1) bl, List.flatten_append, hflat, List.nodup_append, List.nodup_append] at h3
        exact h3.1.2.2 b h1 b h2 rfl
      obtain ⟨y, hy⟩ : ∃ y, y = cl[k] := ⟨_, rfl⟩
      obtain ⟨nk, hnk⟩ : ∃ y, y = l[k] := ⟨_, rfl⟩
      obtain ⟨bk, hbk⟩ : ∃ y, y = bl[k] := ⟨_, rfl⟩
      rw [← hy] at hrow hsub
      rw [← hnk] at hsub hmem hst
      rw [← hbk] at hsub hflat hdj
      subst hA
      have hkb2 : k < 1099511628000 := by have := hL.out.hmax; omega
      have hlim := Lib.hid (show (L0 ++ L).length + nk.cnt ≤ 100000 by
        have := Hmax.out
        have := hLc.out
        rw [List.length_append]
        omega)
      have hLc2 := Lib.hid (show L.length + nk.cnt ≤ Nd.cnts (l.take (k + 1)) by have := hLc.out; omega)
      have hcall := Lib.hid (fun W (hW : Below wr.heap.size wr W) dp => Ih.out nk hmem B lo y bk (L0 ++ L) A1 n1 c1 W dp (hsub.then_ hW) (own_then hO.out hW) (by have := Hlo.out; have := hT.size; have := hW.size; omega) hlim.out)
      replace hflat := Lib.hid hflat
      replace hdj := Lib.hid hdj
      clear hy hnk hbk hrows hsub hmem hst htk hL hLc
      go_upto_region 4 with (first | (refine wl_load_node_at rfl _ rfl _ _ rfl _ _ _ _ _ _ _ hrow ?_) | (refine wl_store_nv rfl _ _ rfl _ y rfl rfl _ rfl (Blk.new _ _ zeroC) ?_; intro w4 h8 hg8))
      have hB4 := below_grown (below_alloc (Below.refl wr.heap.size wr) (.cells zeroC 27)) hg8 (Nat.le_refl _)
      have hT4 := hT.then_ hB4
      have hG4 := Lib.hid (hG.out.qt (QT.of_below (lo := lo) hB4))
      replace k4 := blk_then k4 hB4
      have hc4 := hcall.out w4 hB4
      obtain ⟨g8, hg8e⟩ : ∃ y, y = wr.heap.size := ⟨_, rfl⟩
      rw [← hg8e] at h8 ⊢
      clear hg8 hg8e hB4 hT hG hO hcall hrow
      go_wp2_with (first
        | (refine wl_load_nv rfl _ rfl g8 rfl y h8 ?_)
        | (go_at_call 24; refine (hc4 _).mono ?_; rintro e w5 ⟨hT5, A5, n5, c5, L5, rfl, hO5, hL5, hG5⟩))
      refine ⟨⟨k + 1, L ++ L5, A5, n5, c5, by congr 1, by omega, rfl, by rw [← List.append_assoc]; exact hO5, Lib.hid ?_, ?_, hT4.trans hT5, blk_qt k4 (by decide) hT5⟩, by simp only [intOf]; omega⟩
      · rw [List.length_append]
        have := hLc2.out
        omega
      · rw [hflat.out]
        exact (hG4.out.qt hT5).append hG5 hdj.out
    · have hkI : ¬ (k : Int) < n := by omega
      have hkb : ¬ k < bl.length := by have := hL.out.hbl; have := hL.out.hn; omega
      have hke : l.take k = l := List.take_of_length_le (by have := hL.out.hn; omega)
      have hbe : bl.take k = bl := List.take_of_length_le (by omega)
      have hG2 := hG.out
      rw [hbe] at hG2
      have hLc2 := hLc.out
      rw [hke] at hLc2
      have c5 : wr.cell? ⟨g4, 5, none⟩ = some (.slice A n c) := k4.cellv (i := 5) rfl
      clear hke hbe hG hLc hkb
      replace hG2 := Lib.hid hG2
      replace hLc2 := Lib.hid hLc2
      by_cases hn0 : n = 0
      · have hn0I : ¬ (0 : Int) < n := by omega
        replace hn0 := Lib.hid hn0
        go_wp2_with (fail)
        go_ret
        exact ⟨hT, A1, n1, c1, rfl, L, hO.out, by have := hLc2.out; have := Hcnt.out; omega, hG2.out.sub (fun b hb => List.mem_append_right _ hb)⟩
      · have hn0I : (0 : Int) < n := by omega
        obtain ⟨b, cap, hv, _, _, _, _⟩ := hL.out.ho.form (by have := hL.out.hcl; have := hL.out.hn; omega)
        injection hv with h1 h2 h3
        subst h1
        have hn1 := Lib.hid (show n1 ≤ 1000000 by
          have := own_len hO.out
          have := Hmax.out
          have := hLc2.out
          rw [List.length_append] at *
          omega)
        have hOl := Lib.hid hO.out.lt
        have hTy := Lib.hid (own_typed hO.out)
        have hSL : OwnS wr B ⟨b, n, c⟩ := ⟨hL.out.hmax, cl, hL.out.ho⟩
        have hbn := Lib.hid (show ∀ b' ∈ bl.flatten, b' ∉ [b] by
          have hnd := hL.out.hd
          rw [List.nodup_append] at hnd
          intro b' h1 h2
          exact hnd.2.2 b (by simp [ownL]) b' h1 (List.mem_singleton.1 h2).symm)
        have hle := Lib.hid (show l.isEmpty = false by
          have := hL.out.hn
          cases l with
          | nil => simp at this; omega
          | cons _ _ => rfl)
        replace hSL := Lib.hid hSL
        clear h2 h3 hn0
        have hO2 := Lib.hid (own_then hO.out (below_alloc (Below.refl wr.heap.size wr) (.cells #[.slice (some ⟨b, 0, none⟩) n c] 25)))
        have hBa := Lib.hid (below_alloc (Below.refl wr.heap.size wr) (.cells #[.slice (some ⟨b, 0, none⟩) n c] 25))
        go_wp2_with (at_builtin; refine wl_pushS rfl _ _ rfl hO2.out rfl wr.heap.size ⟨b, n, c⟩ rfl (Blk.new wr 25 (encS ⟨b, n, c⟩)) hn1.out (by have := Hlo.out; have := hT.size; have := hBa.out.size; omega) ?_; intro A9 c9 w7 hO7 hg7)
        go_ret
        have hrow := fun q (hq : (Value.slice A1 n1 c1).ownBlock = some q) => hOl.out q hq
        have hTa := hT.then_ hBa.out
        have hT7 := hTa.grown hg7 (fun q e => .inr ⟨(hrow q e).1, by
          obtain ⟨cs, hc⟩ := hTy.out q e
          exact ⟨cs, blk_then hc hBa.out⟩⟩)
        have hQ7 : QT lo wr w7 := (QT.of_below hBa.out).grown hg7 (fun q e => .inr ⟨(hrow q e).1, by
          obtain ⟨cs, hc⟩ := hTy.out q e
          exact ⟨cs, blk_then hc hBa.out⟩⟩)
        refine ⟨hT7, A9, n1 + 1, c9, rfl, L ++ [⟨b, n, c⟩], by rw [← List.append_assoc]; exact hO7, ?_, ?_⟩
        · rw [List.length_append, Hcnt.out, hle.out]
          have := hLc2.out
          simp
          omega
        · refine ((hG2.out.qt hQ7).append (GL.one (s := ⟨b, n, c⟩) ?_) hbn.out).sub (fun q hq => ?_)
          · obtain ⟨hn9, ys, hy⟩ := hSL.out
            exact ⟨hn9, ys, own_qt hy (by decide) hQ7⟩
          · rcases List.mem_append.1 hq with hq | hq
            · exact List.mem_append_right _ hq
            · exact List.mem_append_left _ (by simpa [ownL] using hq)
end Go.Proofs.Ytajainmldcnaeaa
namespace Go.Proofs.Ytajainmldcnaeaa
open Go.RowKit Go.Maps
set_option linter.unusedVariables false
set_option linter.unusedSimpArgs false
attribute [local go_sem] Oper.semAt_some

/-- what may turn: the blocks of S -/
structure SpF (S : List Nat) (w w' : World) : Prop where
  os : w'.os = w.os
  tape : w'.tape = w.tape
  output : w'.output = w.output
  size : w.heap.size ≤ w'.heap.size
  block : ∀ k, k < w.heap.size → k ∉ S → w'.heap[k]? = w.heap[k]?
section
variable {S S2 : List Nat} {w w' w2 : World}
theorem SpF.refl (S : List Nat) (w : World) : SpF S w w := ⟨rfl, rfl, rfl, Nat.le_refl _, fun _ _ _ => rfl⟩
theorem SpF.trans (h : SpF S w w') (k : SpF S w' w2) : SpF S w w2 :=
  ⟨k.os.trans h.os, k.tape.trans h.tape, k.output.trans h.output, Nat.le_trans h.size k.size, fun j hj hn => (k.block j (Nat.lt_of_lt_of_le hj h.size) hn).trans (h.block j hj hn)⟩
theorem SpF.sub (h : SpF S w w') (hs : ∀ b ∈ S, b ∈ S2) : SpF S2 w w' := ⟨h.os, h.tape, h.output, h.size, fun k hk hn => h.block k hk fun hb => hn (hs k hb)⟩
theorem SpF.of_below (h : Below w.heap.size w w') : SpF S w w' := ⟨h.os, h.tape, h.output, h.size, fun k hk _ => h.block k hk⟩
theorem SpF.then_ (h : SpF S w w') (k : Below w'.heap.size w' w2) : SpF S w w2 := h.trans (SpF.of_below k)
theorem SpF.grown {row : Option Nat} (h : SpF S w w') (hg : w'.grownBy w2 row) (hr : ∀ b, row = some b → b ∈ S ∨ w.heap.size ≤ b) : SpF S w w2 :=
  ⟨hg.os.trans h.os, hg.tape.trans h.tape, hg.output.trans h.output, Nat.le_trans h.size hg.size, fun j hj hn => by
    refine (hg.block j (Nat.lt_of_lt_of_le hj h.size) (fun er => ?_)).trans (h.block j hj hn)
    rcases hr j er.symm with h1 | h1
    · exact hn h1
    · omega⟩
theorem SpF.below {N : Nat} (h : SpF S w w') (h2 : ∀ b ∈ S, N ≤ b) (h3 : N ≤ w.heap.size) : Below N w w' := ⟨h.os, h.tape, h.output, h.size, fun k hk => h.block k (by omega) (fun hb => by have := h2 k hb; omega)⟩
theorem blk_sp {b : Nat} {t : TypeId} {cs : Array Value} (h : Blk w b t cs) (hb : b ∉ S) (k : SpF S w w') : Blk w' b t cs := (k.block b h.lt hb).trans h
theorem NdO.sp {B : Nat} {nd : Nd} {x : NV} {bs : List Nat} (h : NdO w B nd x bs) (hb : ∀ b ∈ bs, b ∉ S) (k : SpF S w w') : NdO w' B nd x bs := h.keep fun b hb' => k.block b (h.lt b hb').2 (hb b hb')
end
/-- the first n nodes of a block are all v -/
def NRows (w : World) (b n : Nat) (v : NV) : Prop := (∃ cs, Blk w b 27 cs) ∧ ∀ m, m < n → RowAt w b (m * 8) v.C
theorem NRows.lt {w : World} {b n : Nat} {v : NV} (h : NRows w b n v) : b < w.heap.size := by
  obtain ⟨⟨cs, hc⟩, _⟩ := h
  exact hc.lt
theorem NRows.keep {w w' : World} {b n : Nat} {v : NV} (h : NRows w b n v) (hb : w'.heap[b]? = w.heap[b]?) : NRows w' b n v := ⟨by
  obtain ⟨⟨cs, hc⟩, _⟩ := h
  exact ⟨cs, hb.trans hc⟩, fun m hm => (h.2 m hm).keep hb⟩
theorem NRows.of_own {w : World} {B b n c k : Nat} {v : NV} (h : Own w B 27 8 NV.C (.slice (some ⟨b, 0, none⟩) n c) (List.replicate n v)) (hk : k ≤ n) : NRows w b k v := ⟨own_typed h b rfl, fun m hm => by
  obtain ⟨b', off, e, _, hrow⟩ := (h.slice_all NV.size).at_ (by rw [List.length_replicate]; omega)
  injection e with e
  injection e with e1 e2
  subst e1 e2
  have := hrow m (by rw [List.length_replicate]; omega)
  rw [Nat.zero_add, List.getElem_replicate] at this
  exact this⟩
def kindV (i : Nat) : NV := ⟨100 + (i : Int), 0, none, 0, 0, 0, 0⟩
theorem build_nodes3 (x y z : NV) (w : World) : (Instr.buildSlice 25 3 #[(0, .agg x.C), (1, .agg y.C), (2, .agg z.C)]).run Try.prog w = .ok (.slice (some ⟨w.heap.size, 0, none⟩) 3 3) (w.alloc (.cells (x.C ++ (y.C ++ z.C)) 27)) := by kernel_rfl
theorem wl_build3n {ops : Array Oper} {rest : List Oper} {o : Oper} {a : Act} {w : World} {Q : Exit → Act → World → Prop} (hgd : o.guard = none) (p q r : Operand) (ho : o.op = .buildSlice 25 3 #[(0, p), (1, q), (2, r)]) (x y z : NV) (hx : a.eval p = .agg x.C) (hy : a.eval q = .agg y.C) (hz : a.eval r = .agg z.C)
    (h : wpList Try.prog ops Q rest (a.put o.dst (.slice (some ⟨w.heap.size, 0, none⟩) 3 3)) (w.alloc (.cells (x.C ++ (y.C ++ z.C)) 27))) : wpList Try.prog ops Q (o :: rest) a w :=
  wpList_plain hgd fun _ hK => by
    have e : (#[(0, p), (1, q), (2, r)] : Array (Nat × Operand)).map (fun (i, x) => (i, a.eval x)) = #[(0, .agg x.C), (1, .agg y.C), (2, .agg z.C)] := by simp [hx, hy, hz]
    unfold Oper.wp execOp
    simp only [ho, e, Sem.run_bind, build_nodes3, Result.andThen_ok, Sem.run_pure]
    exact hK _ _ h
theorem info_node8 : (Try.prog.info? 27).map (·.size) = some 8 := by kernel_rfl
theorem own_sp {S : List Nat} {w w' : World} {B : Nat} {s : SL} {ys : List NV} (h : Own w B 27 8 NV.C s.v ys) (hb : s.blk ∉ S) (k : SpF S w w') : Own w' B 27 8 NV.C s.v ys :=
  own_block h fun j hj => by
    have e : j = s.blk := by
      unfold SL.v Value.ownBlock at hj
      injection hj with hj
      exact hj.symm
    subst e
    exact k.block _ (h.lt _ hj).2 hb
theorem nodup_at {S : List SL} (h : (S.map SL.blk).Nodup) {i j : Nat} (hi : i < S.length) (hj : j < S.length) (hne : i ≠ j) : S[i].blk ≠ S[j].blk := by
  intro e
  have := List.getElem_inj (h₀ := by simpa using hi) (h₁ := by simpa using hj) h |>.1 (by simpa using e)
  exact hne this
theorem wl_pushK {ops : Array Oper} {rest : List Oper} {o : Oper} {a : Act} {w : World} {Q : Exit → Act → World → Prop} (hgd : o.guard = none) (s x : Operand) (ho : o.op = .call { callee := .builtin .append, args := #[s, x], argTypes := #[25, 25] })
    {B : Nat} {A : Option Addr} {n c : Nat} {cl : List NV} (hL : Own w B 27 8 NV.C (.slice A n c) cl) {z : NV}
    (hs : a.eval s = .slice A n c) (g : Nat) (hx : a.eval x = .slice (some ⟨g, 0, none⟩) 1 1) (hb : Blk w g 27 z.C) (hmax : n ≤ 1099511627800) (hB : B ≤ w.heap.size)
    (h : ∀ A' c' w', Own w' B 27 8 NV.C (.slice A' (n + 1) c') (cl ++ [z]) → Own w' B 27 8 NV.C (.slice A n c) cl → w.grownBy w' (Value.slice A n c).ownBlock → ((Value.slice A' (n + 1) c').ownBlock = (Value.slice A n c).ownBlock ∨ (Value.slice A' (n + 1) c').ownBlock = some w.heap.size) → wpList Try.prog ops Q rest (a.put o.dst (.slice A' (n + 1) c')) w') : wpList Try.prog ops Q (o :: rest) a w := by
  have hi := info_node3
  cases hI : Try.prog.info? 27 with
  | none => rw [hI] at hi; cases hi
  | some ii =>
    rw [hI] at hi
    simp only [Option.map_some, Option.some.injEq, Prod.mk.injEq, Option.map_eq_some_iff] at hi
    obtain ⟨⟨z0, hz0, hz1⟩, hz2, hz3⟩ := hi
    have hcn : n = cl.length := own_len hL
    refine wl_append_keep hgd s x 25 ho B 27 ii z0 8 80 Try.underlying25 hI hz0 hz2 hz3 hz1 (by decide) NV.size NV.one _ cl hs hL w.heap.size (some ⟨g, 0, none⟩) 1 1 [z] hx rfl (slice_one hb) (by unfold maxLen; omega) (by omega) hB ?_
    intro v' w' ho' hk hg hv
    obtain ⟨A', c', rfl, _, _⟩ := ho'.shape
    have hl8 : (cl ++ [z]).length = n + 1 := by simp; omega
    rw [hl8] at ho' hv ⊢
    exact h _ _ _ ho' hk hg hv
/-- three trees in one list -/
theorem NdL.three {w w' : World} {B g : Nat} {a b c : Nd} {x y z : NV} {p q r : List Nat} (ha : NdO w B a x p) (hb : NdO w B b y q) (hc : NdO w B c z r) (hd1 : ∀ k ∈ p, k ∉ q) (hd2 : ∀ k ∈ p, k ∉ r) (hd3 : ∀ k ∈ q, k ∉ r)
    (hw : Below w.heap.size w w') (hg : w.heap.size ≤ g) (hB : B ≤ w.heap.size) (hk : Blk w' g 27 (x.C ++ (y.C ++ z.C))) : NdL w' B (some ⟨g, 0, none⟩) 3 3 [a, b, c] [x, y, z] [p, q, r] := by
  refine ⟨rfl, rfl, rfl, by omega, ?_, fun i h1 h2 h3 => ?_, ?_⟩
  · refine ⟨rfl, .inr ⟨g, 3, x.C ++ (y.C ++ z.C), rfl, by omega, hk, Nat.le_refl _, by unfold maxLen; omega, by simp [NV.size], ?_⟩⟩
    rw [List.take_of_length_le (by simp [NV.size])]
    simp [flat]
  · match i, h1 with
    | 0, _ => exact ha.then_ hw
    | 1, _ => exact hb.then_ hw
    | 2, _ => exact hc.then_ hw
  · simp only [ownL, List.flatten_cons, List.flatten_nil, List.append_nil, List.cons_append, List.nil_append, List.nodup_cons, List.mem_append, not_or, List.nodup_append]
    refine ⟨⟨fun h => ?_, fun h => ?_, fun h => ?_⟩, ha.nd, ⟨hb.nd, hc.nd, fun k hk m hm e => ?_⟩, fun k hk m hm e => ?_⟩
    · have := (ha.lt g h).2; omega
    · have := (hb.lt g h).2; omega
    · have := (hc.lt g h).2; omega
    · subst e; exact hd3 k hk hm
    · subst e
      rcases hm with hm | hm
      · exact hd1 k hk hm
      · exact hd2 k hk hm
set_option maxRecDepth 100000 in
set_option maxHeartbeats 80000000 in
theorem own_any (p q : ByteArray) (w : World) (hM : Mx w) :
    Calls Try.prog 7 #[.string p, .string q] w fun e w' => e = .returned (.bool true) ∧ Below w.heap.size w w' := by
  have kK := known4_any w hM
  have kP : ∀ W, Mx W → _ := fun W hW => parse_any p W hW
  have kQ : ∀ W, Mx W → _ := fun W hW => parse_any q W hW
  have hcp := Ere.parse_cnt p
  have hcq := Ere.parse_cnt q
  have hw0 : 0 < w.heap.size := by
    obtain ⟨m, hm⟩ := hM
    rcases Nat.eq_zero_or_pos w.heap.size with e | e
    · unfold World.cell? at hm
      simp [Array.getElem?_eq_none (show w.heap.size ≤ 0 by omega)] at hm
    · exact e
  obtain ⟨⟨t1, a1, e1⟩, hr1⟩ : ∃ r, Ere.parseR p = r := ⟨_, rfl⟩
  obtain ⟨⟨t2, a2, e2⟩, hr2⟩ : ∃ r, Ere.parseR q = r := ⟨_, rfl⟩
  rw [hr1] at kP hcp
  rw [hr2] at kQ hcq
  simp only at kP kQ hcp hcq
  clear hr1 hr2
  replace kP := Lib.hid kP
  replace kQ := Lib.hid kQ
  replace hcp := Lib.hid hcp
  replace hcq := Lib.hid hcq
  replace hw0 := Lib.hid hw0
  go_enter Try.func7, Try.ntmps7
  go_upto_region 4 with (go_at_call 11; refine kK.mono ?_; rintro en w1 ⟨rfl, hT⟩)
  have kP1 := kP.out w1 (hM.then_ hT)
  clear kK
  go_upto_region 5 with (first
    | (go_at_call 12; refine kP1.mono ?_; rintro en wp6 ⟨hBp6, x6, bs6, rfl, hO6⟩)
    | (refine wl_store_nv rfl _ _ rfl _ x6 rfl rfl _ rfl (Blk.new _ _ zeroC) ?_; intro w2 k6 hg6))
  have hBn := below_then hBp6 (below_grown (below_alloc (Below.refl wp6.heap.size wp6) (.cells zeroC 27)) hg6 (Nat.le_refl _))
  have o6 := (hO6.then_ (below_alloc (Below.refl _ _) (.cells zeroC 27))).keep (w' := w2) (fun b hb => hg6.block b (by have := (hO6.lt b hb).2; simp; omega) (fun e => by injection e with e; have := (hO6.lt b hb).2; omega))
  have hl6 := Lib.hid (fun b hb => hO6.lt b hb)
  obtain ⟨g6, hge⟩ : ∃ y, y = wp6.heap.size := ⟨_, rfl⟩
  have hs6 := Lib.hid (show w1.heap.size ≤ g6 ∧ g6 < w2.heap.size ∧ (∀ b ∈ bs6, w1.heap.size ≤ b ∧ b < g6) ∧ w.heap.size ≤ w1.heap.size from ⟨by have := hBp6.size; omega, by have := k6.lt; omega, fun b hb => by have := hl6.out b hb; omega, hT.size⟩)
  rw [← hge] at k6 ⊢
  replace hT := below_then hT hBn
  clear hBp6 hO6 hg6 hBn hge hl6
  have kQ1 := kQ.out w2 (hM.then_ hT)
  clear kQ kP1
  go_upto_region 6 with (first
    | (go_at_call 12; refine kQ1.mono ?_; rintro en wp9 ⟨hBp9, x9, bs9, rfl, hO9⟩)
    | (refine wl_store_nv rfl _ _ rfl _ x9 rfl rfl _ rfl (Blk.new _ _ zeroC) ?_; intro w3 k9 hg9))
  have hBn := below_then hBp9 (below_grown (below_alloc (Below.refl wp9.heap.size wp9) (.cells zeroC 27)) hg9 (Nat.le_refl _))
  have o9 := (hO9.then_ (below_alloc (Below.refl _ _) (.cells zeroC 27))).keep (w' := w3) (fun b hb => hg9.block b (by have := (hO9.lt b hb).2; simp; omega) (fun e => by injection e with e; have := (hO9.lt b hb).2; omega))
  have hl9 := Lib.hid (fun b hb => hO9.lt b hb)
  replace k6 := blk_then k6 hBn
  replace o6 := o6.then_ hBn
  obtain ⟨g9, hge⟩ : ∃ y, y = wp9.heap.size := ⟨_, rfl⟩
  have hs9 := Lib.hid (show w2.heap.size ≤ g9 ∧ g9 < w3.heap.size ∧ (∀ b ∈ bs9, w2.heap.size ≤ b ∧ b < g9) ∧ w.heap.size ≤ w2.heap.size from ⟨by have := hBp9.size; omega, by have := k9.lt; omega, fun b hb => by have := hl9.out b hb; omega, hT.size⟩)
  rw [← hge] at k9 ⊢
  replace hT := below_then hT hBn
  clear hBp9 hO9 hg9 hBn hge hl9
  have kP1 := kP.out w3 (hM.then_ hT)
  clear kQ1
  go_upto_region 7 with (first
    | (go_at_call 12; refine kP1.mono ?_; rintro en wp12 ⟨hBp12, x12, bs12, rfl, hO12⟩)
    | (refine wl_store_nv rfl _ _ rfl _ x12 rfl rfl _ rfl (Blk.new _ _ zeroC) ?_; intro w4 k12 hg12))
  have hBn := below_then hBp12 (below_grown (below_alloc (Below.refl wp12.heap.size wp12) (.cells zeroC 27)) hg12 (Nat.le_refl _))
  have o12 := (hO12.then_ (below_alloc (Below.refl _ _) (.cells zeroC 27))).keep (w' := w4) (fun b hb => hg12.block b (by have := (hO12.lt b hb).2; simp; omega) (fun e => by injection e with e; have := (hO12.lt b hb).2; omega))
  have hl12 := Lib.hid (fun b hb => hO12.lt b hb)
  replace k6 := blk_then k6 hBn
  replace o6 := o6.then_ hBn
  replace k9 := blk_then k9 hBn
  replace o9 := o9.then_ hBn
  obtain ⟨g12, hge⟩ : ∃ y, y = wp12.heap.size := ⟨_, rfl⟩
  have hs12 := Lib.hid (show w3.heap.size ≤ g12 ∧ g12 < w4.heap.size ∧ (∀ b ∈ bs12, w3.heap.size ≤ b ∧ b < g12) ∧ w.heap.size ≤ w3.heap.size from ⟨by have := hBp12.size; omega, by have := k12.lt; omega, fun b hb => by have := hl12.out b hb; omega, hT.size⟩)
  rw [← hge] at k12 ⊢
  replace hT := below_then hT hBn
  clear hBp12 hO12 hg12 hBn hge hl12
  clear kP1
  have kD := deep_any t1 w4.heap.size w4 x6.C o6.toIn (Nat.le_refl _)
  go_upto_region 8 with (first
    | (refine wl_load_nv rfl _ rfl g6 rfl x6 k6 ?_)
    | (go_at_call 23; refine kD.mono ?_; rintro en wp15 ⟨hBp15, x15, bs15, rfl, hO15⟩)
    | (refine wl_store_nv rfl _ _ rfl _ x15 rfl rfl _ rfl (Blk.new _ _ zeroC) ?_; intro w5 k15 hg15))
  have hBn := below_then hBp15 (below_grown (below_alloc (Below.refl wp15.heap.size wp15) (.cells zeroC 27)) hg15 (Nat.le_refl _))
  have o15 := (hO15.then_ (below_alloc (Below.refl _ _) (.cells zeroC 27))).keep (w' := w5) (fun b hb => hg15.block b (by have := (hO15.lt b hb).2; simp; omega) (fun e => by injection e with e; have := (hO15.lt b hb).2; omega))
  have hl15 := Lib.hid (fun b hb => hO15.lt b hb)
  replace k6 := blk_then k6 hBn
  replace o6 := o6.then_ hBn
  replace k9 := blk_then k9 hBn
  replace o9 := o9.then_ hBn
  replace k12 := blk_then k12 hBn
  replace o12 := o12.then_ hBn
  obtain ⟨g15, hge⟩ : ∃ y, y = wp15.heap.size := ⟨_, rfl⟩
  have hs15 := Lib.hid (show w4.heap.size ≤ g15 ∧ g15 < w5.heap.size ∧ (∀ b ∈ bs15, w4.heap.size ≤ b ∧ b < g15) ∧ w.heap.size ≤ w4.heap.size from ⟨by have := hBp15.size; omega, by have := k15.lt; omega, fun b hb => by have := hl15.out b hb; omega, hT.size⟩)
  rw [← hge] at k15 ⊢
  replace hT := below_then hT hBn
  clear hBp15 hO15 hg15 hBn hge hl15 kD
  have kS := same4_any t1 t1 w5.heap.size w5 x12.C x15.C o12.toIn o15.toIn (Nat.le_refl _)
  rw [sameB_self] at kS
  go_upto_region 10 with (first
    | (refine wl_load_nv rfl _ rfl g12 rfl x12 k12 ?_)
    | (refine wl_load_nv rfl _ rfl g15 rfl x15 k15 ?_)
    | (go_at_call 14; refine kS.mono ?_; rintro en w6 ⟨rfl, hBs⟩))
  clear kS
  replace k6 := blk_then k6 hBs
  replace o6 := o6.then_ hBs
  replace k9 := blk_then k9 hBs
  replace o9 := o9.then_ hBs
  replace k12 := blk_then k12 hBs
  replace o12 := o12.then_ hBs
  replace k15 := blk_then k15 hBs
  replace o15 := o15.then_ hBs
  have hs6s := Lib.hid (show w5.heap.size ≤ w6.heap.size from hBs.size)
  replace hT := below_then hT hBs
  clear hBs
  go_upto_block 0 with (first
    | (refine wl_load_nv rfl _ rfl g6 rfl x6 k6 ?_)
    | (refine wl_load_nv rfl _ rfl g9 rfl x9 k9 ?_)
    | (refine wl_load_nv rfl _ rfl g12 rfl x12 k12 ?_)
    | (refine wl_build3n rfl _ _ _ rfl x6 x9 x12 rfl rfl rfl ?_))
  have hBn := below_alloc (Below.refl w6.heap.size w6) (.cells (x6.C ++ (x9.C ++ x12.C)) 27)
  have k60 : Blk (w6.alloc (.cells (x6.C ++ (x9.C ++ x12.C)) 27)) w6.heap.size 27 (x6.C ++ (x9.C ++ x12.C)) := Blk.new _ _ _
  have hL := NdL.three (B := w1.heap.size) (o6) (o9.mono (by have := hs6.out; have := hs9.out; omega)) (o12.mono (by have := hs6.out; have := hs9.out; have := hs12.out; omega)) (fun k h1 h2 => by have := hs6.out.2.2.1 k h1; have := hs9.out.2.2.1 k h2; have := hs6.out; omega) (fun k h1 h2 => by have := hs6.out.2.2.1 k h1; have := hs12.out.2.2.1 k h2; have := hs6.out; have := hs9.out; omega) (fun k h1 h2 => by have := hs9.out.2.2.1 k h1; have := hs12.out.2.2.1 k h2; have := hs9.out; omega) hBn (Nat.le_refl _) (by have := hs6.out; have := hs9.out; have := hs12.out; have := hs15.out; have := hs6s.out; omega) k60
  replace k6 := blk_then k6 hBn
  replace o6 := o6.then_ hBn
  replace k9 := blk_then k9 hBn
  replace o9 := o9.then_ hBn
  replace k12 := blk_then k12 hBn
  replace o12 := o12.then_ hBn
  replace k15 := blk_then k15 hBn
  replace o15 := o15.then_ hBn
  obtain ⟨w7, hw7⟩ : ∃ y, y = w6.alloc (.cells (x6.C ++ (x9.C ++ x12.C)) 27) := ⟨_, rfl⟩
  obtain ⟨g60, hg60⟩ : ∃ y, y = w6.heap.size := ⟨_, rfl⟩
  replace hT := below_then hT hBn
  rw [← hw7] at hT k60 hL k6 k9 k12 k15 o6 o9 o12 o15 hBn
  rw [← hg60] at k60 hL
  rw [← hw7]
  rw [← hg60]
  have hsz := Lib.hid (show w1.heap.size ≤ g6 ∧ g6 < w2.heap.size ∧ w2.heap.size ≤ g9 ∧ g9 < w3.heap.size ∧ w3.heap.size ≤ g12 ∧ g12 < w4.heap.size ∧ w4.heap.size ≤ g15 ∧ g15 < w5.heap.size ∧ w5.heap.size ≤ g60 ∧ g60 < w7.heap.size ∧ w.heap.size ≤ w1.heap.size by
    have := hs6.out; have := hs9.out; have := hs12.out; have := hs15.out; have := hs6s.out; have := k60.lt; omega)
  clear hw7 hg60 hBn
  obtain ⟨bsT, hbsT⟩ : ∃ b, b = [bs6, bs9, bs12] := ⟨_, rfl⟩
  obtain ⟨ts, hts⟩ : ∃ b, b = [t1, t2, t1] := ⟨_, rfl⟩
  obtain ⟨xs, hxs⟩ : ∃ b, b = [x6, x9, x12] := ⟨_, rfl⟩
  rw [← hbsT, ← hts, ← hxs] at hL
  have hcts : Nd.cnts ts ≤ 3072 := by rw [hts]; simp only [Nd.cnts]; have := hcp.out; have := hcq.out; omega
  have hbsB : ∀ b ∈ bsT.flatten, w1.heap.size ≤ b ∧ b < w4.heap.size ∧ b ≠ g6 ∧ b ≠ g9 ∧ b ≠ g12 := by
    intro b hb
    rw [hbsT] at hb
    simp only [List.flatten_cons, List.flatten_nil, List.append_nil, List.mem_append] at hb
    have := hsz.out
    rcases hb with hb | hb | hb
    · have := hs6.out.2.2.1 b hb; omega
    · have := hs9.out.2.2.1 b hb; omega
    · have := hs12.out.2.2.1 b hb; omega
  replace hL := Lib.hid hL
  replace hcts := Lib.hid hcts
  replace hbsB := Lib.hid hbsB
  clear hbsT hts hxs hcp hcq
  go_cut [5] (fun lv wx => ∃ (A : Option Addr) (n c : Nat) (L : List SL), lv = .slice A n c ∧ Own wx w7.heap.size 25 1 encS (.slice A n c) L ∧ GL wx w1.heap.size L bsT.flatten ∧ L.length ≤ 3072 ∧ QT w7.heap.size w7 wx)
  case first =>
    go_wp2_with (fail)
    go_loopw [5, 62] (fun lv iv wr => ∃ (k : Nat) (A : Option Addr) (n c : Nat) (L : List SL), iv = .int .i64 k ∧ k ≤ 3 ∧ lv = .slice A n c ∧ Own wr w7.heap.size 25 1 encS (.slice A n c) L ∧ Hid (L.length ≤ Nd.cnts (ts.take k)) ∧ GL wr w1.heap.size L (bsT.take k).flatten ∧ QT w7.heap.size w7 wr) (fun _ iv _ => 3 - (intOf iv).toNat)
    case atStart => exact ⟨0, none, 0, 0, [], rfl, by omega, rfl, Own.nil_ _ _ _ _ _, Lib.hid (by simp), GL.nil _ _ _, QT.refl _ _⟩
    case round =>
      obtain ⟨k, A1, n1, c1, L, rfl, hk, rfl, hO, hLc, hG, hQ⟩ := hrel
      replace hO := Lib.hid hO
      replace hG := Lib.hid hG
      have hLr := Lib.hid (NdL.keep hL.out (w' := wr) (fun b hb => by
        obtain ⟨cs, hc⟩ := (hL.out.node 0 0 0 0).typed b hb
        exact (blk_qt hc (by decide) hQ).trans hc.symm))
      by_cases hkn : k < 3
      · have hkI : (k : Int) < 3 := by omega
        have hkl : k < ts.length := by rw [← hL.out.hn]; exact hkn
        have hkc : k < xs.length := by rw [hL.out.hcl]; exact hkl
        have hkb : k < bsT.length := by rw [hL.out.hbl]; exact hkl
        have hk60 := blk_qt k60 (by decide) hQ
        obtain ⟨ba, off, hA, hba, hrows⟩ := (hLr.out.ho.slice_all NV.size).at_ (by omega)
        injection hA with hA
        injection hA with hA1 hA2
        subst hA1 hA2
        have hrow := hrows k hkc
        rw [Nat.zero_add] at hrow
        have hsub := hLr.out.hr k hkl hkc hkb
        have hst := Nd.cnts_step ts k hkl
        have htk := Nd.cnts_take ts (k + 1)
        have hflat : (bsT.take (k + 1)).flatten = (bsT.take k).flatten ++ bsT[k] := by
          rw [List.take_succ_eq_append_getElem hkb, List.flatten_append, List.flatten_cons, List.flatten_nil, List.append_nil]
        have hdj : ∀ b ∈ (bsT.take k).flatten, b ∉ bsT[k] := by
          intro b h1 h2
          have hnd := hL.out.hd
          rw [List.nodup_append] at hnd
          have h3 := hnd.2.1
          rw [← List.take_append_drop (k + 1) bsT, List.flatten_append, hflat, List.nodup_append, List.nodup_append] at h3
          exact h3.1.2.2 b h1 b h2 rfl
        obtain ⟨y, hy⟩ : ∃ y, y = xs[k] := ⟨_, rfl⟩
        obtain ⟨nk, hnk⟩ : ∃ y, y = ts[k] := ⟨_, rfl⟩
        obtain ⟨bk, hbk⟩ : ∃ y, y = bsT[k] := ⟨_, rfl⟩
        rw [← hy] at hrow hsub
        rw [← hnk] at hsub hst
        rw [← hbk] at hsub hflat hdj
        have hlim := Lib.hid (show L.length + nk.cnt ≤ 100000 by have := hcts.out; have := hLc.out; omega)
        have hLc2 := Lib.hid (show L.length + nk.cnt ≤ Nd.cnts (ts.take (k + 1)) by have := hLc.out; omega)
        have hcall := Lib.hid (fun W (hW : Below wr.heap.size wr W) => gather_any nk w1.heap.size w7.heap.size y bk L A1 n1 c1 W 0 (hsub.then_ hW) (own_then hO.out hW) (by have := hQ.size; have := hW.size; omega) hlim.out)
        replace hflat := Lib.hid hflat
        replace hdj := Lib.hid hdj
        clear hy hnk hbk hrows hsub hst htk hLc hLr hk60 hba
        go_upto_region 13 with (first | (refine wl_load_node_at rfl _ rfl _ _ rfl _ _ _ _ _ _ _ hrow ?_) | (refine wl_store_nv rfl _ _ rfl _ y rfl rfl _ rfl (Blk.new _ _ zeroC) ?_; intro w8 h8 hg8))
        have hB4 := below_grown (below_alloc (Below.refl wr.heap.size wr) (.cells zeroC 27)) hg8 (Nat.le_refl _)
        have hQ4 := hQ.then_ hB4
        have hG4 := Lib.hid (hG.out.qt (QT.of_below (lo := w7.heap.size) hB4))
        have hc4 := hcall.out w8 hB4
        obtain ⟨g8, hg8e⟩ : ∃ y, y = wr.heap.size := ⟨_, rfl⟩
        rw [← hg8e] at h8 ⊢
        clear hg8 hg8e hB4 hQ hG hO hcall hrow
        go_wp2_with (first
          | (refine wl_load_nv rfl _ rfl g8 rfl y h8 ?_)
          | (go_at_call 24; refine hc4.mono ?_; rintro e w9 ⟨hT5, A5, n5, c5, L5, rfl, hO5, hL5, hG5⟩))
        refine ⟨⟨k + 1, A5, n5, c5, L ++ L5, by congr 1, by omega, rfl, hO5, Lib.hid ?_, ?_, hQ4.trans hT5⟩, by simp only [intOf]; omega⟩
        · rw [List.length_append]
          have := hLc2.out
          omega
        · rw [hflat.out]
          exact (hG4.out.qt hT5).append hG5 hdj.out
      · have hkI : ¬ (k : Int) < 3 := by omega
        have hke : ts.take k = ts := List.take_of_length_le (by have := hL.out.hn; omega)
        have hbe : bsT.take k = bsT := List.take_of_length_le (by have := hL.out.hbl; have := hL.out.hn; omega)
        have hG2 := hG.out
        rw [hbe] at hG2
        have hLc2 := hLc.out
        rw [hke] at hLc2
        replace hLc2 := Lib.hid hLc2
        clear hke hbe
        go_wp2_with (fail)
        go_meet
        exact ⟨A1, n1, c1, L, rfl, hO.out, hG2, by have := hLc2.out; have := hcts.out; omega, hQ⟩
  case rest =>
    obtain ⟨A, n, c, L, rfl, hO, hG, hLn, hQ⟩ := hcut
    replace k6 := blk_qt k6 (by decide) hQ
    replace k9 := blk_qt k9 (by decide) hQ
    replace k12 := blk_qt k12 (by decide) hQ
    replace k15 := blk_qt k15 (by decide) hQ
    replace o15 := o15.qt hQ
    replace hT := hT.trans (hQ.below (N := w.heap.size) (by have := hsz.out; omega) (by have := hsz.out; omega))
    have hn := Lib.hid (own_len hO)
    clear k60 hL o6 o9 o12 hcts k6 k9 k12
    obtain ⟨L2, hL2⟩ : ∃ x, x = L.take 600 := ⟨_, rfl⟩
    have hLs : SliceOf wc wc.heap.size 1 encS A L2 := by rw [hL2]; exact hO.slice encS_size 600
    have hL2n : L2.length ≤ 600 := by rw [hL2]; simp; omega
    have hND : (L2.map SL.blk).Nodup := by
      rw [hL2, List.map_take]
      exact List.Sublist.nodup (List.take_sublist _ _) hG.1
    have hOS : ∀ s ∈ L2, s.blk ∈ bsT.flatten ∧ OwnS wc w1.heap.size s := fun s hs => hG.2 s (by rw [hL2] at hs; exact List.mem_of_mem_take hs)
    have hLty := Lib.hid (own_typed hO)
    have hOl := Lib.hid hO.lt
    go_upto_if 72 with (fail)
    go_cut [5] (fun lv wx => wx = wc ∧ ∃ c2 : Nat, lv = .slice A L2.length c2)
    case first =>
      by_cases h6 : 600 < n
      · have h6I : (600 : Int) < n := by omega
        have hl6 : L2.length = 600 := by have := hn.out; rw [hL2]; simp; omega
        obtain ⟨b, cap, hv, _, _, hcap, _⟩ := hO.form (by have := hn.out; omega)
        injection hv with v1 v2 v3
        subst v1 v3
        have hcI : (600 : Int) ≤ c := by have := hn.out; omega
        replace hl6 := Lib.hid hl6
        clear v2 h6 hL2
        go_wp2_with (fail)
        go_meet
        exact ⟨by trivial, _, by rw [hl6.out]⟩
      · have h6I : ¬ (600 : Int) < n := by omega
        have hl6 : n = L2.length := by have := hn.out; rw [hL2]; simp; omega
        replace hl6 := Lib.hid hl6
        clear h6 hL2
        go_wp2_with (fail)
        go_meet
        exact ⟨by trivial, c, by rw [← hl6.out]⟩
    obtain ⟨hwc, c2, rfl⟩ := hcut
    subst hwc
    have hlr : ∃ gb, (∀ j (hj : j < L2.length), wc.cell? ⟨gb, j, none⟩ = some L2[j].v) ∧ (0 < L2.length → A = some ⟨gb, 0, none⟩ ∧ gb ∉ L2.map SL.blk ∧ gb < wc.heap.size ∧ w7.heap.size ≤ gb) := by
      rcases Nat.eq_zero_or_pos L2.length with h0 | h0
      · exact ⟨0, fun j hj => by omega, fun h => by omega⟩
      · have hnp : 0 < L.length := by
          rw [hL2] at h0; simp at h0; omega
        obtain ⟨b, cap, hv, _, _, _, _⟩ := hO.form hnp
        injection hv with v1 v2 v3
        obtain ⟨gb, off, e, hgb, hrow⟩ := hLs.at_ h0
        rw [v1] at e
        injection e with e
        injection e with e1 e2
        subst e1 e2
        refine ⟨b, fun j hj => ?_, fun _ => ⟨v1, fun hb => ?_, hgb, ?_⟩⟩
        · have := hrow j hj 0 L2[j].v rfl
          simpa using this
        · obtain ⟨s, hs, e⟩ := List.mem_map.1 hb
          have := (hbsB.out _ (hOS s hs).1).2.1
          have := hsz.out
          have := (hOl.out b (by rw [v1]; rfl)).1
          omega
        · exact (hOl.out b (by rw [v1]; rfl)).1
    obtain ⟨gb, hcl, hA⟩ := hlr
    replace hcl := Lib.hid hcl
    replace hA := Lib.hid hA
    replace hND := Lib.hid hND
    replace hOS := Lib.hid hOS
    have hLn2 : (L2.length : Int) ≤ 600 := by omega
    replace hL2n := Lib.hid hL2n
    clear hO hG hLn hn hL2 hLs hLty hOl
    go_upto_block 2 with (fail)
    go_cut [] (fun wx => SpF (L2.map SL.blk) wc wx ∧ Hid (∀ j (hj : j < L2.length), Own wx w1.heap.size 27 8 NV.C L2[j].v (List.replicate L2[j].n (kindV j))))
    case first =>
      go_wp2_with (fail)
      go_loopw [77] (fun iv wr => ∃ i : Nat, iv = .int .i64 i ∧ i ≤ L2.length ∧ SpF (L2.map SL.blk) wc wr ∧ Hid (∀ j (hj : j < L2.length), (j < i → Own wr w1.heap.size 27 8 NV.C L2[j].v (List.replicate L2[j].n (kindV j))) ∧ (i ≤ j → OwnS wr w1.heap.size L2[j]))) (fun iv _ => L2.length - (intOf iv).toNat)
      case atStart => exact ⟨0, rfl, by omega, SpF.refl _ _, Lib.hid fun j hj => ⟨fun h => by omega, fun _ => (hOS.out _ (List.getElem_mem hj)).2⟩⟩
      case round =>
        obtain ⟨i, rfl, hi, hF, hD⟩ := hrel
        by_cases hlt : i < L2.length
        · have hltI : (i : Int) < L2.length := by omega
          have hi600 : (i : Int) ≤ 600 := by omega
          obtain ⟨hA1, hA2, hA3, hA4⟩ := hA.out (by omega)
          have hc0 := hcl.out i hlt
          have hc : wr.cell? ⟨gb, i, none⟩ = some L2[i].v := (World.cell?_of_block (hF.block gb hA3 hA2)).trans hc0
          obtain ⟨hsn, ys0, hys0⟩ := (hD.out i hlt).2 (Nat.le_refl _)
          have hnd := Lib.hid (fun j (hj : j < L2.length) (hne : j ≠ i) => nodup_at hND.out hj hlt hne)
          have hmem : L2[i].blk ∈ L2.map SL.blk := List.mem_map_of_mem (List.getElem_mem hlt)
          obtain ⟨s, hs⟩ : ∃ s, s = L2[i] := ⟨_, rfl⟩
          rw [← hs] at hc hys0 hsn hnd hmem
          unfold SL.v at hc
          have hsnI : (s.n : Int) ≤ 1099511627776 := by omega
          obtain ⟨w20, hw20⟩ : ∃ y, y = wr := ⟨_, rfl⟩
          have hyl := own_len (A := some ⟨s.blk, 0, none⟩) (c := s.c) (n := s.n) hys0
          have hys := Lib.hid (show ∃ ys : List NV, ys.length = s.n ∧ Own wr w1.heap.size 27 8 NV.C s.v ys from ⟨ys0, hyl.symm, hys0⟩)
          replace hs := Lib.hid hs
          replace hmem := Lib.hid hmem
          subst hA1
          clear hc0 hys0 hyl hA2 hA3 hA4
          go_wp2_with (fail)
          go_loopw [84] (fun kv wr => ∃ (k : Nat) (ys : List NV), kv = .int .i64 k ∧ k ≤ s.n ∧ Hid (ys.length = s.n) ∧ Hid (∀ m, m < k → ys[m]? = some (kindV i)) ∧ Own wr w1.heap.size 27 8 NV.C s.v ys ∧ SpF [s.blk] w20 wr) (fun kv _ => s.n - (intOf kv).toNat)
          case atStart =>
            obtain ⟨ys, h1, h2⟩ := hys.out
            exact ⟨0, ys, rfl, by omega, Lib.hid h1, Lib.hid (fun m hm => by omega), h2, by rw [hw20]; exact SpF.refl _ _⟩
          case round =>
            obtain ⟨k, ys, rfl, hk, hyl, hyk, hO, hG⟩ := hrel
            by_cases hkn : k < s.n
            · have hkI : (k : Int) < s.n := by omega
              have hk0 : ¬ (k : Int) < 0 := by omega
              have hky : k < ys.length := by rw [hyl.out]; exact hkn
              replace hky := Lib.hid hky
              replace hw20 := Lib.hid hw20
              go_wp2_with (first
                | (refine wl_build_node rfl _ rfl (kindV i) #[(0, .int .i64 (100 + (i : Int)))] rfl (fun w => build_leaf (100 + (i : Int)) w) ?_)
                | (refine wl_store_own rfl _ _ _ rfl s.blk k s.n s.c rfl (kindV i) rfl NV.size NV.one info_node8 hO hky.out ?_; intro w21 hO21 hg21))
              refine ⟨⟨k + 1, ys.set k (kindV i), by congr 1, by omega, Lib.hid (by rw [List.length_set]; exact hyl.out), Lib.hid (fun m hm => ?_), hO21, hG.grown hg21 (fun q e => by injection e with e; left; rw [← e]; simp)⟩, by simp only [intOf]; omega⟩
              by_cases hmk : m = k
              · subst hmk
                rw [List.getElem?_set_self hky.out]
              · rw [List.getElem?_set_ne (by omega)]
                exact hyk.out m (by omega)
            · have hkI : ¬ (k : Int) < s.n := by omega
              have hrep : ys = List.replicate s.n (kindV i) := by
                apply List.ext_getElem?
                intro m
                by_cases hm : m < s.n
                · rw [hyk.out m (by omega), List.getElem?_replicate, if_pos hm]
                · rw [List.getElem?_eq_none (by rw [hyl.out]; omega), List.getElem?_eq_none (by rw [List.length_replicate]; omega)]
              subst hrep
              have hG2 := hG
              rw [hw20] at hG2
              clear hyl hyk hys hG
              replace hw20 := Lib.hid hw20
              go_wp2_with (fail)
              refine ⟨⟨i + 1, by congr 1, by omega, hF.trans (hG2.sub (fun b hb => by rw [List.mem_singleton.1 hb]; exact hmem.out)), Lib.hid fun j hj => ⟨fun h => ?_, fun h => ?_⟩⟩, by simp only [intOf]; omega⟩
              · by_cases hji : j = i
                · subst hji
                  have hs2 := hs.out
                  rw [← hs2]
                  exact hO
                · exact own_sp ((hD.out j hj).1 (by omega)) (by rw [List.mem_singleton]; exact hnd.out j hj hji) hG2
              · obtain ⟨h1, ys2, h2⟩ := (hD.out j hj).2 (by omega)
                exact ⟨h1, ys2, own_sp h2 (by rw [List.mem_singleton]; exact hnd.out j hj (by omega)) hG2⟩
        · have hltI : ¬ (i : Int) < L2.length := by omega
          go_wp2_with (fail)
          go_meet
          exact ⟨hF, Lib.hid fun j hj => (hD.out j hj).1 (by omega)⟩
    case rest =>
      obtain ⟨hF2, hD2⟩ := hcut
      have hSb : ∀ b ∈ L2.map SL.blk, w1.heap.size ≤ b ∧ b < w4.heap.size := fun b hb => by
        obtain ⟨s, hs, rfl⟩ := List.mem_map.1 hb
        have := hbsB.out _ (hOS.out s hs).1
        omega
      replace k15 := blk_sp k15 (fun hb => by have := hSb _ hb; have := hsz.out; omega) hF2
      replace o15 := o15.sp (fun b hb hb2 => by have := hSb _ hb2; have := hs15.out.2.2.1 b hb; omega) hF2
      replace hT := hT.trans (hF2.below (N := w.heap.size) (fun b hb => by have := hSb _ hb; have := hsz.out; omega) hT.size)
      have hwc4 : w4.heap.size ≤ wc.heap.size := by have := k15.lt; have := hsz.out; omega
      replace hcl := Lib.hid (fun j (hj : j < L2.length) => (World.cell?_of_block (hF2.block gb (hA.out (by omega)).2.2.1 (hA.out (by omega)).2.1)).trans (hcl.out j hj))
      replace hA := Lib.hid (fun (h : 0 < L2.length) => And.intro (hA.out h).1 (And.intro (hA.out h).2.1 (show gb < wc.heap.size from Nat.lt_of_lt_of_le (hA.out h).2.2.1 hF2.size)))
      have hSn := Lib.hid (fun j (hj : j < L2.length) => (hOS.out _ (List.getElem_mem hj)).2.1)
      obtain ⟨w30, hw30⟩ : ∃ y, y = wc := ⟨_, rfl⟩
      rw [← hw30] at hcl hA hD2 hwc4 hT o15 k15
      have hSbH := Lib.hid hSb
      have hmemS := Lib.hid (fun j (hj : j < L2.length) => List.mem_map_of_mem (f := SL.blk) (List.getElem_mem hj))
      replace hwc4 := Lib.hid hwc4
      rw [← hw30]
      clear hF2 hw30 hSb hOS hbsB
      go_upto_block 6 with (fail)
      go_cut [21] (fun lv wx => ∃ (A3 : Option Addr) (c3 : Nat) (M : List SL), lv = .slice A3 L2.length c3 ∧ M.length = L2.length ∧ Own wx w30.heap.size 25 1 encS (.slice A3 L2.length c3) M ∧ SpF (L2.map SL.blk) w30 wx ∧ Hid (∀ j (hj : j < L2.length) (hM : j < M.length), NRows wx L2[j].blk L2[j].n (kindV j) ∧ NRows wx M[j].blk M[j].n (kindV j) ∧ M[j].n = L2[j].n + 20 ∧ L2[j].n ≤ 1099511627776))
      case first =>
        go_wp2_with (fail)
        go_loopw [21, 97] (fun lv iv wr => ∃ (i : Nat) (A3 : Option Addr) (c3 : Nat) (M : List SL), iv = .int .i64 i ∧ i ≤ L2.length ∧ lv = .slice A3 i c3 ∧ Own wr w30.heap.size 25 1 encS (.slice A3 i c3) M ∧ SpF (L2.map SL.blk) w30 wr ∧ Hid (∀ j (hj : j < L2.length), (∀ hM : j < M.length, NRows wr L2[j].blk L2[j].n (kindV j) ∧ NRows wr M[j].blk M[j].n (kindV j) ∧ M[j].n = L2[j].n + 20 ∧ (M[j].blk = L2[j].blk ∨ w30.heap.size ≤ M[j].blk) ∧ L2[j].n ≤ 1099511627776) ∧ (i ≤ j → Own wr w1.heap.size 27 8 NV.C L2[j].v (List.replicate L2[j].n (kindV j))))) (fun _ iv _ => L2.length - (intOf iv).toNat)
        case atStart => exact ⟨0, none, 0, [], rfl, by omega, rfl, Own.nil_ _ _ _ _ _, SpF.refl _ _, Lib.hid fun j hj => ⟨fun h => by simp at h, fun _ => hD2.out j hj⟩⟩
        case round =>
          obtain ⟨i, A3, c3, M, rfl, hi, rfl, hOM, hF, hD⟩ := hrel
          have hMl := own_len hOM
          by_cases hlt : i < L2.length
          · have hltI : (i : Int) < L2.length := by omega
            have hi600 : (i : Int) ≤ 600 := by omega
            obtain ⟨hA1, hA2, hA3⟩ := hA.out (by omega)
            have hc : wr.cell? ⟨gb, i, none⟩ = some L2[i].v := (World.cell?_of_block (hF.block gb hA3 hA2)).trans (hcl.out i hlt)
            have hOi := (hD.out i hlt).2 (Nat.le_refl _)
            have hsn0 : L2[i].n ≤ 1099511627776 := hSn.out i hlt
            have hnd := Lib.hid (fun j (hj : j < L2.length) (hne : j ≠ i) => nodup_at hND.out hj hlt hne)
            have hmem := hmemS.out i hlt
            have hsb := hSbH.out _ hmem
            obtain ⟨s, hs⟩ : ∃ s, s = L2[i] := ⟨_, rfl⟩
            rw [← hs] at hc hOi hnd hmem hsn0 hsb
            unfold SL.v at hc
            have hsnI : (s.n : Int) ≤ 1099511627776 := by omega
            obtain ⟨w31, hw31⟩ : ∃ y, y = wr := ⟨_, rfl⟩
            have hw31s : w30.heap.size ≤ wr.heap.size := hF.size
            rw [← hw31] at hOi hF hD hOM hw31s
            have hRs : NRows w31 s.blk s.n (kindV i) := NRows.of_own hOi (Nat.le_refl _)
            have hw1s : w1.heap.size ≤ w31.heap.size := by have := hsz.out; have := hwc4.out; omega
            replace hs := Lib.hid hs
            replace hmem := Lib.hid hmem
            replace hOi := Lib.hid hOi
            replace hOM := Lib.hid hOM
            replace hRs := Lib.hid hRs
            replace hsb := Lib.hid hsb
            replace hw31s := Lib.hid hw31s
            replace hw1s := Lib.hid hw1s
            replace hMl := Lib.hid hMl
            subst hA1
            clear hA2 hA3
            have hstart : SpF [s.blk] w31 wr := by rw [hw31]; exact SpF.refl _ _
            have hst2 := Lib.hid (show Own wr w1.heap.size 27 8 NV.C (.slice (some ⟨s.blk, 0, none⟩) (s.n + 0) s.c) (List.replicate (s.n + 0) (kindV i)) ∧ NRows wr s.blk s.n (kindV i) from by rw [← hw31]; exact ⟨hOi.out, hRs.out⟩)
            replace hw31 := Lib.hid hw31
            go_wp2_with (fail)
            go_loopw [23, 102] (fun lv rv wr => ∃ (r lb c9 : Nat), rv = .int .i64 r ∧ r ≤ 20 ∧ lv = .slice (some ⟨lb, 0, none⟩) (s.n + r) c9 ∧ Own wr w1.heap.size 27 8 NV.C (.slice (some ⟨lb, 0, none⟩) (s.n + r) c9) (List.replicate (s.n + r) (kindV i)) ∧ (lb = s.blk ∨ w31.heap.size ≤ lb) ∧ NRows wr s.blk s.n (kindV i) ∧ SpF [s.blk] w31 wr) (fun _ rv _ => 20 - (intOf rv).toNat)
            case atStart => exact ⟨0, s.blk, s.c, rfl, by omega, rfl, hst2.out.1, .inl rfl, hst2.out.2, hstart⟩
            case round =>
              clear hstart hst2
              obtain ⟨r, lb, c9, rfl, hr, rfl, hOl, hlb, hR, hG⟩ := hrel
              by_cases hr20 : r < 20
              · have hrI : (r : Int) < 20 := by omega
                have hBa := Lib.hid (below_alloc (Below.refl wr.heap.size wr) (.cells (kindV i).C 27))
                have hOl2 := Lib.hid (own_then hOl hBa.out)
                have hlt9 := Lib.hid (hOl.lt lb rfl)
                have hmx := Lib.hid (show s.n + r ≤ 1099511627800 by omega)
                replace hlb := Lib.hid hlb
                go_wp2_with (first
                  | (refine wl_build_node rfl _ rfl (kindV i) #[(0, .int .i64 (100 + (i : Int)))] rfl (fun w => build_leaf (100 + (i : Int)) w) ?_)
                  | (refine wl_build1n rfl _ rfl (kindV i) rfl ?_)
                  | (at_builtin; refine wl_pushK rfl _ _ rfl hOl2.out rfl _ rfl (Blk.new wr 27 (kindV i).C) hmx.out (by have := hBa.out.size; have := hG.size; have := hw1s.out; omega) ?_; intro A9 c10 w33 hO33 hk33 hg33 hv33))
                have hrep : List.replicate (s.n + r) (kindV i) ++ [kindV i] = List.replicate (s.n + (r + 1)) (kindV i) := by
                  rw [← Nat.add_assoc, List.replicate_succ']
                rw [hrep] at hO33
                obtain ⟨lb2, cap2, hv2, _, _, _, _⟩ := hO33.form (by rw [List.length_replicate]; omega)
                injection hv2 with hv2a hv2b hv2c
                subst hv2a
                have hlb2 : lb2 = lb ∨ w31.heap.size ≤ lb2 := by
                  rcases hv33 with e | e
                  · left
                    injection e with e
                  · right
                    have e2 : some lb2 = some (wr.alloc (.cells (kindV i).C 27)).heap.size := e
                    injection e2 with e2
                    have := hBa.out.size
                    have := hG.size
                    omega
                have hRa := hR.keep (w' := wr.alloc (.cells (kindV i).C 27)) (hBa.out.block _ hR.lt)
                have hR33 : NRows w33 s.blk s.n (kindV i) := by
                  by_cases e : lb = s.blk
                  · rw [e] at hk33
                    exact NRows.of_own hk33 (by omega)
                  · exact hRa.keep (hg33.block _ hRa.lt (fun e2 => e (by injection e2 with e2; exact e2.symm)))
                have hG33 := (hG.then_ hBa.out).grown hg33 (fun q e => by
                  injection e with e
                  subst e
                  rcases hlb.out with h | h
                  · left; rw [h]; simp
                  · right; exact h)
                refine ⟨⟨r + 1, lb2, c10, by congr 1, by omega, rfl, hO33, ?_, hR33, hG33⟩, by simp only [intOf]; omega⟩
                rcases hlb2 with h | h
                · rw [h]; exact hlb.out
                · exact .inr h
              · have hrI : ¬ (r : Int) < 20 := by omega
                obtain rfl : r = 20 := by omega
                have hRM : NRows wr lb (s.n + 20) (kindV i) := NRows.of_own hOl (Nat.le_refl _)
                have hlblt := hRM.lt
                have hOMw := own_block hOM.out (w' := wr) (fun j hj => hG.block j (hOM.out.lt j hj).2 (by rw [List.mem_singleton]; have := (hOM.out.lt j hj).1; have := hsb.out; have := hwc4.out; omega))
                have hBa := Lib.hid (below_alloc (Below.refl wr.heap.size wr) (.cells #[.slice (some ⟨lb, 0, none⟩) (s.n + 20) c9] 25))
                have hOM2 := Lib.hid (own_then hOMw hBa.out)
                have hi6 := Lib.hid (show i ≤ 1000000 by omega)
                replace hR := Lib.hid hR
                replace hRM := Lib.hid hRM
                replace hlb := Lib.hid hlb
                replace hlblt := Lib.hid hlblt
                go_wp2_with (at_builtin; refine wl_pushS rfl _ _ rfl hOM2.out rfl wr.heap.size ⟨lb, s.n + 20, c9⟩ rfl (Blk.new wr 25 (encS ⟨lb, s.n + 20, c9⟩)) hi6.out (by have := hBa.out.size; have := hG.size; have := hw31s.out; omega) ?_; intro A8 c8 w35 hO35 hg35)
                have hrowT := fun q (hq : (Value.slice A3 i c3).ownBlock = some q) => own_typed hOM2.out q hq
                have hrowL := fun q (hq : (Value.slice A3 i c3).ownBlock = some q) => hOM2.out.lt q hq
                have hbk : ∀ b cs, Blk wr b 27 cs → w35.heap[b]? = wr.heap[b]? := fun b cs hc => by
                  have hc2 := blk_then hc hBa.out
                  refine (hg35.block b hc2.lt (fun e => ?_)).trans (hBa.out.block b hc.lt)
                  obtain ⟨cs', h'⟩ := hrowT b e.symm
                  have e1 := hc2.symm.trans h'
                  injection e1 with e1
                  injection e1 with _ e1
                  exact absurd e1 (by decide)
                have hrk : ∀ {b n : Nat} {v : NV}, NRows wr b n v → NRows w35 b n v := fun h => by
                  obtain ⟨cs, hc⟩ := h.1
                  exact h.keep (hbk _ cs hc)
                have hF35 : SpF (L2.map SL.blk) w30 w35 := ((hF.trans (hG.sub (fun b hb => by rw [List.mem_singleton.1 hb]; exact hmem.out))).then_ hBa.out).grown hg35 (fun q e => .inr (hrowL q e).1)
                refine ⟨⟨i + 1, A8, c8, M ++ [⟨lb, s.n + 20, c9⟩], by congr 1, by omega, rfl, hO35, hF35, Lib.hid fun j hj => ⟨fun hM => ?_, fun h => ?_⟩⟩, by simp only [intOf]; omega⟩
                · have hMl2 := hMl.out
                  by_cases hji : j = i
                  · subst hji
                    have e1 : (M ++ [(⟨lb, s.n + 20, c9⟩ : SL)])[j] = ⟨lb, s.n + 20, c9⟩ := by
                      rw [List.getElem_append_right (by omega)]; simp
                    rw [e1, ← hs.out]
                    exact ⟨hrk hR.out, hrk hRM.out, rfl, by rcases hlb.out with h | h; exact .inl h; exact .inr (by have := hw31s.out; show w30.heap.size ≤ lb; omega), by omega⟩
                  · have hjM : j < M.length := by rw [List.length_append] at hM; simp at hM; omega
                    rw [List.getElem_append_left hjM]
                    obtain ⟨d1, d2, d3, d4, d5⟩ := (hD.out j hj).1 hjM
                    have hne := hnd.out j hj hji
                    have f1 : NRows wr L2[j].blk L2[j].n (kindV j) := d1.keep (hG.block _ d1.lt (by rw [List.mem_singleton]; exact hne))
                    have f2 : NRows wr M[j].blk M[j].n (kindV j) := d2.keep (hG.block _ d2.lt (by
                      rw [List.mem_singleton]
                      rcases d4 with h | h
                      · rw [h]; exact hne
                      · have := hsb.out; have := hwc4.out; omega))
                    exact ⟨hrk f1, hrk f2, d3, d4, d5⟩
                · have hO := (hD.out j hj).2 (by omega)
                  have hO2 := own_sp hO (by rw [List.mem_singleton]; exact hnd.out j hj (by omega)) hG
                  refine own_block hO2 (fun q hq => ?_)
                  obtain ⟨cs, hc⟩ := own_typed hO2 q hq
                  exact hbk q cs hc
          · have hltI : ¬ (i : Int) < L2.length := by omega
            obtain rfl : i = L2.length := by omega
            replace hMl := Lib.hid hMl
            go_wp2_with (fail)
            go_meet
            exact ⟨A3, c3, M, rfl, hMl.out.symm, hOM, hF, Lib.hid fun j hj hM => by
              obtain ⟨d1, d2, d3, _, d5⟩ := (hD.out j hj).1 hM
              exact ⟨d1, d2, d3, d5⟩⟩
      case rest =>
        obtain ⟨A3, c3, M, rfl, hMl, hOM, hF3, hD3⟩ := hcut
        replace k15 := blk_sp k15 (fun hb => by have := hSbH.out _ hb; have := hsz.out; omega) hF3
        replace o15 := o15.sp (fun b hb hb2 => by have := hSbH.out _ hb2; have := hs15.out.2.2.1 b hb; omega) hF3
        replace hT := hT.trans (hF3.below (N := w.heap.size) (fun b hb => by have := hSbH.out _ hb; have := hsz.out; omega) hT.size)
        replace hcl := Lib.hid (fun j (hj : j < L2.length) => (World.cell?_of_block (hF3.block gb (hA.out (by omega)).2.2 (hA.out (by omega)).2.1)).trans (hcl.out j hj))
        replace hA := Lib.hid (fun (h : 0 < L2.length) => (hA.out h).1)
        have hml : ∃ gm, (∀ j (hj : j < M.length), wc.cell? ⟨gm, j, none⟩ = some M[j].v) ∧ (0 < L2.length → A3 = some ⟨gm, 0, none⟩) := by
          rcases Nat.eq_zero_or_pos M.length with h0 | h0
          · exact ⟨0, fun j hj => by omega, fun h => by omega⟩
          · obtain ⟨b, cap, hv, _, _, _, _⟩ := hOM.form h0
            injection hv with v1 v2 v3
            obtain ⟨gm, off, e, _, hrow⟩ := (hOM.slice_all encS_size).at_ h0
            rw [v1] at e
            injection e with e
            injection e with e1 e2
            subst e1 e2
            refine ⟨b, fun j hj => ?_, fun _ => v1⟩
            have := hrow j hj 0 M[j].v rfl
            simpa using this
        obtain ⟨gm, hcm, hA3⟩ := hml
        replace hcm := Lib.hid hcm
        replace hA3 := Lib.hid hA3
        replace hMl := Lib.hid hMl
        obtain ⟨w40, hw40⟩ : ∃ y, y = wc := ⟨_, rfl⟩
        rw [← hw40] at hcl hcm hD3 hT k15 o15
        rw [← hw40]
        clear hF3 hOM hw40 hND hmemS hSbH hwc4 hSn
        go_upto_block 10 with (fail)
        go_cut [] (fun wx => Below w40.heap.size w40 wx)
        case first =>
          go_wp2_with (fail)
          go_loopw [118] (fun iv wr => ∃ i : Nat, iv = .int .i64 i ∧ i ≤ L2.length ∧ Below w40.heap.size w40 wr) (fun iv _ => L2.length - (intOf iv).toNat)
          case atStart => exact ⟨0, rfl, by omega, Below.refl _ _⟩
          case round =>
            obtain ⟨i, rfl, hi, hB⟩ := hrel
            by_cases hlt : i < L2.length
            · have hltI : (i : Int) < L2.length := by omega
              have hi600 : (i : Int) ≤ 600 := by omega
              have hiM : i < M.length := by rw [hMl.out]; exact hlt
              obtain ⟨d1, d2, d3, d4⟩ := hD3.out i hlt hiM
              have hcL0 := hcl.out i hlt
              have hcM0 := hcm.out i hiM
              have hA' := hA.out (by omega)
              have hA3' := hA3.out (by omega)
              obtain ⟨s, hs⟩ : ∃ s, s = L2[i] := ⟨_, rfl⟩
              obtain ⟨m, hm⟩ : ∃ s, s = M[i] := ⟨_, rfl⟩
              rw [← hs] at hcL0 d1 d3 d4
              rw [← hm] at hcM0 d2 d3
              have hsnI : (s.n : Int) ≤ 1099511627776 := by omega
              have hmnI : (m.n : Int) ≤ 1099511627800 := by omega
              have hcM : wr.cell? ⟨gm, i, none⟩ = some m.v := (World.cell?_of_block (hB.block gm (block_lt_of_cell hcM0))).trans hcM0
              unfold SL.v at hcM
              replace hs := Lib.hid hs
              replace hm := Lib.hid hm
              replace hcL0 := Lib.hid hcL0
              replace hcM0 := Lib.hid hcM0
              replace d1 := Lib.hid d1
              replace d2 := Lib.hid d2
              replace d3 := Lib.hid d3
              subst hA' hA3'
              go_wp2_with (fail)
              go_loopw [125] (fun kv wr => ∃ k : Nat, kv = .int .i64 k ∧ k ≤ m.n ∧ Below w40.heap.size w40 wr) (fun kv _ => m.n - (intOf kv).toNat)
              case atStart => exact ⟨0, rfl, by omega, hB⟩
              case round =>
                clear hB hcM
                obtain ⟨k, rfl, hk, hB⟩ := hrel
                by_cases hkn : k < m.n
                · have hkI : (k : Int) < m.n := by omega
                  have hk0 : ¬ (k : Int) < 0 := by omega
                  have hrow := (d2.out.2 k hkn).keep (hB.block _ d2.out.lt)
                  go_upto_region 42 with (first
                    | (refine wl_load_node_at rfl _ rfl _ _ rfl _ _ _ _ _ _ _ hrow ?_)
                    | (refine wl_store_nv rfl _ _ rfl _ (kindV i) rfl rfl _ rfl (Blk.new _ _ zeroC) ?_; intro w41 k27 hg27))
                  have hB2 := below_then hB (below_grown (below_alloc (Below.refl wr.heap.size wr) (.cells zeroC 27)) hg27 (Nat.le_refl _))
                  have c27 : w41.cell? ⟨wr.heap.size, 0, none⟩ = some (.int .i64 (100 + (i : Int))) := k27.cellv (i := 0) rfl
                  have hcL : w41.cell? ⟨gb, i, none⟩ = some s.v := (World.cell?_of_block (hB2.block gb (block_lt_of_cell hcL0.out))).trans hcL0.out
                  unfold SL.v at hcL
                  obtain ⟨g27, hg27e⟩ : ∃ y, y = wr.heap.size := ⟨_, rfl⟩
                  rw [← hg27e] at c27 ⊢
                  clear hg27 hg27e hrow k27
                  by_cases hks : k < s.n
                  · have hksI : (k : Int) < s.n := by omega
                    have cS : w41.cell? ⟨s.blk, k * 8, none⟩ = some (.int .i64 (100 + (i : Int))) := ((d1.out.2 k hks).keep (hB2.block _ d1.out.lt)) 0 (.int .i64 (100 + (i : Int))) rfl
                    go_wp2_with (fail)
                    exact ⟨⟨k + 1, by congr 1, by omega, hB2⟩, by simp only [intOf]; omega⟩
                  · have hksI : ¬ (k : Int) < s.n := by omega
                    go_wp2_with (fail)
                    exact ⟨⟨k + 1, by congr 1, by omega, hB2⟩, by simp only [intOf]; omega⟩
                · have hkI : ¬ (k : Int) < m.n := by omega
                  go_wp2_with (fail)
                  exact ⟨⟨i + 1, by congr 1, by omega, hB⟩, by simp only [intOf]; omega⟩
            · have hltI : ¬ (i : Int) < L2.length := by omega
              go_wp2_with (fail)
              go_meet
              exact hB
        case rest =>
          replace k15 := blk_then k15 hcut
          replace o15 := o15.then_ hcut
          replace hT := hT.trans (hcut.mono hT.size)
          have kP1 := kP.out wc (hM.then_ hT)
          clear hcut hcl hcm hD3 kP
          go_upto_region 47 with (first
            | (go_at_call 12; refine kP1.mono ?_; rintro en wp28 ⟨hBp28, x28, bs28, rfl, hO28⟩)
            | (refine wl_store_nv rfl _ _ rfl _ x28 rfl rfl _ rfl (Blk.new _ _ zeroC) ?_; intro w50 k28 hg28))
          have hBn := below_then hBp28 (below_grown (below_alloc (Below.refl wp28.heap.size wp28) (.cells zeroC 27)) hg28 (Nat.le_refl _))
          have o28 := (hO28.then_ (below_alloc (Below.refl _ _) (.cells zeroC 27))).keep (w' := w50) (fun b hb => hg28.block b (by have := (hO28.lt b hb).2; simp; omega) (fun e => by injection e with e; have := (hO28.lt b hb).2; omega))
          replace k15 := blk_then k15 hBn
          replace o15 := o15.then_ hBn
          replace hT := below_then hT hBn
          obtain ⟨g28, hge⟩ : ∃ y, y = wp28.heap.size := ⟨_, rfl⟩
          rw [← hge] at k28 ⊢
          have kS := same4_any t1 t1 w50.heap.size w50 x28.C x15.C o28.toIn o15.toIn (Nat.le_refl _)
          rw [sameB_self] at kS
          clear hBp28 hO28 hg28 hge hBn kP1
          go_wp2_with (first
            | (refine wl_load_nv rfl _ rfl g28 rfl x28 k28 ?_)
            | (refine wl_load_nv rfl _ rfl g15 rfl x15 k15 ?_)
            | (go_at_call 14; refine kS.mono ?_; rintro en w60 ⟨rfl, hBz⟩))
          go_ret
          exact ⟨rfl, below_then hT hBz⟩
end Go.Proofs.Ytajainmldcnaeaa
namespace Go.Proofs.Ytajainmldcnaeaa
open Go.ChangeShapes Go.WideShapes Go.ChangeAt Go.RowKit
open Go.ChangeMaps (open_string shut_string)
set_option linter.unusedVariables false
set_option linter.unusedSimpArgs false

set_option maxRecDepth 100000 in
theorem ereOwn_contract (H : Type) (enc : TypeId × Value → H) (W : World) (base : Nat) (args : Array Value) (ds gs : List (DataW H)) (before : List MemPlace)
    (hval0 : ∀ (j : Nat) t v, Try.f7.params[j]? = some t → args[j]? = some v → Value.okWide Try.prog W .any base t v)
    (hcond : Rows.uptoSmall H (ds ++ gs) = true) (hM : Mx W)
    (hW : DataW.Whole enc Try.prog Try.f7.params.toList Rows.ereOwnSpec.vars false W args.toList ds gs before) (F : Stop.Interp) :
    Calls Try.prog 7 args W fun e W' => ∃ v, e = .returned v ∧ ((Rows.OpenSpec.upto Rows.ereOwnSpec).at F).post enc Try.prog Try.f7 false true false false W args v W' := by
  have hW' := hW
  obtain ⟨p, q, hA0, hV, rfl, hfz, hnd⟩ := hW
  have hA : DataW.TrodAll enc Try.prog W 0 (fun _ => true) true Try.f7.params.toList args.toList ds p := hA0
  have hval := hval0
  rw [Try.params7] at hA hval
  obtain ⟨v0, vs0, d0, ds0, p0, q0, hargs, rfl, rfl, h0, r0⟩ := trodAll_cons hA
  obtain ⟨v1, vs1, d1, ds1, p1, q1, rfl, rfl, rfl, h1, r1⟩ := trodAll_cons r0
  obtain ⟨rfl, rfl, rfl⟩ := trodAll_nil r1
  obtain rfl : args = #[v0, v1] := by cases args; simp_all
  obtain ⟨rfl, rfl⟩ := trodVars_none hV
  have k0 := h0
  have lt0 : ∀ x ∈ p0, x.block < W.heap.size := by obtain ⟨m, hm⟩ := k0; exact DataW.trod_lt m _ _ _ hm
  have k1 := h1
  have lt1 : ∀ x ∈ p1, x.block < W.heap.size := by obtain ⟨m, hm⟩ := k1; exact DataW.trod_lt m _ _ _ hm
  have hbulk : Rows.uptoBulkAll ([d0, d1] ++ []) ≤ 1048576 := of_decide_eq_true hcond
  simp only [List.append_nil, Rows.uptoBulkAll] at hbulk
  obtain ⟨s0, rfl, hd0, _⟩ := open_string Try.underlying9 (hval 0 9 v0 rfl rfl) h0
  have b0 : s0.size ≤ 1048576 := by
    rw [hd0] at hbulk
    have := bulk_str (H := H) (l := s0.data.toList) (K := 1048576) (by omega)
    simpa using this
  obtain ⟨s1, rfl, hd1, _⟩ := open_string Try.underlying9 (hval 1 9 v1 rfl rfl) h1
  have b1 : s1.size ≤ 1048576 := by
    rw [hd1] at hbulk
    have := bulk_str (H := H) (l := s1.data.toList) (K := 1048576) (by omega)
    simpa using this
  clear hA0 hval0
  refine (own_any s0 s1 W hM).mono fun e W' ⟨he, bel⟩ => ?_
  subst he
  exact ⟨_, rfl, _, _, _, [], _, [], hW', trodAll_mk1 (shut_bool Try.underlying4 _), (trodAll_cons_mk (Below.trod laidOut (by kernel_rfl) (of_decide_eq_true (by kernel_rfl)) k0 bel lt0) (trodAll_cons_mk (Below.trod laidOut (by kernel_rfl) (of_decide_eq_true (by kernel_rfl)) k1 bel lt1) trodAll_mk0)), rfl, bel.frame _, fun h => by cases h⟩

set_option maxRecDepth 100000 in
theorem ereOwn_lifted (os : Os) (started : os.Started) (H : Type) (enc : TypeId × Value → H) (F : Stop.Interp) :
    ReturnsInHanded {} Try.checked os 7 .any ((Rows.OpenSpec.upto Rows.ereOwnSpec).pre6 enc Try.prog Try.f7 Rows.ereOwnUptoRow.domain false) (((Rows.OpenSpec.upto Rows.ereOwnSpec).at F).post enc Try.prog Try.f7 false true false false) := by
  refine returnsInHanded_of_cond_shaped (C := Try.checked) (s := Rows.OpenSpec.upto Rows.ereOwnSpec) (k := Rows.uptoSmall) rfl own started (by kernel_rfl) Try.func7
    (OpenSpec.witness (enc := enc) (C := Try.checked) (s := Rows.OpenSpec.upto Rows.ereOwnSpec) (k := Rows.uptoSmall) rfl false ⟨#[], #[.string ⟨#[]⟩, .string ⟨#[]⟩], []⟩ 8 (by kernel_rfl) (by kernel_rfl) (by kernel_rfl)
      (x := ([.lit (.string []), .lit (.string [])], [], [])) (by kernel_rfl) rfl (by kernel_rfl)) ?_
  intro W base args ds gs before hval hW _ hk hsh _
  exact ereOwn_contract H enc W base args ds gs before hval hk (mx_of hsh) hW F

theorem ereOwnUpto_holds : Rows.EreOwnUptoSaid :=
  OpenClaim.holds_of_cond 7 Try.f7 rfl rfl rfl rfl rfl rfl rfl ⟨rfl, rfl, rfl, rfl, rfl⟩ rfl rfl rfl rfl rfl (by kernel_rfl) Try.func7 (by kernel_rfl)
    (of_decide_eq_true (by kernel_rfl)) (by unfold Func.isWrapper; first | (rw [if_pos (by decide +kernel)]; kernel_rfl) | (rw [if_neg (by decide +kernel)]; exact ⟨rfl, rfl⟩))
    (fun os started H enc _ F => ereOwn_lifted os started H enc F)
#print axioms ereOwnUpto_holds
end Go.Proofs.Ytajainmldcnaeaa
