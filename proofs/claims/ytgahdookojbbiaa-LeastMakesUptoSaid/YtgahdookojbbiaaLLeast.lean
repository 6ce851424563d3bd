/- least.Make: the least table of a table that fits. No condition beyond those named in each lemma. -/
import Derived.Test.YtgahdookojbbiaaLBytes
namespace Go.Proofs.Ytgahdookojbbiaa
open Go.RowKit Go.Maps Go.WideMaps
set_option linter.unusedVariables false
set_option linter.unusedSimpArgs false
attribute [local go_sem] Oper.semAt_some

section
variable {P : Program} {k e : TypeId} {κ : Type} {ok : κ → Prop} {kv : κ → Value} {lit : κ → Lit}
theorem IntMap.row_ {w w' : World} {b n cnt : Nat} {m : κ → Option Int} {row : Option Nat} (h : IntMap P k e ok lit w b n m cnt) (hg : w.grownBy w' row) (hne : some b ≠ row) : IntMap P k e ok lit w' b n m cnt := by
  obtain ⟨D, h1, h2⟩ := h
  exact ⟨D, h1.kept hg hne, h2⟩
theorem wl_map_ins [DecidableEq κ] {ops : Array Oper} {rest : List Oper} {o : Oper} {a : Act} {Q : Exit → Act → World → Prop} {w : World} {t : TypeId} {b n cnt : Nat} {mf : κ → Option Int} (K : KeyEnc P k κ ok kv lit) (ht : P.underlying t = some (.map k e)) (he : P.underlying e = some (.int .i64))
    (h : IntMap P k e ok lit w b n mf cnt) (hn : n < maxLen) (hg : o.guard = none) (m x v : Operand) (hop : o.op = Op.insert t m x v) (hm : a.eval m = .map (some b)) (y : κ) (hy : ok y) (hx : a.eval x = kv y)
    (c : Int) (hv : a.eval v = .int .i64 c) (hc : (Lit.int .i64 c).wf = true)
    (hK : ∀ w', IntMap P k e ok lit w' b (n + 1) (putM mf y c) (if (mf y).isSome then cnt else cnt + 1) → w.grownBy w' (some b) → wpList P ops Q rest (a.put o.dst undef) w') : wpList P ops Q (o :: rest) a w := by
  obtain ⟨D, h1, h2, h3, h4⟩ := h
  refine wpList_plain hg fun K' hK' => ?_
  obtain ⟨w', hrun, h5, h6⟩ := h1.update K.law ht hn (K.key y hy) (plainElem_int he hc)
  unfold Oper.wp
  simp [execOp, hop, hm, hx, hv, hrun, Result.andThen]
  refine hK' _ _ (hK w' ?_ h6)
  refine ⟨_, h5, fun z hz => ?_, fun z hz => ?_, ?_⟩
  · by_cases e1 : z = y
    · subst e1
      rw [Maps.has_put_same h1.isMap (K.isKey hy)]
      simp [putM]
    · rw [Maps.has_put_other (K.lit_ne hy hz e1), h2 z hz]
      simp [putM, e1]
  · by_cases e1 : z = y
    · subst e1
      rw [Maps.atKey_put_same h1.isMap (K.isKey hy)]
      simp [putM]
    · rw [Maps.atKey_put_other (K.lit_ne hy hz e1), h3 z hz]
      simp [putM, e1]
  · rw [Maps.size_put (h1.tidy K.law), h2 y hy, h4]
end
theorem some_lt {g b : Nat} (h : g < b) : ∀ a : Addr, (some (⟨g, 0, none⟩ : Addr)) = some a → a.block < b := fun a ha => by
  have e : (⟨g, 0, none⟩ : Addr) = a := Option.some.inj ha
  subst e
  exact h
theorem some_ne {g b : Nat} (h : g ≠ b) : ∀ a : Addr, (some (⟨g, 0, none⟩ : Addr)) = some a → a.block ≠ b := fun a ha => by
  have e : (⟨g, 0, none⟩ : Addr) = a := Option.some.inj ha
  subst e
  exact h
/-- the numbers of the kinds met -/
def numV (K : Nat → Int) (L : List Nat) (v : Int) : Option Int := if v ∈ L.map K then some ((L.map K).idxOf v : Nat) else none
theorem numV_start (K : Nat → Int) : putM (fun _ => none) (K 0) 0 = numV K [0] := by
  funext v
  unfold putM numV
  by_cases e : v = K 0
  · subst e; simp
  · simp [e]
theorem numV_in {K : Nat → Int} {L : List Nat} {t : Nat} (h : K t ∈ L.map K) : numV K L (K t) = some (((L.map K).idxOf (K t) : Nat) : Int) := by unfold numV; rw [if_pos h]
theorem numV_out {K : Nat → Int} {L : List Nat} {t : Nat} (h : ¬ K t ∈ L.map K) : numV K L (K t) = none := by unfold numV; rw [if_neg h]
theorem numV_put {K : Nat → Int} {L : List Nat} {t : Nat} (h : ¬ K t ∈ L.map K) : putM (numV K L) (K t) (L.length : Int) = numV K (L ++ [t]) := by
  funext v
  unfold putM numV
  rw [List.map_append]
  by_cases e : v = K t
  · subst e
    rw [if_pos rfl, if_pos (by simp), idx_not h]
    simp
  · rw [if_neg e]
    by_cases hv : v ∈ L.map K
    · rw [if_pos hv, if_pos (List.mem_append_left _ hv), idx_mem hv]
    · rw [if_neg hv, if_neg]
      intro h2
      rcases List.mem_append.1 h2 with h2 | h2
      · exact hv h2
      · exact e (by simpa using h2)
section
variable {ops : Array Oper} {rest : List Oper} {o : Oper} {a : Act} {w : World} {Q : Exit → Act → World → Prop}
theorem wl_store_dc {f : Nat → Int} {A B C : Option Addr} {n c m d k e : Nat} (hgd : o.guard = none) (x y : Operand) (ho : o.op = .store 3 x y) (g i : Nat) (hi : i < 256) (v : Int) (hx : a.eval x = .pointer (some ⟨g, i, none⟩)) (hy : a.eval y = .int .i64 v) (hb : Blk w g 47 (dfaC f A n c B m d C k e))
    (h : ∀ w', Blk w' g 47 (dfaC (putN f i v) A n c B m d C k e) → w.grownBy w' (some g) → wpList Try.prog ops Q rest (a.put o.dst undef) w') : wpList Try.prog ops Q (o :: rest) a w :=
  wl_store_cell hgd _ x y ho g i hx _ _ (dfaC (putN f i v) A n c B m d C k e) hb (by rw [dfaC_size]; omega) info_intS (by rw [hy]; rfl) (by rw [hy]; rfl) (by rw [hy]; exact dfaC_setc _ _ _ _ _ _ _ _ _ _ _ _ hi) h
end
section
variable {α : Type} {enc : α → Array Value} {size base bv g n c : Nat} {e e2 : TypeId} {W W' : World} {ys : List α} {v : Value} {β : Type} {enc2 : β → Array Value} {size2 : Nat} {zs2 : List β}
/-- a row that lies below all that another row may turn -/
theorem own_under {A : Option Addr} (h : Own W base e size enc (.slice A n c) ys) (hb : ∀ a, A = some a → a.block < bv) (ho : Own W bv e2 size2 enc2 v zs2) (hg : W.grownBy W' v.ownBlock) : Own W' base e size enc (.slice A n c) ys :=
  h.kept_ hg (fun j e1 e3 => by
    have h1 := (ho.lt j e3).1
    rw [ownBlock_slice] at e1
    rcases hA : A with _ | a
    · rw [hA] at e1; cases e1
    · rw [hA] at e1
      have := hb a hA
      simp at e1
      omega)
theorem own_apart {A B : Option Addr} {n2 c2 b2 : Nat} (h : Own W base e size enc (.slice A n c) ys) (ho : Own W b2 e2 size2 enc2 (.slice B n2 c2) zs2) (hab : ∀ a b, A = some a → B = some b → a.block ≠ b.block) (hg : W.grownBy W' (Value.slice B n2 c2).ownBlock) : Own W' base e size enc (.slice A n c) ys :=
  h.kept_ hg (fun j e1 e3 => by
    rw [ownBlock_slice] at e1 e3
    rcases hA : A with _ | a
    · rw [hA] at e1; cases e1
    · rcases hB : B with _ | b
      · rw [hB] at e3; cases e3
      · rw [hA] at e1; rw [hB] at e3
        have := hab a b hA hB
        simp at e1 e3
        omega)
theorem own_neg {A : Option Addr} (h : Own W base e size enc (.slice A n c) ys) (hg : W.grownBy W' (some g)) (hb : ∀ a, A = some a → a.block ≠ g) : Own W' base e size enc (.slice A n c) ys :=
  h.kept_ hg (fun j e1 e3 => by
    rw [ownBlock_slice] at e1
    injection e3 with e3
    rcases hA : A with _ | a
    · rw [hA] at e1; cases e1
    · rw [hA] at e1
      have := hb a hA
      simp at e1
      omega)
end
theorem RMI.far2 {x : TV} {K : Nat → Int} {go bv c n2 c2 b2 : Nat} {W W' : World} {L : List Nat} {y : TV} {A A2 : Option Addr} {l : List Int} (h : RMI x K go bv W L y A c) (ho : Own W b2 3 1 encZ (.slice A2 n2 c2) l) (hg : W.grownBy W' (Value.slice A2 n2 c2).ownBlock)
    (hA : ∀ a b, A = some a → A2 = some b → a.block ≠ b.block) (hy : ∀ j (hj : j < y.rs.length) a b, y.rs[j].a = some a → A2 = some b → a.block ≠ b.block) : RMI x K go bv W' L y A c :=
  ⟨blk_own2 h.out ho hg (by decide), h.own.ownI ho hg hy, own_apart h.row ho hA hg, h.ap, h.yf⟩
theorem fresh_apart {A' A : Option Addr} {n c n' c' N : Nat} {B : Option Addr} (hv : (Value.slice A' n' c').ownBlock = (Value.slice A n c).ownBlock ∨ (Value.slice A' n' c').ownBlock = some N) (h : ∀ a b, B = some a → A = some b → a.block ≠ b.block) (hN : ∀ a, B = some a → a.block < N) : ∀ a b, B = some a → A' = some b → a.block ≠ b.block := fun a b ha hb =>
  (block_push hv (g := a.block) (fun b hb2 => (h a b ha hb2).symm) (by have := hN a ha; omega) b hb).symm
set_option maxRecDepth 100000 in
set_option maxHeartbeats 8000000 in
theorem lmake_any (x : TV) (w : World) (hT : TabIn w w.heap.size x) :
    Calls Try.prog 22 #[.agg x.C'] w fun e w' => MakeAns w w' e x.T := by
  have hCg : TV.C' x = TV.C' x := rfl
  unfold TV.C' at hCg ⊢
  have hz := zero_dfa
  go_enter Try.func22, Try.ntmps22
  obtain ⟨A, hA⟩ : ∃ A, A = x.A := ⟨_, rfl⟩
  have h1 := (Blk.new w 47 (dfaC x.f x.A x.rs.length x.c x.B x.fo.length x.d x.C x.en.length x.e)).alloc (.cells (dfaC (fun _ => 0) none 0 0 none 0 0 none 0 0) 47)
  have hB1 := below_alloc (below_alloc (Below.refl w.heap.size w) (.cells (dfaC x.f x.A x.rs.length x.c x.B x.fo.length x.d x.C x.en.length x.e) 47)) (.cells (dfaC (fun _ => 0) none 0 0 none 0 0 none 0 0) 47)
  have hr : Blk ((w.alloc (.cells (dfaC x.f x.A x.rs.length x.c x.B x.fo.length x.d x.C x.en.length x.e) 47)).alloc (.cells (dfaC (fun _ => 0) none 0 0 none 0 0 none 0 0) 47)) (w.heap.size + 1) 47 (dfaC (fun _ => 0) none 0 0 none 0 0 none 0 0) := Blk.new' _ _ _ (World.size_alloc _ _).symm
  have hc := right_any x ((w.alloc (.cells (dfaC x.f x.A x.rs.length x.c x.B x.fo.length x.d x.C x.en.length x.e) 47)).alloc (.cells (dfaC (fun _ => 0) none 0 0 none 0 0 none 0 0) 47)) (hT.then_ hB1)
  unfold TV.C' at hc
  rcases fitsB_cases x.T with ⟨hfb, hF⟩ | ⟨hfb, hF⟩
  · rw [hfb] at hc
    replace hfb := Lib.hid hfb
    go_upto_region 3 with (first | (refine wl_load_dfa rfl _ rfl _ rfl h1 ?_) | (go_at_call 28; refine hc.mono ?_; rintro e w2 ⟨rfl, hB2⟩))
    clear hz hc
    replace h1 := blk_then h1 hB2
    replace hr := blk_then hr hB2
    replace hB1 := below_then hB1 hB2
    clear hB2
    obtain ⟨gr, hgr⟩ : ∃ g, g = w.heap.size + 1 := ⟨_, rfl⟩
    rw [← hgr] at hr ⊢
    have hgrw : w.heap.size ≤ gr := by omega
    clear hgr hA A
    have n1 : 1 ≤ x.rs.length := by have := hF.n1; rwa [fits_n] at this
    have n2 : x.rs.length ≤ 4096 := by have := hF.n2; rwa [fits_n] at this
    have hok := hF.ok
    have hAn : x.T.au.n = x.rs.length := fits_n
    have hcu := used_any x hF _ (hT.then_ hB1)
    unfold TV.C' at hcu
    go_upto_region 4 with (first | (refine wl_load_dfa rfl _ rfl _ rfl h1 ?_) | (go_at_call 49; refine hcu.mono ?_; rintro e w3 ⟨Au, cu, rfl, hou, hB3⟩) | (go_at_call 49; refine park ?_))
    replace h1 := blk_then h1 hB3
    replace hr := blk_then hr hB3
    replace hB1 := below_then hB1 hB3
    clear hB3 hcu
    have hSu := hou.slice_all encZ_size
    have hcm := lmet_any x hF Au cu _ (hT.then_ hB1) hSu
    unfold TV.C' at hcm
    go_upto_region 5 with (first | (refine wl_load_dfa rfl _ rfl _ rfl h1 ?_) | (go_at_call 50; refine hcm.mono ?_; rintro e w4 ⟨ts, As, cs, rfl, hSt, hos, hB4⟩) | (go_at_call 50; refine park ?_))
    replace h1 := blk_then h1 hB4
    replace hr := blk_then hr hB4
    replace hou := hou.then_ hB4
    replace hB1 := below_then hB1 hB4
    clear hB4 hcm hSu
    have hca := lalike_any x hF ts hSt As Au cs cu _ (hT.then_ hB1) (hos.slice_all encZ_size) (hou.slice_all encZ_size)
    unfold TV.C' at hca
    replace hSt := Lib.hid hSt
    go_upto_region 6 with (first | (refine wl_load_dfa rfl _ rfl _ rfl h1 ?_) | (go_at_call 51; refine hca.mono ?_; rintro e w5 ⟨gk, K, rfl, hgk, hk, hker, hKl, hB5⟩) | (go_at_call 51; refine park ?_))
    replace h1 := blk_then h1 hB5
    replace hr := blk_then hr hB5
    replace hos := hos.then_ hB5
    have hgkw : w.heap.size ≤ gk := Nat.le_trans hB1.size hgk
    replace hB1 := below_then hB1 hB5
    clear hB5 hca hou hgk
    have hcb := lbytes_any x hF ts hSt.out As cs K gk hker _ (hT.then_ hB1) (hos.slice_all encZ_size) hk hKl
    unfold TV.C' at hcb
    go_upto_region 7 with (first | (refine wl_load_dfa rfl _ rfl _ rfl h1 ?_) | (go_at_call 52; refine hcb.mono ?_; rintro e w6 ⟨gc, C, rfl, hgc, hc, hC, hB6⟩) | (go_at_call 52; refine park ?_))
    replace h1 := blk_then h1 hB6
    replace hr := blk_then hr hB6
    replace hk := blk_then hk hB6
    replace hB1 := below_then hB1 hB6
    clear hB6 hcb hos hgc
    replace hC := Lib.hid hC
    have hKb : ∀ s, Reach x.T.au s → 0 ≤ K s ∧ K s < 4096 := fun s hs => by
      have h2 := hKl s ((hSt.out.re s).2 hs)
      have h3 := nodup_len (n := x.rs.length) hSt.out.nd (fun s hs => by have := hSt.out.lt hok hs; rwa [hAn] at this)
      omega
    replace hKb := Lib.hid hKb
    clear hKl
    have hz := zero_dfa
    go_upto_region 8 with (fail)
    have ho0 := Blk.new w6 47 (dfaC (fun _ => 0) none 0 0 none 0 0 none 0 0)
    obtain ⟨go, hgo⟩ : ∃ g, g = w6.heap.size := ⟨_, rfl⟩
    rw [← hgo] at ho0 ⊢
    have hw1go : w.heap.size ≠ go := by have := h1.lt; omega
    have hrgo : gr ≠ go := by have := hr.lt; omega
    have hkgo : gk ≠ go := by have := hk.lt; omega
    have hcgo : gc ≠ go := by have := hc.lt; omega
    have hgow : w.heap.size ≤ go := by rw [hgo]; exact hB1.size
    replace h1 := h1.alloc (.cells (dfaC (fun _ => 0) none 0 0 none 0 0 none 0 0) 47)
    replace hr := hr.alloc (.cells (dfaC (fun _ => 0) none 0 0 none 0 0 none 0 0) 47)
    replace hk := hk.alloc (.cells (dfaC (fun _ => 0) none 0 0 none 0 0 none 0 0) 47)
    replace hc := hc.alloc (.cells (dfaC (fun _ => 0) none 0 0 none 0 0 none 0 0) 47)
    replace hB1 := below_alloc hB1 (.cells (dfaC (fun _ => 0) none 0 0 none 0 0 none 0 0) 47)
    obtain ⟨w7, hw7⟩ : ∃ y, y = w6.alloc (.cells (dfaC (fun _ => 0) none 0 0 none 0 0 none 0 0) 47) := ⟨_, rfl⟩
    rw [← hw7] at h1 hr hk hc hB1 ho0 ⊢
    have hsz7 : go + 1 ≤ w7.heap.size := by rw [hw7, World.size_alloc]; omega
    clear hw7 hgo hz
    obtain ⟨b1, hb1⟩ : ∃ b, b = w7.heap.size := ⟨_, rfl⟩
    have k1 : w.heap.size < b1 := by rw [hb1]; exact h1.lt
    have kr : gr < b1 := by rw [hb1]; exact hr.lt
    have kk : gk < b1 := by rw [hb1]; exact hk.lt
    have kc : gc < b1 := by rw [hb1]; exact hc.lt
    have ko : go < b1 := by omega
    have hb1w : b1 ≤ w7.heap.size := by omega
    clear hsz7 hb1
    obtain ⟨fc, hfc⟩ : ∃ f, f = (leastT x.T.au K).cls := ⟨_, rfl⟩
    replace hfc := Lib.hid hfc
    go_upto_region 10 with (fail)
    go_loopw [41, 9] (fun bv2 fv wr => ∃ (b : Nat) (A : Option Addr) (c : Nat), b ≤ 256 ∧ bv2 = .int .i64 b ∧ fv = .slice A (fb (vec x.T.au K) b).length c ∧ Below w.heap.size w wr ∧ Blk wr w.heap.size 47 (dfaC x.f x.A x.rs.length x.c x.B x.fo.length x.d x.C x.en.length x.e) ∧ Blk wr gr 47 (dfaC (fun _ => 0) none 0 0 none 0 0 none 0 0) ∧ Blk wr gk 3 (arr eZ x.rs.length K) ∧ Blk wr gc 3 (arr eZ 256 C) ∧ Blk wr go 47 (dfaC (upto b fc (fun _ => 0)) none 0 0 none 0 0 none 0 0) ∧ b1 ≤ wr.heap.size ∧ Own wr b1 3 1 encZ (.slice A (fb (vec x.T.au K) b).length c) (zs (fb (vec x.T.au K) b))) (fun bv2 _ _ => 256 - (intOf bv2).toNat)
    case atStart => exact ⟨0, none, 0, by omega, rfl, rfl, hB1, h1, hr, hk, hc, by rw [upto_zero]; exact ho0, hb1w, Own.nil_ _ _ _ _ _⟩
    case round =>
      clear hB1 h1 hr hk hc ho0 hb1w
      obtain ⟨b, A, c, hb, rfl, rfl, hB1, h1, hr, hk, hc, hob, hb1w, ho⟩ := hrel
      by_cases hb2 : b < 256
      · have hbI : (b : Int) < 256 := by omega
        obtain ⟨nb, hnbe⟩ : ∃ nb, num (vec x.T.au K) b = nb := ⟨_, rfl⟩
        have ccb : wr.cell? ⟨gc, b, none⟩ = some (.int .i64 (nb : Nat)) := by
          rw [blk_arrv hc hb2]
          show some (Value.int .i64 (C b)) = _
          rw [hC.out b hb2, hnbe]
        have hfb2 : (nb : Int) = fc b := by
          rw [hfc.out]
          show _ = if b < 256 then (num (vec x.T.au K) b : Int) else 0
          rw [if_pos hb2, hnbe]
        replace hfb2 := Lib.hid hfb2
        have hnl : num (vec x.T.au K) b = (fb (vec x.T.au K) b).length ↔ ¬ vec x.T.au K b ∈ firsts (vec x.T.au K) b := by
          rw [fb_length]
          constructor
          · intro h hm
            have := num_lt_old _ _ hm
            omega
          · intro h; exact num_new _ _ h
        rw [hnbe] at hnl
        have hfl : (fb (vec x.T.au K) b).length ≤ b := by rw [fb_length]; exact firsts_length_le _ _
        replace hnl := Lib.hid hnl
        replace hnbe := Lib.hid hnbe
        go_upto_region 13 with (refine wl_store_dc rfl _ _ rfl go b hb2 (nb : Int) rfl rfl hob ?_; intro w8 hob8 hG8)
        rw [upto_put _ _ _ _ hfb2.out] at hob8
        replace ho := own_box ho hob hG8 (by decide)
        replace h1 := blk_grown h1 hG8 hw1go
        replace hr := blk_grown hr hG8 hrgo
        replace hk := blk_grown hk hG8 hkgo
        replace hc := blk_grown hc hG8 hcgo
        replace hB1 := below_grown hB1 hG8 hgow
        have hb1x : b1 ≤ w8.heap.size := by have := hG8.size; omega
        clear hG8 hob ccb hb1w
        obtain ⟨fl, hfle⟩ : ∃ l, fb (vec x.T.au K) b = l := ⟨_, rfl⟩
        rw [hfle] at hfl ho ⊢
        by_cases hnew : nb = fl.length
        · have heI : (nb : Int) = fl.length := by omega
          have hm := hnl.out.1 (by rw [hfle]; exact hnew)
          have hfn : fb (vec x.T.au K) (b + 1) = fl ++ [b] := by rw [fb_new _ _ hm, hfle]
          replace hfn := Lib.hid hfn
          replace hfle := Lib.hid hfle
          clear hm hnew hnl
          go_upto_region 15 with (first | (refine wl_int1 rfl _ rfl (b : Int) rfl ?_) | (refine wl_pushZ rfl _ _ rfl b1 _ _ rfl rfl (Blk.new _ _ _) (ho.alloc _) (zs_len fl).symm (by rw [zs_len]; omega) (by rw [World.size_alloc]; omega) ?_; intro A8 c8 w9 ho8 hg8 hv8))
          rw [← zs_add] at ho8
          have hoa := ho.alloc (.cells (encZ (b : Int)) 3)
          replace h1 := blk_own (h1.alloc _) hoa hg8 k1
          replace hr := blk_own (hr.alloc _) hoa hg8 kr
          replace hk := blk_own (hk.alloc _) hoa hg8 kk
          replace hc := blk_own (hc.alloc _) hoa hg8 kc
          replace hob8 := blk_own (hob8.alloc _) hoa hg8 ko
          replace hB1 := below_own (below_alloc hB1 _) hg8 (fun k e => by have := (ho.lt k e).1; omega)
          have hb1y : b1 ≤ w9.heap.size := by have := hg8.size; rw [World.size_alloc] at this; omega
          have hll : fl.length + 1 = (fb (vec x.T.au K) (b + 1)).length := by rw [hfn.out]; simp
          rw [← hfn.out, hll] at ho8
          rw [hll]
          replace hll := Lib.hid hll
          clear hg8 hv8 ho hoa
          go_wp2_with (fail)
          exact ⟨⟨b + 1, A8, c8, by omega, rfl, rfl, hB1, h1, hr, hk, hc, hob8, hb1y, ho8⟩, by simp only [intOf]; omega⟩
        · have heI : ¬ (nb : Int) = fl.length := by omega
          have hm : vec x.T.au K b ∈ firsts (vec x.T.au K) b := Decidable.not_not.1 fun h => hnew (by rw [← hfle]; exact hnl.out.2 h)
          have hfn : fb (vec x.T.au K) (b + 1) = fl := by rw [fb_old _ _ hm, hfle]
          replace hfn := Lib.hid hfn
          replace hfle := Lib.hid hfle
          clear hm hnew hnl
          go_wp2_with (fail)
          exact ⟨⟨b + 1, A, c, by omega, rfl, by rw [hfn.out], hB1, h1, hr, hk, hc, hob8, hb1x, by rw [hfn.out]; exact ho⟩, by simp only [intOf]; omega⟩
      · have hbI : ¬ (b : Int) < 256 := by omega
        have hbe : b = 256 := by omega
        subst hbe
        replace hob := hob
        have hcls : dfaC (upto 256 fc (fun _ => 0)) none 0 0 none 0 0 none 0 0 = dfaC fc none 0 0 none 0 0 none 0 0 := dfaC_ext _ _ _ _ _ _ _ _ _ (fun b hb => by unfold upto; rw [if_pos hb])
        rw [hcls] at hob
        have hfr : fb (vec x.T.au K) 256 = reps x.T.au K := rfl
        rw [hfr] at ho ⊢
        have hM256 := reps_le x.T.au K
        obtain ⟨M, hM⟩ : ∃ M, (reps x.T.au K).length = M := ⟨_, rfl⟩
        have hM0 : 0 < M := by
          obtain ⟨h, _⟩ := vec_rep hok (k := K) (b := 0) (by omega)
          omega
        rw [hM] at hM256 ho ⊢
        replace hM := Lib.hid hM
        obtain ⟨gf, cf, hv, hgfb, hgfl, _, _⟩ := ho.form (by rw [zs_len, hM.out]; exact hM0)
        have hA : A = some ⟨gf, 0, none⟩ := by injection hv
        subst hA
        clear hv hcls hfr hbI hb2 hb
        have hF0 := ho
        clear ho
        have hmm := @run_makeMap Try.prog
        have hMp := IntMap.new (P := Try.prog) (e := 3) keyI wr rfl
        replace h1 := h1.alloc (.map #[] 0)
        replace hr := hr.alloc (.map #[] 0)
        replace hk := hk.alloc (.map #[] 0)
        replace hob := hob.alloc (.map #[] 0)
        replace hF0 := hF0.alloc (.map #[] 0)
        replace hB1 := below_alloc hB1 (.map #[] 0)
        have hK0 := hKb.out 0 .zero
        obtain ⟨v0, hv0⟩ : ∃ v, K 0 = v := ⟨_, rfl⟩
        have ck0 : (wr.alloc (.map #[] 0)).cell? ⟨gk, 0, none⟩ = some (.int .i64 v0) := by rw [blk_arrv hk (by omega), ← hv0]; rfl
        rw [hv0] at hK0
        have hok0 : okI v0 := wf_of hK0.1 (by omega)
        have hput0 := numV_start K
        rw [hv0] at hput0
        replace hput0 := Lib.hid hput0
        replace hok0 := Lib.hid hok0
        replace hv0 := Lib.hid hv0
        have n0 : (0 : Int) < x.rs.length := by omega
        have h0m : 0 < maxLen := by unfold maxLen; omega
        clear hK0
        go_upto_region 17 with (refine wl_map_ins keyI Try.underlying89 Try.underlying3 hMp h0m rfl _ _ _ rfl rfl v0 hok0.out rfl 0 rfl (by decide) ?_; intro w8 hM8 hG8)
        rw [hput0.out] at hM8
        have hsz : (wr.alloc (.map #[] 0)).heap.size = wr.heap.size + 1 := World.size_alloc _ _
        obtain ⟨gm, hgm⟩ : ∃ g, g = wr.heap.size := ⟨_, rfl⟩
        rw [← hgm] at hM8 hG8 hgfl hb1w hsz ⊢
        have e1 : w.heap.size ≠ gm := by omega
        have er : gr ≠ gm := by omega
        have ek : gk ≠ gm := by omega
        have eo : go ≠ gm := by omega
        have ef : gf ≠ gm := by omega
        have hgmw : w.heap.size ≤ gm := by omega
        replace h1 := h1.grown hG8 (by simpa using e1)
        replace hr := hr.grown hG8 (by simpa using er)
        replace hk := hk.grown hG8 (by simpa using ek)
        replace hob := hob.grown hG8 (by simpa using eo)
        replace hF0 := own_neg hF0 hG8 (fun a ha => by injection ha with ha; rw [← ha]; exact ef)
        replace hB1 := below_grown hB1 hG8 hgmw
        have hs8 := hG8.size
        rw [hsz] at hs8
        clear hG8 hsz hMp ck0 hput0 hok0 hmm hgm hb1w
        go_upto_region 18 with (refine wl_int1 rfl _ rfl 0 rfl ?_)
        have hw9 : Own (w8.alloc (.cells (encZ 0) 3)) w8.heap.size 3 1 encZ (.slice (some ⟨w8.heap.size, 0, none⟩) 1 1) (zs [0]) := own_one encZ_size (Blk.new _ _ _) (Nat.le_refl _)
        obtain ⟨bv, hbv⟩ : ∃ g, g = w8.heap.size := ⟨_, rfl⟩
        rw [← hbv] at hw9 hs8 ⊢
        have hbw : w.heap.size ≤ bv := by omega
        have l1 : w.heap.size < bv := by omega
        have lr : gr < bv := by omega
        have lk : gk < bv := by omega
        have lo : go < bv := by omega
        have lf : gf < bv := by omega
        have lm : gm < bv := by omega
        have hgfA : ∀ a : Addr, (some (⟨gf, 0, none⟩ : Addr)) = some a → a.block < bv := some_lt lf
        have hgfM : ∀ a : Addr, (some (⟨gf, 0, none⟩ : Addr)) = some a → a.block ≠ gm := some_ne ef
        replace hgfA := Lib.hid hgfA
        replace hgfM := Lib.hid hgfM
        replace h1 := h1.alloc (.cells (encZ 0) 3)
        replace hr := hr.alloc (.cells (encZ 0) 3)
        replace hk := hk.alloc (.cells (encZ 0) 3)
        replace hob := hob.alloc (.cells (encZ 0) 3)
        replace hF0 := hF0.alloc (.cells (encZ 0) 3)
        replace hM8 := hM8.alloc (.cells (encZ 0) 3)
        replace hB1 := below_alloc hB1 (.cells (encZ 0) 3)
        have hI : RMI x K go bv (w8.alloc (.cells (encZ 0) 3)) (likeN x.T.au K (reps x.T.au K) 0) ⟨fc, [], none, 0, [], none, 0, [], none, 0⟩ (some ⟨bv, 0, none⟩) 1 :=
          ⟨hob, TOwn.nil _ _ _, hw9, fun j hj => absurd hj (by simp), hfc.out⟩
        have hY : YI x K 0 ⟨fc, [], none, 0, [], none, 0, [], none, 0⟩ := ⟨by simp, by simp, by simp⟩
        have hM8' : ∃ (n cnt : Nat), n ≤ 0 + 1 ∧ IMap (w8.alloc (.cells (encZ 0) 3)) gm n (numV K (likeN x.T.au K (reps x.T.au K) 0)) cnt := ⟨_, _, by omega, hM8⟩
        obtain ⟨wA, hwA⟩ : ∃ y, y = w8.alloc (.cells (encZ 0) 3) := ⟨_, rfl⟩
        rw [← hwA] at h1 hr hk hob hB1 hF0 hM8' hI ⊢
        clear hwA hob hw9 hbv hM8 hs8 hgfl n0 h0m
        go_upto_region 19 with (fail)
        go_loopw [13, 14] (fun rv iv wr => ∃ (i : Nat) (y : TV) (A : Option Addr) (c2 : Nat), iv = .int .i64 i ∧ rv = .slice A (likeN x.T.au K (reps x.T.au K) i).length c2 ∧ i ≤ (likeN x.T.au K (reps x.T.au K) i).length ∧ Below w.heap.size w wr ∧ Blk wr w.heap.size 47 (dfaC x.f x.A x.rs.length x.c x.B x.fo.length x.d x.C x.en.length x.e) ∧ Blk wr gr 47 (dfaC (fun _ => 0) none 0 0 none 0 0 none 0 0) ∧ Blk wr gk 3 (arr eZ x.rs.length K) ∧ Own wr b1 3 1 encZ (.slice (some ⟨gf, 0, none⟩) M c) (zs (reps x.T.au K)) ∧ (∃ (n cnt : Nat), n ≤ (likeN x.T.au K (reps x.T.au K) i).length ∧ IMap wr gm n (numV K (likeN x.T.au K (reps x.T.au K) i)) cnt) ∧ RMI x K go bv wr (likeN x.T.au K (reps x.T.au K) i) y A c2 ∧ YI x K i y) (fun _ iv _ => x.rs.length + 1 - (intOf iv).toNat)
        case atStart => exact ⟨0, _, _, _, rfl, rfl, by omega, hB1, h1, hr, hk, hF0, hM8', hI, hY⟩
        case round =>
          clear hB1 h1 hr hk hF0 hM8' hI hY
          obtain ⟨i, y, A, c2, rfl, rfl, hiL, hB1, h1, hr, hk, hF0, ⟨mn, mc, hmn, hMp⟩, hI, hY⟩ := hrel
          replace hY := Lib.hid hY
          obtain ⟨L, hL⟩ : ∃ L, likeN x.T.au K (reps x.T.au K) i = L := ⟨_, rfl⟩
          have hLn : L.length ≤ x.rs.length := by have := like_len hok (k := K) (reps_lt x.T.au K) i; rw [hL, hAn] at this; exact this
          rw [hL] at hiL hI hMp hmn ⊢
          replace hL := Lib.hid hL
          by_cases hiN : i < L.length
          · have hiI : (i : Int) < L.length := by omega
            obtain ⟨s, hs⟩ : ∃ s, L[i] = s := ⟨_, rfl⟩
            have hsL : (likeN x.T.au K (reps x.T.au K) i)[i]? = some s := by rw [hL.out, List.getElem?_eq_getElem hiN, hs]
            have hsl : s < x.rs.length := by
              have h1 := like_reach (A := x.T.au) (k := K) (reps_lt x.T.au K) i s (List.mem_of_getElem? hsL)
              have := h1.lt hok
              rwa [hAn] at this
            have hsR := Lib.hid (like_reach (A := x.T.au) (k := K) (reps_lt x.T.au K) i s (List.mem_of_getElem? hsL))
            replace hsL := Lib.hid hsL
            have hrow := hI.row
            obtain ⟨gl, cap, hv, hgl, hgll, hcap, hcapm⟩ := hrow.form (by rw [zs_len]; omega)
            have hA : A = some ⟨gl, 0, none⟩ := by injection hv
            have c14 : wr.cell? ⟨gl, i, none⟩ = some (.int .i64 (s : Nat)) := by
              rw [hA] at hrow
              have h3 := hrow.row encZ_size i (by rw [zs_len]; exact hiN) 0 _ rfl
              have h4 : (zs L)[i]'(by rw [zs_len]; exact hiN) = (s : Int) := by simp [zs, hs]
              rw [h4] at h3
              rw [show i * 1 + 0 = i by omega] at h3
              exact h3
            rw [hA]
            replace hA := Lib.hid hA
            clear hv hrow hs
            go_upto_region 22 with (fail)
            clear c14 hgl hgll hcap hcapm
            rw [← hA.out]
            clear hA
            have hrl : (rowL x.T.au K s).length = M := by rw [← hM.out]; simp [rowL]
            obtain ⟨l, hl⟩ : ∃ l, rowL x.T.au K s = l := ⟨_, rfl⟩
            rw [hl] at hrl
            replace hrl := Lib.hid hrl
            replace hl := Lib.hid hl
            have hMp' : ∃ (n cnt : Nat), n ≤ (foldT x.T.au K s (reps x.T.au K) L 0).length ∧ IMap wr gm n (numV K (foldT x.T.au K s (reps x.T.au K) L 0)) cnt := ⟨mn, mc, hmn, hMp⟩
            clear hMp hmn
            go_upto_region 24 with (fail)
            go_loopw [13, 16, 77] (fun rv nv xv wr => ∃ (xx : Nat) (A : Option Addr) (c2 : Nat) (A2 : Option Addr) (c3 : Nat), xx ≤ M ∧ xv = .int .i64 xx ∧ rv = .slice A (foldT x.T.au K s (reps x.T.au K) L xx).length c2 ∧ nv = .slice A2 xx c3 ∧ Below w.heap.size w wr ∧ Blk wr w.heap.size 47 (dfaC x.f x.A x.rs.length x.c x.B x.fo.length x.d x.C x.en.length x.e) ∧ Blk wr gr 47 (dfaC (fun _ => 0) none 0 0 none 0 0 none 0 0) ∧ Blk wr gk 3 (arr eZ x.rs.length K) ∧ Own wr b1 3 1 encZ (.slice (some ⟨gf, 0, none⟩) M c) (zs (reps x.T.au K)) ∧ (∃ (n cnt : Nat), n ≤ (foldT x.T.au K s (reps x.T.au K) L xx).length ∧ IMap wr gm n (numV K (foldT x.T.au K s (reps x.T.au K) L xx)) cnt) ∧ RMI x K go bv wr (foldT x.T.au K s (reps x.T.au K) L xx) y A c2 ∧ Own wr bv 3 1 encZ (.slice A2 xx c3) (l.take xx) ∧ (∀ a b, A = some a → A2 = some b → a.block ≠ b.block) ∧ (∀ j (hj : j < y.rs.length) a b, y.rs[j].a = some a → A2 = some b → a.block ≠ b.block)) (fun _ _ xv _ => M - (intOf xv).toNat)
            case atStart => exact ⟨0, A, c2, none, 0, by omega, rfl, rfl, rfl, hB1, h1, hr, hk, hF0, hMp', hI, Own.nil_ _ _ _ _ _, fun a b _ h => (by cases h), fun j hj a b _ h => (by cases h)⟩
            case round =>
              clear hB1 h1 hr hk hF0 hMp' hI
              obtain ⟨xx, A, c2, A2, c3, hxM, rfl, rfl, rfl, hB1, h1, hr, hk, hF0, ⟨mn, mc, hmn, hMp⟩, hI, hN, hAN, hyN⟩ := hrel
              replace hAN := Lib.hid hAN
              replace hyN := Lib.hid hyN
              by_cases hxl : xx < M
              · have hxI : (xx : Int) < M := by omega
                have hxr : xx < (reps x.T.au K).length := by rw [hM.out]; exact hxl
                obtain ⟨Lx, hLx⟩ : ∃ Lx, foldT x.T.au K s (reps x.T.au K) L xx = Lx := ⟨_, rfl⟩
                obtain ⟨b, hbD⟩ : ∃ b, (reps x.T.au K).getD xx 0 = b := ⟨_, rfl⟩
                have hb2 : b < 256 := by rw [← hbD, getD_at _ _ hxr]; exact reps_lt x.T.au K _ (List.getElem_mem hxr)
                have hft : foldT x.T.au K s (reps x.T.au K) L (xx + 1) = addK K Lx (x.T.au.go s b) := by rw [foldT_succD hxr, hLx, hbD]
                have hlk : ∃ r, likes x.T.au K = addK K Lx (x.T.au.go s b) ++ r := by
                  obtain ⟨r, hr⟩ := foldT_likes hok hsL.out (x := xx + 1) (by omega)
                  rw [hL.out, hft] at hr
                  exact ⟨r, hr⟩
                have hLxn : Lx.length ≤ x.rs.length := by
                  obtain ⟨r, hr⟩ := foldT_likes hok hsL.out (x := xx) (by omega)
                  rw [hL.out, hLx] at hr
                  have h5 := likes_len hok K
                  rw [hr, List.length_append, hAn] at h5
                  omega
                have hLx0 : 0 < Lx.length := by
                  obtain ⟨r, hr⟩ := foldT_prefix (A := x.T.au) (k := K) (s := s) (rs := reps x.T.au K) (L := L) (x := 0) (y := xx) (by omega)
                  rw [foldT_zero, hLx] at hr
                  rw [hr, List.length_append]
                  omega
                rw [hLx] at hMp hI hmn ⊢
                have cF : wr.cell? ⟨gf, xx, none⟩ = some (.int .i64 (b : Nat)) := by
                  have h3 := hF0.row encZ_size xx (by rw [zs_len]; exact hxr) 0 _ rfl
                  have h4 : (zs (reps x.T.au K))[xx]'(by rw [zs_len]; exact hxr) = (b : Int) := by rw [← hbD, getD_at _ _ hxr]; simp [zs]
                  rw [h4] at h3
                  rw [show xx * 1 + 0 = xx by omega] at h3
                  exact h3
                obtain ⟨bN, oN, bR, oR, m, nr, cr, hAx, hfm, hmr, hm256, hnr, cN, cR⟩ := nx_cells hF hT hsl hb2
                obtain ⟨t, ht⟩ : ∃ t, x.T.au.go s b = t := ⟨_, rfl⟩
                have htl : t < x.rs.length := by rw [← ht, ← hAn]; exact hok.lt s b (by rw [hAn]; exact hsl) hb2
                have htR : Reach x.T.au t := by rw [← ht]; exact .step hsR.out hb2
                rw [ht] at cR hft hlk
                have hgD : x.T.au.go s ((reps x.T.au K).getD xx 0) = t := by rw [hbD, ht]
                have hlx : xx < l.length := by rw [hrl.out]; exact hxl
                have hlget : l[xx] = (((likes x.T.au K).map K).idxOf (K t) : Nat) := by
                  simp only [← hl.out]
                  simp only [rowL, List.getElem_map]
                  rw [← getD_at (reps x.T.au K) 0 hxr, hgD]
                have hltk : l.take (xx + 1) = l.take xx ++ [l[xx]] := List.take_succ_eq_append_getElem hlx
                rw [hlget] at hltk
                have hvK := hKb.out t htR
                obtain ⟨v, hv⟩ : ∃ v, K t = v := ⟨_, rfl⟩
                rw [hv] at hvK
                have hokv : okI v := wf_of hvK.1 (by omega)
                replace hokv := Lib.hid hokv
                replace hLx := Lib.hid hLx
                replace hft := Lib.hid hft
                replace hlk := Lib.hid hlk
                replace hltk := Lib.hid hltk
                replace hgD := Lib.hid hgD
                replace hv := Lib.hid hv
                clear hbD hlget hlx hxr ht htR hvK
                go_upto_region 26 with (fail)
                clear cF
                refine wp_region_steps 12 [eqS (.pointer (some ⟨w.heap.size, 256, none⟩)), eqS (.slice (some ⟨bN, oN, none⟩) x.rs.length x.c), eqS (.int .i64 (((s : Nat) : Int))), eqS (.pointer (some ⟨bN, oN + s * 1, none⟩)), eqS (.slice (some ⟨bR, oR, none⟩) nr cr), eqS (.int .i64 (((b : Nat) : Int))), eqS (.pointer (some ⟨w.heap.size, 0, none⟩)), eqS (.pointer (some ⟨w.heap.size, 0 + b * 1, none⟩)), eqS (.int .i64 (((m : Nat) : Int))), eqS (.pointer (some ⟨bR, oR + m * 1, none⟩)), eqS (.int .i64 (((t : Nat) : Int))), eqS (.int .i64 (((t : Nat) : Int)))] [81, 82, 83, 84, 85, 86, 87, 88, 89, 90, 91, 19] rfl (by kernel_rfl) rfl ?_ ?_
                · skip
                  refine Steps.cons (fun a' w' hG hB dep => gs_field (want_none rfl) _ _ _ rfl w.heap.size (0) (256) (hG.other 1 rfl) (fun wz => field_dfa_1 w.heap.size (0) wz) rfl) ?_
                  refine Steps.cons (fun a' w' hG hB dep => gs_load1 (want_none rfl) _ _ rfl w.heap.size (256) (dep 0 rfl 81 rfl) (.slice (some ⟨bN, oN, none⟩) x.rs.length x.c) (by have h9 := blk_d1 (blk_then h1 hB); rw [hAx] at h9; exact h9) _ Try.underlying45 rfl rfl) ?_
                  refine Steps.cons (fun a' w' hG hB dep => gs_move (want_none rfl) _ rfl (id (hG.other 15 rfl))) ?_
                  refine Steps.cons (fun a' w' hG hB dep => gs_index (want_none rfl) _ _ _ rfl under_rows 1 size_rowE bN oN x.rs.length x.c (s) (dep 1 rfl 82 rfl) (dep 2 rfl 83 rfl) hsl rfl) ?_
                  refine Steps.cons (fun a' w' hG hB dep => gs_load1 (want_none rfl) _ _ rfl bN (oN + s * 1) (dep 3 rfl 84 rfl) (.slice (some ⟨bR, oR, none⟩) nr cr) (cN (below_then hB1 hB)) _ Try.underlying57 rfl rfl) ?_
                  refine Steps.cons (fun a' w' hG hB dep => gs_move (want_none rfl) _ rfl (id (hG.other 18 rfl))) ?_
                  refine Steps.cons (fun a' w' hG hB dep => gs_field (want_none rfl) _ _ _ rfl w.heap.size (0) (0) (hG.other 1 rfl) (fun wz => field_dfa_0 w.heap.size (0) wz) rfl) ?_
                  refine Steps.cons (fun a' w' hG hB dep => gs_index_arr (want_none rfl) _ _ _ rfl w.heap.size (0) b (dep 6 rfl 87 rfl) (dep 5 rfl 86 rfl) (fun wz => index_cls _ _ _ hb2 wz) rfl) ?_
                  refine Steps.cons (fun a' w' hG hB dep => gs_load1 (want_none rfl) _ _ rfl w.heap.size (0 + b * 1) (dep 7 rfl 88 rfl) (.int .i64 (((m : Nat) : Int))) (by have h9 := blk_cls (blk_then h1 hB) hb2; rw [hfm] at h9; exact h9) _ Try.underlying3 rfl rfl) ?_
                  refine Steps.cons (fun a' w' hG hB dep => gs_index (want_none rfl) _ _ _ rfl under_ints 1 size_intE bR oR nr cr (m) (dep 4 rfl 85 rfl) (dep 8 rfl 89 rfl) hmr rfl) ?_
                  refine Steps.cons (fun a' w' hG hB dep => gs_load1 (want_none rfl) _ _ rfl bR (oR + m * 1) (dep 9 rfl 90 rfl) (.int .i64 (((t : Nat) : Int))) (cR (below_then hB1 hB)) _ Try.underlying3 rfl rfl) ?_
                  refine Steps.cons (fun a' w' hG hB dep => gs_assign (want_none rfl) _ rfl (id (dep 10 rfl 91 rfl))) ?_
                  exact Steps.nil
                intro u w4 hw4 ans
                have hus91 : u 91 = (.int .i64 ((t : Nat) : Int)) := ans 10 91 (by decide) rfl
                have hus19 : u 19 = (.int .i64 ((t : Nat) : Int)) := ans 11 19 (by decide) rfl
                clear ans
                simp only [putAll, List.foldl_cons, List.foldl_nil, Act.put, List.setIfInBounds_toArray, List.set_cons_zero, List.set_cons_succ, hus91, hus19]
                clear hus91 hus19
                simp only [List.drop]
                refine wpList_nil ?_
                replace h1 := blk_then h1 hw4
                replace hr := blk_then hr hw4
                replace hk := blk_then hk hw4
                replace hF0 := hF0.then_ hw4
                replace hMp := hMp.then_ hw4
                replace hI := hI.then_ hw4
                replace hN := hN.then_ hw4
                replace hB1 := below_then hB1 hw4
                clear hw4 cN cR hAx hfm hmr hm256 hnr
                have ck : w4.cell? ⟨gk, t, none⟩ = some (.int .i64 v) := by rw [blk_arrv hk htl, ← hv.out]; rfl
                have htI : (t : Int) < x.rs.length := by omega
                have hbvw : bv ≤ w4.heap.size := by
                  obtain ⟨g0, _, _, h5, h6, _⟩ := hI.row.form (by rw [zs_len]; exact hLx0)
                  omega
                by_cases hin : K t ∈ Lx.map K
                · have hval := numV_in hin
                  have hid : ((likes x.T.au K).map K).idxOf (K t) = (Lx.map K).idxOf (K t) := idx_likes (by have := hlk.out; unfold addK at this; rwa [if_pos hin] at this) hin
                  have hadd : addK K Lx t = Lx := by unfold addK; rw [if_pos hin]
                  have hft2 := hft.out
                  rw [hadd] at hft2
                  have hltk2 := hltk.out
                  rw [hid] at hltk2
                  rw [hv.out] at hval hltk2
                  obtain ⟨ix, hide⟩ : ∃ ix, (Lx.map K).idxOf v = ix := ⟨_, rfl⟩
                  rw [hide] at hval hltk2
                  replace hval := Lib.hid hval
                  replace hltk2 := Lib.hid hltk2
                  replace hft2 := Lib.hid hft2
                  clear hadd hide hin hid hltk hlk hft
                  go_upto_region 31 with (at_lookup; refine wl_map_hit keyI Try.underlying89 Try.underlying3 (zero_int _) hMp rfl _ _ rfl rfl v hokv.out rfl _ hval.out ?_)
                  have hlN : (l.take xx).length = xx := by rw [List.length_take, hrl.out]; omega
                  go_upto_region 32 with (first
                    | (at_lookup; refine wl_map_val keyI Try.underlying89 Try.underlying3 (zero_int _) hMp rfl _ _ rfl rfl v hokv.out rfl _ hval.out ?_)
                    | (refine wl_int1 rfl _ rfl (ix : Int) rfl ?_) | (refine wl_pushZ rfl _ _ rfl bv _ _ rfl rfl (Blk.new _ _ _) (hN.alloc _) hlN.symm (by rw [hlN]; omega) (by rw [World.size_alloc]; omega) ?_; intro A9 c9 w9 ho9 hg9 hv9))
                  have hBn : Below w4.heap.size w4 (w4.alloc (.cells (encZ (ix : Int)) 3)) := below_alloc (Below.refl _ _) _
                  have hNa := hN.then_ hBn
                  have hAN9 : ∀ a b, A = some a → A9 = some b → a.block ≠ b.block := fresh_apart hv9 hAN.out (fun a ha => by have := (hI.row.lt a.block (by rw [ownBlock_slice, ha]; rfl)).2; rw [World.size_alloc]; omega)
                  have hyN9 : ∀ j (hj : j < y.rs.length) a b, y.rs[j].a = some a → A9 = some b → a.block ≠ b.block := fun j hj => fresh_apart hv9 (hyN.out j hj) (fun a ha => by have := (hI.own.rowLt hj ha).2; rw [World.size_alloc]; omega)
                  rw [← hltk2.out] at ho9
                  replace hI := (hI.then_ hBn).far2 hNa hg9 hAN.out hyN.out
                  replace h1 := blk_own (blk_then h1 hBn) hNa hg9 l1
                  replace hr := blk_own (blk_then hr hBn) hNa hg9 lr
                  replace hk := blk_own (blk_then hk hBn) hNa hg9 lk
                  replace hF0 := own_under (hF0.then_ hBn) hgfA.out hNa hg9
                  replace hMp := (hMp.then_ hBn).row_ hg9 (fun e => by have := (hNa.lt gm e.symm).1; omega)
                  replace hB1 := below_own (below_then hB1 hBn) hg9 (fun k e => by have := (hNa.lt k e).1; omega)
                  replace hAN9 := Lib.hid hAN9
                  replace hyN9 := Lib.hid hyN9
                  clear hg9 hv9 hN hNa hBn ck hval hAN hyN hlN hltk2
                  go_wp2_with (fail)
                  exact ⟨⟨xx + 1, A, c2, A9, c9, by omega, rfl, by rw [hft2.out]; try simp, rfl, hB1, h1, hr, hk, hF0, ⟨mn, mc, by rw [hft2.out]; exact hmn, by rw [hft2.out]; exact hMp⟩, by rw [hft2.out]; exact hI, ho9, hAN9.out, hyN9.out⟩, by simp only [intOf]; omega⟩
                · have hmiss := numV_out hin
                  have hadd : addK K Lx t = Lx ++ [t] := by unfold addK; rw [if_neg hin]
                  have hid : ((likes x.T.au K).map K).idxOf (K t) = Lx.length := by
                    have h7 := idx_likes (t := t) hlk.out (addK_mem K Lx t)
                    rw [h7, hadd, List.map_append, idx_not hin]
                    simp
                  have hval : numV K (Lx ++ [t]) (K t) = some ((Lx.length : Nat) : Int) := by
                    rw [numV_in (by simp), List.map_append, idx_not hin]
                    simp
                  have hft2 := hft.out
                  rw [hadd] at hft2
                  have hltk2 := hltk.out
                  rw [hid] at hltk2
                  have hput := numV_put hin
                  rw [hv.out] at hval hmiss hput
                  replace hval := Lib.hid hval
                  replace hltk2 := Lib.hid hltk2
                  replace hft2 := Lib.hid hft2
                  replace hput := Lib.hid hput
                  replace hmiss := Lib.hid hmiss
                  clear hadd hin hid hltk hlk hft
                  have hmnm : mn < maxLen := by unfold maxLen; omega
                  have hwf := Lib.hid (wf_of (c := (Lx.length : Int)) (by omega) (by omega))
                  go_upto_region 30 with (first
                    | (at_lookup; refine wl_map_miss keyI Try.underlying89 Try.underlying3 (zero_int _) hMp rfl _ _ rfl rfl v hokv.out rfl hmiss.out ?_)
                    | (at_mapUpdate; refine wl_map_put keyI Try.underlying89 Try.underlying3 hMp hmnm rfl _ _ _ rfl rfl v hokv.out rfl _ rfl hwf.out ?_; intro w5 hM5 hG5))
                  rw [hput.out] at hM5
                  replace h1 := h1.grown hG5 (by simpa using e1)
                  replace hr := hr.grown hG5 (by simpa using er)
                  replace hk := hk.grown hG5 (by simpa using ek)
                  replace hF0 := own_neg hF0 hG5 hgfM.out
                  replace hN := own_neg hN hG5 (fun a ha => by have := (hN.lt a.block (by rw [ownBlock_slice, ha]; rfl)).1; omega)
                  replace hI := hI.low hG5 lm eo
                  replace hB1 := below_grown hB1 hG5 hgmw
                  replace hbvw : bv ≤ w5.heap.size := by have := hG5.size; omega
                  clear hG5 hMp ck hmiss hput hwf hmnm
                  have hrow := hI.row
                  go_upto_region 31 with (first | (refine wl_int1 rfl _ rfl (t : Int) rfl ?_) | (refine wl_pushZ rfl _ _ rfl bv _ _ rfl rfl (Blk.new _ _ _) (hrow.alloc _) (zs_len Lx).symm (by rw [zs_len]; omega) (by rw [World.size_alloc]; omega) ?_; intro A8 c8 w6 ho8 hg8 hv8))
                  have hBa : Below w5.heap.size w5 (w5.alloc (.cells (encZ (t : Int)) 3)) := below_alloc (Below.refl _ _) _
                  have hra := hrow.then_ hBa
                  have hAN8 : ∀ a b, A8 = some a → A2 = some b → a.block ≠ b.block := fun a b ha hb => block_push hv8 (g := b.block) (fun a' ha' => hAN.out a' b ha' hb) (by have := (hN.lt b.block (by rw [ownBlock_slice, hb]; rfl)).2; rw [World.size_alloc]; omega) a ha
                  replace hN := own_apart (hN.then_ hBa) hra (fun a b ha hb => (hAN.out b a hb ha).symm) hg8
                  replace hI := (hI.then_ hBa).push lo hg8 ho8 hv8
                  replace h1 := blk_own (blk_then h1 hBa) hra hg8 l1
                  replace hr := blk_own (blk_then hr hBa) hra hg8 lr
                  replace hk := blk_own (blk_then hk hBa) hra hg8 lk
                  replace hF0 := own_under (hF0.then_ hBa) hgfA.out hra hg8
                  have hMp := (hM5.then_ hBa).row_ hg8 (fun e => by have := (hra.lt gm e.symm).1; omega)
                  replace hB1 := below_own (below_then hB1 hBa) hg8 (fun k e => by have := (hra.lt k e).1; omega)
                  replace hbvw : bv ≤ w6.heap.size := by have := hg8.size; have := hBa.size; omega
                  have hAN := Lib.hid hAN8
                  have hll : Lx.length + 1 = (Lx ++ [t]).length := by simp
                  have ck : w6.cell? ⟨gk, t, none⟩ = some (.int .i64 v) := by rw [blk_arrv hk htl, ← hv.out]; rfl
                  have hmn2 : mn + 1 ≤ (Lx ++ [t]).length := by rw [← hll]; omega
                  rw [hll]
                  obtain ⟨ix, hix⟩ : ∃ ix, Lx.length = ix := ⟨_, rfl⟩
                  rw [hix] at hltk2 hval
                  replace hll := Lib.hid hll
                  obtain ⟨mc2, hmc2⟩ : ∃ m2, (if (numV K Lx v).isSome = true then mc else mc + 1) = m2 := ⟨_, rfl⟩
                  rw [hmc2] at hMp
                  clear hg8 hv8 ho8 hrow hra hBa hAN8 hM5 hix hmc2
                  have hlN : (l.take xx).length = xx := by rw [List.length_take, hrl.out]; omega
                  go_upto_region 32 with (first
                    | (at_lookup; refine wl_map_val keyI Try.underlying89 Try.underlying3 (zero_int _) hMp rfl _ _ rfl rfl v hokv.out rfl _ hval.out ?_)
                    | (refine wl_int1 rfl _ rfl (ix : Int) rfl ?_) | (refine wl_pushZ rfl _ _ rfl bv _ _ rfl rfl (Blk.new _ _ _) (hN.alloc _) hlN.symm (by rw [hlN]; omega) (by rw [World.size_alloc]; omega) ?_; intro A9 c9 w9 ho9 hg9 hv9))
                  have hBn : Below w6.heap.size w6 (w6.alloc (.cells (encZ (ix : Int)) 3)) := below_alloc (Below.refl _ _) _
                  have hNa := hN.then_ hBn
                  have hAN9 : ∀ a b, A8 = some a → A9 = some b → a.block ≠ b.block := fresh_apart hv9 hAN.out (fun a ha => by have := (hI.row.lt a.block (by rw [ownBlock_slice, ha]; rfl)).2; rw [World.size_alloc]; omega)
                  have hyN9 : ∀ j (hj : j < y.rs.length) a b, y.rs[j].a = some a → A9 = some b → a.block ≠ b.block := fun j hj => fresh_apart hv9 (hyN.out j hj) (fun a ha => by have := (hI.own.rowLt hj ha).2; rw [World.size_alloc]; omega)
                  rw [← hltk2.out] at ho9
                  replace hI := (hI.then_ hBn).far2 hNa hg9 hAN.out hyN.out
                  replace h1 := blk_own (blk_then h1 hBn) hNa hg9 l1
                  replace hr := blk_own (blk_then hr hBn) hNa hg9 lr
                  replace hk := blk_own (blk_then hk hBn) hNa hg9 lk
                  replace hF0 := own_under (hF0.then_ hBn) hgfA.out hNa hg9
                  replace hMp := (hMp.then_ hBn).row_ hg9 (fun e => by have := (hNa.lt gm e.symm).1; omega)
                  replace hB1 := below_own (below_then hB1 hBn) hg9 (fun k e => by have := (hNa.lt k e).1; omega)
                  replace hAN9 := Lib.hid hAN9
                  replace hyN9 := Lib.hid hyN9
                  clear hg9 hv9 hN hNa hBn ck hval hAN hyN hlN hltk2
                  go_wp2_with (fail)
                  exact ⟨⟨xx + 1, A8, c8, A9, c9, by omega, rfl, by rw [hft2.out]; try simp, rfl, hB1, h1, hr, hk, hF0, ⟨(mn + 1), mc2, by rw [hft2.out]; exact hmn2, by rw [hft2.out]; exact hMp⟩, by rw [hft2.out]; exact hI, ho9, hAN9.out, hyN9.out⟩, by simp only [intOf]; omega⟩
              · have hxI : ¬ (xx : Int) < M := by omega
                have hxe : xx = M := by omega
                have hfa : foldT x.T.au K s (reps x.T.au K) L xx = likeN x.T.au K (reps x.T.au K) (i + 1) := by
                  have h8 := foldT_all hsL.out
                  rw [hL.out, hM.out] at h8
                  rw [hxe, h8]
                rw [hfa] at hMp hI hmn ⊢
                have hNl : l.take xx = l := List.take_of_length_le (by rw [hrl.out]; omega)
                have hlxx : l.length = xx := by rw [hrl.out, hxe]
                rw [hNl] at hN
                clear hNl hxe hfa hxM hxl
                obtain ⟨L2, hL2⟩ : ∃ L2, likeN x.T.au K (reps x.T.au K) (i + 1) = L2 := ⟨_, rfl⟩
                have hL2i : i + 1 ≤ L2.length := by
                  obtain ⟨r, hr⟩ := like_prefix1 (A := x.T.au) (k := K) (rs := reps x.T.au K) i
                  rw [hL2, hL.out] at hr
                  rw [hr, List.length_append]
                  omega
                rw [hL2] at hMp hI hmn ⊢
                replace hL2 := Lib.hid hL2
                replace hlxx := Lib.hid hlxx
                have hbvw : bv ≤ wr.heap.size := by
                  obtain ⟨g0, _, _, h5, h6, _⟩ := hI.row.form (by rw [zs_len]; omega)
                  omega
                have cA : wr.cell? ⟨go, 256, none⟩ = some (.slice y.A y.rs.length y.c) := blk_d1 hI.out
                go_upto_region 34 with (first | (refine wl_row1 rfl _ rfl ⟨A2, c3, l⟩ (by rw [hlxx.out]; rfl) ?_) | (at_builtin; refine park ?_))
                refine Parked.mk ?_
                obtain ⟨iR, hiR, hR0, hR1, hR2⟩ := info_parts info_rows3
                have hyl : y.rs.length ≤ i := by
                  have := congrArg List.length hY.out.nx
                  simp only [List.length_map, List.length_take] at this
                  omega
                have hor := hI.own.rows
                simp only [List.length_nil, Nat.add_zero, List.append_nil] at hor
                have hBa : Below wr.heap.size wr (wr.alloc (.cells (rowC ⟨A2, c3, l⟩) 57)) := below_alloc (Below.refl _ _) _
                refine wl_append _ rfl _ _ 45 rfl bv 57 iR _ 1 24 Try.underlying45 hiR hR0 hR1 hR2 rfl (by decide) rowC_size rowC_one (.slice y.A y.rs.length y.c) y.rs rfl (hor.then_ hBa) _ _ 1 1 [⟨A2, c3, l⟩] rfl rfl (slice_one (enc := rowC) (Blk.new wr _ _)) (by unfold maxLen; omega) (by omega) (by have := hBa.size; omega) ?_
                intro v8 w8 ho8 hg8 hv8
                obtain ⟨A8, c8, rfl, _, _⟩ := ho8.shape
                have hl8 : (y.rs ++ [(⟨A2, c3, l⟩ : RV)]).length = y.rs.length + 1 := by simp
                rw [hl8] at ho8 hv8 ⊢
                have hout := blk_own2 (blk_then hI.out hBa) (hor.then_ hBa) hg8 (by decide)
                unfold TV.C' at hout
                simp only [Act.put, List.setIfInBounds_toArray, List.set_cons_zero, List.set_cons_succ]
                go_upto_region 34 with (refine wl_store_d1 rfl _ _ rfl go rfl rfl hout ?_; intro w9 ho9 hG9)
                have hox8 := own_own (hN.then_ hBa) (hor.then_ hBa) hg8 (by decide)
                have hI9 := (hI.then_ hBa).addRow hg8 ho8 (r := ⟨A2, c3, l⟩) (by rw [hlxx.out, List.append_nil]; exact hox8) (fun j hj a b ha hb => hyN.out j hj a b ha hb) (fun a b ha hb => (hAN.out b a hb ha).symm) hout hG9 (by unfold TV.C'; simp only [List.length_append, List.length_singleton]; exact ho9)
                replace hB1 := below_grown (below_own (below_then hB1 hBa) hg8 (fun k e => by have := ((hor.then_ hBa).lt k e).1; omega)) hG9 hgow
                replace h1 := (blk_own2 (blk_then h1 hBa) (hor.then_ hBa) hg8 (by decide)).grown hG9 (by simpa using hw1go)
                replace hr := (blk_own2 (blk_then hr hBa) (hor.then_ hBa) hg8 (by decide)).grown hG9 (by simpa using hrgo)
                replace hk := (blk_own2 (blk_then hk hBa) (hor.then_ hBa) hg8 (by decide)).grown hG9 (by simpa using hkgo)
                replace hF0 := own_box (own_own (hF0.then_ hBa) (hor.then_ hBa) hg8 (by decide)) hout hG9 (by decide)
                replace hMp := ((hMp.then_ hBa).row_ hg8 (fun e => by have := ((hor.then_ hBa).lt gm e.symm).1; omega)).grown hG9 eo.symm
                have hbv9 : bv ≤ w9.heap.size := by have := hBa.size; have := hg8.size; have := hG9.size; omega
                clear hg8 hv8 ho8 hBa hl8 hiR hR0 hR1 hR2 hor hout hG9 ho9 hox8 hN hI cA hbvw hAN hyN
                obtain ⟨y2, hy2⟩ : ∃ y2 : TV, { y with rs := y.rs ++ [(⟨A2, c3, l⟩ : RV)], A := A8, c := c8 } = y2 := ⟨_, rfl⟩
                rw [hy2] at hI9
                obtain ⟨hLi, hLs⟩ := likes_get (A := x.T.au) (k := K) (i := i) (by rw [hL.out]; exact hiN) hok
                have hLs2 : (likes x.T.au K)[i] = s := by
                  rw [hLs]
                  have := hsL.out
                  rw [List.getElem?_eq_some_iff] at this
                  exact this.2
                have hnx2 : y2.rs.map (·.l) = ((likes x.T.au K).take (i + 1)).map (rowL x.T.au K) := by
                  rw [← hy2, ← take_snoc _ _ hLi hLs2, ← hY.out.nx, hl.out]
                  simp
                have hfo2 : y2.fo ++ [x.fo.getD s 0] = ((likes x.T.au K).take (i + 1)).map fun s => (x.T.au.out s).1 := by
                  rw [← hy2, ← take_snoc _ (fun s => (x.T.au.out s).1) hLi hLs2]
                  show y.fo ++ _ = _
                  rw [hY.out.fo]
                  rfl
                have hen2 : y2.en ++ [x.en.getD s 0] = ((likes x.T.au K).take (i + 1)).map fun s => (x.T.au.out s).2 := by
                  rw [← hy2, ← take_snoc _ (fun s => (x.T.au.out s).2) hLi hLs2]
                  show y.en ++ _ = _
                  rw [hY.out.en]
                  rfl
                have hfl : y2.fo.length ≤ i := by
                  have h8 := congrArg List.length hfo2
                  simp only [List.length_append, List.length_map, List.length_take, List.length_singleton] at h8
                  omega
                have hel : y2.en.length ≤ i := by
                  have h8 := congrArg List.length hen2
                  simp only [List.length_append, List.length_map, List.length_take, List.length_singleton] at h8
                  omega
                replace hnx2 := Lib.hid hnx2
                replace hfo2 := Lib.hid hfo2
                replace hen2 := Lib.hid hen2
                clear hy2 hLs hLs2 hLi hyl
                have hsF : s < x.fo.length := by have := hF.nf; rw [fits_n] at this; have e : x.T.fo.length = x.fo.length := rfl; omega
                have hsE : s < x.en.length := by have := hF.ne; rw [fits_n] at this; have e : x.T.en.length = x.en.length := rfl; omega
                obtain ⟨bF, oF, hFo, cfo⟩ := fo_cells hT (by omega)
                obtain ⟨bE, oE, hEn, cen⟩ := en_cells hT (by omega)
                obtain ⟨iU, hiU, hU0, hU1, hU2⟩ := info_parts info_u3
                refine wp_region_steps 8 [eqS (.pointer (some ⟨go, 257, none⟩)), eqS (.slice y2.B y2.fo.length y2.d), eqS (.pointer (some ⟨w.heap.size, 257, none⟩)), eqS (.slice (some ⟨bF, oF, none⟩) x.fo.length x.d), eqS (.int .i64 (((s : Nat) : Int))), eqS (.pointer (some ⟨bF, oF + s * 1, none⟩)), eqS (.int .u32 ((((x.fo.getD s 0) : Nat) : Int))), oneG 55 (encR (x.fo.getD s 0))] [130, 131, 132, 133, 134, 135, 136, 137] rfl (by kernel_rfl) rfl ?_ ?_
                · skip
                  refine Steps.cons (fun a' w' hG hB dep => gs_field (want_none rfl) _ _ _ rfl go (0) (257) (hG.other 8 rfl) (fun wz => field_dfa_2 go (0) wz) rfl) ?_
                  refine Steps.cons (fun a' w' hG hB dep => gs_load1 (want_none rfl) _ _ rfl go (257) (dep 0 rfl 130 rfl) (.slice y2.B y2.fo.length y2.d) (blk_d2 (blk_then hI9.out hB)) _ Try.underlying32 rfl rfl) ?_
                  refine Steps.cons (fun a' w' hG hB dep => gs_field (want_none rfl) _ _ _ rfl w.heap.size (0) (257) (hG.other 1 rfl) (fun wz => field_dfa_2 w.heap.size (0) wz) rfl) ?_
                  refine Steps.cons (fun a' w' hG hB dep => gs_load1 (want_none rfl) _ _ rfl w.heap.size (257) (dep 2 rfl 132 rfl) (.slice (some ⟨bF, oF, none⟩) x.fo.length x.d) (by have h9 := blk_d2 (blk_then h1 hB); rw [hFo] at h9; exact h9) _ Try.underlying32 rfl rfl) ?_
                  refine Steps.cons (fun a' w' hG hB dep => gs_move (want_none rfl) _ rfl (id (hG.other 15 rfl))) ?_
                  refine Steps.cons (fun a' w' hG hB dep => gs_index (want_none rfl) _ _ _ rfl under_rules 1 size_ruleE bF oF x.fo.length x.d (s) (dep 3 rfl 133 rfl) (dep 4 rfl 134 rfl) hsF rfl) ?_
                  refine Steps.cons (fun a' w' hG hB dep => gs_load1 (want_none rfl) _ _ rfl bF (oF + s * 1) (dep 5 rfl 135 rfl) (.int .u32 ((((x.fo.getD s 0) : Nat) : Int))) (cfo (below_then hB1 hB) s hsF) _ Try.underlying55 rfl rfl) ?_
                  refine Steps.cons (fun a' w' hG hB dep => gs_u1 (want_none rfl) _ rfl (x.fo.getD s 0) (dep 6 rfl 136 rfl) (fun _ _ h => h)) ?_
                  exact Steps.nil
                intro u wq hBa ans
                obtain ⟨g1, hu1, hb1⟩ := ans 7 137 (by decide) rfl
                have hu0 : u 131 = .slice y2.B y2.fo.length y2.d := ans 1 131 (by decide) rfl
                clear ans
                simp only [putAll, List.foldl_cons, List.foldl_nil, Act.put, List.setIfInBounds_toArray, List.set_cons_zero, List.set_cons_succ, hu0, hu1]
                clear hu0 hu1
                simp only [List.drop]
                have hor := hI9.own.fo
                simp only [List.length_nil, Nat.add_zero, List.append_nil] at hor
                have hbl : bv ≤ wq.heap.size := by have := hBa.size; omega
                refine wl_append _ rfl _ _ 32 rfl bv 55 iU _ 1 4 Try.underlying32 hiU hU0 hU1 hU2 rfl (by decide) encR_size encR_one (.slice y2.B y2.fo.length y2.d) y2.fo rfl (hor.then_ hBa) _ _ 1 1 [x.fo.getD s 0] rfl rfl (slice_one (enc := encR) hb1) (by unfold maxLen; omega) (by omega) hbl ?_
                intro v8 w8 ho8 hg8 hv8
                obtain ⟨A8, c8, rfl, _, _⟩ := ho8.shape
                have hl8 : (y2.fo ++ [x.fo.getD s 0]).length = y2.fo.length + 1 := by simp
                rw [hl8] at ho8 hv8 ⊢
                have hout := blk_own2 (blk_then hI9.out hBa) (hor.then_ hBa) hg8 (by decide)
                unfold TV.C' at hout
                simp only [Act.put, List.setIfInBounds_toArray, List.set_cons_zero, List.set_cons_succ]
                go_upto_region 35 with (refine wl_store_d2 rfl _ _ rfl go rfl rfl hout ?_; intro w9 ho9 hG9)
                have hI10 := (hI9.then_ hBa).addFo hg8 ho8 hv8 hout hG9 (by unfold TV.C'; simp only [List.length_append, List.length_singleton]; exact ho9)
                replace hB1 := below_grown (below_own (below_then hB1 hBa) hg8 (fun k e => by have := ((hor.then_ hBa).lt k e).1; omega)) hG9 hgow
                replace hbv9 : bv ≤ w9.heap.size := by have := hBa.size; have := hg8.size; have := hG9.size; omega
                replace h1 := (blk_own2 (blk_then h1 hBa) (hor.then_ hBa) hg8 (by decide)).grown hG9 (by simpa using hw1go)
                replace hr := (blk_own2 (blk_then hr hBa) (hor.then_ hBa) hg8 (by decide)).grown hG9 (by simpa using hrgo)
                replace hk := (blk_own2 (blk_then hk hBa) (hor.then_ hBa) hg8 (by decide)).grown hG9 (by simpa using hkgo)
                replace hF0 := own_box (own_own (hF0.then_ hBa) (hor.then_ hBa) hg8 (by decide)) hout hG9 (by decide)
                replace hMp := ((hMp.then_ hBa).row_ hg8 (fun e => by have := ((hor.then_ hBa).lt gm e.symm).1; omega)).grown hG9 eo.symm
                clear hg8 hv8 ho8 hBa hl8 hbl hor hout hG9 ho9 hI9 hb1 hfl
                obtain ⟨y3, hy3⟩ : ∃ y3 : TV, { y2 with fo := y2.fo ++ [x.fo.getD s 0], B := A8, d := c8 } = y3 := ⟨_, rfl⟩
                rw [hy3] at hI10
                have hnx3 : y3.rs.map (·.l) = ((likes x.T.au K).take (i + 1)).map (rowL x.T.au K) := by rw [← hy3]; exact hnx2.out
                have hfo3 : y3.fo = ((likes x.T.au K).take (i + 1)).map fun s => (x.T.au.out s).1 := by rw [← hy3]; exact hfo2.out
                have hen3 : y3.en ++ [x.en.getD s 0] = ((likes x.T.au K).take (i + 1)).map fun s => (x.T.au.out s).2 := by rw [← hy3]; exact hen2.out
                replace hel : y3.en.length ≤ i := by rw [← hy3]; exact hel
                replace hnx3 := Lib.hid hnx3
                replace hfo3 := Lib.hid hfo3
                replace hen3 := Lib.hid hen3
                clear hy3 hnx2 hfo2 hen2
                refine wp_region_steps 8 [eqS (.pointer (some ⟨go, 258, none⟩)), eqS (.slice y3.C y3.en.length y3.e), eqS (.pointer (some ⟨w.heap.size, 258, none⟩)), eqS (.slice (some ⟨bE, oE, none⟩) x.en.length x.e), eqS (.int .i64 (((s : Nat) : Int))), eqS (.pointer (some ⟨bE, oE + s * 1, none⟩)), eqS (.int .u32 ((((x.en.getD s 0) : Nat) : Int))), oneG 55 (encR (x.en.getD s 0))] [140, 141, 142, 143, 144, 145, 146, 147] rfl (by kernel_rfl) rfl ?_ ?_
                · skip
                  refine Steps.cons (fun a' w' hG hB dep => gs_field (want_none rfl) _ _ _ rfl go (0) (258) (hG.other 8 rfl) (fun wz => field_dfa_3 go (0) wz) rfl) ?_
                  refine Steps.cons (fun a' w' hG hB dep => gs_load1 (want_none rfl) _ _ rfl go (258) (dep 0 rfl 140 rfl) (.slice y3.C y3.en.length y3.e) (blk_d3 (blk_then hI10.out hB)) _ Try.underlying32 rfl rfl) ?_
                  refine Steps.cons (fun a' w' hG hB dep => gs_field (want_none rfl) _ _ _ rfl w.heap.size (0) (258) (hG.other 1 rfl) (fun wz => field_dfa_3 w.heap.size (0) wz) rfl) ?_
                  refine Steps.cons (fun a' w' hG hB dep => gs_load1 (want_none rfl) _ _ rfl w.heap.size (258) (dep 2 rfl 142 rfl) (.slice (some ⟨bE, oE, none⟩) x.en.length x.e) (by have h9 := blk_d3 (blk_then h1 hB); rw [hEn] at h9; exact h9) _ Try.underlying32 rfl rfl) ?_
                  refine Steps.cons (fun a' w' hG hB dep => gs_move (want_none rfl) _ rfl (id (hG.other 15 rfl))) ?_
                  refine Steps.cons (fun a' w' hG hB dep => gs_index (want_none rfl) _ _ _ rfl under_rules 1 size_ruleE bE oE x.en.length x.e (s) (dep 3 rfl 143 rfl) (dep 4 rfl 144 rfl) hsE rfl) ?_
                  refine Steps.cons (fun a' w' hG hB dep => gs_load1 (want_none rfl) _ _ rfl bE (oE + s * 1) (dep 5 rfl 145 rfl) (.int .u32 ((((x.en.getD s 0) : Nat) : Int))) (cen (below_then hB1 hB) s hsE) _ Try.underlying55 rfl rfl) ?_
                  refine Steps.cons (fun a' w' hG hB dep => gs_u1 (want_none rfl) _ rfl (x.en.getD s 0) (dep 6 rfl 146 rfl) (fun _ _ h => h)) ?_
                  exact Steps.nil
                intro u wq hBa ans
                obtain ⟨g1, hu1, hb1⟩ := ans 7 147 (by decide) rfl
                have hu0 : u 141 = .slice y3.C y3.en.length y3.e := ans 1 141 (by decide) rfl
                clear ans
                simp only [putAll, List.foldl_cons, List.foldl_nil, Act.put, List.setIfInBounds_toArray, List.set_cons_zero, List.set_cons_succ, hu0, hu1]
                clear hu0 hu1
                simp only [List.drop]
                have hor := hI10.own.en
                simp only [List.length_nil, Nat.add_zero, List.append_nil] at hor
                have hbl : bv ≤ wq.heap.size := by have := hBa.size; omega
                refine wl_append _ rfl _ _ 32 rfl bv 55 iU _ 1 4 Try.underlying32 hiU hU0 hU1 hU2 rfl (by decide) encR_size encR_one (.slice y3.C y3.en.length y3.e) y3.en rfl (hor.then_ hBa) _ _ 1 1 [x.en.getD s 0] rfl rfl (slice_one (enc := encR) hb1) (by unfold maxLen; omega) (by omega) hbl ?_
                intro v8 w8 ho8 hg8 hv8
                obtain ⟨A8, c8, rfl, _, _⟩ := ho8.shape
                have hl8 : (y3.en ++ [x.en.getD s 0]).length = y3.en.length + 1 := by simp
                rw [hl8] at ho8 hv8 ⊢
                have hout := blk_own2 (blk_then hI10.out hBa) (hor.then_ hBa) hg8 (by decide)
                unfold TV.C' at hout
                simp only [Act.put, List.setIfInBounds_toArray, List.set_cons_zero, List.set_cons_succ]
                go_upto_region 20 with (refine wl_store_d3 rfl _ _ rfl go rfl rfl hout ?_; intro w9 ho9 hG9)
                have hI11 := (hI10.then_ hBa).addEn hg8 ho8 hv8 hout hG9 (by unfold TV.C'; simp only [List.length_append, List.length_singleton]; exact ho9)
                replace hB1 := below_grown (below_own (below_then hB1 hBa) hg8 (fun k e => by have := ((hor.then_ hBa).lt k e).1; omega)) hG9 hgow
                replace hbv9 : bv ≤ w9.heap.size := by have := hBa.size; have := hg8.size; have := hG9.size; omega
                replace h1 := (blk_own2 (blk_then h1 hBa) (hor.then_ hBa) hg8 (by decide)).grown hG9 (by simpa using hw1go)
                replace hr := (blk_own2 (blk_then hr hBa) (hor.then_ hBa) hg8 (by decide)).grown hG9 (by simpa using hrgo)
                replace hk := (blk_own2 (blk_then hk hBa) (hor.then_ hBa) hg8 (by decide)).grown hG9 (by simpa using hkgo)
                replace hF0 := own_box (own_own (hF0.then_ hBa) (hor.then_ hBa) hg8 (by decide)) hout hG9 (by decide)
                replace hMp := ((hMp.then_ hBa).row_ hg8 (fun e => by have := ((hor.then_ hBa).lt gm e.symm).1; omega)).grown hG9 eo.symm
                clear hg8 hv8 ho8 hBa hl8 hbl hor hout hG9 ho9 hI10 hb1 hel hiU hU0 hU1 hU2 cfo cen hFo hEn hsF hsE
                obtain ⟨y4, hy4⟩ : ∃ y4 : TV, { y3 with en := y3.en ++ [x.en.getD s 0], C := A8, e := c8 } = y4 := ⟨_, rfl⟩
                rw [hy4] at hI11
                have hY4 : YI x K (i + 1) y4 := ⟨by rw [← hy4]; exact hnx3.out, by rw [← hy4]; exact hfo3.out, by rw [← hy4]; exact hen3.out⟩
                clear hy4 hnx3 hfo3 hen3 hY
                replace hY4 := Lib.hid hY4
                go_wp2_with (fail)
                exact ⟨⟨i + 1, y4, A, c2, rfl, by rw [hL2.out], by rw [hL2.out]; exact hL2i, hB1, h1, hr, hk, hF0, ⟨mn, mc, by rw [hL2.out]; exact hmn, by rw [hL2.out]; exact hMp⟩, by rw [hL2.out]; exact hI11, hY4.out⟩, by simp only [intOf]; omega⟩
          · have hiI : ¬ (i : Int) < L.length := by omega
            have hLl := likes_at hok (k := K) i (by rw [hL.out]; omega)
            rw [hL.out] at hLl
            have hie : i = (likes x.T.au K).length := by rw [← hLl]; omega
            have hyT : y.T = leastOf x.T := by
              rw [leastOf_eq hF hker]
              refine Tb.same_ hI.yf ?_ ?_ ?_
              · have := hY.out.nx
                rw [hie, List.take_length] at this
                exact this
              · have := hY.out.fo
                rw [hie, List.take_length] at this
                exact this
              · have := hY.out.en
                rw [hie, List.take_length] at this
                exact this
            replace hyT := Lib.hid hyT
            clear hLl hie
            have hout := hI.out
            unfold TV.C' at hout
            go_wp2_with (first | (refine wl_load_dfa rfl _ rfl _ rfl hout ?_) | (refine wl_store_dfa rfl _ _ rfl gr rfl rfl hr ?_; intro w9 hr9 hG9))
            refine ret_dfa2 rfl rfl hr9 rfl ?_
            refine ⟨below_grown hB1 hG9 hgrw, y, by rw [hfb.out]; rfl, (hI.own.box hr hG9 (by decide) (by decide) (by decide)).mono hbw, hyT.out⟩
  · rw [hfb] at hc
    replace hfb := Lib.hid hfb
    obtain ⟨gr, hgr⟩ : ∃ g, g = w.heap.size + 1 := ⟨_, rfl⟩
    have hgrw : w.heap.size ≤ gr := by omega
    rw [← hgr] at hr
    go_upto_region 2 with (first | (refine wl_load_dfa rfl _ rfl _ rfl h1 ?_) | (go_at_call 28; refine hc.mono ?_; rintro e w2 ⟨rfl, hB2⟩))
    clear hz hc
    replace h1 := blk_then h1 hB2
    replace hr := blk_then hr hB2
    replace hB1 := below_then hB1 hB2
    clear hB2
    rw [← hgr]
    clear hgr hA A
    go_wp2_with (first | (refine wl_build_dfa0 rfl rfl ?_) | (refine wl_store_dfa rfl _ _ rfl gr rfl rfl hr ?_; intro w9 hr9 hG9))
    refine ret_dfa2 rfl rfl hr9 rfl ?_
    refine ⟨below_grown hB1 hG9 hgrw, ⟨fun _ => 0, [], none, 0, [], none, 0, [], none, 0⟩, ?_, TOwn.nil _ _ _, ?_⟩
    · rw [hfb.out]; rfl
    · rw [leastOf_no hF]; rfl
theorem enter_lmake (args : Array Value) (w : World) : (callFunc 22 args).run Try.prog w = .ok (.enter 22 args) w := by kernel_rfl
end Go.Proofs.Ytgahdookojbbiaa
