/- heronlaw11.fill: all lists of a table get a mark. No condition beyond those named in each lemma. -/
import Derived.Test.YtgahdookojbbiaaLMid
namespace Go.Proofs.Ytgahdookojbbiaa
open Go.RowKit Go.Maps
set_option linter.unusedVariables false
set_option linter.unusedSimpArgs false
attribute [local go_sem] Oper.semAt_some

/-- the table with its lists marked -/
def fillT (x : TV) (m : Nat) : TV := { x with rs := x.rs.map (fun r => { r with l := List.replicate r.l.length (m : Int) }), fo := List.replicate x.fo.length m, en := List.replicate x.en.length (m + 1) }
/-- a table whose lists are being written -/
structure FI (x : TV) (base : Nat) (w : World) (cur : Nat → List Int) (fo en : List Nat) : Prop where
  rows : Own w base 57 1 rowC (.slice x.A x.rs.length x.c) x.rs
  row : ∀ j (h : j < x.rs.length), Own w base 3 1 encZ (.slice x.rs[j].a x.rs[j].l.length x.rs[j].c) (cur j)
  fo : Own w base 55 1 encR (.slice x.B x.fo.length x.d) fo
  en : Own w base 55 1 encR (.slice x.C x.en.length x.e) en
section
variable {x : TV} {base g : Nat} {w w' : World} {cur cur2 : Nat → List Int} {fo en l : List Nat}
theorem FI.then_ (h : FI x base w cur fo en) (hb : Below w.heap.size w w') : FI x base w' cur fo en := ⟨h.rows.then_ hb, fun j hj => (h.row j hj).then_ hb, h.fo.then_ hb, h.en.then_ hb⟩
theorem FI.put (h : FI x base w cur fo en) (ap : ∀ i j (hi : i < x.rs.length) (hj : j < x.rs.length) a b, i ≠ j → x.rs[i].a = some a → x.rs[j].a = some b → a.block ≠ b.block) {i c : Nat} (hi : i < x.rs.length) {l2 : List Int} (hg : w.grownBy w' (some g)) (hgi : x.rs[i].a = some ⟨g, 0, none⟩)
    (ho : Own w' base 3 1 encZ (.slice x.rs[i].a x.rs[i].l.length x.rs[i].c) l2) (h1 : cur2 i = l2) (h2 : ∀ j, j ≠ i → cur2 j = cur j) : FI x base w' cur2 fo en := by
  have h0 := h.row i hi
  have hg2 : w.grownBy w' (Value.slice x.rs[i].a x.rs[i].l.length x.rs[i].c).ownBlock := by rw [ownBlock_slice, hgi]; exact hg
  refine ⟨own_own h.rows h0 hg2 (by decide), fun j hj => ?_, own_own h.fo h0 hg2 (by decide), own_own h.en h0 hg2 (by decide)⟩
  by_cases e : j = i
  · subst e; rw [h1]; exact ho
  · rw [h2 j e]
    exact own_apart (h.row j hj) h0 (fun a b ha hb => ap j i hj hi a b e ha hb) hg2
theorem FI.putF (h : FI x base w cur fo en) (fe : ∀ a b, x.B = some a → x.C = some b → a.block ≠ b.block) (hg : w.grownBy w' (some g)) (hgi : x.B = some ⟨g, 0, none⟩) (ho : Own w' base 55 1 encR (.slice x.B x.fo.length x.d) l) : FI x base w' cur l en := by
  have hg2 : w.grownBy w' (Value.slice x.B x.fo.length x.d).ownBlock := by rw [ownBlock_slice, hgi]; exact hg
  exact ⟨own_own h.rows h.fo hg2 (by decide), fun j hj => own_own (h.row j hj) h.fo hg2 (by decide), ho, own_apart h.en h.fo (fun a b ha hb => (fe b a hb ha).symm) hg2⟩
theorem FI.putE (h : FI x base w cur fo en) (fe : ∀ a b, x.B = some a → x.C = some b → a.block ≠ b.block) (hg : w.grownBy w' (some g)) (hgi : x.C = some ⟨g, 0, none⟩) (ho : Own w' base 55 1 encR (.slice x.C x.en.length x.e) l) : FI x base w' cur fo l := by
  have hg2 : w.grownBy w' (Value.slice x.C x.en.length x.e).ownBlock := by rw [ownBlock_slice, hgi]; exact hg
  exact ⟨own_own h.rows h.en hg2 (by decide), fun j hj => own_own (h.row j hj) h.en hg2 (by decide), own_apart h.fo h.en (fun a b ha hb => fe a b ha hb) hg2, ho⟩
end
def rowL2 (x : TV) (j : Nat) : List Int := (x.rs.map (·.l)).getD j []
theorem rowL2_at {x : TV} {j : Nat} (h : j < x.rs.length) : rowL2 x j = x.rs[j].l := by unfold rowL2; rw [getD_at _ _ (by simpa using h)]; simp
theorem info_u32S1 : (Try.prog.info? 55).map (·.size) = some 1 := by kernel_rfl
/-- the rows: those before i are marked, of row i the first k -/
def curM (x : TV) (m i k j : Nat) : List Int := if j < i then List.replicate (rowL2 x j).length (m : Int) else if j = i then List.replicate k (m : Int) ++ (rowL2 x j).drop k else rowL2 x j
theorem curM_zero (x : TV) (m j : Nat) : curM x m 0 0 j = rowL2 x j := by unfold curM; simp
theorem curM_next (x : TV) (m i : Nat) : ∀ j, curM x m i (rowL2 x i).length j = curM x m (i + 1) 0 j := fun j => by
  unfold curM
  by_cases h1 : j < i
  · rw [if_pos h1, if_pos (by omega)]
  · rw [if_neg h1]
    by_cases h2 : j = i
    · subst h2; rw [if_pos rfl, if_pos (by omega), List.drop_length, List.append_nil]
    · rw [if_neg h2, if_neg (by omega)]
      by_cases h3 : j = i + 1
      · rw [if_pos h3]; simp
      · rw [if_neg h3]
theorem curM_put (x : TV) (m i k : Nat) (hk : k < (rowL2 x i).length) : (curM x m i k i).set k (m : Int) = curM x m i (k + 1) i := by
  unfold curM
  rw [if_neg (Nat.lt_irrefl _), if_pos rfl, if_neg (Nat.lt_irrefl _), if_pos rfl]
  exact repl_set _ _ _ hk
theorem curM_ne (x : TV) (m i k k2 : Nat) : ∀ j, j ≠ i → curM x m i k j = curM x m i k2 j := fun j h => by
  unfold curM
  rw [if_neg h, if_neg h]
theorem curM_len (x : TV) (m i k : Nat) (hk : k ≤ (rowL2 x i).length) : (curM x m i k i).length = (rowL2 x i).length := by
  unfold curM
  rw [if_neg (Nat.lt_irrefl _), if_pos rfl]
  exact repl_len _ _ _ hk
set_option maxRecDepth 100000 in
set_option maxHeartbeats 4000000 in
theorem fil_any (x : TV) (m : Nat) (hm : m ≤ 1000) (base N : Nat) (hS : Sml x) (w : World) (hO : TOwn w base x [] [] []) (hN : ∀ k, OfAll x k → k < N) :
    Calls Try.prog 25 #[.agg x.C', .int .i64 (m : Int)] w fun e w' => e = .returned (.tuple #[]) ∧ Mid base N w w' ∧ TOwn w' base (fillT x m) [] [] [] := by
  have hn20 := hS.n
  have hf20 := hS.f
  have he20 := hS.e
  have hap := hO.ap
  have hfe := hO.fe
  have hFI : FI x base w (curM x m 0 0) x.fo x.en := ⟨by have := hO.rows; simpa using this, fun j hj => by have := hO.row j hj; rw [curM_zero, rowL2_at hj]; simpa using this, by have := hO.fo; simpa using this, by have := hO.en; simpa using this⟩
  have hNr : ∀ i (hi : i < x.rs.length) a, x.rs[i].a = some a → base ≤ a.block ∧ a.block < N := fun i hi a ha => ⟨(hO.all (.inr (.inr (.inr ⟨i, hi, a, ha, rfl⟩)))).1, hN _ (.inr (.inr (.inr ⟨i, hi, a, ha, rfl⟩)))⟩
  have hNB : ∀ a, x.B = some a → base ≤ a.block ∧ a.block < N := fun a ha => ⟨(hO.all (.inr (.inl ⟨a, ha, rfl⟩))).1, hN _ (.inr (.inl ⟨a, ha, rfl⟩))⟩
  have hNC : ∀ a, x.C = some a → base ≤ a.block ∧ a.block < N := fun a ha => ⟨(hO.all (.inr (.inr (.inl ⟨a, ha, rfl⟩)))).1, hN _ (.inr (.inr (.inl ⟨a, ha, rfl⟩)))⟩
  unfold TV.C'
  go_enter Try.func25, Try.ntmps25
  have hd := Blk.new w 47 (dfaC x.f x.A x.rs.length x.c x.B x.fo.length x.d x.C x.en.length x.e)
  have hBa := below_alloc (Below.refl w.heap.size w) (.cells (dfaC x.f x.A x.rs.length x.c x.B x.fo.length x.d x.C x.en.length x.e) 47)
  have hM : Mid base N w (w.alloc (.cells (dfaC x.f x.A x.rs.length x.c x.B x.fo.length x.d x.C x.en.length x.e) 47)) := Mid.of_below hBa
  replace hFI := hFI.then_ hBa
  go_upto_region 1 with (fail)
  obtain ⟨w1, hw1⟩ : ∃ y, y = w.alloc (.cells (dfaC x.f x.A x.rs.length x.c x.B x.fo.length x.d x.C x.en.length x.e) 47) := ⟨_, rfl⟩
  rw [← hw1] at hd hM hFI ⊢
  clear hw1 hBa
  obtain ⟨gd, hgd⟩ : ∃ g, g = w.heap.size := ⟨_, rfl⟩
  rw [← hgd] at hd ⊢
  clear hgd
  go_wp2_with (fail)
  go_loopw [4] (fun iv wr => ∃ i : Nat, i ≤ x.rs.length ∧ iv = .int .i64 i ∧ Mid base N w wr ∧ Blk wr gd 47 (dfaC x.f x.A x.rs.length x.c x.B x.fo.length x.d x.C x.en.length x.e) ∧ FI x base wr (curM x m i 0) x.fo x.en) (fun iv _ => x.rs.length - (intOf iv).toNat)
  case atStart => exact ⟨0, by omega, rfl, hM, hd, hFI⟩
  case round =>
    clear hM hd hFI
    obtain ⟨i, hi, rfl, hM, hd, hFI⟩ := hrel
    by_cases hil : i < x.rs.length
    · have hiI : (i : Int) < x.rs.length := by omega
      have hrl := hS.r _ (List.getElem_mem hil)
      have hLi := rowL2_at hil
      obtain ⟨bA, oA, hA, hbA, cH⟩ := slice_cell (hFI.rows.slice_all rowC_size) (s := i) hil (v := .slice x.rs[i].a x.rs[i].l.length x.rs[i].c) rfl
      obtain ⟨n, hn⟩ : ∃ n, x.rs[i].l.length = n := ⟨_, rfl⟩
      obtain ⟨Ar, hAr⟩ : ∃ n, x.rs[i].a = n := ⟨_, rfl⟩
      obtain ⟨cr, hcr⟩ : ∃ n, x.rs[i].c = n := ⟨_, rfl⟩
      rw [hn] at hrl
      have hLn : (rowL2 x i).length = n := by rw [hLi, hn]
      have hH : ∀ W : World, FI x base W (curM x m i 0) x.fo x.en ∨ True → True := fun _ _ => trivial
      clear hH
      have hcell : ∀ (W : World) (k : Nat), FI x base W (curM x m i k) x.fo x.en → W.cell? ⟨bA, oA + i, none⟩ = some (.slice Ar n cr) := fun W k hF => by
        obtain ⟨b2, o2, h2, _, c2⟩ := slice_cell (hF.rows.slice_all rowC_size) (s := i) hil (v := .slice x.rs[i].a x.rs[i].l.length x.rs[i].c) rfl
        rw [hA] at h2
        injection h2 with h2
        injection h2 with h3 h4
        rw [← h3, ← h4, Nat.mul_one, hn, hAr, hcr] at c2
        exact c2
      have cA : wr.cell? ⟨gd, 256, none⟩ = some (.slice (some ⟨bA, oA, none⟩) x.rs.length x.c) := by rw [← hA]; exact blk_d1 hd
      have hcA : ∀ W : World, Blk W gd 47 (dfaC x.f x.A x.rs.length x.c x.B x.fo.length x.d x.C x.en.length x.e) → W.cell? ⟨gd, 256, none⟩ = some (.slice (some ⟨bA, oA, none⟩) x.rs.length x.c) := fun W hb => by rw [← hA]; exact blk_d1 hb
      replace hA := Lib.hid hA
      replace hn := Lib.hid hn
      replace hAr := Lib.hid hAr
      replace hcr := Lib.hid hcr
      replace hLi := Lib.hid hLi
      replace hLn := Lib.hid hLn
      clear cH hbA
      go_upto_region 4 with (fail)
      clear cA
      go_wp2_with (fail)
      go_loopw [5] (fun kv wr => ∃ k : Nat, k ≤ n ∧ kv = .int .i64 k ∧ Mid base N w wr ∧ Blk wr gd 47 (dfaC x.f x.A x.rs.length x.c x.B x.fo.length x.d x.C x.en.length x.e) ∧ FI x base wr (curM x m i k) x.fo x.en) (fun kv _ => n - (intOf kv).toNat)
      case atStart => exact ⟨0, by omega, rfl, hM, hd, hFI⟩
      case round =>
        clear hM hd hFI
        obtain ⟨k, hk, rfl, hM, hd, hFI⟩ := hrel
        have cA := hcA wr hd
        have cH := hcell wr k hFI
        by_cases hkl : k < n
        · have hkI : (k : Int) < n := by omega
          have hrow := hFI.row i hil
          have hcl := curM_len x m i k (by rw [hLn.out]; omega)
          rw [hLn.out] at hcl
          obtain ⟨g, cap, hvf, hgb, hgl, _, _⟩ := hrow.form (by omega)
          injection hvf with e1 e9 e3; clear e9
          rw [hAr.out] at e1
          subst e1
          have hNg := hNr i hil ⟨g, 0, none⟩ hAr.out
          rw [hAr.out, hn.out, hcr.out] at hrow
          have hput := curM_put x m i k (by rw [hLn.out]; omega)
          replace hput := Lib.hid hput
          clear e3
          go_upto_region 6 with (refine wl_store_own1 rfl 3 _ _ rfl g k n cr rfl (m : Int) (.int .i64 (m : Int)) rfl rfl encZ_size rfl rfl info_intS hrow (by omega) ?_; intro w2 hrow2 hG2)
          try simp only [Act.put]
          replace hd := hd.grown hG2 (fun e => by injection e with e; have h1 := hrow.2; exact (own_blk_ne hrow hd (by decide)) (by rw [ownBlock_slice, e]; rfl))
          have hFI2 : FI x base w2 (curM x m i (k + 1)) x.fo x.en := hFI.put hap (c := 0) hil hG2 hAr.out (by rw [hAr.out, hn.out, hcr.out]; exact hrow2) hput.out.symm (fun j hj => curM_ne x m i (k + 1) k j hj)
          have hM2 := hM.grown hG2 (fun q e => by injection e with e; subst e; exact .inl hNg)
          clear hM hFI hG2 hrow hrow2 cA cH hcl hput hNg
          go_wp2_with (fail)
          exact ⟨⟨k + 1, by omega, rfl, hM2, hd, hFI2⟩, by simp only [intOf]; omega⟩
        · have hkI : ¬ (k : Int) < n := by omega
          have hke : k = n := by omega
          have hFI2 : FI x base wr (curM x m (i + 1) 0) x.fo x.en := ⟨hFI.rows, fun j hj => by have h1 := hFI.row j hj; rw [hke, ← hLn.out, curM_next] at h1; exact h1, hFI.fo, hFI.en⟩
          clear hFI hke
          go_wp2_with (fail)
          exact ⟨⟨i + 1, hil, rfl, hM, hd, hFI2⟩, by simp only [intOf]; omega⟩
    · have hiI : ¬ (i : Int) < x.rs.length := by omega
      have cA : wr.cell? ⟨gd, 256, none⟩ = some (.slice x.A x.rs.length x.c) := blk_d1 hd
      have hie : i = x.rs.length := by omega
      rw [hie] at hFI
      clear hie
      have hmI : (m : Int) ≤ 1000 := by omega
      go_upto_region 8 with (fail)
      clear cA
      go_wp2_with (fail)
      go_loopw [6] (fun kv wr => ∃ k : Nat, k ≤ x.fo.length ∧ kv = .int .i64 k ∧ Mid base N w wr ∧ Blk wr gd 47 (dfaC x.f x.A x.rs.length x.c x.B x.fo.length x.d x.C x.en.length x.e) ∧ FI x base wr (curM x m x.rs.length 0) (List.replicate k m ++ x.fo.drop k) x.en) (fun kv _ => x.fo.length - (intOf kv).toNat)
      case atStart => exact ⟨0, by omega, rfl, hM, hd, hFI⟩
      case round =>
        clear hM hd hFI
        obtain ⟨k, hk, rfl, hM, hd, hFI⟩ := hrel
        by_cases hkl : k < x.fo.length
        · have hkI : (k : Int) < x.fo.length := by omega
          have hrow := hFI.fo
          have hcl := repl_len x.fo m k (by omega)
          obtain ⟨g, cap, hvf, hgb, hgl, _, _⟩ := hrow.form (by omega)
          injection hvf with e1 e9 e3; clear e9
          have cA : wr.cell? ⟨gd, 257, none⟩ = some (.slice (some ⟨g, 0, none⟩) x.fo.length x.d) := by rw [← e1]; exact blk_d2 hd
          have hNg := hNB ⟨g, 0, none⟩ e1
          have hput := repl_set x.fo m k hkl
          rw [e1] at hrow
          have e1h := Lib.hid e1
          replace hput := Lib.hid hput
          clear e3 e1
          go_upto_region 10 with (refine wl_store_own1 rfl 55 _ _ rfl g k x.fo.length x.d rfl m (.int .u32 ((m : Nat) : Int)) rfl (by first | rfl | (simp [Act.eval, IntKind.wrap_u32]; omega)) encR_size rfl rfl info_u32S1 hrow (by omega) ?_; intro w2 hrow2 hG2)
          try simp only [Act.put]
          replace hd := hd.grown hG2 (fun e => by injection e with e; exact (own_blk_ne hrow hd (by decide)) (by rw [ownBlock_slice, e]; rfl))
          rw [hput.out] at hrow2
          have hFI2 : FI x base w2 (curM x m x.rs.length 0) (List.replicate (k + 1) m ++ x.fo.drop (k + 1)) x.en := hFI.putF hfe hG2 e1h.out (by rw [e1h.out]; exact hrow2)
          have hM2 := hM.grown hG2 (fun q e => by injection e with e; subst e; exact .inl hNg)
          clear hM hFI hG2 hrow hrow2 cA hcl hput hNg e1h
          go_wp2_with (fail)
          exact ⟨⟨k + 1, by omega, rfl, hM2, hd, hFI2⟩, by simp only [intOf]; omega⟩
        · have hkI : ¬ (k : Int) < x.fo.length := by omega
          have cA : wr.cell? ⟨gd, 257, none⟩ = some (.slice x.B x.fo.length x.d) := blk_d2 hd
          have hke : k = x.fo.length := by omega
          rw [hke, repl_all _ _ _ rfl] at hFI
          clear hke
          go_upto_region 12 with (fail)
          clear cA
          go_wp2_with (fail)
          go_loopw [7] (fun kv wr => ∃ k : Nat, k ≤ x.en.length ∧ kv = .int .i64 k ∧ Mid base N w wr ∧ Blk wr gd 47 (dfaC x.f x.A x.rs.length x.c x.B x.fo.length x.d x.C x.en.length x.e) ∧ FI x base wr (curM x m x.rs.length 0) (List.replicate x.fo.length m) (List.replicate k (m + 1) ++ x.en.drop k)) (fun kv _ => x.en.length - (intOf kv).toNat)
          case atStart => exact ⟨0, by omega, rfl, hM, hd, hFI⟩
          case round =>
            clear hM hd hFI
            obtain ⟨k, hk, rfl, hM, hd, hFI⟩ := hrel
            by_cases hkl : k < x.en.length
            · have hkI : (k : Int) < x.en.length := by omega
              have hrow := hFI.en
              have hcl := repl_len x.en (m + 1) k (by omega)
              obtain ⟨g, cap, hvf, hgb, hgl, _, _⟩ := hrow.form (by omega)
              injection hvf with e1 e9 e3; clear e9
              have cA : wr.cell? ⟨gd, 258, none⟩ = some (.slice (some ⟨g, 0, none⟩) x.en.length x.e) := by rw [← e1]; exact blk_d3 hd
              have hNg := hNC ⟨g, 0, none⟩ e1
              have hput := repl_set x.en (m + 1) k hkl
              rw [e1] at hrow
              have e1h := Lib.hid e1
              replace hput := Lib.hid hput
              clear e3 e1
              go_upto_region 14 with (refine wl_store_own1 rfl 55 _ _ rfl g k x.en.length x.e rfl (m + 1) (.int .u32 (((m + 1) : Nat) : Int)) rfl (by first | rfl | (simp [Act.eval, IntKind.wrap_u32]; omega)) encR_size rfl rfl info_u32S1 hrow (by omega) ?_; intro w2 hrow2 hG2)
              try simp only [Act.put]
              replace hd := hd.grown hG2 (fun e => by injection e with e; exact (own_blk_ne hrow hd (by decide)) (by rw [ownBlock_slice, e]; rfl))
              rw [hput.out] at hrow2
              have hFI2 : FI x base w2 (curM x m x.rs.length 0) (List.replicate x.fo.length m) (List.replicate (k + 1) (m + 1) ++ x.en.drop (k + 1)) := hFI.putE hfe hG2 e1h.out (by rw [e1h.out]; exact hrow2)
              have hM2 := hM.grown hG2 (fun q e => by injection e with e; subst e; exact .inl hNg)
              clear hM hFI hG2 hrow hrow2 cA hcl hput hNg e1h
              go_wp2_with (fail)
              exact ⟨⟨k + 1, by omega, rfl, hM2, hd, hFI2⟩, by simp only [intOf]; omega⟩
            · have hkI : ¬ (k : Int) < x.en.length := by omega
              have cA : wr.cell? ⟨gd, 258, none⟩ = some (.slice x.C x.en.length x.e) := blk_d3 hd
              have hke : k = x.en.length := by omega
              rw [hke, repl_all _ _ _ rfl] at hFI
              clear hke
              go_wp2_with (fail)
              first | (refine bodyPost_end (results_none rfl _ _ _) rfl ?_) | (refine bodyPost_ret (results_none rfl _ _ _) rfl ?_)
              refine ⟨rfl, hM, ?_, ?_, ?_, fun j hj => ?_, fun a b hi hj u v hab hu hv => ?_, hfe⟩
              · have h1 := hFI.rows
                have e : flat rowC (fillT x m).rs = flat rowC x.rs := by
                  unfold flat fillT
                  simp only [List.flatMap_map]
                  congr 1
                  funext r
                  simp [rowC]
                show Own wr base 57 1 rowC (.slice x.A ((fillT x m).rs.length + 0) x.c) ((fillT x m).rs ++ [])
                unfold Own at h1 ⊢
                rw [List.append_nil, e]
                have e2 : (fillT x m).rs.length = x.rs.length := by simp [fillT]
                rw [e2]
                exact h1
              · have h1 := hFI.fo
                show Own wr base 55 1 encR (.slice x.B ((List.replicate x.fo.length m).length + 0) x.d) (List.replicate x.fo.length m ++ [])
                rw [List.append_nil, List.length_replicate]
                exact h1
              · have h1 := hFI.en
                show Own wr base 55 1 encR (.slice x.C ((List.replicate x.en.length (m + 1)).length + 0) x.e) (List.replicate x.en.length (m + 1) ++ [])
                rw [List.append_nil, List.length_replicate]
                exact h1
              · have hj2 : j < x.rs.length := by simpa [fillT] using hj
                have h1 := hFI.row j hj2
                have e : (fillT x m).rs[j] = { x.rs[j] with l := List.replicate x.rs[j].l.length (m : Int) } := by simp [fillT]
                rw [e]
                unfold curM at h1
                rw [if_pos hj2, rowL2_at hj2] at h1
                simpa using h1
              · simp only [fillT, List.getElem_map] at hu hv
                exact hap a b (by simpa [fillT] using hi) (by simpa [fillT] using hj) u v hab hu hv
end Go.Proofs.Ytgahdookojbbiaa
