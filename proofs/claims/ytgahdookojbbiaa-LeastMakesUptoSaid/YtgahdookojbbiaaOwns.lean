/- Rows of the call's own beside one another; a table whose lists are the call's own. No condition beyond those named in each lemma. -/
import Derived.Test.YtgahdookojbbiaaArr
import Derived.Test.YtgahdookojbbiaaKeep
namespace Go.Proofs.Ytgahdookojbbiaa
open Go.RowKit Go.Maps
set_option linter.unusedVariables false
set_option linter.unusedSimpArgs false

section
variable {α β : Type} {enc : α → Array Value} {enc2 : β → Array Value} {size size2 base base2 B g r n c : Nat} {e e2 t : TypeId} {W W' : World} {v v2 : Value} {ys : List α} {zs : List β} {cs : Array Value} {row : Option Nat}
theorem own_low (h : Own W base e size enc v ys) (hg : W.grownBy W' (some r)) (hr : r < base) : Own W' base e size enc v ys :=
  h.kept_ hg (fun j e1 e2 => by
    injection e2 with e2
    have := (h.lt j e1).1
    omega)
theorem own_box (h : Own W base e size enc v ys) (hb : Blk W r t cs) (hg : W.grownBy W' (some r)) (hne : e ≠ t) : Own W' base e size enc v ys :=
  h.kept_ hg (fun j e1 e2 => by
    injection e2 with e2
    rcases h.2 with ⟨hv, _⟩ | ⟨g', cap, cur, hv, hge, hh, _⟩
    · rw [hv] at e1; cases e1
    · rw [hv] at e1
      have a1 : g' = j := by simpa [Value.ownBlock] using e1
      subst a1; subst e2
      unfold Blk at hb
      rw [hh] at hb
      injection hb with hb
      injection hb with _ hb
      exact hne hb)
theorem blk_own (h : Blk W g t cs) (ho : Own W base e size enc v ys) (hg : W.grownBy W' v.ownBlock) (hr : g < base) : Blk W' g t cs :=
  h.grown hg (fun e => by have := (ho.lt _ e.symm).1; omega)
theorem blk_own2 (h : Blk W g t cs) (ho : Own W base e size enc v ys) (hg : W.grownBy W' v.ownBlock) (hne : e ≠ t) : Blk W' g t cs :=
  h.grown hg (fun e1 => own_blk_ne ho h hne e1.symm)
theorem own_own (h : Own W base2 e2 size2 enc2 v2 zs) (ho : Own W base e size enc v ys) (hg : W.grownBy W' v.ownBlock) (hne : e ≠ e2) : Own W' base2 e2 size2 enc2 v2 zs :=
  h.kept_ hg (fun j e1 e3 => by
    rcases h.2 with ⟨hv, _⟩ | ⟨g', cap, cur, hv, hge, hh, _⟩
    · rw [hv] at e1; cases e1
    · rcases ho.2 with ⟨hv2, _⟩ | ⟨g2, cap2, cur2, hv2, hge2, hh2, _⟩
      · rw [hv2] at e3; cases e3
      · rw [hv] at e1; rw [hv2] at e3
        have a1 : g' = j := by simpa [Value.ownBlock] using e1
        have a2 : g2 = j := by simpa [Value.ownBlock] using e3
        subst a1; subst a2
        rw [hh] at hh2
        injection hh2 with hh2
        injection hh2 with _ hh2
        exact hne hh2.symm)
/-- a block made as large as what it holds -/
theorem own_made (hs : ∀ y, (enc y).size = size) (hb : Blk W g e cs) (hcs : cs.toList = flat enc ys) (hn : n = ys.length) (hg : base ≤ g) (hm : n ≤ maxLen) : Own W base e size enc (.slice (some ⟨g, 0, none⟩) n n) ys := by
  subst hn
  refine ⟨flat_length hs ys, .inr ⟨g, _, cs, rfl, hg, hb, Nat.le_refl _, hm, ?_, ?_⟩⟩
  · rw [← Array.length_toList, hcs, flat_length hs]
  · rw [hcs, ← flat_length hs ys, List.take_length]
theorem own_empty (hb : base ≤ W.heap.size) : Own (W.alloc (.cells #[] e)) base e size enc (.slice (some ⟨W.heap.size, 0, none⟩) 0 0) ([] : List α) :=
  ⟨by simp [flat], .inr ⟨W.heap.size, 0, #[], rfl, hb, heap_alloc_new W _, Nat.le_refl _, by unfold maxLen; omega, by simp, by simp [flat]⟩⟩
theorem own_one (hs : ∀ y, (enc y).size = size) {y : α} (hb : Blk W g e (enc y)) (hg : base ≤ g) : Own W base e size enc (.slice (some ⟨g, 0, none⟩) 1 1) [y] :=
  own_made (ys := [y]) hs hb (by simp [flat]) rfl hg (by unfold maxLen; omega)
/-- a shorter slice of a row of the call's own reads its first elements -/
theorem own_take {A : Option Addr} {zs' : List α} (hs : ∀ y, (enc y).size = size) (h : Own W base e size enc (.slice A n c) (ys ++ zs')) : SliceOf W W.heap.size size enc A ys := by
  have := h.slice hs ys.length
  rwa [List.take_left'] at this
  rfl
theorem ownBlock_slice (A : Option Addr) (n c : Nat) : (Value.slice A n c).ownBlock = A.map (·.block) := by cases A <;> rfl
end
theorem encZ_one (y : Int) : (encZ y).all (·.oneCell') = true := by simp [encZ, Value.oneCell']
theorem encR_one (y : Nat) : (encR y).all (·.oneCell') = true := by simp [encR, Value.oneCell']
theorem rowC_one (y : RV) : (rowC y).all (·.oneCell') = true := by simp [rowC, Value.oneCell']
theorem flat_encZ (l : List Int) : flat encZ l = l.map fun z => .int .i64 z := by
  induction l with
  | nil => rfl
  | cons z l ih => show (encZ z).toList ++ flat encZ l = _; rw [ih]; rfl
theorem arr_flat (n : Nat) (K : Nat → Int) : (arr eZ n K).toList = flat encZ ((List.range n).map K) := by
  rw [flat_encZ]
  apply List.ext_getElem?
  intro i
  rw [Array.getElem?_toList]
  by_cases h : i < n
  · rw [arr_at eZ n K h]; simp [h, eZ]
  · rw [Array.getElem?_eq_none (by rw [arr_size]; omega)]; simp [h]
theorem own_arr {W : World} {base g n : Nat} {K : Nat → Int} {l : List Int} (hb : Blk W g 3 (arr eZ n K)) (hl : (List.range n).map K = l) (hg : base ≤ g) (hm : n ≤ maxLen) : Own W base 3 1 encZ (.slice (some ⟨g, 0, none⟩) n n) l :=
  own_made encZ_size hb (by rw [arr_flat, hl]) (by rw [← hl]; simp) hg hm

/-- a table whose lists are the call's own, from block base on, no two in one block; what stands behind each list: xr, xf, xn -/
structure TOwn (w : World) (base : Nat) (x : TV) (xr : List Int) (xf : List Nat) (xn : List RV) : Prop where
  rows : Own w base 57 1 rowC (.slice x.A (x.rs.length + xn.length) x.c) (x.rs ++ xn)
  fo : Own w base 55 1 encR (.slice x.B (x.fo.length + xf.length) x.d) (x.fo ++ xf)
  en : Own w base 55 1 encR (.slice x.C (x.en.length + xf.length) x.e) (x.en ++ xf)
  row : ∀ i (h : i < x.rs.length), Own w base 3 1 encZ (.slice x.rs[i].a (x.rs[i].l.length + xr.length) x.rs[i].c) (x.rs[i].l ++ xr)
  ap : ∀ i j (hi : i < x.rs.length) (hj : j < x.rs.length) a b, i ≠ j → x.rs[i].a = some a → x.rs[j].a = some b → a.block ≠ b.block
  fe : ∀ a b, x.B = some a → x.C = some b → a.block ≠ b.block
section
variable {w w' : World} {base g : Nat} {x : TV} {xr : List Int} {xf : List Nat} {xn : List RV} {t : TypeId} {cs : Array Value}
theorem TOwn.then_ (h : TOwn w base x xr xf xn) (hb : Below w.heap.size w w') : TOwn w' base x xr xf xn :=
  ⟨h.rows.then_ hb, h.fo.then_ hb, h.en.then_ hb, fun i hi => (h.row i hi).then_ hb, h.ap, h.fe⟩
theorem TOwn.mono {base' : Nat} (h : TOwn w base x xr xf xn) (hb : base' ≤ base) : TOwn w base' x xr xf xn :=
  ⟨h.rows.mono hb, h.fo.mono hb, h.en.mono hb, fun i hi => (h.row i hi).mono hb, h.ap, h.fe⟩
theorem TOwn.box (h : TOwn w base x xr xf xn) (hb : Blk w g t cs) (hg : w.grownBy w' (some g)) (h1 : t ≠ 57) (h2 : t ≠ 55) (h3 : t ≠ 3) : TOwn w' base x xr xf xn :=
  ⟨own_box h.rows hb hg h1.symm, own_box h.fo hb hg h2.symm, own_box h.en hb hg h2.symm, fun i hi => own_box (h.row i hi) hb hg h3.symm, h.ap, h.fe⟩
theorem TOwn.low (h : TOwn w base x xr xf xn) (hg : w.grownBy w' (some g)) (hr : g < base) : TOwn w' base x xr xf xn :=
  ⟨own_low h.rows hg hr, own_low h.fo hg hr, own_low h.en hg hr, fun i hi => own_low (h.row i hi) hg hr, h.ap, h.fe⟩
/-- a block that holds nothing of it turns -/
theorem TOwn.ints (h : TOwn w base x xr xf xn) (hb : Blk w g 3 cs) (hg : w.grownBy w' (some g)) (hne : ∀ i (hi : i < x.rs.length) a, x.rs[i].a = some a → a.block ≠ g) : TOwn w' base x xr xf xn :=
  ⟨own_box h.rows hb hg (by decide), own_box h.fo hb hg (by decide), own_box h.en hb hg (by decide), fun i hi => (h.row i hi).kept_ hg (fun j e1 e2 => by
    rw [ownBlock_slice] at e1
    injection e2 with e2
    rcases ha : x.rs[i].a with _ | a
    · rw [ha] at e1; cases e1
    · rw [ha] at e1
      have e3 : a.block = j := by simpa using e1
      exact hne i hi a ha (by omega)), h.ap, h.fe⟩
theorem TOwn.own {α : Type} {enc : α → Array Value} {size b2 : Nat} {v : Value} {ys : List α} (h : TOwn w base x xr xf xn) (ho : Own w b2 t size enc v ys) (hg : w.grownBy w' v.ownBlock) (h1 : t ≠ 57) (h2 : t ≠ 55) (h3 : t ≠ 3) : TOwn w' base x xr xf xn :=
  ⟨own_own h.rows ho hg h1, own_own h.fo ho hg h2, own_own h.en ho hg h2, fun i hi => own_own (h.row i hi) ho hg h3, h.ap, h.fe⟩
/-- a row of ints that is none of its lists turns -/
theorem TOwn.ownI {α : Type} {enc : α → Array Value} {size b2 n c : Nat} {A : Option Addr} {ys : List α} (h : TOwn w base x xr xf xn) (ho : Own w b2 3 size enc (.slice A n c) ys) (hg : w.grownBy w' (Value.slice A n c).ownBlock) (hap : ∀ i (hi : i < x.rs.length) a b, x.rs[i].a = some a → A = some b → a.block ≠ b.block) : TOwn w' base x xr xf xn :=
  ⟨own_own h.rows ho hg (by decide), own_own h.fo ho hg (by decide), own_own h.en ho hg (by decide), fun i hi => (h.row i hi).kept_ hg (fun j e1 e2 => by
    rw [ownBlock_slice] at e1 e2
    rcases ha : x.rs[i].a with _ | a
    · rw [ha] at e1; cases e1
    · rcases hA : A with _ | b
      · rw [hA] at e2; cases e2
      · have := hap i hi a b ha hA
        rw [ha] at e1; rw [hA] at e2
        simp at e1 e2
        omega), h.ap, h.fe⟩
theorem TOwn.rowLt (h : TOwn w base x xr xf xn) {i : Nat} (hi : i < x.rs.length) {a : Addr} (ha : x.rs[i].a = some a) : base ≤ a.block ∧ a.block < w.heap.size :=
  (h.row i hi).lt a.block (by rw [ownBlock_slice, ha]; rfl)
theorem TOwn.tab (h : TOwn w base x xr xf xn) (nb : x.rs.length ≤ 2199023255552) (rb : ∀ r ∈ x.rs, r.l.length ≤ 2199023255552) (fb : x.fo.length ≤ 2199023255552) (eb : x.en.length ≤ 2199023255552) (f32 : ∀ y ∈ x.fo, y < 4294967296) (e32 : ∀ y ∈ x.en, y < 4294967296) : TabIn w w.heap.size x :=
  ⟨own_take rowC_size h.rows, fun r hr => by
    obtain ⟨i, hi, rfl⟩ := List.mem_iff_getElem.1 hr
    exact own_take encZ_size (h.row i hi), own_take encR_size h.fo, own_take encR_size h.en, nb, rb, fb, eb, f32, e32⟩
/-- no list yet -/
theorem TOwn.nil (w : World) (base : Nat) (f : Nat → Int) : TOwn w base ⟨f, [], none, 0, [], none, 0, [], none, 0⟩ [] [] [] :=
  ⟨Own.nil_ _ _ _ _ _, Own.nil_ _ _ _ _ _, Own.nil_ _ _ _ _ _, fun i hi => absurd hi (by simp), fun i j hi => absurd hi (by simp), fun a b h => by cases h⟩
/-- a row more -/
theorem TOwn.addRow {A : Option Addr} {c : Nat} {r : RV} (h : TOwn w base x xr xf []) (hg : w.grownBy w' (Value.slice x.A x.rs.length x.c).ownBlock)
    (ho : Own w' base 57 1 rowC (.slice A (x.rs.length + 1) c) (x.rs ++ [r])) (hr : Own w' base 3 1 encZ (.slice r.a (r.l.length + xr.length) r.c) (r.l ++ xr))
    (hap : ∀ i (hi : i < x.rs.length) a b, x.rs[i].a = some a → r.a = some b → a.block ≠ b.block) : TOwn w' base { x with rs := x.rs ++ [r], A := A, c := c } xr xf [] := by
  have h0 := h.rows
  simp only [List.length_nil, Nat.add_zero, List.append_nil] at h0
  refine ⟨?_, own_own h.fo h0 hg (by decide), own_own h.en h0 hg (by decide), fun i hi => ?_, fun i j hi hj a b hij ha hb => ?_, h.fe⟩
  · simpa using ho
  · simp only [List.length_append, List.length_singleton] at hi
    by_cases e : i < x.rs.length
    · simp only [List.getElem_append_left e]
      exact own_own (h.row i e) h0 hg (by decide)
    · have : i = x.rs.length := by omega
      subst this
      simpa using hr
  · simp only [List.length_append, List.length_singleton] at hi hj
    by_cases ei : i < x.rs.length
    · by_cases ej : j < x.rs.length
      · simp only [List.getElem_append_left ei] at ha
        simp only [List.getElem_append_left ej] at hb
        exact h.ap i j ei ej a b hij ha hb
      · have : j = x.rs.length := by omega
        subst this
        simp only [List.getElem_append_left ei] at ha
        simp at hb
        exact hap i ei a b ha hb
    · have : i = x.rs.length := by omega
      subst this
      have ej : j < x.rs.length := by omega
      simp only [List.getElem_append_left ej] at hb
      simp at ha
      exact (hap j ej b a hb ha).symm
theorem TOwn.addFo {B : Option Addr} {d : Nat} {y : Nat} (h : TOwn w base x xr [] xn) (hg : w.grownBy w' (Value.slice x.B x.fo.length x.d).ownBlock)
    (ho : Own w' base 55 1 encR (.slice B (x.fo.length + 1) d) (x.fo ++ [y])) (hv : (Value.slice B (x.fo.length + 1) d).ownBlock = (Value.slice x.B x.fo.length x.d).ownBlock ∨ (Value.slice B (x.fo.length + 1) d).ownBlock = some w.heap.size) : TOwn w' base { x with fo := x.fo ++ [y], B := B, d := d } xr [] xn := by
  have h0 := h.fo
  simp only [List.length_nil, Nat.add_zero, List.append_nil] at h0
  have he := h.en
  simp only [List.length_nil, Nat.add_zero, List.append_nil] at he
  refine ⟨own_own h.rows h0 hg (by decide), by simpa using ho, ?_, fun i hi => own_own (h.row i hi) h0 hg (by decide), h.ap, fun a b ha hb => ?_⟩
  · simp only [List.length_nil, Nat.add_zero, List.append_nil]
    refine he.kept_ hg (fun j e1 e2 => ?_)
    rw [ownBlock_slice] at e1 e2
    rcases hB : x.B with _ | a
    · rw [hB] at e2; cases e2
    · rcases hC : x.C with _ | b
      · rw [hC] at e1; cases e1
      · rw [hC] at e1; rw [hB] at e2
        have := h.fe a b hB hC
        simp at e1 e2
        omega
  · rw [ownBlock_slice, ownBlock_slice] at hv
    simp only at ha hb
    rw [ha] at hv
    rcases hv with hv | hv
    · rcases hB : x.B with _ | a'
      · rw [hB] at hv; cases hv
      · rw [hB] at hv
        have := h.fe a' b hB hb
        simp at hv
        omega
    · have := he.lt b.block (by rw [ownBlock_slice, hb]; rfl)
      simp at hv
      omega
theorem TOwn.addEn {C : Option Addr} {e : Nat} {y : Nat} (h : TOwn w base x xr [] xn) (hg : w.grownBy w' (Value.slice x.C x.en.length x.e).ownBlock)
    (ho : Own w' base 55 1 encR (.slice C (x.en.length + 1) e) (x.en ++ [y])) (hv : (Value.slice C (x.en.length + 1) e).ownBlock = (Value.slice x.C x.en.length x.e).ownBlock ∨ (Value.slice C (x.en.length + 1) e).ownBlock = some w.heap.size) : TOwn w' base { x with en := x.en ++ [y], C := C, e := e } xr [] xn := by
  have h0 := h.fo
  simp only [List.length_nil, Nat.add_zero, List.append_nil] at h0
  have he := h.en
  simp only [List.length_nil, Nat.add_zero, List.append_nil] at he
  refine ⟨own_own h.rows he hg (by decide), ?_, by simpa using ho, fun i hi => own_own (h.row i hi) he hg (by decide), h.ap, fun a b ha hb => ?_⟩
  · simp only [List.length_nil, Nat.add_zero, List.append_nil]
    refine h0.kept_ hg (fun j e1 e2 => ?_)
    rw [ownBlock_slice] at e1 e2
    rcases hB : x.B with _ | a
    · rw [hB] at e1; cases e1
    · rcases hC : x.C with _ | b
      · rw [hC] at e2; cases e2
      · rw [hC] at e2; rw [hB] at e1
        have := h.fe a b hB hC
        simp at e1 e2
        omega
  · rw [ownBlock_slice, ownBlock_slice] at hv
    simp only at ha hb
    rw [hb] at hv
    rcases hv with hv | hv
    · rcases hC : x.C with _ | b'
      · rw [hC] at hv; cases hv
      · rw [hC] at hv
        have := h.fe a b' ha hC
        simp at hv
        omega
    · have := h0.lt a.block (by rw [ownBlock_slice, ha]; rfl)
      simp at hv
      omega
end
theorem info_rowsS : (Try.prog.info? 45).map (·.size) = some 1 := by kernel_rfl
theorem info_u32sS : (Try.prog.info? 32).map (·.size) = some 1 := by kernel_rfl
theorem info_rows3 : (Try.prog.info? 57).map (fun i => (i.zero, i.size, i.bytes)) = some (some (.slice none 0 0), 1, 24) := by kernel_rfl
theorem info_u3 : (Try.prog.info? 55).map (fun i => (i.zero, i.size, i.bytes)) = some (some (.int .u32 0), 1, 4) := by kernel_rfl
section
variable {ops : Array Oper} {rest : List Oper} {o : Oper} {a : Act} {w : World} {Q : Exit → Act → World → Prop}
variable {f : Nat → Int} {A B C A' : Option Addr} {n c m d k e n' c' : Nat}
theorem wl_store_d1 (hgd : o.guard = none) (x y : Operand) (ho : o.op = .store 45 x y) (g : Nat) (hx : a.eval x = .pointer (some ⟨g, 256, none⟩)) (hy : a.eval y = .slice A' n' c') (hb : Blk w g 47 (dfaC f A n c B m d C k e))
    (h : ∀ w', Blk w' g 47 (dfaC f A' n' c' B m d C k e) → w.grownBy w' (some g) → wpList Try.prog ops Q rest (a.put o.dst undef) w') : wpList Try.prog ops Q (o :: rest) a w :=
  wl_store_cell hgd _ x y ho g 256 hx _ _ (dfaC f A' n' c' B m d C k e) hb (by rw [dfaC_size]; omega) info_rowsS (by rw [hy]; rfl) (by rw [hy]; rfl) (by rw [hy]; exact dfaC_set1 _ _ _ _ _ _ _ _ _ _ _ _ _) h
theorem wl_store_d2 (hgd : o.guard = none) (x y : Operand) (ho : o.op = .store 32 x y) (g : Nat) (hx : a.eval x = .pointer (some ⟨g, 257, none⟩)) (hy : a.eval y = .slice A' n' c') (hb : Blk w g 47 (dfaC f A n c B m d C k e))
    (h : ∀ w', Blk w' g 47 (dfaC f A n c A' n' c' C k e) → w.grownBy w' (some g) → wpList Try.prog ops Q rest (a.put o.dst undef) w') : wpList Try.prog ops Q (o :: rest) a w :=
  wl_store_cell hgd _ x y ho g 257 hx _ _ (dfaC f A n c A' n' c' C k e) hb (by rw [dfaC_size]; omega) info_u32sS (by rw [hy]; rfl) (by rw [hy]; rfl) (by rw [hy]; exact dfaC_set2 _ _ _ _ _ _ _ _ _ _ _ _ _) h
theorem wl_store_d3 (hgd : o.guard = none) (x y : Operand) (ho : o.op = .store 32 x y) (g : Nat) (hx : a.eval x = .pointer (some ⟨g, 258, none⟩)) (hy : a.eval y = .slice A' n' c') (hb : Blk w g 47 (dfaC f A n c B m d C k e))
    (h : ∀ w', Blk w' g 47 (dfaC f A n c B m d A' n' c') → w.grownBy w' (some g) → wpList Try.prog ops Q rest (a.put o.dst undef) w') : wpList Try.prog ops Q (o :: rest) a w :=
  wl_store_cell hgd _ x y ho g 258 hx _ _ (dfaC f A n c B m d A' n' c') hb (by rw [dfaC_size]; omega) info_u32sS (by rw [hy]; rfl) (by rw [hy]; rfl) (by rw [hy]; exact dfaC_set3 _ _ _ _ _ _ _ _ _ _ _ _ _) h
end
/-- one element, laid into a block of its own -/
def oneG (t : TypeId) (cs : Array Value) : GSpec := ⟨fun v w => ∃ g, v = .slice (some ⟨g, 0, none⟩) 1 1 ∧ Blk w g t cs, fun v w w' ⟨g, h1, h2⟩ hb => ⟨g, h1, blk_then h2 hb⟩⟩
theorem run_u1 (w : World) (y : Int) : (Instr.buildSlice 32 1 #[(0, .int .u32 y)]).run Try.prog w = .ok (.slice (some ⟨w.heap.size, 0, none⟩) 1 1) (w.alloc (.cells #[.int .u32 y] 55)) := by kernel_rfl
theorem gs_u1 {ops : Array Oper} {S : Nat → GSpec} {Q : Exit → Act → World → Prop} {i : Nat} {o : Oper} {a : Act} {w : World} (hw : Region.wanted o (yielded ops a.tmps) = true) (x : Operand) (ho : o.op = .buildSlice 32 1 #[(0, x)]) (y : Nat) (hx : a.eval x = .int .u32 (y : Int))
    (hp : ∀ v w', (oneG 55 (encR y)).p v w' → (S i).p v w') : GStep Try.prog ops S Q i o a w :=
  gs_run hw (v := .slice (some ⟨w.heap.size, 0, none⟩) 1 1) (by unfold execOp; simp only [ho, List.map_toArray, List.map_cons, List.map_nil, hx, Sem.run_bind, run_u1, Result.andThen_ok, Sem.run_pure]; rfl) (below_alloc (Below.refl _ _) _) (hp _ _ ⟨_, rfl, Blk.new _ _ _⟩)
end Go.Proofs.Ytgahdookojbbiaa
