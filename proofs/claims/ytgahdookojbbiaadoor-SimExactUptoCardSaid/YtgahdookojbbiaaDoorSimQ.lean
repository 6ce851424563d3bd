/- heronlaw08.fixed. No condition beyond those named in each lemma. -/
import Derived.Test.YtgahdookojbbiaaDoorSimP
namespace Go.Proofs.YtgahdookojbbiaaDoor
open Go.RowKit Go.Shelf Go.Maps
set_option linter.unusedVariables false
set_option linter.unusedSimpArgs false
attribute [local go_sem] Oper.semAt_some

def xax : ByteArray := ⟨#[120, 97, 120]⟩
def xOne : ByteArray := ⟨#[120]⟩
theorem bytes_xax : bytesL xax = [120, 97, 120] := by decide
theorem bytes_x : bytesL xOne = [120] := by decide
theorem letR_lt : ∀ r ∈ letR, r < 4294967296 := by decide
theorem line_let (w : World) (A B : Option Addr) (c d : Nat) (ln : ByteArray) (r : Nat) (hln : ln.size ≤ 1099511627776) (hr : endW letE 2 letR (goesW letE 2 letR (bytesL ln) (begW letE 2 letR)) = r) (hE : SliceOf w w.heap.size 7 edgC A letE) (hR : SliceOf w w.heap.size 1 encR B letR) (hT : TabOk w) :
    Calls Tryd.prog 8 #[.agg (nfaC 2 A 1 c B 2 d), .string ln] w fun e w' => e = .returned (.tuple #[.int .u32 (r : Int), .int .i64 0]) ∧ Below w.heap.size w w' := by
  refine (line_any 2 A 1 c B 2 d letE letR ln rfl rfl (by decide) (by decide) letR_lt w hE hR hT hln).mono ?_
  rintro e w' ⟨h1, h2⟩
  rcases h2 with ⟨h2, _⟩ | ⟨_, h2⟩
  · exact absurd h2 (by decide)
  · refine ⟨?_, h1⟩
    rw [h2]
    have : letR.length = 2 := rfl
    rw [this, hr]
theorem begin_let (w : World) (A B : Option Addr) (c d : Nat) (hE : SliceOf w w.heap.size 7 edgC A letE) (hR : SliceOf w w.heap.size 1 encR B letR) (hT : TabOk w) :
    Calls Tryd.prog 11 #[.agg (nfaC 2 A 1 c B 2 d)] w fun e w' => Below w.heap.size w w' ∧ ∃ gw gm lo nb, e = .returned (.tuple #[.pointer (some ⟨gw, 0, none⟩), .int .i64 0]) ∧ w.heap.size ≤ lo ∧ w.heap.size ≤ gw ∧ WalkOk lo nb w' gw gm 2 letE letR ⟨1, 0, true⟩ := by
  refine (begin_any 2 A 1 c B 2 d letE letR rfl rfl (by decide) (by decide) letR_lt w hE hR hT).mono ?_
  rintro e w' ⟨h1, h2⟩
  rcases h2 with ⟨h2, _⟩ | ⟨_, gw, gm, lo, nb, h2, h3, h4, h5⟩
  · exact absurd h2 (by decide)
  · refine ⟨h1, gw, gm, lo, nb, h2, h3, h4, ?_⟩
    have : letR.length = 2 := rfl
    rw [this, let_beg] at h5
    exact h5
theorem begin_zero (w : World) (hT : TabOk w) : Calls Tryd.prog 11 #[.agg (nfaC 0 none 0 0 none 0 0)] w fun e w' => e = .returned (.tuple #[.pointer none, .int .i64 70]) ∧ Below w.heap.size w w' := by
  refine (begin_any 0 none 0 0 none 0 0 [] [] rfl rfl (by decide) (by decide) (by simp) w (.inl rfl) (.inl rfl) hT).mono ?_
  rintro e w' ⟨h1, h2⟩
  rcases h2 with ⟨_, h2⟩ | ⟨h2, _⟩
  · exact ⟨h2, h1⟩
  · exact absurd h2 (by decide)
theorem states_of (lo nb gw gm N : Nat) (E : List Edg) (R : List Nat) (k : Wk) (w : World) (h : WalkOk lo nb w gw gm N E R k) (hT : TabOk w) (l : List Nat) (hl : bitsTo k.at_ N = l) (h0 : 0 < l.length) :
    Calls Tryd.prog 19 #[.pointer (some ⟨gw, 0, none⟩)] w fun e w' => ∃ g c, e = .returned (.slice (some ⟨g, 0, none⟩) l.length c) ∧ Own w' w.heap.size 3 1 encN (.slice (some ⟨g, 0, none⟩) l.length c) l ∧ Below w.heap.size w w' := by
  refine (states_any lo nb gw gm N E R k w h hT).mono ?_
  rintro e w' ⟨v, rfl, h1, h2⟩
  rw [hl] at h1
  obtain ⟨g, c, rfl, _, _⟩ := h1.form h0
  exact ⟨g, c, rfl, h1, h2⟩
theorem tab_walk {lo nb gw gm N : Nat} {E : List Edg} {R : List Nat} {k : Wk} {w w' : World} (h : WalkOk lo nb w gw gm N E R k) (hT : TabOk w) (hg : w.grownBy w' (some gw)) : TabOk w' :=
  tab_grown hT hg (by have := h.1.ok.2.2.2.2.1; have := h.2.1; omega)
theorem WalkOk.own_ {α : Type} {enc : α → Array Value} {lo nb gw gm N base size : Nat} {E : List Edg} {R : List Nat} {k : Wk} {w w' : World} {e : TypeId} {v : Value} {ys : List α} (h : WalkOk lo nb w gw gm N E R k) (ho : Own w base e size enc v ys) (hg : w.grownBy w' (some gw)) (he : e ≠ 71) : Own w' base e size enc v ys := by
  obtain ⟨_, _, _, _, g, c, _, h6, _⟩ := h
  exact own_box ho h6 hg he
set_option maxRecDepth 100000 in
set_option maxHeartbeats 4000000 in
theorem fixed_any (w : World) (hT : TabOk w) : Calls Tryd.prog 5 #[] w fun e w' => e = .returned (.bool true) ∧ Below w.heap.size w w' := by
  go_enter Tryd.func5, Tryd.ntmps5
  go_upto_region 2 with (first
    | (go_at_call 22; refine (letter_any w).mono ?_; rintro e w1 ⟨A1, B1, c1, d1, rfl, hE1, hR1, hB1⟩)
    | (go_at_call 8; refine (line_let w1 A1 B1 c1 d1 xax 1 (by decide) (bytes_xax ▸ let_xax) hE1 hR1 (hT.then_ hT.size hB1)).mono ?_; rintro e w2 ⟨rfl, hB2⟩))
  replace hB2 := below_then hB1 hB2
  replace hT := hT.then_ hT.size hB2
  clear hE1 hR1 hB1
  go_upto_region 3 with (first
    | (go_at_call 22; refine (letter_any w2).mono ?_; rintro e w3 ⟨A1, B1, c1, d1, rfl, hE1, hR1, hB1⟩)
    | (go_at_call 8; refine (line_let w3 A1 B1 c1 d1 xOne 0 (by decide) (bytes_x ▸ let_x) hE1 hR1 (hT.then_ hT.size hB1)).mono ?_; rintro e w4 ⟨rfl, hB4⟩))
  replace hB4 := below_then hB1 hB4
  replace hT := hT.then_ hT.size hB4
  replace hB4 := below_then hB2 hB4
  clear hE1 hR1 hB1 hB2
  go_upto_region 4 with (first
    | (go_at_call 22; refine (letter_any w4).mono ?_; rintro e w5 ⟨A1, B1, c1, d1, rfl, hE1, hR1, hB1⟩)
    | (go_at_call 11; refine (begin_let w5 A1 B1 c1 d1 hE1 hR1 (hT.then_ hT.size hB1)).mono ?_; rintro e w6 ⟨hB6, gw, gm, lo, nb, rfl, hlo, hgw, hW6⟩))
  replace hB6 := below_then hB1 hB6
  replace hT := hT.then_ hT.size hB6
  replace hB6 := below_then hB4 hB6
  have hgw2 : w.heap.size ≤ gw := by have := hB4.size; have := hB1.size; omega
  clear hE1 hR1 hB1 hB4 hlo hgw
  go_upto_region 7 with (go_at_call 14; refine (byte_any lo nb gw gm 2 letE letR _ 97 (by decide) w6 hW6 hT).mono ?_; rintro e w7 ⟨rfl, hW7, hg7⟩)
  replace hT := tab_walk hW6 hT hg7
  have hB7 := below_grown hB6 hg7 hgw2
  rw [let_a] at hW7
  clear hW6 hB6 hg7
  go_upto_region 8 with (go_at_call 19; refine (states_of lo nb gw gm 2 letE letR _ w7 hW7 hT [0, 1] (by decide) (by decide)).mono ?_; rintro e w8 ⟨gl, cl, rfl, hl8, hB8⟩)
  replace hT := hT.then_ hT.size hB8
  have hW8 := hW7.then_ hB8
  replace hB8 := below_then hB7 hB8
  clear hW7 hB7
  go_upto_region 9 with (go_at_call 20; refine (rules_any lo nb gw gm 2 letE letR _ w8 hW8).mono ?_; rintro e w9 ⟨rfl, rfl⟩)
  go_upto_region 10 with (go_at_call 14; refine (byte_any lo nb gw gm 2 letE letR _ 120 (by decide) w9 hW8 hT).mono ?_; rintro e wa ⟨rfl, hWa, hga⟩)
  replace hT := tab_walk hW8 hT hga
  have hBa := below_grown hB8 hga hgw2
  have hla := hW8.own_ hl8 hga (by decide)
  rw [let_x3] at hWa
  clear hW8 hB8 hga hl8
  go_upto_region 11 with (go_at_call 19; refine (states_of lo nb gw gm 2 letE letR _ wa hWa hT [0] (by decide) (by decide)).mono ?_; rintro e wb ⟨gk, ck, rfl, _, hBb⟩)
  replace hT := hT.then_ hT.size hBb
  replace hWa := hWa.then_ hBb
  replace hla := hla.then_ hBb
  replace hBb := below_then hBa hBb
  clear hBa
  go_upto_region 12 with (go_at_call 11; refine (begin_zero wb hT).mono ?_; rintro e wc ⟨rfl, hBc⟩)
  replace hT := hT.then_ hT.size hBc
  replace hWa := hWa.then_ hBc
  replace hla := hla.then_ hBc
  replace hBc := below_then hBb hBc
  clear hBb
  have cl1 : wc.cell? ⟨gl, 1, none⟩ = some (.int .i64 1) := hla.row encN_size 1 (by decide) 0 _ rfl
  have hend := end_any lo nb gw gm 2 letE letR _ wc hWa hT
  rw [let_end] at hend
  go_wp2_with (go_at_call 21; refine hend.mono ?_; rintro e wd ⟨rfl, hBd⟩)
  go_ret
  exact ⟨rfl, below_then hBc hBd⟩
end Go.Proofs.YtgahdookojbbiaaDoor
