/- sim.Line. No condition beyond those named in each lemma. -/
import Derived.Test.YtgahdookojbbiaaDoorSimN
namespace Go.Proofs.YtgahdookojbbiaaDoor
open Go.RowKit Go.Shelf Go.Maps
set_option linter.unusedVariables false
set_option linter.unusedSimpArgs false
attribute [local go_sem] Oper.semAt_some

/-- the bytes of a line -/
def bytesL (ln : ByteArray) : List Nat := ln.data.toList.map (·.toNat)
theorem bytesL_length (ln : ByteArray) : (bytesL ln).length = ln.size := by
  unfold bytesL
  rw [List.length_map]
  rfl
noncomputable def goesW (E : List Edg) (N : Nat) (R : List Nat) (cs : List Nat) (k : Wk) : Wk := cs.foldl (byteW E N R) k
theorem goesW_snoc (E : List Edg) (N : Nat) (R : List Nat) (cs : List Nat) (c : Nat) (k : Wk) : goesW E N R (cs ++ [c]) k = byteW E N R (goesW E N R cs k) c := by simp [goesW]
theorem bytesL_get (ln : ByteArray) (k : Nat) (h : k < ln.size) (h2 : k < (bytesL ln).length) : (bytesL ln)[k] = (ln[k]).toNat :=
  (List.getElem_map (fun x : UInt8 => x.toNat) (l := ln.data.toList) (i := k) (h := h2)).trans rfl
theorem bytesL_take (ln : ByteArray) (k : Nat) (h : k < ln.size) : (bytesL ln).take (k + 1) = (bytesL ln).take k ++ [(ln[k]).toNat] := by
  have h2 : k < (bytesL ln).length := by rw [bytesL_length]; exact h
  rw [List.take_succ_eq_append_getElem h2, bytesL_get ln k h h2]
set_option maxRecDepth 100000 in
set_option maxHeartbeats 4000000 in
theorem line_any (s : Int) (A : Option Addr) (n c0 : Nat) (B : Option Addr) (m d0 : Nat) (E : List Edg) (R : List Nat) (ln : ByteArray) (hn : n = E.length) (hm : m = R.length) (hE : E.length ≤ 1099511627776) (hRl : R.length ≤ 1099511627776) (hR : ∀ r ∈ R, r < 4294967296) (w : World)
    (hsE : SliceOf w w.heap.size 7 edgC A E) (hsR : SliceOf w w.heap.size 1 encR B R) (hT : TabOk w) (hln : ln.size ≤ 1099511627776) :
    Calls Tryd.prog 8 #[.agg (nfaC s A n c0 B m d0), .string ln] w fun e w' => Below w.heap.size w w' ∧
      ((rightB s E m = false ∧ e = .returned (.tuple #[.int .u32 0, .int .i64 70])) ∨
       (rightB s E m = true ∧ e = .returned (.tuple #[.int .u32 (endW E R.length R (goesW E R.length R (bytesL ln) (begW E R.length R)) : Nat), .int .i64 0]))) := by
  have hbeg := fun w1 h1 h2 h3 => begin_any s A n c0 B m d0 E R hn hm hE hRl hR w1 h1 h2 h3
  clear hn hm
  go_enter Tryd.func8, Tryd.ntmps8
  have h1 := Blk.new w 25 (nfaC s A n c0 B m d0)
  have hB1 : Below w.heap.size w (w.alloc (.cells (nfaC s A n c0 B m d0) 25)) := below_alloc (Below.refl _ _) _
  go_upto_region 1 with (fail)
  obtain ⟨W1, hW1⟩ : ∃ y, y = w.alloc (.cells (nfaC s A n c0 B m d0) 25) := ⟨_, rfl⟩
  rw [← hW1] at h1 hB1 ⊢
  clear hW1
  replace hbeg := hbeg W1 ((hsE.below hB1).more hB1.size) ((hsR.below hB1).more hB1.size) (hT.then_ hT.size hB1)
  rcases hrb : rightB s E m with _ | _
  · have hbeg2 : Calls Tryd.prog 11 #[.agg (nfaC s A n c0 B m d0)] W1 fun e w' => Below W1.heap.size W1 w' ∧ e = .returned (.tuple #[.pointer none, .int .i64 70]) := hbeg.mono (fun e w' ⟨q1, q2⟩ => ⟨q1, by
      rcases q2 with q2 | q2
      · exact q2.2
      · rw [hrb] at q2; exact absurd q2.1 (by decide)⟩)
    clear hbeg
    go_wp2_with (first | (refine wl_load_nfa rfl _ rfl _ rfl _ _ _ _ _ _ _ h1 ?_) | (go_at_call 11; refine hbeg2.mono ?_; rintro e w3 ⟨hB3, rfl⟩))
    go_ret2
    exact ⟨below_then hB1 hB3, .inl ⟨hrb, rfl⟩⟩
  · have hbeg2 : Calls Tryd.prog 11 #[.agg (nfaC s A n c0 B m d0)] W1 fun e w' => Below W1.heap.size W1 w' ∧ ∃ gw gm lo nb, e = .returned (.tuple #[.pointer (some ⟨gw, 0, none⟩), .int .i64 0]) ∧ W1.heap.size ≤ lo ∧ W1.heap.size ≤ gw ∧ WalkOk lo nb w' gw gm R.length E R (begW E R.length R) := hbeg.mono (fun e w' ⟨q1, q2⟩ => ⟨q1, by
      rcases q2 with q2 | q2
      · rw [hrb] at q2; exact absurd q2.1 (by decide)
      · exact q2.2⟩)
    clear hbeg
    go_upto_region 4 with (first | (refine wl_load_nfa rfl _ rfl _ rfl _ _ _ _ _ _ _ h1 ?_) | (go_at_call 11; refine hbeg2.mono ?_; rintro e w3 ⟨hB3, gw, gm, lo, nb, rfl, hlo, hgw, hW3⟩))
    replace hB1 := below_then hB1 hB3
    have hT3 := hT.then_ hT.size hB1
    have hgw2 : w.heap.size ≤ gw := by have := h1.lt; omega
    clear hbeg2 hB3 h1 hlo hgw
    obtain ⟨N, hN⟩ : ∃ N, N = R.length := ⟨_, rfl⟩
    rw [← hN] at hW3
    have HN := Lib.hid hN
    clear hN
    go_wp2_with (fail)
    have Hsz := Lib.hid (bytesL_length ln).symm
    go_loopw [19] (fun i wr => ∃ k : Nat, k ≤ ln.size ∧ i = .int .i64 k ∧ WalkOk lo nb wr gw gm N E R (goesW E N R ((bytesL ln).take k) (begW E N R)) ∧ Below w.heap.size w wr ∧ TabOk wr) (fun i _ => ln.size - (intOf i).toNat)
    case atStart => exact ⟨0, by omega, rfl, hW3, hB1, hT3⟩
    case round =>
      clear hW3 hB1 hT3
      obtain ⟨k, hk, rfl, hW3, hB1, hT3⟩ := hrel
      by_cases hkl : k < ln.size
      · have hkI : (k : Int) < ln.size := by omega
        have hstep : goesW E N R ((bytesL ln).take (k + 1)) (begW E N R) = byteW E N R (goesW E N R ((bytesL ln).take k) (begW E N R)) (ln[k]).toNat := by
          rw [bytesL_take ln k hkl, goesW_snoc]
        have Hst := Lib.hid hstep
        clear hstep
        go_wp2_with (go_at_call 14; refine (byte_any lo nb gw gm N E R _ (ln[k]).toNat (UInt8.toNat_lt _) wr hW3 hT3).mono ?_; rintro e wc ⟨rfl, hWc, hgc⟩)
        have hlb := hW3.lt
        exact ⟨⟨k + 1, by omega, rfl, by rw [Hst.out]; exact hWc, below_grown hB1 hgc hgw2, tab_grown hT3 hgc (by have := hW3.1.ok.2.2.2.2.1; have := hW3.2.1; omega)⟩, by simp only [intOf]; omega⟩
      · have hkI : ¬ (k : Int) < ln.size := by omega
        rw [List.take_of_length_le (by rw [← Hsz.out]; omega)] at hW3
        go_wp2_with (go_at_call 21; refine (end_any lo nb gw gm N E R _ wr hW3 hT3).mono ?_; rintro e wc ⟨rfl, hBc⟩)
        go_ret2
        refine ⟨below_then hB1 hBc, .inr ⟨hrb, ?_⟩⟩
        rw [← HN.out]
        rfl
end Go.Proofs.YtgahdookojbbiaaDoor
