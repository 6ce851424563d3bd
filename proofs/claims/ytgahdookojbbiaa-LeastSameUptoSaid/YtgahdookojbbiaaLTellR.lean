/- The least table of a table that fits: it fits, goes alike, and is its own least table. No condition beyond those named in each lemma. -/
import Derived.Test.YtgahdookojbbiaaLTellQ
namespace Go.Proofs.Ytgahdookojbbiaa
open Go.RowKit Go.Maps
set_option linter.unusedVariables false
set_option linter.unusedSimpArgs false

open Classical in
theorem ker_some (A : Au) : Ker A (epsilon (Ker A)) := by
  have hx : ∃ k, Ker A k := by
    refine ⟨fun s => ((epsilon fun t : Nat => Alk A s A t : Nat) : Int), fun s t _ _ => ⟨fun h => ?_, fun h => ?_⟩⟩
    · have h1 : Alk A s A (epsilon fun u : Nat => Alk A s A u) := epsilon_spec (p := fun u => Alk A s A u) ⟨s, Alk.refl A s⟩
      have h2 : Alk A t A (epsilon fun u : Nat => Alk A t A u) := epsilon_spec (p := fun u => Alk A t A u) ⟨t, Alk.refl A t⟩
      have h3 : (epsilon fun u : Nat => Alk A s A u) = epsilon fun u : Nat => Alk A t A u := Int.ofNat_inj.1 h
      rw [h3] at h1
      exact h1.trans h2.symm
    · have : (fun u : Nat => Alk A s A u) = fun u : Nat => Alk A t A u := by
        funext u
        exact propext ⟨fun k => h.symm.trans k, fun k => h.trans k⟩
      simp only [this]
  exact epsilon_spec hx
theorem leastOf_fits {T : Tb} (h : Fits T) : Fits (leastOf T) := by
  rw [leastOf_eps h]; exact least_fits h (ker_some _)
theorem leastOf_like {T : Tb} (h : Fits T) : Alk (leastOf T).au 0 T.au 0 := by
  rw [leastOf_eps h]; exact least_like h.ok (ker_some _)
theorem leastOf_alk {T R : Tb} (h : Fits T) (k : Fits R) (ha : Alk T.au 0 R.au 0) : leastOf T = leastOf R := by
  rw [leastOf_eps h, leastOf_eps k]
  exact least_alk h.ok k.ok (ker_some _) (ker_some _) ha
theorem leastOf_twice {T : Tb} (h : Fits T) : leastOf (leastOf T) = leastOf T := leastOf_alk (leastOf_fits h) h (leastOf_like h)
theorem alk_tells {A B : Au} (h : Alk A 0 B 0) (u : List Nat) : ¬ Tells A B u := fun ht => ht.2 (by rw [h u fun b hb => (ht.1 b hb).1])
theorem leastOf_len {T : Tb} (h : Fits T) : (leastOf T).nx.length ≤ T.nx.length := by
  rw [leastOf_eps h]
  have := likes_len h.ok (Classical.epsilon (Ker T.au))
  have e : (leastT T.au (Classical.epsilon (Ker T.au))).nx.length = (likes T.au (Classical.epsilon (Ker T.au))).length := by show (List.map _ _).length = _; simp
  rw [e]; exact this
/-- the byte at a place of a text -/
def chr (q : ByteArray) (i : Nat) : Nat := if h : i < q.size then (q[i]).toNat else 0
theorem chr_lt (q : ByteArray) (i : Nat) : chr q i < 256 := by
  unfold chr
  split
  · exact UInt8.toNat_lt _
  · omega
theorem gs_index_str {ops : Array Oper} {S : Nat → GSpec} {Q : Exit → Act → World → Prop} {i : Nat} {o : Oper} {a : Act} {w : World} (hw : Region.wanted o (yielded ops a.tmps) = true) (x ix : Operand) (ho : o.op = .index 9 x ix) (q : ByteArray) (k : Nat) (hx : a.eval x = .string q) (hi : a.eval ix = .int .i64 k) (hk : k < q.size)
    (hp : (S i).p (.int .u8 ((chr q k : Nat) : Int)) w) : GStep Try.prog ops S Q i o a w :=
  gs_run hw (v := .int .u8 ((chr q k : Nat) : Int)) (by
    unfold execOp
    have e := run_index_string (P := Try.prog) w 9 q .i64 (k : Int) Try.underlying9
    rw [dif_pos ⟨by omega, by omega⟩] at e
    have e2 : chr q k = (q[((k : Int)).toNat]'(by omega)).toNat := by unfold chr; rw [dif_pos hk]; rfl
    simp only [ho, hx, hi, Sem.run_bind, e, e2, Result.andThen_ok, Sem.run_pure]) (Below.refl _ _) hp
theorem index_cls8 (b off m : Nat) (hm : m < 256) (w : World) : (Instr.indexAt 44 (.pointer (some ⟨b, off, none⟩)) (.int .u8 m)).run Try.prog w = .ok (.pointer (some ⟨b, off + m * 1, none⟩)) w := by
  have e := run_indexAt_array (P := Try.prog) w 44 ⟨b, off, none⟩ .u8 (m : Int) under_cls
  rw [if_pos ⟨by omega, by rw [len_cls]; omega⟩, size_clsE] at e
  simp only [Int.toNat_natCast, Result.andThen_ok, addr_add] at e
  exact e
theorem gs_index_arr8 {ops : Array Oper} {S : Nat → GSpec} {Q : Exit → Act → World → Prop} {i : Nat} {o : Oper} {a : Act} {w : World} (hw : Region.wanted o (yielded ops a.tmps) = true) (x ix : Operand) (ho : o.op = .indexAddr 44 x ix) (b m : Nat) (hx : a.eval x = .pointer (some ⟨b, 0, none⟩)) (hi : a.eval ix = .int .u8 m) (hm : m < 256)
    (hp : (S i).p (.pointer (some ⟨b, 0 + m * 1, none⟩)) w) : GStep Try.prog ops S Q i o a w :=
  gs_run hw (v := .pointer (some ⟨b, 0 + m * 1, none⟩)) (by
    unfold execOp
    simp only [ho, hx, hi, Sem.run_bind, index_cls8 b 0 m hm, Result.andThen_ok, Sem.run_pure]) (Below.refl _ _) hp
end Go.Proofs.Ytgahdookojbbiaa
