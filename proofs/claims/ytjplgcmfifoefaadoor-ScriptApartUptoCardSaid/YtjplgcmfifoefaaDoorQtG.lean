/- Lists of texts: one more appended; the walk of script's parts. No condition beyond those named in each lemma. -/
import Derived.Test.YtjplgcmfifoefaaDoorQtF
namespace Go.Proofs.YtjplgcmfifoefaaDoor
open Go.RowKit Go.Maps
set_option linter.unusedVariables false
set_option linter.unusedSimpArgs false
attribute [local go_sem] Oper.semAt_some

abbrev tl (q : ByteArray) : Bs := q.data.toList
def encQ (q : ByteArray) : Array Value := #[.string q]
theorem encQ_size (q : ByteArray) : (encQ q).size = 1 := rfl
theorem encQ_one (q : ByteArray) : (encQ q).all (·.oneCell') = true := by simp [encQ, Value.oneCell']
theorem info_s3 : (Tryd.prog.info? 9).map (fun i => (i.zero, i.size, i.bytes)) = some (some (.string ⟨#[]⟩), 1, 16) := by kernel_rfl
theorem run_bsS1 (w : World) (q : ByteArray) : (Instr.buildSlice 49 1 #[(0, .string q)]).run Tryd.prog w = .ok (.slice (some ⟨w.heap.size, 0, none⟩) 1 1) (w.alloc (.cells #[.string q] 9)) := by kernel_rfl
section
variable {ops : Array Oper} {rest : List Oper} {o : Oper} {a : Act} {w : World} {Q : Exit → Act → World → Prop}
theorem wl_bsS (hgd : o.guard = none) (x : Operand) (ho : o.op = .buildSlice 49 1 #[(0, x)]) (q : ByteArray) (hx : a.eval x = .string q)
    (h : wpList Tryd.prog ops Q rest (a.put o.dst (.slice (some ⟨w.heap.size, 0, none⟩) 1 1)) (w.alloc (.cells (encQ q) 9))) : wpList Tryd.prog ops Q (o :: rest) a w :=
  wpList_plain hgd fun _ hK => by
    unfold Oper.wp execOp
    simp only [ho, List.map_toArray, List.map_cons, List.map_nil, hx, Sem.run_bind, run_bsS1, Result.andThen_ok, Sem.run_pure]
    exact hK _ _ h
/-- texts appended to a row of the call's own -/
theorem wl_appS (hgd : o.guard = none) (s x : Operand) (ho : o.op = .call { callee := .builtin .append, args := #[s, x], argTypes := #[49, 49] })
    (base : Nat) (l ys : List ByteArray) {A B : Option Addr} {n c m d lo : Nat} (hs : a.eval s = .slice A n c) (hx : a.eval x = .slice B m d) (hm : m = ys.length) (hy : SliceOf w lo 1 encQ B ys) (hown : Own w base 9 1 encQ (.slice A n c) l) (hn : n = l.length) (hl : l.length + ys.length ≤ 1099511627776) (hbase : base ≤ w.heap.size)
    (h : ∀ A' c' w', Own w' base 9 1 encQ (.slice A' (n + m) c') (l ++ ys) → w.grownBy w' (Value.slice A n c).ownBlock → wpList Tryd.prog ops Q rest (a.put o.dst (.slice A' (n + m) c')) w') : wpList Tryd.prog ops Q (o :: rest) a w := by
  obtain ⟨ii, hii, hz0, hz1, hz2⟩ := info_parts info_s3
  subst hn
  subst hm
  refine wl_append _ hgd _ _ 49 ho base 9 ii _ 1 16 Tryd.underlying49 hii hz0 hz1 hz2 rfl (by decide) encQ_size encQ_one (.slice A l.length c) l hs hown lo _ ys.length d ys hx rfl hy (by unfold maxLen; omega) (by omega) hbase ?_
  intro v' w' ho' hg hv
  obtain ⟨A', c', rfl, _, _⟩ := ho'.shape
  have hl8 : (l ++ ys).length = l.length + ys.length := by simp
  rw [hl8] at ho' hv ⊢
  exact h _ _ _ ho' hg
end
theorem slice_oneQ {w : World} {g : Nat} {q : ByteArray} (h : Blk w g 9 (encQ q)) : SliceOf w w.heap.size 1 encQ (some ⟨g, 0, none⟩) [q] := slice_one (enc := encQ) h
theorem trim_any (q : ByteArray) (w : World) : Calls Tryd.prog 25 #[.string q, .string ⟨#[32]⟩] w fun e w' => e = .returned (.string ⟨((tl q).dropWhile (· == 32)).toArray⟩) ∧ w' = w :=
  Tryd.strings_TrimLeft_one q 32 (by decide) w
theorem dw_head : ∀ (l : Bs) (x : UInt8) (t : Bs), l.dropWhile (· == 32) = x :: t → x ≠ 32
  | [], x, t, h => by cases h
  | b :: l, x, t, h => by
    by_cases hb : (b == 32) = true
    · rw [List.dropWhile_cons_of_pos (p := fun y => y == 32) (by exact hb)] at h
      exact dw_head l x t h
    · rw [List.dropWhile_cons_of_neg (p := fun y => y == 32) (by exact hb)] at h
      injection h with h1 h2
      intro e
      rw [h1, e] at hb
      exact hb rfl
theorem cutN_pos {x : UInt8} {t : Bs} (hx : x ≠ 32) : 1 ≤ cutN (x :: t) := by
  unfold cutN
  split
  · simp only [List.length_cons]; omega
  · rw [List.findIdx_cons, beq_eq_false_iff_ne.2 hx]
    simp
/-- what parts answers -/
def PartsRes (q : ByteArray) (base : Nat) (e : Ending) (w : World) : Prop :=
  (∃ ps A c, partsG (q.size + 1) (tl q) = some (ps.map tl) ∧ e = .returned (.tuple #[.slice A ps.length c, .bool true]) ∧ Own w base 9 1 encQ (.slice A ps.length c) ps ∧ ps.length ≤ q.size)
  ∨ (partsG (q.size + 1) (tl q) = none ∧ e = .returned (.tuple #[.slice none 0 0, .bool false]))
set_option maxHeartbeats 4000000 in
theorem parts_any (q : ByteArray) (hq : q.size ≤ 1099511627776) (w : World) : Calls Tryd.prog 16 #[.string q] w fun e w' => PartsRes q w.heap.size e w' ∧ Below w.heap.size w w' := by
  obtain ⟨X, hX⟩ : ∃ X, partsG (q.size + 1) (tl q) = X := ⟨_, rfl⟩
  unfold PartsRes
  rw [hX]
  replace hX := Lib.hid hX
  go_enter Tryd.func16, Tryd.ntmps16
  go_wp2_with (fail)
  go_loopw [0, 4] (fun pv bv wr => ∃ (acc : List ByteArray) (A : Option Addr) (c : Nat) (p : ByteArray) (f : Nat), bv = .slice A acc.length c ∧ pv = .string p ∧ Own wr w.heap.size 9 1 encQ (.slice A acc.length c) acc ∧ Below w.heap.size w wr ∧ Hid (X = (partsG f (tl p)).map (acc.map tl ++ ·)) ∧ p.size < f ∧ acc.length + p.size ≤ q.size) (fun pv _ _ => strSz pv)
  case atStart => exact ⟨[], none, 0, q, q.size + 1, rfl, rfl, Own.nil_ _ _ _ _ _, Below.refl _ _, Lib.hid (by rw [hX.out]; simp), by omega, by simp⟩
  case round =>
    obtain ⟨acc, A, c, p, f, rfl, rfl, ho, hB, hu, hpf, hap⟩ := hrel
    obtain ⟨f, rfl⟩ : ∃ g, f = g + 1 := ⟨f - 1, by omega⟩
    have hu2 := hu.out
    have kT := trim_any p wr
    obtain ⟨m, hm⟩ : ∃ m, (tl p).dropWhile (· == 32) = m := ⟨_, rfl⟩
    have hml : m.length ≤ p.size := by
      rw [← hm]
      have := (List.dropWhile_sublist (l := tl p) (· == 32)).length_le
      simpa using this
    rw [hm] at kT
    obtain ⟨p1, hp1⟩ : ∃ p1 : ByteArray, ⟨m.toArray⟩ = p1 := ⟨_, rfl⟩
    have hpm : tl p1 = m := by rw [← hp1]
    have hps : p1.size = m.length := by rw [← hp1]; simp [ByteArray.size]
    rw [hp1] at kT
    clear hp1
    rw [partsG, hm] at hu2
    cases hmc : m with
    | nil =>
      have he : p1.toList.isEmpty = true := by rw [Lib.toList_data]; show (tl p1).isEmpty = true; rw [hpm, hmc]; rfl
      have hv : Hid (X = some (acc.map tl)) := Lib.hid (by rw [hu2, hmc]; simp)
      clear hu hu2 hm hml hps hpm hmc
      go_wp2_with (go_at_call 25; refine kT.mono ?_; clear kT; rintro e w3 ⟨rfl, hw3⟩; subst w3)
      go_ret2
      exact ⟨.inl ⟨acc, A, c, hv.out, rfl, ho, by omega⟩, hB⟩
    | cons x t =>
      have hne : m ≠ [] := by rw [hmc]; simp
      obtain ⟨k, hk⟩ : ∃ k, cutN m = k := ⟨_, rfl⟩
      have he : p1.toList.isEmpty = false := by rw [Lib.toList_data]; show (tl p1).isEmpty = false; rw [hpm, hmc]; rfl
      have hcn : 1 ≤ k := by rw [← hk, hmc]; exact cutN_pos (dw_head _ _ _ (hm.trans hmc))
      rw [if_neg hne] at hu2
      clear hmc
      have h10 : 0 < p1.size := by rw [hps]; exact List.length_pos_iff.2 hne
      have hkm : k ≤ p1.size := by rw [hps, ← hk]; exact cutN_le m
      have kC := cut_any p1 h10 (by omega)
      have kU := unquote_any (p1.extract 0 k) (by rw [ByteArray.size_extract]; omega)
      have hwl : tl (p1.extract 0 k) = m.take k := by
        show (p1.extract 0 k).data.toList = _
        rw [extract_bytes _ _ _ hkm, List.drop_zero]
        show (tl p1).take _ = _
        rw [hpm]
      have hrl : tl (p1.extract k p1.size) = m.drop k := by
        show (p1.extract k p1.size).data.toList = _
        rw [extract_bytes _ _ _ (Nat.le_refl _), List.take_of_length_le (by simp)]
        show (tl p1).drop _ = _
        rw [hpm]
      rw [show p1.data.toList = m from hpm, hk] at kC
      rw [show (p1.extract 0 k).data.toList = m.take k from hwl] at kU
      have hrz : Hid ((p1.extract k p1.size).size = p1.size - k) := Lib.hid (by rw [ByteArray.size_extract]; omega)
      obtain ⟨ok, hok⟩ : ∃ ok, cutE m = ok := ⟨_, rfl⟩
      obtain ⟨un, hun⟩ : ∃ un, unq (m.take k) = un := ⟨_, rfl⟩
      have hZ : unqZ (m.take k) = un.getD [] := by unfold unqZ; rw [hun]
      have hE : unqE (m.take k) = if un.isSome then 0 else 230 := by unfold unqE; rw [hun]
      rw [hok] at kC
      rw [hZ, hE] at kU
      have hcond : (k = m.length ∨ m.getD k 0 = 32) ↔ ok = true := by
        rw [← hok]
        unfold cutE
        rw [hk, Bool.or_eq_true, decide_eq_true_eq, beq_iff_eq]
      rw [hk, hun] at hu2
      cases ok with
      | false =>
        obtain ⟨ez, hez⟩ : ∃ z : Int, (if un.isSome then (0 : Int) else 230) = z := ⟨_, rfl⟩
        rw [hez] at kU
        clear hez
        have hv : Hid (X = none) := Lib.hid (by rw [hu2, if_neg (fun h => by have := hcond.1 h.1; cases this)]; rfl)
        clear hu hu2 hm hml hpm hwl hrl hk hok hun hZ hE hcond hps
        go_wp2_with (first
          | (go_at_call 25; refine kT.mono ?_; clear kT; rintro e w3 ⟨rfl, hw3⟩; subst w3)
          | (go_at_call 26; refine (kC _).mono ?_; clear kC; rintro e w4 ⟨rfl, hB4⟩)
          | (go_at_call 27; refine (kU _).mono ?_; clear kU; rintro e w5 ⟨rfl, hB5⟩))
        go_ret2
        exact ⟨.inr ⟨hv.out, rfl⟩, below_then (below_then hB hB4) hB5⟩
      | true =>
        cases un with
        | none =>
          have hv : Hid (X = none) := Lib.hid (by rw [hu2, if_neg (fun h => by cases h.2)]; rfl)
          rw [show (if (none : Option Bs).isSome then (0 : Int) else 230) = 230 from rfl] at kU
          clear hu hu2 hm hml hpm hwl hrl hk hok hun hZ hE hcond hps
          go_wp2_with (first
            | (go_at_call 25; refine kT.mono ?_; clear kT; rintro e w3 ⟨rfl, hw3⟩; subst w3)
            | (go_at_call 26; refine (kC _).mono ?_; clear kC; rintro e w4 ⟨rfl, hB4⟩)
            | (go_at_call 27; refine (kU _).mono ?_; clear kU; rintro e w5 ⟨rfl, hB5⟩))
          go_ret2
          exact ⟨.inr ⟨hv.out, rfl⟩, below_then (below_then hB hB4) hB5⟩
        | some uw =>
          rw [show (if (some uw).isSome then (0 : Int) else 230) = 0 from rfl] at kU
          have hv : Hid (X = (partsG f (tl (p1.extract k p1.size))).map ((acc ++ [p1.extract 0 k]).map tl ++ ·)) := Lib.hid (by
            rw [hu2, if_pos ⟨hcond.2 rfl, rfl⟩, hrl, List.map_append, List.map_cons, List.map_nil, hwl]
            cases partsG f (m.drop k) <;> simp)
          have hps2 := Lib.hid hps
          have hpz1 : 1 ≤ p.size := by omega
          clear hu hu2 hm hpm hwl hrl hk hok hun hZ hE hcond hps
          go_wp2_with (first
            | (go_at_call 25; refine kT.mono ?_; clear kT; rintro e w3 ⟨rfl, hw3⟩; subst w3)
            | (go_at_call 26; refine (kC _).mono ?_; clear kC; rintro e w4 ⟨rfl, hB4⟩)
            | (go_at_call 27; refine (kU _).mono ?_; clear kU; rintro e w5 ⟨rfl, hB5⟩)
            | (refine wl_bsS rfl _ rfl (p1.extract 0 k) rfl ?_)
            | (refine wl_appS rfl _ _ rfl w.heap.size acc [p1.extract 0 k] rfl rfl rfl (slice_oneQ (Blk.new _ _ _)) (((ho.then_ hB4).then_ hB5).alloc _) rfl (by rw [List.length_singleton]; omega) (by have := (below_then (below_then hB hB4) hB5).size; rw [World.size_alloc]; omega) ?_; intro A8 c8 w8 ho8 hg8))
          have hB8 : Below w.heap.size w w8 := below_own (below_alloc (below_then (below_then hB hB4) hB5) (.cells (encQ (p1.extract 0 k)) 9)) hg8 (fun k e => (ho.lt k e).1)
          have e9 : (acc ++ [p1.extract 0 k]).length = acc.length + 1 := by simp
          have hq2 := hps2.out
          refine ⟨⟨acc ++ [p1.extract 0 k], A8, c8, _, f, by rw [e9], rfl, by rw [e9]; exact ho8, hB8, hv, by rw [hrz.out]; omega, by rw [e9, hrz.out]; omega⟩, ?_⟩
          show (p1.extract k p1.size).size < p.size
          rw [hrz.out]
          omega
theorem enter_parts (args : Array Value) (w : World) : (callFunc 16 args).run Tryd.prog w = .ok (.enter 16 args) w := by kernel_rfl
end Go.Proofs.YtjplgcmfifoefaaDoor
