/- The walk of conf's Unquote. No condition beyond those named in each lemma. -/
import Derived.Test.YtjplgcmfifoefaaDoorByT
namespace Go.Proofs.YtjplgcmfifoefaaDoor
open Go.RowKit Go.Maps
set_option linter.unusedVariables false
set_option linter.unusedSimpArgs false
attribute [local go_sem] Oper.semAt_some

def unqZ (w : Bs) : Bs := (unq w).getD []
def unqE (w : Bs) : Int := if (unq w).isSome then 0 else 230
def strSz : Value → Nat
  | .string p => p.size
  | _ => 0
theorem escL_le {t : Bs} {b : UInt8} {n : Nat} (h : escL t = some (b, n)) : 1 ≤ n ∧ n ≤ 3 ∧ n ≤ t.length := by
  unfold escL at h
  split at h
  · cases h
  · split at h
    · injection h with h; injection h with _ h; subst h; simp
    · split at h
      · injection h with h; injection h with _ h; subst h; simp
      · split at h
        · injection h with h; injection h with _ h; subst h; simp
        · split at h
          · split at h
            · split at h
              · injection h with h; injection h with _ h; subst h; simp
              · cases h
            · cases h
          · cases h
theorem head_bytes {p : ByteArray} {c : UInt8} {t : Bs} (h : p.data.toList = c :: t) : ∃ h0 : 0 < p.size, p[0] = c ∧ p.size = t.length + 1 := by
  have hs : p.size = p.data.toList.length := by simp
  rw [h] at hs
  refine ⟨by rw [hs]; simp, ?_, by rw [hs]; simp⟩
  have : ∀ h0 : 0 < p.size, p[0] = p.data.toList[0]'(by simpa using h0) := fun _ => rfl
  rw [this]
  simp [h]
theorem last_bytes (p : ByteArray) (i : Nat) (h : i < p.size) : p.data.toList.getD i 0 = p[i] := by
  rw [List.getD_eq_getElem?_getD, List.getElem?_eq_getElem (by simpa using h)]
  rfl
set_option maxHeartbeats 4000000 in
theorem unquote_any (q : ByteArray) (hq : q.size ≤ 1099511627776) (w : World) : Calls Tryd.prog 27 #[.string q] w fun e w' => e = .returned (.tuple #[strV (unqZ q.data.toList), .int .i64 (unqE q.data.toList)]) ∧ Below w.heap.size w w' := by
  have hpl := plain_any q hq w
  by_cases hp : isPl q.data.toList = true
  · rw [hp] at hpl
    have hv : Hid (unq q.data.toList = some q.data.toList) := Lib.hid (by unfold unq; rw [if_pos hp])
    clear hp
    go_enter Tryd.func27, Tryd.ntmps27
    go_wp2_with (go_at_call 31; refine hpl.mono ?_; clear hpl; rintro e w' ⟨rfl, hw'⟩; subst w')
    go_ret2
    exact ⟨by unfold strV unqZ unqE; rw [hv.out, Option.getD_some, bytes_of]; rfl, Below.refl _ _⟩
  have hp' : isPl q.data.toList = false := by simpa using hp
  rw [hp'] at hpl
  clear hp
  have hU : unq q.data.toList = if q.size < 2 ∨ q.data.toList.getD 0 0 ≠ 34 ∨ q.data.toList.getD (q.size - 1) 0 ≠ 34 then none else unqG q.size ((q.data.toList.drop 1).take (q.size - 2)) := by
    unfold unq
    rw [if_neg (by simp [hp'])]
    simp
  clear hp'
  have none_ : unq q.data.toList = none → strV (unqZ q.data.toList) = .string ⟨#[]⟩ ∧ unqE q.data.toList = 230 := fun h => ⟨by unfold strV unqZ; rw [h]; rfl, by unfold unqE; rw [h]; rfl⟩
  by_cases c1 : q.size < 2
  · have f1 : (q.size : Int) < 2 := by omega
    have hv := Lib.hid (none_ (by rw [hU, if_pos (.inl c1)]))
    clear hU none_ c1
    go_enter Tryd.func27, Tryd.ntmps27
    go_wp2_with (go_at_call 31; refine hpl.mono ?_; clear hpl; rintro e w' ⟨rfl, hw'⟩; subst w')
    go_ret2
    exact ⟨by rw [hv.out.1, hv.out.2]; rfl, Below.refl _ _⟩
  have f1 : ¬ (q.size : Int) < 2 := by omega
  have h0 : 0 < q.size := by omega
  have hI0 : (0 : Int) < q.size := by omega
  have hl1 : q.size - 1 < q.size := by omega
  by_cases c2 : q[0].toNat = 34
  case neg =>
    have f2 : (((q[0].toNat : Nat) : Int) != 34) = true := bne_iff_ne.2 (by omega)
    have hv := Lib.hid (none_ (by rw [hU, if_pos (.inr (.inl (by rw [last_bytes q 0 h0]; intro h; exact c2 (by rw [h]; rfl))))]))
    clear hU none_ c1 c2
    go_enter Tryd.func27, Tryd.ntmps27
    go_wp2_with (go_at_call 31; refine hpl.mono ?_; clear hpl; rintro e w' ⟨rfl, hw'⟩; subst w')
    go_ret2
    exact ⟨by rw [hv.out.1, hv.out.2]; rfl, Below.refl _ _⟩
  have f2 : (((q[0].toNat : Nat) : Int) != 34) = false := Bool.eq_false_iff.2 (fun h => bne_iff_ne.1 h (by omega))
  have e3 : ((q.size : Int) - 1).toNat = q.size - 1 := by omega
  by_cases c3 : q[q.size - 1].toNat = 34
  case neg =>
    have f3 : (((q[q.size - 1].toNat : Nat) : Int) != 34) = true := bne_iff_ne.2 (by omega)
    have hv := Lib.hid (none_ (by rw [hU, if_pos (.inr (.inr (by rw [last_bytes q _ hl1]; intro h; exact c3 (by rw [h]; rfl))))]))
    clear hU none_ c1 c2 c3
    go_enter Tryd.func27, Tryd.ntmps27
    go_wp2_with (go_at_call 31; refine hpl.mono ?_; clear hpl; rintro e w' ⟨rfl, hw'⟩; subst w')
    go_ret2
    exact ⟨by rw [hv.out.1, hv.out.2]; rfl, Below.refl _ _⟩
  have f3 : (((q[q.size - 1].toNat : Nat) : Int) != 34) = false := Bool.eq_false_iff.2 (fun h => bne_iff_ne.1 h (by omega))
  have hU2 : Hid (unq q.data.toList = unqG q.size ((q.data.toList.drop 1).take (q.size - 2))) := Lib.hid (by
    rw [hU, if_neg]
    rw [last_bytes q 0 h0, last_bytes q _ hl1]
    have g1 : q[0] = 34 := UInt8.toNat_inj.1 c2
    have g2 : q[q.size - 1] = 34 := UInt8.toNat_inj.1 c3
    rw [g1, g2]
    simp
    omega)
  have hN := Lib.hid none_
  clear hU none_ c1 c2 c3
  go_enter Tryd.func27, Tryd.ntmps27
  go_wp2_with (go_at_call 31; refine hpl.mono ?_; clear hpl; rintro e w' ⟨rfl, hw'⟩; subst w')
  clear hI0 f2 f3
  go_loopw [4, 5] (fun bv pv wr => ∃ (acc : Bs) (A : Option Addr) (c : Nat) (p : ByteArray) (f : Nat), bv = .slice A acc.length c ∧ pv = .string p ∧ Own wr w.heap.size 5 1 encB (.slice A acc.length c) acc ∧ Below w.heap.size w wr ∧ Hid (unq q.data.toList = (unqG f p.data.toList).map (acc ++ ·)) ∧ p.size ≤ f ∧ acc.length + p.size ≤ q.size) (fun _ pv _ => strSz pv)
  case atStart =>
    refine ⟨[], none, 0, _, q.size, rfl, rfl, Own.nil_ _ _ _ _ _, Below.refl _ _, Lib.hid ?_, ?_, ?_⟩
    · have e : (q.extract 1 (q.size - 1)).data.toList = (q.data.toList.drop 1).take (q.size - 2) := by
        rw [extract_bytes _ _ _ (by omega), List.drop_take]
        congr 1
      first
        | (rw [hU2.out, ← e]; simp)
        | (rw [e3, hU2.out, ← e]; simp)
    · first
        | (rw [ByteArray.size_extract]; omega)
        | (rw [e3, ByteArray.size_extract]; omega)
    · first
        | (rw [ByteArray.size_extract]; simp; omega)
        | (rw [e3, ByteArray.size_extract]; simp; omega)
  case round =>
    obtain ⟨acc, A, c, p, f, rfl, rfl, ho, hB, hu, hpf, hap⟩ := hrel
    obtain ⟨l, hl⟩ : ∃ l, p.data.toList = l := ⟨_, rfl⟩
    cases l with
    | nil =>
      have he : p.toList.isEmpty = true := by rw [Lib.toList_data, hl]; rfl
      have hv : Hid (unq q.data.toList = some acc) := Lib.hid (by rw [hu.out, hl, unqG_nil]; simp)
      clear hu hl
      go_wp2_with (refine wl_conv_str rfl _ rfl acc rfl rfl (ho.slice_all encB_size) ?_)
      go_ret2
      exact ⟨by unfold strV unqZ unqE; rw [hv.out]; rfl, hB⟩
    | cons x t =>
      have he : p.toList.isEmpty = false := by rw [Lib.toList_data, hl]; rfl
      obtain ⟨h0, hx, hsz⟩ := head_bytes hl
      have hI0 : (0 : Int) < p.size := by omega
      obtain ⟨f, rfl⟩ : ∃ g, f = g + 1 := ⟨f - 1, by omega⟩
      have hu2 := hu.out
      rw [hl] at hu2
      have hms : ∀ k, (p.extract k p.size).data.toList = p.data.toList.drop k := fun k => by rw [extract_bytes _ _ _ (Nat.le_refl _), List.take_of_length_le (by simp)]
      by_cases c1 : x.toNat = 92
      · have f1 : (((p[0].toNat : Nat) : Int) == 92) = true := beq_iff_eq.2 (by rw [hx]; omega)
        have kE := fun W => esc_any (p.extract 1 p.size) (by rw [ByteArray.size_extract]; omega) W
        have e1 : (p.extract 1 p.size).data.toList = t := by rw [hms, hl]; rfl
        rw [e1] at kE
        have hp1 : (1 : Int) ≤ p.size := by omega
        cases hE : escL t with
        | none =>
          have e2 : escZ t = (0, 0) := by unfold escZ; rw [hE]; rfl
          rw [e2] at kE
          dsimp only at kE
          have hv := Lib.hid (hN.out (by rw [hu2, unqG, if_pos c1, hE]; rfl))
          clear hu hu2 hl hms hx c1 e1 e2 hE hsz
          go_wp2_with (go_at_call 43; refine (kE _).mono ?_; clear kE; rintro e w3 ⟨rfl, hB3⟩)
          go_ret2
          exact ⟨by rw [hv.out.1, hv.out.2]; rfl, below_then hB hB3⟩
        | some bn =>
          obtain ⟨b, n⟩ := bn
          obtain ⟨hn1, hn3, hnt⟩ := escL_le hE
          have e2 : escZ t = (b, n) := by unfold escZ; rw [hE]; rfl
          rw [e2] at kE
          dsimp only at kE
          have hu3 : Hid (unq q.data.toList = (unqG f (p.extract (n + 1) p.size).data.toList).map (acc ++ [b] ++ ·)) := Lib.hid (by
            rw [hu2, unqG, if_pos c1, hE, hms, hl, List.drop_succ_cons]
            show ((unqG f (t.drop n)).map (b :: ·)).map (acc ++ ·) = _
            cases unqG f (t.drop n) <;> simp)
          have f2 : (((n : Nat) : Int) == 0) = false := beq_eq_false_iff_ne.2 (by omega)
          have hnI : ((n : Nat) : Int) + 1 ≤ p.size := by omega
          have hnI0 : (0 : Int) ≤ ((n : Nat) : Int) + 1 := by omega
          have hsz3 : Hid ((p.extract (n + 1) p.size).size = p.size - (n + 1)) := Lib.hid (by rw [ByteArray.size_extract]; omega)
          clear hu hu2 hl hms hx c1 e1 e2 hE hsz
          go_wp2_with (first
            | (go_at_call 43; refine (kE _).mono ?_; clear kE; rintro e w3 ⟨rfl, hB3⟩)
            | (refine wl_bs1 rfl _ rfl b rfl ?_)
            | (refine wl_pushB rfl _ _ rfl w.heap.size acc b rfl rfl (Blk.new _ _ _) ((ho.then_ hB3).alloc _) rfl (by omega) (by have := (below_then hB hB3).size; rw [World.size_alloc]; omega) ?_; intro A8 c8 w8 ho8 hg8))
          have hB8 : Below w.heap.size w w8 := below_own (below_alloc (below_then hB hB3) (.cells (encB b) 5)) hg8 (fun k e => (ho.lt k e).1)
          have e9 : (acc ++ [b]).length = acc.length + 1 := by simp
          refine ⟨⟨acc ++ [b], A8, c8, _, f, by rw [e9], rfl, by rw [e9]; exact ho8, hB8, hu3, by rw [hsz3.out]; omega, by rw [e9, hsz3.out]; omega⟩, ?_⟩
          show (p.extract (n + 1) p.size).size < p.size
          rw [hsz3.out]
          omega
      · have f1 : (((p[0].toNat : Nat) : Int) == 92) = false := beq_eq_false_iff_ne.2 (by rw [hx]; omega)
        by_cases c2 : x.toNat < 32 ∨ x.toNat = 127 ∨ x.toNat = 34
        · have hv := Lib.hid (hN.out (by rw [hu2, unqG, if_neg c1, if_pos c2]; rfl))
          clear hu hu2 hl hms hsz
          rcases (by omega : x.toNat < 32 ∨ (¬ x.toNat < 32 ∧ x.toNat = 127) ∨ (¬ x.toNat < 32 ∧ ¬ x.toNat = 127 ∧ x.toNat = 34)) with d1 | ⟨d1, d2⟩ | ⟨d1, d2, d3⟩
          · have g1 : ((p[0].toNat : Nat) : Int) < 32 := by rw [hx]; omega
            clear hx c1 c2 d1
            go_wp2_with (fail)
            go_ret2
            exact ⟨by rw [hv.out.1, hv.out.2]; rfl, hB⟩
          · have g1 : ¬ ((p[0].toNat : Nat) : Int) < 32 := by rw [hx]; omega
            have g2 : (((p[0].toNat : Nat) : Int) == 127) = true := beq_iff_eq.2 (by rw [hx]; omega)
            clear hx c1 c2 d1 d2
            go_wp2_with (fail)
            go_ret2
            exact ⟨by rw [hv.out.1, hv.out.2]; rfl, hB⟩
          · have g1 : ¬ ((p[0].toNat : Nat) : Int) < 32 := by rw [hx]; omega
            have g2 : (((p[0].toNat : Nat) : Int) == 127) = false := beq_eq_false_iff_ne.2 (by rw [hx]; omega)
            have g3 : (((p[0].toNat : Nat) : Int) == 34) = true := beq_iff_eq.2 (by rw [hx]; omega)
            clear hx c1 c2 d1 d2 d3
            go_wp2_with (fail)
            go_ret2
            exact ⟨by rw [hv.out.1, hv.out.2]; rfl, hB⟩
        · have g1 : ¬ ((p[0].toNat : Nat) : Int) < 32 := by rw [hx]; omega
          have g2 : (((p[0].toNat : Nat) : Int) == 127) = false := beq_eq_false_iff_ne.2 (by rw [hx]; omega)
          have g3 : (((p[0].toNat : Nat) : Int) == 34) = false := beq_eq_false_iff_ne.2 (by rw [hx]; omega)
          have hu3 : Hid (unq q.data.toList = (unqG f (p.extract 1 p.size).data.toList).map (acc ++ [p[0]] ++ ·)) := Lib.hid (by
            rw [hu2, unqG, if_neg c1, if_neg c2, hms, hl, hx, List.drop_succ_cons, List.drop_zero]
            cases unqG f t <;> simp)
          have hp1 : (1 : Int) ≤ p.size := by omega
          have hsz3 : Hid ((p.extract 1 p.size).size = p.size - 1) := Lib.hid (by rw [ByteArray.size_extract]; omega)
          clear hu hu2 hl hms hsz hx c1 c2
          go_wp2_with (first
            | (refine wl_bs1 rfl _ rfl p[0] rfl ?_)
            | (refine wl_pushB rfl _ _ rfl w.heap.size acc p[0] rfl rfl (Blk.new _ _ _) (ho.alloc _) rfl (by omega) (by have := hB.size; rw [World.size_alloc]; omega) ?_; intro A8 c8 w8 ho8 hg8))
          have hB8 : Below w.heap.size w w8 := below_own (below_alloc hB (.cells (encB p[0]) 5)) hg8 (fun k e => (ho.lt k e).1)
          have e9 : (acc ++ [p[0]]).length = acc.length + 1 := by simp
          refine ⟨⟨acc ++ [p[0]], A8, c8, _, f, by rw [e9], rfl, by rw [e9]; exact ho8, hB8, hu3, by rw [hsz3.out]; omega, by rw [e9, hsz3.out]; omega⟩, ?_⟩
          show (p.extract 1 p.size).size < p.size
          rw [hsz3.out]
          omega
theorem enter_unquote (args : Array Value) (w : World) : (callFunc 27 args).run Tryd.prog w = .ok (.enter 27 args) w := by kernel_rfl
end Go.Proofs.YtjplgcmfifoefaaDoor
