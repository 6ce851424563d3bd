/- What heronlaw26's fixed finds: the document's own examples. -/
import Derived.Test.YtjplgcmfifoefaaDoorQtU
namespace Go.Proofs.YtjplgcmfifoefaaDoor
open Go.RowKit Go.Maps
set_option linter.unusedVariables false
set_option linter.unusedSimpArgs false
attribute [local go_sem] Oper.semAt_some

def lineA : Bs := [97, 110, 115, 119, 101, 114, 32, 110, 111, 32, 45, 51]
def lineB : Bs := [32, 97, 112, 112, 101, 110, 100, 32, 97, 46, 108, 111, 103, 32, 34, 120, 32, 121, 92, 110, 34, 32]
def lineC : Bs := [112, 111, 108, 108, 32, 48, 49]
set_option maxRecDepth 100000 in
theorem fix_a : parseE lineA = some ⟨9, [], [], [], -3, false, []⟩ := by decide +kernel
set_option maxRecDepth 100000 in
theorem fix_b : (parseE lineB).map Ev.data = some [120, 32, 121, 10] := by decide +kernel
set_option maxRecDepth 100000 in
theorem fix_c : parseE lineC = none := by decide +kernel
set_option maxRecDepth 100000 in
theorem fix_d : printL ⟨12, [], [], [], 7, false, [1, -2]⟩ = [99, 114, 97, 115, 104, 32, 49, 32, 45, 50] := by decide +kernel
def markD : MkV := ⟨1, 1, 0, 3, 0, 0, 0, 0, 0⟩
def alertD : AlV := ⟨0, markD, ⟨#[97, 32, 98]⟩, 5⟩
set_option maxRecDepth 100000 in
theorem fix_e : joinW ((tellT 1 alertD 2 []).map quo) = [115, 101, 110, 116, 32, 48, 32, 49, 32, 49, 32, 48, 32, 51, 32, 50, 32, 53, 32, 34, 97, 32, 98, 34] := by decide +kernel
theorem parts_few : ∀ (f : Nat) (l : Bs) (ws : List Bs), partsG f l = some ws → ws.length ≤ l.length
  | 0, l, ws, h => by cases h
  | f + 1, l, ws, h => by
    have hd := (List.dropWhile_sublist (l := l) (· == 32)).length_le
    rw [partsG] at h
    split at h
    · injection h with h
      subst h
      exact Nat.zero_le _
    · rename_i hne
      split at h
      · obtain ⟨vs, hv, rfl⟩ := Option.map_eq_some_iff.1 h
        have := parts_few f _ vs hv
        rw [List.length_drop] at this
        obtain ⟨x, t, hm⟩ := List.exists_cons_of_ne_nil hne
        have h1 : 1 ≤ cutN (l.dropWhile (· == 32)) := by rw [hm]; exact cutN_pos (dw_head _ _ _ hm)
        have h2 : 1 ≤ (l.dropWhile (· == 32)).length := by rw [hm]; simp
        rw [List.length_cons]
        omega
      · cases h
theorem parse_small (q : ByteArray) (hq : q.size ≤ 1073741824) (w : World) (hS : SOk w) :
    Calls Tryd.prog 8 #[.string q] w fun e w' => (∃ er x ks, e = .returned (.tuple #[.agg x.C, .int .i64 er]) ∧ PsR q w.heap.size er x ks w') ∧ Below w.heap.size w w' :=
  parse_any q (by omega) (fun ws h => by
    have h9 := parts_few _ _ _ h
    have h8 : (tl q).length = q.size := by simp [tl]
    omega) w hS
set_option maxRecDepth 100000 in
set_option maxHeartbeats 8000000 in
theorem fixed_any (w : World) (hS : SOk w) : Calls Tryd.prog 6 #[] w fun e w' => e = .returned (.bool true) ∧ Below w.heap.size w w' := by
  have h7 := hS.size
  replace hS := Lib.hid hS
  have k1 := parse_small ⟨lineA.toArray⟩ (by decide) w hS.out
  go_enter Tryd.func6, Tryd.ntmps6
  go_upto_region 2 with (first
    | (go_at_call 8; refine k1.mono ?_; clear k1; rintro e w1 ⟨⟨er1, x1, ks1, rfl, hR1⟩, hB1⟩; refine Lib.hid ?_)
    | (refine wl_store_ev rfl _ _ rfl w1.heap.size x1 (evK 0) rfl rfl (Blk.new _ _ _) ?_; intro w2 hb2 hg2))
  have hB12 := below_grown (below_alloc (Below.refl w1.heap.size w1) _) hg2 (Nat.le_refl _)
  obtain ⟨he1, hv1⟩ := hR1.yes _ fix_a
  subst he1
  have hW2 : EvW w2 x1 ks1 := EvW.then_ (w := w1) ⟨hR1.len, by have h := hR1.few; have h2 := hR1.len; have h3 : (⟨lineA.toArray⟩ : ByteArray).size = 12 := rfl; omega, hR1.own.slice_all (fun _ => rfl)⟩ hB12
  have hB2 : Below w.heap.size w w2 := hB1.trans (hB12.mono hB1.size)
  have hz1 := hb2.lt
  have hz0 : w.heap.size ≤ w1.heap.size := hB1.size
  obtain ⟨g1, hg1⟩ : ∃ y, y = w1.heap.size := ⟨_, rfl⟩
  rw [← hg1] at hb2 hz1 hz0 ⊢
  replace hg1 := Lib.hid hg1
  replace hv1 := Lib.hid hv1
  clear hR1 hg2 hB12 hB1
  have k2 := parse_small ⟨lineB.toArray⟩ (by decide) w2 (hS.out.then_ h7 hB2)
  go_upto_region 3 with (first
    | (go_at_call 8; refine k2.mono ?_; clear k2; rintro e w3 ⟨⟨er2, x2, ks2, rfl, hR2⟩, hB3⟩; refine Lib.hid ?_)
    | (refine wl_store_ev rfl _ _ rfl w3.heap.size x2 (evK 0) rfl rfl (Blk.new _ _ _) ?_; intro w4 hb4 hg4))
  have hB34 := below_grown (below_alloc (Below.refl w3.heap.size w3) _) hg4 (Nat.le_refl _)
  obtain ⟨eB, hpB, hdB⟩ := Option.map_eq_some_iff.1 fix_b
  obtain ⟨he2, hv2⟩ := hR2.yes _ hpB
  subst he2
  have hx2d : x2.data.toList = [120, 32, 121, 10] := by
    have h9 := congrArg Ev.data hv2
    rw [hdB] at h9
    rw [Lib.toList_data]
    exact h9
  have hB24 : Below w2.heap.size w2 w4 := hB3.trans (hB34.mono hB3.size)
  have hW4 := hW2.then_ hB24
  have hb24 := blk_then hb2 hB24
  have hB4 : Below w.heap.size w w4 := hB2.trans (hB24.mono hB2.size)
  have hz3 := hb4.lt
  have hz2 : w2.heap.size ≤ w3.heap.size := hB3.size
  obtain ⟨g2, hg2⟩ : ∃ y, y = w3.heap.size := ⟨_, rfl⟩
  rw [← hg2] at hb4 hz3 hz2 ⊢
  replace hg2 := Lib.hid hg2
  replace hv2 := Lib.hid hv2
  replace hx2d := Lib.hid hx2d
  clear hR2 hg4 hB34 hB3 hW2 hb2 hB24 hB2 hpB hdB hv2
  have k3 := parse_small ⟨lineC.toArray⟩ (by decide) w4 (hS.out.then_ h7 hB4)
  go_upto_region 4 with (first
    | (go_at_call 8; refine k3.mono ?_; clear k3; rintro e w5 ⟨⟨er3, x3, ks3, rfl, hR3⟩, hB5⟩; refine Lib.hid ?_)
    | (refine wl_store_ev rfl _ _ rfl w5.heap.size x3 (evK 0) rfl rfl (Blk.new _ _ _) ?_; intro w6 hb6 hg6))
  have hB56 := below_grown (below_alloc (Below.refl w5.heap.size w5) _) hg6 (Nat.le_refl _)
  obtain ⟨he3, _⟩ := hR3.no fix_c
  subst he3
  have hB46 : Below w4.heap.size w4 w6 := hB5.trans (hB56.mono hB5.size)
  have hW6 := hW4.then_ hB46
  have hb16 := blk_then hb24 hB46
  have hb26 := blk_then hb4 hB46
  have hB6 : Below w.heap.size w w6 := hB4.trans (hB46.mono hB4.size)
  clear hR3 hg6 hB56 hB5 hW4 hb24 hb4 hB46 hB4
  obtain ⟨w6a, hw6a⟩ : ∃ y, y = w6.alloc (.cells #[.int .i64 1, .int .i64 (-2)] 3) := ⟨_, rfl⟩
  have hB6a : Below w6.heap.size w6 w6a := by rw [hw6a]; exact below_alloc (Below.refl _ _) _
  have hbl : Blk w6a w6.heap.size 3 #[.int .i64 1, .int .i64 (-2)] := by rw [hw6a]; exact Blk.new _ _ _
  have hsl : SliceOf w6a w6a.heap.size 1 encZ (some ⟨w6.heap.size, 0, none⟩) [1, -2] := by
    have ho : Own w6a 0 3 1 encZ (.slice (some ⟨w6.heap.size, 0, none⟩) 2 2) [1, -2] := own_made encZ_size hbl rfl rfl (Nat.zero_le _) (by unfold maxLen; decide)
    exact ho.slice_all encZ_size
  have k4 := print_any ⟨12, ⟨#[]⟩, ⟨#[]⟩, ⟨#[]⟩, 7, false, some ⟨w6.heap.size, 0, none⟩, 2, 2⟩ [1, -2] w6a ⟨Nat.zero_le _, Nat.zero_le _, Nat.zero_le _, rfl, (by show (2 : Nat) ≤ _; omega), ⟨(by show i64z 7; unfold i64z; omega), fun z hz => (by unfold i64z; rcases List.mem_cons.1 hz with rfl | hz; omega; rcases List.mem_cons.1 hz with rfl | hz; omega; cases hz)⟩, hsl⟩ (hS.out.then_ h7 (hB6.trans (hB6a.mono hB6.size)))
  have hpr : printL ((⟨12, ⟨#[]⟩, ⟨#[]⟩, ⟨#[]⟩, 7, false, some ⟨w6.heap.size, 0, none⟩, 2, 2⟩ : EvV).ev [1, -2]) = [99, 114, 97, 115, 104, 32, 49, 32, 45, 50] := fix_d
  have hpe : printE ((⟨12, ⟨#[]⟩, ⟨#[]⟩, ⟨#[]⟩, 7, false, some ⟨w6.heap.size, 0, none⟩, 2, 2⟩ : EvV).ev [1, -2]) = 0 := rfl
  rw [hpr, hpe] at k4
  unfold strV at k4
  clear hpr hpe hbl hsl
  go_upto_region 5 with (rw [← hw6a]; go_at_call 7; refine k4.mono ?_; clear k4; rintro e w7 ⟨rfl, hB7⟩; refine Lib.hid ?_)
  have hB67 : Below w6.heap.size w6 w7 := hB6a.trans (hB7.mono hB6a.size)
  have hW7 := hW6.then_ hB67
  have hb17 := blk_then hb16 hB67
  have hb27 := blk_then hb26 hB67
  have hBw7 : Below w.heap.size w w7 := hB6.trans (hB67.mono hB6.size)
  clear hB67 hB7 hW6 hb16 hb26 hB6 hB6a hw6a
  have k5 := tell_any ⟨1, alertD, 2, none, 0, 0⟩ [] w7 ⟨⟨(by show i64z 0; unfold i64z; omega), (by unfold MkV.ok i64z; decide), (by show (3 : Nat) ≤ _; omega), (by show (5 : Nat) < _; omega)⟩, (by show i64z 2; unfold i64z; omega), rfl, Nat.zero_le _, fun m hm => (by cases hm), .inl rfl⟩ (hS.out.then_ h7 hBw7)
  have hte : joinW ((tellT (⟨1, alertD, 2, none, 0, 0⟩ : NtV).kind (⟨1, alertD, 2, none, 0, 0⟩ : NtV).al (⟨1, alertD, 2, none, 0, 0⟩ : NtV).attempt []).map quo) = [115, 101, 110, 116, 32, 48, 32, 49, 32, 49, 32, 48, 32, 51, 32, 50, 32, 53, 32, 34, 97, 32, 98, 34] := fix_e
  rw [hte] at k5
  unfold strV at k5
  clear hte
  go_upto_region 6 with (go_at_call 12; refine k5.mono ?_; clear k5; rintro e w8 ⟨rfl, hB8⟩; refine Lib.hid ?_)
  have hW8 := hW7.then_ hB8
  have hb18 := blk_then hb17 hB8
  have hb28 := blk_then hb27 hB8
  have hBw8 : Below w.heap.size w w8 := hBw7.trans (hB8.mono hBw7.size)
  clear hB8 hW7 hb17 hb27 hBw7
  have k6 := same_any x1 ⟨9, ⟨#[]⟩, ⟨#[]⟩, ⟨#[]⟩, -3, false, none, 0, 0⟩ ks1 [] w8 hW8 ⟨rfl, Nat.zero_le _, .inl rfl⟩
  have hd1 : decide (x1.ev ks1 = (⟨9, ⟨#[]⟩, ⟨#[]⟩, ⟨#[]⟩, -3, false, none, 0, 0⟩ : EvV).ev []) = true := decide_eq_true (by rw [hv1.out]; rfl)
  rw [hd1] at k6
  replace hx2d := hx2d.out
  have fd : (x2.data.toList == [120, 32, 121, 10]) = true := by rw [hx2d]; rfl
  have cD : ∀ w9, Below w8.heap.size w8 w9 → w9.cell? ⟨g2, 3, none⟩ = some (.string x2.data) := fun w9 h9 => (h9.cell (p := ⟨g2, 3, none⟩) hb28.lt).trans (hb28.cellv (by rfl))
  clear hx2d
  have c10 : w8.cell? ⟨g1, 0, none⟩ = some (.int .i64 x1.kind) := hb18.cellv (by rfl)
  have c11 : w8.cell? ⟨g1, 1, none⟩ = some (.string x1.name) := hb18.cellv (by rfl)
  have c12 : w8.cell? ⟨g1, 2, none⟩ = some (.string x1.other) := hb18.cellv (by rfl)
  have c13 : w8.cell? ⟨g1, 3, none⟩ = some (.string x1.data) := hb18.cellv (by rfl)
  have c14 : w8.cell? ⟨g1, 4, none⟩ = some (.int .i64 x1.n) := hb18.cellv (by rfl)
  have c15 : w8.cell? ⟨g1, 5, none⟩ = some (.bool x1.yes) := hb18.cellv (by rfl)
  have c16 : w8.cell? ⟨g1, 6, none⟩ = some (.slice x1.A x1.m x1.c) := hb18.cellv (by rfl)
  go_wp2_with (first
    | (refine wpList_load_row rfl _ _ rfl g1 rfl _ _ _ _ hb18 Tryd.underlying24 rfl (info_ev.trans rfl) ?_)
    | (go_at_call 9; refine k6.mono ?_; clear k6; rintro e w9 ⟨rfl, hB9⟩; have cD9 := cD w9 hB9; clear cD))
  go_ret
  exact ⟨rfl, hBw8.trans (hB9.mono hBw8.size)⟩
end Go.Proofs.YtjplgcmfifoefaaDoor
