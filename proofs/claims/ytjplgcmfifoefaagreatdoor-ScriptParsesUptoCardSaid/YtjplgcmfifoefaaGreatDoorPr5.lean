/- Part 5 of a proof; packed: the texts that it was made of follow one another. No condition beyond those named in each lemma. -/
import Derived.Test.YtjplgcmfifoefaaGreatDoorPr4
namespace Go.Proofs.YtjplgcmfifoefaaGreatDoor
open Go.RowKit Go.Maps
set_option linter.unusedVariables false
set_option linter.unusedSimpArgs false
attribute [local go_sem] Oper.semAt_some

def lineA : Bs := [97, 110, 115, 119, 101, 114, 32, 110, 111, 32, 45, 51]
def lineB : Bs := [32, 97, 112, 112, 101, 110, 100, 32, 97, 46, 108, 111, 103, 32, 34, 120, 32, 121, 92, 110, 34, 32]
def lineC : Bs := [112, 111, 108, 108, 32, 48, 49]
set_option maxRecDepth 100000 in
theorem fix_a : parseE lineA = some ⟨9, [], [], [], -3, false, []⟩ := by decide +kernel
set_option maxRecDepth 100000 in
theorem fix_b : (parseE lineB).map Ev.data = some [120, 32, 121, 10] := by decide +kernel
set_option maxRecDepth 100000 in
theorem fix_c : parseE lineC = none := by decide +kernel
set_option maxRecDepth 100000 in
theorem fix_d : printL ⟨12, [], [], [], 7, false, [1, -2]⟩ = [99, 114, 97, 115, 104, 32, 49, 32, 45, 50] := by decide +kernel
def markD : MkV := ⟨1, 1, 0, 3, 0, 0, 0, 0, 0⟩
def alertD : AlV := ⟨0, markD, ⟨#[97, 32, 98]⟩, 5⟩
set_option maxRecDepth 100000 in
theorem fix_e : joinW ((tellT 1 alertD 2 []).map quo) = [115, 101, 110, 116, 32, 48, 32, 49, 32, 49, 32, 48, 32, 51, 32, 50, 32, 53, 32, 34, 97, 32, 98, 34] := by decide +kernel
theorem parts_few : ∀ (f : Nat) (l : Bs) (ws : List Bs), partsG f l = some ws → ws.length ≤ l.length
  | 0, l, ws, h => by cases h
  | f + 1, l, ws, h => by
    have hd := (List.dropWhile_sublist (l := l) (· == 32)).length_le
    rw [partsG] at h
    split at h
    · injection h with h
      subst h
      exact Nat.zero_le _
    · rename_i hne
      split at h
      · obtain ⟨vs, hv, rfl⟩ := Option.map_eq_some_iff.1 h
        have := parts_few f _ vs hv
        rw [List.length_drop] at this
        obtain ⟨x, t, hm⟩ := List.exists_cons_of_ne_nil hne
        have h1 : 1 ≤ cutN (l.dropWhile (· == 32)) := by rw [hm]; exact cutN_pos (dw_head _ _ _ hm)
        have h2 : 1 ≤ (l.dropWhile (· == 32)).length := by rw [hm]; simp
        rw [List.length_cons]
        omega
      · cases h
theorem parse_small (q : ByteArray) (hq : q.size ≤ 1073741824) (w : World) (hS : SOk w) :
    Calls Tryz.prog 8 #[.string q] w fun e w' => (∃ er x ks, e = .returned (.tuple #[.agg x.C, .int .i64 er]) ∧ PsR q w.heap.size er x ks w') ∧ Below w.heap.size w w' :=
  parse_any q (by omega) (fun ws h => by
    have h9 := parts_few _ _ _ h
    have h8 : (tl q).length = q.size := by simp [tl]
    omega) w hS
set_option maxRecDepth 100000 in
set_option maxHeartbeats 8000000 in
theorem fixed_any (w : World) (hS : SOk w) : Calls Tryz.prog 6 #[] w fun e w' => e = .returned (.bool true) ∧ Below w.heap.size w w' := by
  have h7 := hS.size
  replace hS := Lib.hid hS
  have k1 := parse_small ⟨lineA.toArray⟩ (by decide) w hS.out
  go_enter Tryz.func6, Tryz.ntmps6
  go_upto_region 2 with (first
    | (go_at_call 8; refine k1.mono ?_; clear k1; rintro e w1 ⟨⟨er1, x1, ks1, rfl, hR1⟩, hB1⟩; refine Lib.hid ?_)
    | (refine wl_store_ev rfl _ _ rfl w1.heap.size x1 (evK 0) rfl rfl (Blk.new _ _ _) ?_; intro w2 hb2 hg2))
  have hB12 := below_grown (below_alloc (Below.refl w1.heap.size w1) _) hg2 (Nat.le_refl _)
  obtain ⟨he1, hv1⟩ := hR1.yes _ fix_a
  subst he1
  have hW2 : EvW w2 x1 ks1 := EvW.then_ (w := w1) ⟨hR1.len, by have h := hR1.few; have h2 := hR1.len; have h3 : (⟨lineA.toArray⟩ : ByteArray).size = 12 := rfl; omega, hR1.own.slice_all (fun _ => rfl)⟩ hB12
  have hB2 : Below w.heap.size w w2 := hB1.trans (hB12.mono hB1.size)
  have hz1 := hb2.lt
  have hz0 : w.heap.size ≤ w1.heap.size := hB1.size
  obtain ⟨g1, hg1⟩ : ∃ y, y = w1.heap.size := ⟨_, rfl⟩
  rw [← hg1] at hb2 hz1 hz0 ⊢
  replace hg1 := Lib.hid hg1
  replace hv1 := Lib.hid hv1
  clear hR1 hg2 hB12 hB1
  have k2 := parse_small ⟨lineB.toArray⟩ (by decide) w2 (hS.out.then_ h7 hB2)
  go_upto_region 3 with (first
    | (go_at_call 8; refine k2.mono ?_; clear k2; rintro e w3 ⟨⟨er2, x2, ks2, rfl, hR2⟩, hB3⟩; refine Lib.hid ?_)
    | (refine wl_store_ev rfl _ _ rfl w3.heap.size x2 (evK 0) rfl rfl (Blk.new _ _ _) ?_; intro w4 hb4 hg4))
  have hB34 := below_grown (below_alloc (Below.refl w3.heap.size w3) _) hg4 (Nat.le_refl _)
  obtain ⟨eB, hpB, hdB⟩ := Option.map_eq_some_iff.1 fix_b
  obtain ⟨he2, hv2⟩ := hR2.yes _ hpB
  subst he2
  have hx2d : x2.data.toList = [120, 32, 121, 10] := by
    have h9 := congrArg Ev.data hv2
    rw [hdB] at h9
    rw [Lib.toList_data]
    exact h9
  have hB24 : Below w2.heap.size w2 w4 := hB3.trans (hB34.mono hB3.size)
  have hW4 := hW2.then_ hB24
  have hb24 := blk_then hb2 hB24
  have hB4 : Below w.heap.size w w4 := hB2.trans (hB24.mono hB2.size)
  have hz3 := hb4.lt
  have hz2 : w2.heap.size ≤ w3.heap.size := hB3.size
  obtain ⟨g2, hg2⟩ : ∃ y, y = w3.heap.size := ⟨_, rfl⟩
  rw [← hg2] at hb4 hz3 hz2 ⊢
  replace hg2 := Lib.hid hg2
  replace hv2 := Lib.hid hv2
  replace hx2d := Lib.hid hx2d
  clear hR2 hg4 hB34 hB3 hW2 hb2 hB24 hB2 hpB hdB hv2
  have k3 := parse_small ⟨lineC.toArray⟩ (by decide) w4 (hS.out.then_ h7 hB4)
  go_upto_region 4 with (first
    | (go_at_call 8; refine k3.mono ?_; clear k3; rintro e w5 ⟨⟨er3, x3, ks3, rfl, hR3⟩, hB5⟩; refine Lib.hid ?_)
    | (refine wl_store_ev rfl _ _ rfl w5.heap.size x3 (evK 0) rfl rfl (Blk.new _ _ _) ?_; intro w6 hb6 hg6))
  have hB56 := below_grown (below_alloc (Below.refl w5.heap.size w5) _) hg6 (Nat.le_refl _)
  obtain ⟨he3, _⟩ := hR3.no fix_c
  subst he3
  have hB46 : Below w4.heap.size w4 w6 := hB5.trans (hB56.mono hB5.size)
  have hW6 := hW4.then_ hB46
  have hb16 := blk_then hb24 hB46
  have hb26 := blk_then hb4 hB46
  have hB6 : Below w.heap.size w w6 := hB4.trans (hB46.mono hB4.size)
  clear hR3 hg6 hB56 hB5 hW4 hb24 hb4 hB46 hB4
  obtain ⟨w6a, hw6a⟩ : ∃ y, y = w6.alloc (.cells #[.int .i64 1, .int .i64 (-2)] 3) := ⟨_, rfl⟩
  have hB6a : Below w6.heap.size w6 w6a := by rw [hw6a]; exact below_alloc (Below.refl _ _) _
  have hbl : Blk w6a w6.heap.size 3 #[.int .i64 1, .int .i64 (-2)] := by rw [hw6a]; exact Blk.new _ _ _
  have hsl : SliceOf w6a w6a.heap.size 1 encZ (some ⟨w6.heap.size, 0, none⟩) [1, -2] := by
    have ho : Own w6a 0 3 1 encZ (.slice (some ⟨w6.heap.size, 0, none⟩) 2 2) [1, -2] := own_made encZ_size hbl rfl rfl (Nat.zero_le _) (by unfold maxLen; decide)
    exact ho.slice_all encZ_size
  have k4 := print_any ⟨12, ⟨#[]⟩, ⟨#[]⟩, ⟨#[]⟩, 7, false, some ⟨w6.heap.size, 0, none⟩, 2, 2⟩ [1, -2] w6a ⟨Nat.zero_le _, Nat.zero_le _, Nat.zero_le _, rfl, (by show (2 : Nat) ≤ _; omega), ⟨(by show i64z 7; unfold i64z; omega), fun z hz => (by unfold i64z; rcases List.mem_cons.1 hz with rfl | hz; omega; rcases List.mem_cons.1 hz with rfl | hz; omega; cases hz)⟩, hsl⟩ (hS.out.then_ h7 (hB6.trans (hB6a.mono hB6.size)))
  have hpr : printL ((⟨12, ⟨#[]⟩, ⟨#[]⟩, ⟨#[]⟩, 7, false, some ⟨w6.heap.size, 0, none⟩, 2, 2⟩ : EvV).ev [1, -2]) = [99, 114, 97, 115, 104, 32, 49, 32, 45, 50] := fix_d
  have hpe : printE ((⟨12, ⟨#[]⟩, ⟨#[]⟩, ⟨#[]⟩, 7, false, some ⟨w6.heap.size, 0, none⟩, 2, 2⟩ : EvV).ev [1, -2]) = 0 := rfl
  rw [hpr, hpe] at k4
  unfold strV at k4
  clear hpr hpe hbl hsl
  go_upto_region 5 with (rw [← hw6a]; go_at_call 11; refine k4.mono ?_; clear k4; rintro e w7 ⟨rfl, hB7⟩; refine Lib.hid ?_)
  have hB67 : Below w6.heap.size w6 w7 := hB6a.trans (hB7.mono hB6a.size)
  have hW7 := hW6.then_ hB67
  have hb17 := blk_then hb16 hB67
  have hb27 := blk_then hb26 hB67
  have hBw7 : Below w.heap.size w w7 := hB6.trans (hB67.mono hB6.size)
  clear hB67 hB7 hW6 hb16 hb26 hB6 hB6a hw6a
  have k5 := tell_any ⟨1, alertD, 2, none, 0, 0⟩ [] w7 ⟨⟨(by show i64z 0; unfold i64z; omega), (by unfold MkV.ok i64z; decide), (by show (3 : Nat) ≤ _; omega), (by show (5 : Nat) < _; omega)⟩, (by show i64z 2; unfold i64z; omega), rfl, Nat.zero_le _, fun m hm => (by cases hm), .inl rfl⟩ (hS.out.then_ h7 hBw7)
  have hte : joinW ((tellT (⟨1, alertD, 2, none, 0, 0⟩ : NtV).kind (⟨1, alertD, 2, none, 0, 0⟩ : NtV).al (⟨1, alertD, 2, none, 0, 0⟩ : NtV).attempt []).map quo) = [115, 101, 110, 116, 32, 48, 32, 49, 32, 49, 32, 48, 32, 51, 32, 50, 32, 53, 32, 34, 97, 32, 98, 34] := fix_e
  rw [hte] at k5
  unfold strV at k5
  clear hte
  go_upto_region 6 with (go_at_call 12; refine k5.mono ?_; clear k5; rintro e w8 ⟨rfl, hB8⟩; refine Lib.hid ?_)
  have hW8 := hW7.then_ hB8
  have hb18 := blk_then hb17 hB8
  have hb28 := blk_then hb27 hB8
  have hBw8 : Below w.heap.size w w8 := hBw7.trans (hB8.mono hBw7.size)
  clear hB8 hW7 hb17 hb27 hBw7
  have k6 := same_any x1 ⟨9, ⟨#[]⟩, ⟨#[]⟩, ⟨#[]⟩, -3, false, none, 0, 0⟩ ks1 [] w8 hW8 ⟨rfl, Nat.zero_le _, .inl rfl⟩
  have hd1 : decide (x1.ev ks1 = (⟨9, ⟨#[]⟩, ⟨#[]⟩, ⟨#[]⟩, -3, false, none, 0, 0⟩ : EvV).ev []) = true := decide_eq_true (by rw [hv1.out]; rfl)
  rw [hd1] at k6
  replace hx2d := hx2d.out
  have fd : (x2.data.toList == [120, 32, 121, 10]) = true := by rw [hx2d]; rfl
  have cD : ∀ w9, Below w8.heap.size w8 w9 → w9.cell? ⟨g2, 3, none⟩ = some (.string x2.data) := fun w9 h9 => (h9.cell (p := ⟨g2, 3, none⟩) hb28.lt).trans (hb28.cellv (by rfl))
  clear hx2d
  have c10 : w8.cell? ⟨g1, 0, none⟩ = some (.int .i64 x1.kind) := hb18.cellv (by rfl)
  have c11 : w8.cell? ⟨g1, 1, none⟩ = some (.string x1.name) := hb18.cellv (by rfl)
  have c12 : w8.cell? ⟨g1, 2, none⟩ = some (.string x1.other) := hb18.cellv (by rfl)
  have c13 : w8.cell? ⟨g1, 3, none⟩ = some (.string x1.data) := hb18.cellv (by rfl)
  have c14 : w8.cell? ⟨g1, 4, none⟩ = some (.int .i64 x1.n) := hb18.cellv (by rfl)
  have c15 : w8.cell? ⟨g1, 5, none⟩ = some (.bool x1.yes) := hb18.cellv (by rfl)
  have c16 : w8.cell? ⟨g1, 6, none⟩ = some (.slice x1.A x1.m x1.c) := hb18.cellv (by rfl)
  go_wp2_with (first
    | (refine wpList_load_row rfl _ _ rfl g1 rfl _ _ _ _ hb18 Tryz.underlying25 rfl (info_ev.trans rfl) ?_)
    | (go_at_call 9; refine k6.mono ?_; clear k6; rintro e w9 ⟨rfl, hB9⟩; have cD9 := cD w9 hB9; clear cD))
  go_ret
  exact ⟨rfl, hBw8.trans (hB9.mono hBw8.size)⟩
end Go.Proofs.YtjplgcmfifoefaaGreatDoor
namespace Go.Proofs.YtjplgcmfifoefaaGreatDoor
open Go.RowKit Go.Shelf Go.Maps
set_option linter.unusedVariables false
set_option linter.unusedSimpArgs false
attribute [local go_sem] Oper.semAt_some

section
variable {ops : Array Oper} {S : Nat → GSpec} {Q : Exit → Act → World → Prop} {i : Nat} {o : Oper} {a : Act} {w : World}
theorem gs_quo_u8 (hw : Region.wanted o (yielded ops a.tmps) = true) (t2 : TypeId) (x y : Operand) (ho : o.op = .binOp .quo 5 x y t2) (p q r : Nat) (hx : a.eval x = .int .u8 (p : Nat)) (hy : a.eval y = .int .u8 (q : Nat)) (hp8 : p < 256) (hq : 1 ≤ q) (hr : p / q = r)
    (hp : (S i).p (.int .u8 (r : Nat)) w) : GStep Tryz.prog ops S Q i o a w :=
  gs_bin hw _ _ _ x y ho _ _ _ hx hy (by rw [eqGuard_at_int]; rfl) (by
    have e : IntKind.u8.wrap ((p : Int).tdiv (q : Int)) = (p : Int) / q := IntWalk.u8_quo _ _ (by omega)
    have e2 : ((p : Int) / (q : Int)) = (r : Int) := by rw [← hr]; simp
    have e3 : IntKind.u8.wrap ((r : Int)) = r := by
      have : r < 256 := by rw [← hr]; exact Nat.lt_of_le_of_lt (Nat.div_le_self _ _) hp8
      rw [IntKind.wrap_u8]; omega
    have h0 : ¬ ((q : Int) = 0) := by omega
    have h1 : ¬ (q = 0) := by omega
    unfold binOp
    simp [Op.intArith, Op.intDiv, e, e2, e3, h0, h1, Sem.run]) hp
theorem gs_rem_u8 (hw : Region.wanted o (yielded ops a.tmps) = true) (t2 : TypeId) (x y : Operand) (ho : o.op = .binOp .rem 5 x y t2) (p q r : Nat) (hx : a.eval x = .int .u8 (p : Nat)) (hy : a.eval y = .int .u8 (q : Nat)) (hp8 : p < 256) (hq : 1 ≤ q) (hr : p % q = r)
    (hp : (S i).p (.int .u8 (r : Nat)) w) : GStep Tryz.prog ops S Q i o a w :=
  gs_bin hw _ _ _ x y ho _ _ _ hx hy (by rw [eqGuard_at_int]; rfl) (by
    have e : (p : Int).tmod (q : Int) = (p : Int) % q := IntWalk.rem_in _ _ (by omega)
    have e2 : ((p : Int) % (q : Int)) = (r : Int) := by rw [← hr]; simp
    have e3 : IntKind.u8.wrap ((r : Int)) = r := by
      have : r < 256 := by rw [← hr]; exact Nat.lt_of_le_of_lt (Nat.mod_le _ _) hp8
      rw [IntKind.wrap_u8]; omega
    have h0 : ¬ ((q : Int) = 0) := by omega
    have h1 : ¬ (q = 0) := by omega
    unfold binOp
    simp [Op.intArith, Op.intDiv, e, e2, e3, h0, h1, Sem.run]) hp
theorem gs_cat (hw : Region.wanted o (yielded ops a.tmps) = true) (t t2 : TypeId) (x y : Operand) (ho : o.op = .binOp .add t x y t2) (p q : ByteArray) (hx : a.eval x = .string p) (hy : a.eval y = .string q) (hlen : p.size + q.size ≤ 9223372036854775807)
    (hp : (S i).p (.string (p ++ q)) w) : GStep Tryz.prog ops S Q i o a w :=
  gs_bin hw _ _ _ x y ho _ _ _ hx hy (by rw [eqGuard_at_string]; rfl) (by
    rw [binOp_string_add]
    have h0 : ¬ (((p.size + q.size : Nat) : Int) > IntKind.i64.max) := by rw [show IntKind.i64.max = 9223372036854775807 from rfl]; omega
    unfold Op.stringOp
    simp only [if_neg h0]
    rfl) hp
theorem gs_istr8 (hw : Region.wanted o (yielded ops a.tmps) = true) (x y : Operand) (ho : o.op = .index 9 x y) (s : ByteArray) (k : Nat) (b : UInt8) (hx : a.eval x = .string s) (hy : a.eval y = .int .u8 (k : Int)) (hb : s.data.toList[k]? = some b)
    (hp : (S i).p (.int .u8 ((b.toNat : Nat) : Int)) w) : GStep Tryz.prog ops S Q i o a w :=
  gs_run hw (v := .int .u8 ((b.toNat : Nat) : Int)) (w' := w) (by
    obtain ⟨hk0, hk⟩ := List.getElem?_eq_some_iff.1 hb
    have hk1 : k < s.size := by simpa using hk0
    have e2 : b.toNat = (s[((k : Int)).toNat]'(by omega)).toNat := by rw [← hk]; rfl
    have e := run_index_string (P := Tryz.prog) w 9 s .u8 (k : Int) Tryz.underlying9
    rw [dif_pos ⟨by omega, by omega⟩] at e
    unfold execOp
    simp only [ho, hx, hy, Sem.run_bind, e, e2, Result.andThen_ok, Sem.run_pure]) (Below.refl _ _) hp
end
set_option maxRecDepth 100000 in
set_option maxHeartbeats 4000000 in
theorem one_any (b : UInt8) (w : World) : Calls Tryz.prog 65 #[.int .u8 (b.toNat : Int)] w fun e w' => e = .returned (.string ⟨#[b]⟩) ∧ Below w.heap.size w w' := by
  go_enter Tryz.func65, Tryz.ntmps65
  have hb := below_alloc (Below.refl w.heap.size w) (.cells (encB b) 5)
  go_wp2_with (first
    | (refine wl_bs1 rfl _ rfl b rfl ?_)
    | (refine wl_conv_str rfl _ rfl (B := (w.alloc (.cells (encB b) 5)).heap.size) [b] rfl rfl (slice_one (enc := encB) (Blk.new _ _ _)) ?_))
  go_ret
  exact ⟨rfl, hb⟩
set_option maxRecDepth 100000 in
set_option maxHeartbeats 4000000 in
theorem plainByte_any (b : UInt8) (w : World) : Calls Tryz.prog 48 #[.int .u8 (b.toNat : Int)] w fun e w' => e = .returned (.bool (plainB b)) ∧ Below w.heap.size w w' := by
  have hv : Hid (((((((decide ((33 : Int) ≤ (((b.toNat : Nat) : Int) : Int))) && (decide ((((b.toNat : Nat) : Int) : Int) ≤ (126 : Int)))) && (((((b.toNat : Nat) : Int) : Int) != (34 : Int)))) && (((((b.toNat : Nat) : Int) : Int) != (92 : Int)))) && (((((b.toNat : Nat) : Int) : Int) != (35 : Int))))) = plainB b) := Lib.hid (by
    unfold plainB
    rw [Bool.eq_iff_iff]
    simp only [Bool.and_eq_true, decide_eq_true_eq, bne_iff_ne]
    omega)
  go_enter Tryz.func48, Tryz.ntmps48
  go_upto_region 1 with (fail)
  refine wp_region_text 19 [eqS (.int .u8 (((b.toNat : Nat) : Int))), eqS (.bool (decide ((33 : Int) ≤ (((b.toNat : Nat) : Int) : Int)))), eqS (.bool (decide ((33 : Int) ≤ (((b.toNat : Nat) : Int) : Int)))), eqS (vF (true && ((decide ((33 : Int) ≤ (((b.toNat : Nat) : Int) : Int))) == true)) (.int .u8 (((b.toNat : Nat) : Int)))), eqS (vF (true && ((decide ((33 : Int) ≤ (((b.toNat : Nat) : Int) : Int))) == true)) (.bool (decide ((((b.toNat : Nat) : Int) : Int) ≤ (126 : Int))))), eqS (.bool ((decide ((33 : Int) ≤ (((b.toNat : Nat) : Int) : Int))) && (decide ((((b.toNat : Nat) : Int) : Int) ≤ (126 : Int))))), eqS (.bool ((decide ((33 : Int) ≤ (((b.toNat : Nat) : Int) : Int))) && (decide ((((b.toNat : Nat) : Int) : Int) ≤ (126 : Int))))), eqS (vF (true && (((decide ((33 : Int) ≤ (((b.toNat : Nat) : Int) : Int))) && (decide ((((b.toNat : Nat) : Int) : Int) ≤ (126 : Int)))) == true)) (.int .u8 (((b.toNat : Nat) : Int)))), eqS (vF (true && (((decide ((33 : Int) ≤ (((b.toNat : Nat) : Int) : Int))) && (decide ((((b.toNat : Nat) : Int) : Int) ≤ (126 : Int)))) == true)) (.bool (((((b.toNat : Nat) : Int) : Int) != (34 : Int))))), eqS (.bool (((decide ((33 : Int) ≤ (((b.toNat : Nat) : Int) : Int))) && (decide ((((b.toNat : Nat) : Int) : Int) ≤ (126 : Int)))) && (((((b.toNat : Nat) : Int) : Int) != (34 : Int))))), eqS (.bool (((decide ((33 : Int) ≤ (((b.toNat : Nat) : Int) : Int))) && (decide ((((b.toNat : Nat) : Int) : Int) ≤ (126 : Int)))) && (((((b.toNat : Nat) : Int) : Int) != (34 : Int))))), eqS (vF (true && ((((decide ((33 : Int) ≤ (((b.toNat : Nat) : Int) : Int))) && (decide ((((b.toNat : Nat) : Int) : Int) ≤ (126 : Int)))) && (((((b.toNat : Nat) : Int) : Int) != (34 : Int)))) == true)) (.int .u8 (((b.toNat : Nat) : Int)))), eqS (vF (true && ((((decide ((33 : Int) ≤ (((b.toNat : Nat) : Int) : Int))) && (decide ((((b.toNat : Nat) : Int) : Int) ≤ (126 : Int)))) && (((((b.toNat : Nat) : Int) : Int) != (34 : Int)))) == true)) (.bool (((((b.toNat : Nat) : Int) : Int) != (92 : Int))))), eqS (.bool ((((decide ((33 : Int) ≤ (((b.toNat : Nat) : Int) : Int))) && (decide ((((b.toNat : Nat) : Int) : Int) ≤ (126 : Int)))) && (((((b.toNat : Nat) : Int) : Int) != (34 : Int)))) && (((((b.toNat : Nat) : Int) : Int) != (92 : Int))))), eqS (.bool ((((decide ((33 : Int) ≤ (((b.toNat : Nat) : Int) : Int))) && (decide ((((b.toNat : Nat) : Int) : Int) ≤ (126 : Int)))) && (((((b.toNat : Nat) : Int) : Int) != (34 : Int)))) && (((((b.toNat : Nat) : Int) : Int) != (92 : Int))))), eqS (vF (true && (((((decide ((33 : Int) ≤ (((b.toNat : Nat) : Int) : Int))) && (decide ((((b.toNat : Nat) : Int) : Int) ≤ (126 : Int)))) && (((((b.toNat : Nat) : Int) : Int) != (34 : Int)))) && (((((b.toNat : Nat) : Int) : Int) != (92 : Int)))) == true)) (.int .u8 (((b.toNat : Nat) : Int)))), eqS (vF (true && (((((decide ((33 : Int) ≤ (((b.toNat : Nat) : Int) : Int))) && (decide ((((b.toNat : Nat) : Int) : Int) ≤ (126 : Int)))) && (((((b.toNat : Nat) : Int) : Int) != (34 : Int)))) && (((((b.toNat : Nat) : Int) : Int) != (92 : Int)))) == true)) (.bool (((((b.toNat : Nat) : Int) : Int) != (35 : Int))))), eqS (.bool (((((decide ((33 : Int) ≤ (((b.toNat : Nat) : Int) : Int))) && (decide ((((b.toNat : Nat) : Int) : Int) ≤ (126 : Int)))) && (((((b.toNat : Nat) : Int) : Int) != (34 : Int)))) && (((((b.toNat : Nat) : Int) : Int) != (92 : Int)))) && (((((b.toNat : Nat) : Int) : Int) != (35 : Int))))), eqS (.bool (((((decide ((33 : Int) ≤ (((b.toNat : Nat) : Int) : Int))) && (decide ((((b.toNat : Nat) : Int) : Int) ≤ (126 : Int)))) && (((((b.toNat : Nat) : Int) : Int) != (34 : Int)))) && (((((b.toNat : Nat) : Int) : Int) != (92 : Int)))) && (((((b.toNat : Nat) : Int) : Int) != (35 : Int)))))] [3, 4, 5, 6, 7, 8, 9, 10, 11, 12, 13, 14, 15, 16, 17, 18, 19, 20, 2] (by kernel_rfl) (by kernel_rfl) ?_ ?_
  · skip
    refine Steps.cons (fun a' w' hG hB dep => gs_move (want_none rfl) _ rfl (id (hG.other 0 rfl))) ?_
    refine Steps.cons (fun a' w' hG hB dep => gs_geq_int (want_none rfl) _ _ _ _ rfl _ _ _ (dep 0 rfl 3 rfl) rfl (id (congrArg Value.bool rfl))) ?_
    refine Steps.cons (fun a' w' hG hB dep => gs_move (want_none rfl) _ rfl (id (dep 1 rfl 4 rfl))) ?_
    refine Steps.cons (fun a' w' hG hB dep => gs_guard (c := true) (b' := (decide ((33 : Int) ≤ (((b.toNat : Nat) : Int) : Int)))) rfl rfl (dep 2 rfl 5 rfl) (fun hc he hw => gs_move hw _ rfl (Eq.trans (hG.other 0 rfl) (vF_yes (on_g hc he) _).symm)) (fun hn => vF_no hn _)) ?_
    refine Steps.cons (fun a' w' hG hB dep => gs_guard (c := true) (b' := (decide ((33 : Int) ≤ (((b.toNat : Nat) : Int) : Int)))) rfl rfl (dep 2 rfl 5 rfl) (fun hc he hw => gs_leq_int hw _ _ _ _ rfl _ _ _ (Eq.trans (dep 3 rfl 6 rfl) (vF_yes (on_g hc he) _)) rfl (Eq.trans (congrArg Value.bool rfl) (vF_yes (on_g hc he) _).symm)) (fun hn => vF_no hn _)) ?_
    refine Steps.cons (fun a' w' hG hB dep => gs_pick (want_none rfl) _ _ _ rfl (decide ((33 : Int) ≤ (((b.toNat : Nat) : Int) : Int))) (dep 2 rfl 5 rfl) (id (pick_and2 (c := true) rfl (dep 4 rfl 7 rfl)))) ?_
    refine Steps.cons (fun a' w' hG hB dep => gs_move (want_none rfl) _ rfl (id (dep 5 rfl 8 rfl))) ?_
    refine Steps.cons (fun a' w' hG hB dep => gs_guard (c := true) (b' := ((decide ((33 : Int) ≤ (((b.toNat : Nat) : Int) : Int))) && (decide ((((b.toNat : Nat) : Int) : Int) ≤ (126 : Int))))) rfl rfl (dep 6 rfl 9 rfl) (fun hc he hw => gs_move hw _ rfl (Eq.trans (hG.other 0 rfl) (vF_yes (on_g hc he) _).symm)) (fun hn => vF_no hn _)) ?_
    refine Steps.cons (fun a' w' hG hB dep => gs_guard (c := true) (b' := ((decide ((33 : Int) ≤ (((b.toNat : Nat) : Int) : Int))) && (decide ((((b.toNat : Nat) : Int) : Int) ≤ (126 : Int))))) rfl rfl (dep 6 rfl 9 rfl) (fun hc he hw => gs_neq_int hw _ _ _ _ rfl _ _ _ (Eq.trans (dep 7 rfl 10 rfl) (vF_yes (on_g hc he) _)) rfl (Eq.trans (congrArg Value.bool rfl) (vF_yes (on_g hc he) _).symm)) (fun hn => vF_no hn _)) ?_
    refine Steps.cons (fun a' w' hG hB dep => gs_pick (want_none rfl) _ _ _ rfl ((decide ((33 : Int) ≤ (((b.toNat : Nat) : Int) : Int))) && (decide ((((b.toNat : Nat) : Int) : Int) ≤ (126 : Int)))) (dep 6 rfl 9 rfl) (id (pick_and2 (c := true) rfl (dep 8 rfl 11 rfl)))) ?_
    refine Steps.cons (fun a' w' hG hB dep => gs_move (want_none rfl) _ rfl (id (dep 9 rfl 12 rfl))) ?_
    refine Steps.cons (fun a' w' hG hB dep => gs_guard (c := true) (b' := (((decide ((33 : Int) ≤ (((b.toNat : Nat) : Int) : Int))) && (decide ((((b.toNat : Nat) : Int) : Int) ≤ (126 : Int)))) && (((((b.toNat : Nat) : Int) : Int) != (34 : Int))))) rfl rfl (dep 10 rfl 13 rfl) (fun hc he hw => gs_move hw _ rfl (Eq.trans (hG.other 0 rfl) (vF_yes (on_g hc he) _).symm)) (fun hn => vF_no hn _)) ?_
    refine Steps.cons (fun a' w' hG hB dep => gs_guard (c := true) (b' := (((decide ((33 : Int) ≤ (((b.toNat : Nat) : Int) : Int))) && (decide ((((b.toNat : Nat) : Int) : Int) ≤ (126 : Int)))) && (((((b.toNat : Nat) : Int) : Int) != (34 : Int))))) rfl rfl (dep 10 rfl 13 rfl) (fun hc he hw => gs_neq_int hw _ _ _ _ rfl _ _ _ (Eq.trans (dep 11 rfl 14 rfl) (vF_yes (on_g hc he) _)) rfl (Eq.trans (congrArg Value.bool rfl) (vF_yes (on_g hc he) _).symm)) (fun hn => vF_no hn _)) ?_
    refine Steps.cons (fun a' w' hG hB dep => gs_pick (want_none rfl) _ _ _ rfl (((decide ((33 : Int) ≤ (((b.toNat : Nat) : Int) : Int))) && (decide ((((b.toNat : Nat) : Int) : Int) ≤ (126 : Int)))) && (((((b.toNat : Nat) : Int) : Int) != (34 : Int)))) (dep 10 rfl 13 rfl) (id (pick_and2 (c := true) rfl (dep 12 rfl 15 rfl)))) ?_
    refine Steps.cons (fun a' w' hG hB dep => gs_move (want_none rfl) _ rfl (id (dep 13 rfl 16 rfl))) ?_
    refine Steps.cons (fun a' w' hG hB dep => gs_guard (c := true) (b' := ((((decide ((33 : Int) ≤ (((b.toNat : Nat) : Int) : Int))) && (decide ((((b.toNat : Nat) : Int) : Int) ≤ (126 : Int)))) && (((((b.toNat : Nat) : Int) : Int) != (34 : Int)))) && (((((b.toNat : Nat) : Int) : Int) != (92 : Int))))) rfl rfl (dep 14 rfl 17 rfl) (fun hc he hw => gs_move hw _ rfl (Eq.trans (hG.other 0 rfl) (vF_yes (on_g hc he) _).symm)) (fun hn => vF_no hn _)) ?_
    refine Steps.cons (fun a' w' hG hB dep => gs_guard (c := true) (b' := ((((decide ((33 : Int) ≤ (((b.toNat : Nat) : Int) : Int))) && (decide ((((b.toNat : Nat) : Int) : Int) ≤ (126 : Int)))) && (((((b.toNat : Nat) : Int) : Int) != (34 : Int)))) && (((((b.toNat : Nat) : Int) : Int) != (92 : Int))))) rfl rfl (dep 14 rfl 17 rfl) (fun hc he hw => gs_neq_int hw _ _ _ _ rfl _ _ _ (Eq.trans (dep 15 rfl 18 rfl) (vF_yes (on_g hc he) _)) rfl (Eq.trans (congrArg Value.bool rfl) (vF_yes (on_g hc he) _).symm)) (fun hn => vF_no hn _)) ?_
    refine Steps.cons (fun a' w' hG hB dep => gs_pick (want_none rfl) _ _ _ rfl ((((decide ((33 : Int) ≤ (((b.toNat : Nat) : Int) : Int))) && (decide ((((b.toNat : Nat) : Int) : Int) ≤ (126 : Int)))) && (((((b.toNat : Nat) : Int) : Int) != (34 : Int)))) && (((((b.toNat : Nat) : Int) : Int) != (92 : Int)))) (dep 14 rfl 17 rfl) (id (pick_and2 (c := true) rfl (dep 16 rfl 19 rfl)))) ?_
    refine Steps.cons (fun a' w' hG hB dep => gs_assign (want_none rfl) _ rfl (id (dep 17 rfl 20 rfl))) ?_
    exact Steps.nil
  intro u w1 hw1 ans
  have hus2 : u 2 = (.bool (((((decide ((33 : Int) ≤ (((b.toNat : Nat) : Int) : Int))) && (decide ((((b.toNat : Nat) : Int) : Int) ≤ (126 : Int)))) && (((((b.toNat : Nat) : Int) : Int) != (34 : Int)))) && (((((b.toNat : Nat) : Int) : Int) != (92 : Int)))) && (((((b.toNat : Nat) : Int) : Int) != (35 : Int))))) := ans 18 2 (by decide) rfl
  clear ans
  simp only [putAll, List.foldl_cons, List.foldl_nil, Act.put, List.setIfInBounds_toArray, List.set_cons_zero, List.set_cons_succ, hus2]
  clear hus2
  simp only [List.drop]
  refine wpList_nil ?_
  go_wp2_with (fail)
  go_ret
  exact ⟨by rw [← hv.out]; rfl, hw1⟩
set_option maxRecDepth 100000 in
set_option maxHeartbeats 4000000 in
theorem between_any (x y z : Nat) (w : World) : Calls Tryz.prog 66 #[.int .u8 ((x : Nat) : Int), .int .u8 ((y : Nat) : Int), .int .u8 ((z : Nat) : Int)] w fun e w' => e = .returned (.bool (decide (y ≤ x ∧ x ≤ z))) ∧ Below w.heap.size w w' := by
  have hv : Hid ((((decide ((((y : Nat) : Int) : Int) ≤ (((x : Nat) : Int) : Int))) && (decide ((((x : Nat) : Int) : Int) ≤ (((z : Nat) : Int) : Int))))) = decide (y ≤ x ∧ x ≤ z)) := Lib.hid (by
    rw [Bool.eq_iff_iff]
    simp only [Bool.and_eq_true, decide_eq_true_eq]
    omega)
  go_enter Tryz.func66, Tryz.ntmps66
  go_upto_region 1 with (fail)
  refine wp_region_text 9 [eqS (.int .u8 (((x : Nat) : Int))), eqS (.int .u8 (((y : Nat) : Int))), eqS (.bool (decide ((((y : Nat) : Int) : Int) ≤ (((x : Nat) : Int) : Int)))), eqS (.bool (decide ((((y : Nat) : Int) : Int) ≤ (((x : Nat) : Int) : Int)))), eqS (vF (true && ((decide ((((y : Nat) : Int) : Int) ≤ (((x : Nat) : Int) : Int))) == true)) (.int .u8 (((x : Nat) : Int)))), eqS (vF (true && ((decide ((((y : Nat) : Int) : Int) ≤ (((x : Nat) : Int) : Int))) == true)) (.int .u8 (((z : Nat) : Int)))), eqS (vF (true && ((decide ((((y : Nat) : Int) : Int) ≤ (((x : Nat) : Int) : Int))) == true)) (.bool (decide ((((x : Nat) : Int) : Int) ≤ (((z : Nat) : Int) : Int))))), eqS (.bool ((decide ((((y : Nat) : Int) : Int) ≤ (((x : Nat) : Int) : Int))) && (decide ((((x : Nat) : Int) : Int) ≤ (((z : Nat) : Int) : Int))))), eqS (.bool ((decide ((((y : Nat) : Int) : Int) ≤ (((x : Nat) : Int) : Int))) && (decide ((((x : Nat) : Int) : Int) ≤ (((z : Nat) : Int) : Int)))))] [7, 8, 9, 10, 11, 12, 13, 14, 6] (by kernel_rfl) (by kernel_rfl) ?_ ?_
  · skip
    refine Steps.cons (fun a' w' hG hB dep => gs_move (want_none rfl) _ rfl (id (hG.other 0 rfl))) ?_
    refine Steps.cons (fun a' w' hG hB dep => gs_move (want_none rfl) _ rfl (id (hG.other 1 rfl))) ?_
    refine Steps.cons (fun a' w' hG hB dep => gs_geq_int (want_none rfl) _ _ _ _ rfl _ _ _ (dep 0 rfl 7 rfl) (dep 1 rfl 8 rfl) (id (congrArg Value.bool rfl))) ?_
    refine Steps.cons (fun a' w' hG hB dep => gs_move (want_none rfl) _ rfl (id (dep 2 rfl 9 rfl))) ?_
    refine Steps.cons (fun a' w' hG hB dep => gs_guard (c := true) (b' := (decide ((((y : Nat) : Int) : Int) ≤ (((x : Nat) : Int) : Int)))) rfl rfl (dep 3 rfl 10 rfl) (fun hc he hw => gs_move hw _ rfl (Eq.trans (hG.other 0 rfl) (vF_yes (on_g hc he) _).symm)) (fun hn => vF_no hn _)) ?_
    refine Steps.cons (fun a' w' hG hB dep => gs_guard (c := true) (b' := (decide ((((y : Nat) : Int) : Int) ≤ (((x : Nat) : Int) : Int)))) rfl rfl (dep 3 rfl 10 rfl) (fun hc he hw => gs_move hw _ rfl (Eq.trans (hG.other 2 rfl) (vF_yes (on_g hc he) _).symm)) (fun hn => vF_no hn _)) ?_
    refine Steps.cons (fun a' w' hG hB dep => gs_guard (c := true) (b' := (decide ((((y : Nat) : Int) : Int) ≤ (((x : Nat) : Int) : Int)))) rfl rfl (dep 3 rfl 10 rfl) (fun hc he hw => gs_leq_int hw _ _ _ _ rfl _ _ _ (Eq.trans (dep 4 rfl 11 rfl) (vF_yes (on_g hc he) _)) (Eq.trans (dep 5 rfl 12 rfl) (vF_yes (on_g hc he) _)) (Eq.trans (congrArg Value.bool rfl) (vF_yes (on_g hc he) _).symm)) (fun hn => vF_no hn _)) ?_
    refine Steps.cons (fun a' w' hG hB dep => gs_pick (want_none rfl) _ _ _ rfl (decide ((((y : Nat) : Int) : Int) ≤ (((x : Nat) : Int) : Int))) (dep 3 rfl 10 rfl) (id (pick_and2 (c := true) rfl (dep 6 rfl 13 rfl)))) ?_
    refine Steps.cons (fun a' w' hG hB dep => gs_assign (want_none rfl) _ rfl (id (dep 7 rfl 14 rfl))) ?_
    exact Steps.nil
  intro u w1 hw1 ans
  have hus6 : u 6 = (.bool ((decide ((((y : Nat) : Int) : Int) ≤ (((x : Nat) : Int) : Int))) && (decide ((((x : Nat) : Int) : Int) ≤ (((z : Nat) : Int) : Int))))) := ans 8 6 (by decide) rfl
  clear ans
  simp only [putAll, List.foldl_cons, List.foldl_nil, Act.put, List.setIfInBounds_toArray, List.set_cons_zero, List.set_cons_succ, hus6]
  clear hus6
  simp only [List.drop]
  refine wpList_nil ?_
  go_wp2_with (fail)
  go_ret
  exact ⟨by rw [← hv.out]; rfl, hw1⟩
set_option maxRecDepth 100000 in
set_option maxHeartbeats 4000000 in
theorem enter_one (args : Array Value) (w : World) : (callFunc 65 args).run Tryz.prog w = .ok (.enter 65 args) w := by kernel_rfl
theorem hexD_at : ∀ n : Fin 16, (⟨#[48, 49, 50, 51, 52, 53, 54, 55, 56, 57, 97, 98, 99, 100, 101, 102]⟩ : ByteArray).data.toList[n.val]? = some (hexD n.val) := by decide
set_option maxRecDepth 100000 in
set_option maxHeartbeats 4000000 in
theorem digits_any (b : UInt8) (w : World) : Calls Tryz.prog 40 #[.int .u8 (b.toNat : Int)] w fun e w' => e = .returned (.string ⟨#[hexD (b.toNat / 16), hexD (b.toNat % 16)]⟩) ∧ Below w.heap.size w w' := by
  have hn := b.toNat_lt
  obtain ⟨n, hn2⟩ : ∃ n, b.toNat = n := ⟨_, rfl⟩
  rw [hn2] at hn ⊢
  clear hn2 b
  have h1 := hexD_at ⟨n / 16, by omega⟩
  have h2 := hexD_at ⟨n % 16, by omega⟩
  go_enter Tryz.func40, Tryz.ntmps40
  go_upto_region 2 with (fail)
  refine wp_region_steps 12 [eqS (.string ⟨#[48, 49, 50, 51, 52, 53, 54, 55, 56, 57, 97, 98, 99, 100, 101, 102]⟩), eqS (.int .u8 (((n : Nat) : Int))), eqS (.int .u8 (((n / 16 : Nat) : Int))), eqS (.int .u8 (((hexD (n / 16)).toNat : Int))), eqS (.string ⟨#[hexD (n / 16)]⟩), eqS (.string ⟨#[48, 49, 50, 51, 52, 53, 54, 55, 56, 57, 97, 98, 99, 100, 101, 102]⟩), eqS (.int .u8 (((n : Nat) : Int))), eqS (.int .u8 (((n % 16 : Nat) : Int))), eqS (.int .u8 (((hexD (n % 16)).toNat : Int))), eqS (.string ⟨#[hexD (n % 16)]⟩), eqS (.string (⟨#[hexD (n / 16)]⟩ ++ ⟨#[hexD (n % 16)]⟩ : ByteArray)), eqS (.string (⟨#[hexD (n / 16)]⟩ ++ ⟨#[hexD (n % 16)]⟩ : ByteArray))] [4, 5, 6, 7, 8, 9, 10, 11, 12, 13, 14, 2] (by kernel_rfl) (by kernel_rfl) (by kernel_rfl) ?_ ?_
  · skip
    refine Steps.cons (fun a' w' hG hB dep => gs_move (want_none rfl) _ rfl (id (hG.other 3 rfl))) ?_
    refine Steps.cons (fun a' w' hG hB dep => gs_move (want_none rfl) _ rfl (id (hG.other 0 rfl))) ?_
    refine Steps.cons (fun a' w' hG hB dep => gs_quo_u8 (want_none rfl) _ _ _ rfl n 16 (n / 16) (dep 1 rfl 5 rfl) rfl (by omega) (by decide) rfl rfl) ?_
    refine Steps.cons (fun a' w' hG hB dep => gs_istr8 (want_none rfl) _ _ rfl _ (n / 16) (hexD (n / 16)) (dep 0 rfl 4 rfl) (dep 2 rfl 6 rfl) h1 rfl) ?_
    refine Steps.cons (fun a' w' hG hB dep => gs_call (want_none rfl) _ _ _ rfl enter_one _ (map1 (dep 3 rfl 7 rfl)) ((one_any (hexD (n / 16)) _).mono fun e w2 ⟨hq9, hb9⟩ => ⟨_, hq9, hb9, rfl⟩)) ?_
    refine Steps.cons (fun a' w' hG hB dep => gs_move (want_none rfl) _ rfl (id (hG.other 3 rfl))) ?_
    refine Steps.cons (fun a' w' hG hB dep => gs_move (want_none rfl) _ rfl (id (hG.other 0 rfl))) ?_
    refine Steps.cons (fun a' w' hG hB dep => gs_rem_u8 (want_none rfl) _ _ _ rfl n 16 (n % 16) (dep 6 rfl 10 rfl) rfl (by omega) (by decide) rfl rfl) ?_
    refine Steps.cons (fun a' w' hG hB dep => gs_istr8 (want_none rfl) _ _ rfl _ (n % 16) (hexD (n % 16)) (dep 5 rfl 9 rfl) (dep 7 rfl 11 rfl) h2 rfl) ?_
    refine Steps.cons (fun a' w' hG hB dep => gs_call (want_none rfl) _ _ _ rfl enter_one _ (map1 (dep 8 rfl 12 rfl)) ((one_any (hexD (n % 16)) _).mono fun e w2 ⟨hq9, hb9⟩ => ⟨_, hq9, hb9, rfl⟩)) ?_
    refine Steps.cons (fun a' w' hG hB dep => gs_cat (want_none rfl) _ _ _ _ rfl ⟨#[hexD (n / 16)]⟩ ⟨#[hexD (n % 16)]⟩ (dep 4 rfl 8 rfl) (dep 9 rfl 13 rfl) (Nat.le_of_ble_eq_true rfl) rfl) ?_
    refine Steps.cons (fun a' w' hG hB dep => gs_assign (want_none rfl) _ rfl (id (dep 10 rfl 14 rfl))) ?_
    exact Steps.nil
  intro u w1 hw1 ans
  have hus2 : u 2 = (.string (⟨#[hexD (n / 16)]⟩ ++ ⟨#[hexD (n % 16)]⟩ : ByteArray)) := ans 11 2 (by decide) rfl
  clear ans
  simp only [putAll, List.foldl_cons, List.foldl_nil, Act.put, List.setIfInBounds_toArray, List.set_cons_zero, List.set_cons_succ, hus2]
  clear hus2
  simp only [List.drop]
  refine wpList_nil ?_
  go_wp2_with (fail)
  go_ret
  exact ⟨rfl, hw1⟩
def escR (b : UInt8) : Bs := if b.toNat = 34 ∨ b.toNat = 92 then [92, b] else if b.toNat = 10 then [92, 110] else if b.toNat = 9 then [92, 116] else if b.toNat < 32 ∨ b.toNat = 127 then byN b else [b]
set_option maxRecDepth 100000 in
set_option maxHeartbeats 4000000 in
theorem escaped_any (b : UInt8) (w : World) : Calls Tryz.prog 41 #[.int .u8 (b.toNat : Int)] w fun e w' => e = .returned (.string ⟨(escR b).toArray⟩) ∧ Below w.heap.size w w' := by
  have k1 := one_any b w
  have k2 := digits_any b w
  by_cases c1 : b.toNat = 34
  · have hv : Hid (escR b = [92, b]) := Lib.hid (by unfold escR; rw [if_pos (.inl c1)])
    have f1 : (((b.toNat : Nat) : Int) == 34) = true := beq_iff_eq.2 (by omega)
    clear c1
    go_enter Tryz.func41, Tryz.ntmps41
    go_wp2_with (go_at_call 65; refine k1.mono ?_; clear k1; rintro e w2 ⟨rfl, hB⟩)
    go_ret
    exact ⟨by rw [hv.out]; rfl, hB⟩
  have f1 : (((b.toNat : Nat) : Int) == 34) = false := beq_eq_false_iff_ne.2 (by omega)
  by_cases c2 : b.toNat = 92
  · have hv : Hid (escR b = [92, b]) := Lib.hid (by unfold escR; rw [if_pos (.inr c2)])
    have f2 : (((b.toNat : Nat) : Int) == 92) = true := beq_iff_eq.2 (by omega)
    clear c1 c2
    go_enter Tryz.func41, Tryz.ntmps41
    go_wp2_with (go_at_call 65; refine k1.mono ?_; clear k1; rintro e w2 ⟨rfl, hB⟩)
    go_ret
    exact ⟨by rw [hv.out]; rfl, hB⟩
  have f2 : (((b.toNat : Nat) : Int) == 92) = false := beq_eq_false_iff_ne.2 (by omega)
  by_cases c3 : b.toNat = 10
  · have hv : Hid (escR b = [92, 110]) := Lib.hid (by unfold escR; rw [if_neg (by omega), if_pos c3])
    have f3 : (((b.toNat : Nat) : Int) == 10) = true := beq_iff_eq.2 (by omega)
    clear c1 c2 c3 k1 k2
    go_enter Tryz.func41, Tryz.ntmps41
    go_wp2_with (fail)
    go_ret
    exact ⟨by rw [hv.out]; rfl, Below.refl _ _⟩
  have f3 : (((b.toNat : Nat) : Int) == 10) = false := beq_eq_false_iff_ne.2 (by omega)
  by_cases c4 : b.toNat = 9
  · have hv : Hid (escR b = [92, 116]) := Lib.hid (by unfold escR; rw [if_neg (by omega), if_neg c3, if_pos c4])
    have f4 : (((b.toNat : Nat) : Int) == 9) = true := beq_iff_eq.2 (by omega)
    clear c1 c2 c3 c4 k1 k2
    go_enter Tryz.func41, Tryz.ntmps41
    go_wp2_with (fail)
    go_ret
    exact ⟨by rw [hv.out]; rfl, Below.refl _ _⟩
  have f4 : (((b.toNat : Nat) : Int) == 9) = false := beq_eq_false_iff_ne.2 (by omega)
  by_cases c5 : b.toNat < 32
  · have hv : Hid (escR b = byN b) := Lib.hid (by unfold escR; rw [if_neg (by omega), if_neg c3, if_neg c4, if_pos (.inl c5)])
    have f5 : (((b.toNat : Nat) : Int) < 32) := by omega
    clear c1 c2 c3 c4 c5 k1
    go_enter Tryz.func41, Tryz.ntmps41
    go_wp2_with (go_at_call 40; refine k2.mono ?_; clear k2; rintro e w2 ⟨rfl, hB⟩)
    go_ret
    exact ⟨by rw [hv.out]; rfl, hB⟩
  have f5 : ¬ (((b.toNat : Nat) : Int) < 32) := by omega
  by_cases c6 : b.toNat = 127
  · have hv : Hid (escR b = byN b) := Lib.hid (by unfold escR; rw [if_neg (by omega), if_neg c3, if_neg c4, if_pos (.inr c6)])
    have f6 : (((b.toNat : Nat) : Int) == 127) = true := beq_iff_eq.2 (by omega)
    clear c1 c2 c3 c4 c5 c6 k1
    go_enter Tryz.func41, Tryz.ntmps41
    go_wp2_with (go_at_call 40; refine k2.mono ?_; clear k2; rintro e w2 ⟨rfl, hB⟩)
    go_ret
    exact ⟨by rw [hv.out]; rfl, hB⟩
  have f6 : (((b.toNat : Nat) : Int) == 127) = false := beq_eq_false_iff_ne.2 (by omega)
  have hv : Hid (escR b = [b]) := Lib.hid (by unfold escR; rw [if_neg (by omega), if_neg c3, if_neg c4, if_neg (by omega)])
  clear c1 c2 c3 c4 c5 c6 k2
  go_enter Tryz.func41, Tryz.ntmps41
  go_wp2_with (go_at_call 65; refine k1.mono ?_; clear k1; rintro e w2 ⟨rfl, hB⟩)
  go_ret
  exact ⟨by rw [hv.out]; rfl, hB⟩
end Go.Proofs.YtjplgcmfifoefaaGreatDoor
namespace Go.Proofs.YtjplgcmfifoefaaGreatDoor
open Go.RowKit Go.Shelf Go.Maps
set_option linter.unusedVariables false
set_option linter.unusedSimpArgs false
attribute [local go_sem] Oper.semAt_some

theorem count_all (l : Bs) : l.countP plainB = l.length ↔ l.all plainB = true := by
  rw [List.countP_eq_length, List.all_eq_true]
theorem count_snoc (q : ByteArray) (i : Nat) (h : i < q.size) : (q.data.toList.take (i + 1)).countP plainB = (q.data.toList.take i).countP plainB + if plainB q[i] then 1 else 0 := by
  rw [take_snocB q i h, List.countP_append, List.countP_singleton]
set_option maxRecDepth 100000 in
set_option maxHeartbeats 4000000 in
theorem rplain_any (q : ByteArray) (hq : q.size ≤ 1099511627776) (w : World) : Calls Tryz.prog 30 #[.string q] w fun e w' => e = .returned (.bool (isPl (tl q))) ∧ Below w.heap.size w w' := by
  obtain ⟨V, hV⟩ : ∃ V, isPl (tl q) = V := ⟨_, rfl⟩
  rw [hV]
  replace hV := Lib.hid hV
  go_enter Tryz.func30, Tryz.ntmps30
  go_wp2_with (fail)
  go_loopw [3, 4] (fun nv iv wr => ∃ (n i : Nat), i ≤ q.size ∧ n ≤ i ∧ nv = .int .i64 n ∧ iv = .int .i64 i ∧ Hid (n = (q.data.toList.take i).countP plainB) ∧ Below w.heap.size w wr) (fun _ iv _ => q.size - (intOf iv).toNat)
  case atStart => exact ⟨0, 0, by omega, by omega, rfl, rfl, Lib.hid rfl, Below.refl _ _⟩
  case round =>
    obtain ⟨n, i, hi, hni, rfl, rfl, hn, hB⟩ := hrel
    by_cases hl : i < q.size
    · have hI : (i : Int) < q.size := by omega
      have hI0 : ¬ (i : Int) < 0 := by omega
      have kp := plainByte_any q[i] wr
      have hsn := count_snoc q i hl
      obtain ⟨b, hb⟩ : ∃ b, plainB q[i] = b := ⟨_, rfl⟩
      rw [hb] at kp hsn
      replace hsn := Lib.hid hsn
      clear hb
      cases b with
      | true =>
        have hn2 : Hid (n + 1 = (q.data.toList.take (i + 1)).countP plainB) := Lib.hid (by rw [hsn.out, hn.out]; rfl)
        clear hsn hn
        go_wp2_with (go_at_call 48; refine kp.mono ?_; clear kp; rintro e w3 ⟨rfl, hB3⟩)
        exact ⟨⟨n + 1, i + 1, by omega, by omega, rfl, rfl, hn2, hB.trans (hB3.mono hB.size)⟩, by simp only [intOf]; omega⟩
      | false =>
        have hn2 : Hid (n = (q.data.toList.take (i + 1)).countP plainB) := Lib.hid (by rw [hsn.out, hn.out]; rfl)
        clear hsn hn
        go_wp2_with (go_at_call 48; refine kp.mono ?_; clear kp; rintro e w3 ⟨rfl, hB3⟩)
        exact ⟨⟨n, i + 1, by omega, by omega, rfl, rfl, hn2, hB.trans (hB3.mono hB.size)⟩, by simp only [intOf]; omega⟩
    · have hI : ¬ (i : Int) < q.size := by omega
      have hlen : (tl q).length = q.size := by simp [tl]
      have hn2 : n = (tl q).countP plainB := by
        rw [hn.out, List.take_of_length_le (by show (tl q).length ≤ i; omega)]
      by_cases h1 : n = q.size
      · have f1 : ((n : Int) == (q.size : Int)) = true := beq_iff_eq.2 (by omega)
        have hall := (count_all (tl q)).1 (by omega)
        by_cases h2 : 0 < n
        · have f2 : (0 : Int) < n := by omega
          have hv : Hid (V = true) := Lib.hid (by
            rw [← hV.out]
            unfold isPl
            rw [hall, Bool.and_true, decide_eq_true_eq]
            intro e
            rw [e] at hlen
            simp at hlen
            omega)
          have h2H := Lib.hid h2
          clear h1 h2 hn2 hall hlen hni hn
          go_wp2_with (fail)
          go_ret
          exact ⟨congrArg (fun b => Ending.returned (.bool b)) ((decide_eq_true h2H.out).trans hv.out.symm), hB⟩
        · have f2 : ¬ (0 : Int) < n := by omega
          have hv : Hid (V = false) := Lib.hid (by
            rw [← hV.out]
            unfold isPl
            rw [hall, Bool.and_true, decide_eq_false_iff_not]
            exact fun h => h (List.eq_nil_of_length_eq_zero (by omega)))
          have h2H := Lib.hid h2
          clear h1 h2 hn2 hall hlen hni hn
          go_wp2_with (fail)
          go_ret
          exact ⟨congrArg (fun b => Ending.returned (.bool b)) ((decide_eq_false h2H.out).trans hv.out.symm), hB⟩
      · have f1 : ((n : Int) == (q.size : Int)) = false := beq_eq_false_iff_ne.2 (by omega)
        have hv : Hid (V = false) := Lib.hid (by
          rw [← hV.out]
          unfold isPl
          have h3 : (tl q).all plainB = false := Bool.eq_false_iff.2 fun h => h1 (by rw [hn2, (count_all (tl q)).2 h, hlen])
          rw [h3, Bool.and_false])
        clear h1 hn2 hlen hni hn
        go_wp2_with (fail)
        go_ret
        exact ⟨by rw [hv.out]; rfl, hB⟩
def contB (b : UInt8) : Bool := decide (128 ≤ b.toNat ∧ b.toNat ≤ 191)
def tailsL (l : Bs) (from_ n : Nat) : Bool := decide (from_ + n ≤ l.length) && ((l.drop from_).take n).all contB
set_option maxRecDepth 100000 in
set_option maxHeartbeats 4000000 in
theorem tails_any (q : ByteArray) (hq : q.size ≤ 1099511627776) (k n : Nat) (hk : k ≤ 1099511627776) (hn : n ≤ 4) (w : World) : Calls Tryz.prog 67 #[.string q, .int .i64 (k : Nat), .int .i64 (n : Nat)] w fun e w' => e = .returned (.bool (tailsL (tl q) k n)) ∧ Below w.heap.size w w' := by
  obtain ⟨V, hV⟩ : ∃ V, tailsL (tl q) k n = V := ⟨_, rfl⟩
  rw [hV]
  replace hV := Lib.hid hV
  obtain ⟨m, hm⟩ : ∃ m, k + n = m := ⟨_, rfl⟩
  have hmI : (k : Int) + n = (m : Nat) := by omega
  have hlen : (tl q).length = q.size := by simp [tl]
  by_cases h1 : q.size < m
  · have f1 : (q.size : Int) < (k : Int) + n := by omega
    have hv : Hid (V = false) := Lib.hid (by
      rw [← hV.out]
      unfold tailsL
      rw [decide_eq_false (by omega), Bool.false_and])
    clear hlen hm hmI h1
    go_enter Tryz.func67, Tryz.ntmps67
    go_wp2_with (fail)
    go_ret
    exact ⟨by rw [hv.out]; rfl, Below.refl _ _⟩
  have f1 : ¬ (q.size : Int) < (k : Int) + n := by omega
  replace hlen := Lib.hid hlen
  have hmH := Lib.hid hm
  have hkm : k ≤ m := by omega
  have hms : m ≤ q.size := by omega
  clear hm h1
  go_enter Tryz.func67, Tryz.ntmps67
  go_wp2_with (fail)
  go_loopw [7, 8] (fun iv bv wr => ∃ i : Nat, k ≤ i ∧ i ≤ m ∧ iv = .int .i64 i ∧ Hid (((q.data.toList.drop k).take (i - k)).all contB = true) ∧ Below w.heap.size w wr) (fun iv _ _ => m - (intOf iv).toNat)
  case atStart => exact ⟨k, by omega, hkm, rfl, Lib.hid (by simp), Below.refl _ _⟩
  case round =>
    obtain ⟨i, hki, him, rfl, hpre, hB⟩ := hrel
    by_cases hl : i < m
    · have hI : (i : Int) < (k : Int) + n := by omega
      have hI0 : ¬ (i : Int) < 0 := by omega
      have hiq : i < q.size := by omega
      have hIq : (i : Int) < q.size := by omega
      have kb := between_any q[i].toNat 128 191 wr
      have hsn : Hid (((q.data.toList.drop k).take (i + 1 - k)).all contB = contB q[i]) := Lib.hid (by
        have e : i + 1 - k = (i - k) + 1 := by omega
        rw [e, List.take_add_one, List.getElem?_drop, show k + (i - k) = i by omega, List.getElem?_eq_getElem (by simpa using hiq), List.all_append, hpre.out, Bool.true_and]
        show (contB q[i] && true) = _
        rw [Bool.and_true])
      have hcb : decide (128 ≤ q[i].toNat ∧ q[i].toNat ≤ 191) = contB q[i] := rfl
      rw [hcb] at kb
      have hfull : Hid (contB q[i] = false → ((q.data.toList.drop k).take n).all contB = false) := Lib.hid (fun hc => by
        have e : n = (i + 1 - k) + (n - (i + 1 - k)) := by have := hmH.out; omega
        rw [Bool.eq_false_iff]
        intro h
        have h2 := List.all_eq_true.1 h q[i] (by
          rw [List.mem_take_iff_getElem]
          refine ⟨i - k, by simp; have := hmH.out; omega, ?_⟩
          simp [show k + (i - k) = i by omega]
          rfl)
        rw [hc] at h2
        cases h2)
      obtain ⟨b, hb⟩ : ∃ b, contB q[i] = b := ⟨_, rfl⟩
      rw [hb] at kb hsn hfull
      clear hb hcb
      cases b with
      | true =>
        clear hfull hpre
        go_wp2_with (go_at_call 66; refine kb.mono ?_; clear kb; rintro e w3 ⟨rfl, hB3⟩)
        exact ⟨⟨i + 1, by omega, by omega, rfl, hsn, hB.trans (hB3.mono hB.size)⟩, by simp only [intOf]; omega⟩
      | false =>
        have hv : Hid (V = false) := Lib.hid (by
          rw [← hV.out]
          unfold tailsL
          rw [show ((tl q).drop k).take n = ((q.data.toList.drop k).take n) from rfl, hfull.out rfl, Bool.and_false])
        clear hfull hpre hsn
        go_wp2_with (go_at_call 66; refine kb.mono ?_; clear kb; rintro e w3 ⟨rfl, hB3⟩)
        go_ret
        exact ⟨by rw [hv.out]; rfl, hB.trans (hB3.mono hB.size)⟩
    · have hI : ¬ (i : Int) < (k : Int) + n := by omega
      have hv : Hid (V = true) := Lib.hid (by
        rw [← hV.out]
        unfold tailsL
        rw [decide_eq_true (by have := hlen.out; have := hmH.out; omega), Bool.true_and]
        have := hpre.out
        rw [show i - k = n by have := hmH.out; omega] at this
        exact this)
      clear hpre
      go_wp2_with (fail)
      go_ret
      exact ⟨by rw [hv.out]; rfl, hB⟩
end Go.Proofs.YtjplgcmfifoefaaGreatDoor
