/- The walk of script's Tell. No condition beyond those named in each lemma. -/
import Derived.Test.YtjplgcmfifoefaaDoorQtK
namespace Go.Proofs.YtjplgcmfifoefaaDoor
open Go.RowKit Go.Shelf Go.Maps
set_option linter.unusedVariables false
set_option linter.unusedSimpArgs false
attribute [local go_sem] Oper.semAt_some

def MkV.nums (m : MkV) : List Int := [m.serial, m.inode, m.gen, m.off, m.missed, m.gone, m.cuts, m.tails, m.long]
def MkV.L (m : MkV) : Array Value := #[.int .i64 m.missed, .int .i64 m.gone, .int .i64 m.cuts, .int .i64 m.tails, .int .i64 m.long]
structure NtV where
  kind : Int
  al : AlV
  attempt : Int
  A : Option Addr
  m : Nat
  c : Nat
def NtV.C (x : NtV) : Array Value := #[.int .i64 x.kind, .int .i64 x.al.path, .int .i64 x.al.mark.serial, .int .i64 x.al.mark.inode, .int .i64 x.al.mark.gen, .int .i64 x.al.mark.off, .int .i64 x.al.mark.missed, .int .i64 x.al.mark.gone, .int .i64 x.al.mark.cuts, .int .i64 x.al.mark.tails, .int .i64 x.al.mark.long, .string x.al.text, .int .u32 (x.al.rules : Int), .int .i64 x.attempt, .slice x.A x.m x.c]
structure NtOk (w : World) (x : NtV) (ms : List MkV) : Prop where
  al : AlOk x.al
  att : i64z x.attempt
  len : x.m = ms.length
  few : x.m ≤ 1048576
  mks : ∀ m ∈ ms, m.ok
  sl : SliceOf w w.heap.size 9 MkV.C x.A ms
theorem NtOk.then_ {w w' : World} {x : NtV} {ms : List MkV} (h : NtOk w x ms) (hb : Below w.heap.size w w') : NtOk w' x ms := ⟨h.al, h.att, h.len, h.few, h.mks, SliceOf.then_' h.sl hb⟩
def sentW : Bs := [115, 101, 110, 116]
def doneW : Bs := [100, 111, 110, 101]
def backW : Bs := [98, 97, 99, 107]
def keptW : Bs := [107, 101, 112, 116]
def crashW : Bs := [99, 114, 97, 115, 104]
def noneW : Bs := [110, 111, 110, 101]
/-- the texts that a note tells -/
def tellT (kind : Int) (al : AlV) (att : Int) (ms : List MkV) : List Bs :=
  if kind = 1 then textsA sentW al [att] else if kind = 2 then textsA doneW al [] else if kind = 3 then textsA backW al []
  else if kind = 4 then keptW :: (ms.flatMap MkV.nums).map Lib.itoa else if kind = 5 then [crashW] else [noneW]
theorem info_al : (Tryd.prog.info? 40).map (·.size) = some 12 := by kernel_rfl
theorem info_ls : (Tryd.prog.info? 35).map (·.size) = some 5 := by kernel_rfl
theorem wl_store_ls {ops : Array Oper} {rest : List Oper} {o : Oper} {a : Act} {w : World} {Q : Exit → Act → World → Prop} (hgd : o.guard = none) (x y : Operand) (ho : o.op = .store 35 x y)
    (g : Nat) (m m0 : MkV) (hx : a.eval x = .pointer (some ⟨g, 0, none⟩)) (hy : a.eval y = .agg m.L) (hb : Blk w g 35 m0.L)
    (h : ∀ w', Blk w' g 35 m.L → w.grownBy w' (some g) → wpList Tryd.prog ops Q rest (a.put o.dst undef) w') : wpList Tryd.prog ops Q (o :: rest) a w :=
  wpList_store_row hgd _ x y ho g _ hx hy _ _ hb (info_ls.trans rfl) rfl (by simp [MkV.L, Value.oneCell']) (h _ (hb.setRow_same _) (only_setRow (only_refl _ _) _))
theorem run_bsZ9 (w : World) (y0 y1 y2 y3 y4 y5 y6 y7 y8 : Int) : (Instr.buildSlice 22 9 #[(0, .int .i64 y0), (1, .int .i64 y1), (2, .int .i64 y2), (3, .int .i64 y3), (4, .int .i64 y4), (5, .int .i64 y5), (6, .int .i64 y6), (7, .int .i64 y7), (8, .int .i64 y8)]).run Tryd.prog w = .ok (.slice (some ⟨w.heap.size, 0, none⟩) 9 9) (w.alloc (.cells #[.int .i64 y0, .int .i64 y1, .int .i64 y2, .int .i64 y3, .int .i64 y4, .int .i64 y5, .int .i64 y6, .int .i64 y7, .int .i64 y8] 3)) := by kernel_rfl
theorem wl_bsZ9 {ops : Array Oper} {rest : List Oper} {o : Oper} {a : Act} {w : World} {Q : Exit → Act → World → Prop} (hgd : o.guard = none) (x0 x1 x2 x3 x4 x5 x6 x7 x8 : Operand) (ho : o.op = .buildSlice 22 9 #[(0, x0), (1, x1), (2, x2), (3, x3), (4, x4), (5, x5), (6, x6), (7, x7), (8, x8)]) (y0 y1 y2 y3 y4 y5 y6 y7 y8 : Int)
    (h0 : a.eval x0 = .int .i64 y0) (h1 : a.eval x1 = .int .i64 y1) (h2 : a.eval x2 = .int .i64 y2) (h3 : a.eval x3 = .int .i64 y3) (h4 : a.eval x4 = .int .i64 y4) (h5 : a.eval x5 = .int .i64 y5) (h6 : a.eval x6 = .int .i64 y6) (h7 : a.eval x7 = .int .i64 y7) (h8 : a.eval x8 = .int .i64 y8)
    (h : wpList Tryd.prog ops Q rest (a.put o.dst (.slice (some ⟨w.heap.size, 0, none⟩) 9 9)) (w.alloc (.cells #[.int .i64 y0, .int .i64 y1, .int .i64 y2, .int .i64 y3, .int .i64 y4, .int .i64 y5, .int .i64 y6, .int .i64 y7, .int .i64 y8] 3))) : wpList Tryd.prog ops Q (o :: rest) a w :=
  wpList_plain hgd fun _ hK => by
    unfold Oper.wp execOp
    simp only [ho, List.map_toArray, List.map_cons, List.map_nil, h0, h1, h2, h3, h4, h5, h6, h7, h8, Sem.run_bind, run_bsZ9, Result.andThen_ok, Sem.run_pure]
    exact hK _ _ h
theorem slice_nine {w : World} {g : Nat} {y0 y1 y2 y3 y4 y5 y6 y7 y8 : Int} (h : Blk w g 3 #[.int .i64 y0, .int .i64 y1, .int .i64 y2, .int .i64 y3, .int .i64 y4, .int .i64 y5, .int .i64 y6, .int .i64 y7, .int .i64 y8]) : SliceOf w w.heap.size 1 encZ (some ⟨g, 0, none⟩) [y0, y1, y2, y3, y4, y5, y6, y7, y8] := by
  have ho : Own w 0 3 1 encZ (.slice (some ⟨g, 0, none⟩) 9 9) [y0, y1, y2, y3, y4, y5, y6, y7, y8] := own_made encZ_size h rfl rfl (Nat.zero_le _) (by unfold maxLen; decide)
  exact ho.slice_all encZ_size
theorem row_loss {w : World} {g : Nat} {m : MkV} (h : Blk w g 37 m.C) : RowAt w g 4 m.L := fun j v hj => by
  have h9 : m.C[4 + j]? = some v := by
    match j, hj with
    | 0, h => exact h
    | 1, h => exact h
    | 2, h => exact h
    | 3, h => exact h
    | 4, h => exact h
    | j + 5, h => simp [MkV.L] at h
  exact h.cellv h9
theorem row_alert {w : World} {g : Nat} {x : NtV} (h : Blk w g 43 x.C) : RowAt w g 1 x.al.C := fun j v hj => by
  have h9 : x.C[1 + j]? = some v := by
    match j, hj with
    | 0, h => exact h
    | 1, h => exact h
    | 2, h => exact h
    | 3, h => exact h
    | 4, h => exact h
    | 5, h => exact h
    | 6, h => exact h
    | 7, h => exact h
    | 8, h => exact h
    | 9, h => exact h
    | 10, h => exact h
    | 11, h => exact h
    | j + 12, h => simp [AlV.C] at h
  exact h.cellv h9
theorem nums_ok {m : MkV} (h : m.ok) : ∀ z ∈ m.nums, i64z z := by
  obtain ⟨h1, h2, h3, h4, h5, h6, h7, h8, h9⟩ := h
  intro z hz
  simp only [MkV.nums, List.mem_cons, List.not_mem_nil, or_false] at hz
  rcases hz with rfl | rfl | rfl | rfl | rfl | rfl | rfl | rfl | rfl <;> assumption
set_option maxRecDepth 100000 in
set_option maxHeartbeats 8000000 in
theorem tell_any (x : NtV) (ms : List MkV) (w : World) (hx : NtOk w x ms) (hS : SOk w) :
    Calls Tryd.prog 12 #[.agg x.C] w fun e w' => e = .returned (strV (joinW ((tellT x.kind x.al x.attempt ms).map quo))) ∧ Below w.heap.size w w' := by
  have h7 := hS.size
  replace hS := Lib.hid hS
  replace hx := Lib.hid hx
  go_enter Tryd.func12, Tryd.ntmps12
  go_upto_region 1 with (fail)
  have hb : Blk (w.alloc (.cells x.C 43)) w.heap.size 43 x.C := Blk.new w _ _
  have hB1 := below_alloc (Below.refl w.heap.size w) (.cells x.C 43)
  obtain ⟨w1, hw1⟩ : ∃ y, y = w.alloc (.cells x.C 43) := ⟨_, rfl⟩
  rw [← hw1] at hb hB1 ⊢
  clear hw1
  obtain ⟨g, hg⟩ : ∃ y, y = w.heap.size := ⟨_, rfl⟩
  have hslg : SliceOf w g 9 MkV.C x.A ms := by rw [hg]; exact hx.out.sl
  rw [← hg] at hb hB1 h7 ⊢
  replace hg := Lib.hid hg
  have hgl := hb.lt
  have cK : w1.cell? ⟨g, 0, none⟩ = some (.int .i64 x.kind) := hb.cellv rfl
  have hS1 := hS.out.then_ h7 hB1
  by_cases k1 : x.kind = 1
  · rw [k1] at cK
    have hv : Hid (tellT x.kind x.al x.attempt ms = textsA sentW x.al [x.attempt]) := Lib.hid (by unfold tellT; rw [if_pos k1])
    have cT : w1.cell? ⟨g, 13, none⟩ = some (.int .i64 x.attempt) := hb.cellv rfl
    have kA : ∀ W, Below w1.heap.size w1 W → SliceOf W W.heap.size 1 encZ (some ⟨w1.heap.size, 0, none⟩) [x.attempt] → Calls Tryd.prog 19 #[.string ⟨#[115, 101, 110, 116]⟩, .agg x.al.C, .slice (some ⟨w1.heap.size, 0, none⟩) 1 1] W fun e w' => e = .returned (strV (joinW ((textsA sentW x.al [x.attempt]).map quo))) ∧ Below W.heap.size W w' := fun W hW hsl =>
      alert_any ⟨#[115, 101, 110, 116]⟩ (quo_pl (by decide)) (by decide) x.al hx.out.al _ 1 1 [x.attempt] rfl (by decide) (fun z hz => by rw [show z = x.attempt from by simpa using hz]; exact hx.out.att) W hsl (hS1.then_ h7 (hW.mono (by omega)))
    have hrow := row_alert hb
    clear k1
    go_wp2_with (first
      | (refine wpList_load_at rfl _ _ rfl g 1 rfl _ _ hrow Tryd.underlying40 rfl (info_al.trans rfl) ?_)
      | (refine wl_bsZ1 rfl _ rfl x.attempt rfl ?_)
      | (go_at_call 19; refine (kA _ ((Below.refl w1.heap.size w1).alloc (Nat.le_refl _) _) (slice_one (enc := encZ) (Blk.new _ _ _))).mono ?_; clear kA; rintro e w3 ⟨rfl, hB3⟩))
    go_ret
    rw [hv.out]
    exact ⟨rfl, by rw [← hg.out]; exact (hB1.alloc (by omega) _).trans (hB3.mono (by rw [World.size_alloc]; omega))⟩
  have e1 : (x.kind == 1) = false := beq_eq_false_iff_ne.2 k1
  by_cases k2 : x.kind = 2
  · rw [k2] at cK
    have hv : Hid (tellT x.kind x.al x.attempt ms = textsA doneW x.al []) := Lib.hid (by unfold tellT; rw [if_neg k1, if_pos k2])
    have kA : Calls Tryd.prog 19 #[.string ⟨#[100, 111, 110, 101]⟩, .agg x.al.C, .slice none 0 0] w1 fun e w' => e = .returned (strV (joinW ((textsA doneW x.al []).map quo))) ∧ Below w1.heap.size w1 w' :=
      alert_any ⟨#[100, 111, 110, 101]⟩ (quo_pl (by decide)) (by decide) x.al hx.out.al none 0 0 [] rfl (by decide) (fun z hz => by cases hz) w1 (.inl rfl) hS1
    have hrow := row_alert hb
    clear k1 k2
    go_wp2_with (first
      | (refine wpList_load_at rfl _ _ rfl g 1 rfl _ _ hrow Tryd.underlying40 rfl (info_al.trans rfl) ?_)
      | (go_at_call 19; refine kA.mono ?_; clear kA; rintro e w3 ⟨rfl, hB3⟩))
    go_ret
    rw [hv.out]
    exact ⟨rfl, by rw [← hg.out]; exact hB1.trans (hB3.mono (by omega))⟩
  have e2 : (x.kind == 2) = false := beq_eq_false_iff_ne.2 k2
  by_cases k3 : x.kind = 3
  · rw [k3] at cK
    have hv : Hid (tellT x.kind x.al x.attempt ms = textsA backW x.al []) := Lib.hid (by unfold tellT; rw [if_neg k1, if_neg k2, if_pos k3])
    have kA : Calls Tryd.prog 19 #[.string ⟨#[98, 97, 99, 107]⟩, .agg x.al.C, .slice none 0 0] w1 fun e w' => e = .returned (strV (joinW ((textsA backW x.al []).map quo))) ∧ Below w1.heap.size w1 w' :=
      alert_any ⟨#[98, 97, 99, 107]⟩ (quo_pl (by decide)) (by decide) x.al hx.out.al none 0 0 [] rfl (by decide) (fun z hz => by cases hz) w1 (.inl rfl) hS1
    have hrow := row_alert hb
    clear k1 k2 k3
    go_wp2_with (first
      | (refine wpList_load_at rfl _ _ rfl g 1 rfl _ _ hrow Tryd.underlying40 rfl (info_al.trans rfl) ?_)
      | (go_at_call 19; refine kA.mono ?_; clear kA; rintro e w3 ⟨rfl, hB3⟩))
    go_ret
    rw [hv.out]
    exact ⟨rfl, by rw [← hg.out]; exact hB1.trans (hB3.mono (by omega))⟩
  have e3 : (x.kind == 3) = false := beq_eq_false_iff_ne.2 k3
  by_cases k4 : x.kind = 4
  · rw [k4] at cK
    have hv : Hid (tellT x.kind x.al x.attempt ms = keptW :: (ms.flatMap MkV.nums).map Lib.itoa) := Lib.hid (by unfold tellT; rw [if_neg k1, if_neg k2, if_neg k3, if_pos k4])
    clear k1 k2 k3 k4 e1 e2 e3
    have cS : w1.cell? ⟨g, 14, none⟩ = some (.slice x.A x.m x.c) := hb.cellv rfl
    obtain ⟨KB, hKB⟩ : ∃ KB : ByteArray, ⟨#[107, 101, 112, 116]⟩ = KB := ⟨_, rfl⟩
    obtain ⟨w2, hw2⟩ : ∃ y, y = w1.alloc (.cells (encQ ⟨#[107, 101, 112, 116]⟩) 9) := ⟨_, rfl⟩
    have hB12 : Below w1.heap.size w1 w2 := by rw [hw2]; exact below_alloc (Below.refl w1.heap.size w1) _
    have ho2 : Own w2 w1.heap.size 9 1 encQ (.slice (some ⟨w1.heap.size, 0, none⟩) 1 1) [⟨#[107, 101, 112, 116]⟩] := by rw [hw2]; exact own_one encQ_size (Blk.new _ _ _) (Nat.le_refl _)
    replace hw2 := Lib.hid hw2
    have cS2 := cell_keep cS hgl hB12
    obtain ⟨b1, hb1⟩ : ∃ y, y = w1.heap.size := ⟨_, rfl⟩
    rw [← hb1] at ho2
    have hgb : g < b1 := by rw [hb1]; exact hgl
    have hb2z : b1 ≤ w2.heap.size := by rw [hb1]; exact hB12.size
    have hB2 := hB1.trans (hB12.mono (Nat.le_of_lt hgl))
    replace hb1 := Lib.hid hb1
    have hmk := Lib.hid hx.out.mks
    have hml := Lib.hid hx.out.len
    have hmf := hx.out.few
    clear hB12 cS hB1 hS1 hKB KB
    go_wp2_with (refine wl_bsS rfl _ rfl ⟨#[107, 101, 112, 116]⟩ rfl ?_; rw [← hw2.out, ← hb1.out])
    clear cS2 cK hb
    go_loopw [3, 33] (fun lv iv wr => ∃ (i : Nat) (A' : Option Addr) (c' : Nat) (acc : List ByteArray), i ≤ x.m ∧ lv = .slice A' acc.length c' ∧ iv = .int .i64 i ∧ Own wr b1 9 1 encQ (.slice A' acc.length c') acc ∧ Hid (acc = ⟨#[107, 101, 112, 116]⟩ :: ((ms.take i).flatMap MkV.nums).map itoaB) ∧ acc.length = 1 + 9 * i ∧ Below g w wr ∧ b1 ≤ wr.heap.size) (fun _ iv _ => x.m - (intOf iv).toNat)
    case atStart => exact ⟨0, _, 1, _, by omega, rfl, rfl, ho2, Lib.hid (by simp), rfl, hB2, hb2z⟩
    case round =>
      clear ho2 hB2 hb2z
      obtain ⟨i, A', c', acc, hi, rfl, rfl, ho, hacc, hal, hB, hbz⟩ := hrel
      by_cases hl : i < x.m
      · have hI : ((i : Nat) : Int) < x.m := by omega
        have hI0 : ¬ ((i : Nat) : Int) < 0 := by omega
        have hil : i < ms.length := by rw [← hml.out]; exact hl
        obtain ⟨b, off, hA, hbb, hrow⟩ := hslg.at_ (by omega)
        obtain ⟨m, hm⟩ : ∃ m, ms[i] = m := ⟨_, rfl⟩
        have hrw : RowAt wr b (off + i * 9) m.C := fun j v hj => by
          rw [← hm] at hj
          exact (hB.cell (p := ⟨b, off + i * 9 + j, none⟩) hbb).trans (hrow i hil j v hj)
        have hmok := hmk.out m (by rw [← hm]; exact List.getElem_mem _)
        have hac2 : Hid (acc ++ m.nums.map itoaB = ⟨#[107, 101, 112, 116]⟩ :: ((ms.take (i + 1)).flatMap MkV.nums).map itoaB) := Lib.hid (by
          rw [hacc.out, List.take_add_one, List.getElem?_eq_getElem hil, hm]
          simp)
        have hz5 := Blk.new wr 37 (MkV.C ⟨0, 0, 0, 0, 0, 0, 0, 0, 0⟩)
        replace hal := Lib.hid hal
        clear hm hrow hacc
        rw [hA]
        go_upto_region 13 with (first
          | (refine wpList_load_at rfl _ _ rfl b (off + i * 9) rfl _ _ hrw Tryd.underlying37 rfl (info_mk.trans rfl) ?_)
          | (refine wl_store_mk rfl _ _ rfl wr.heap.size m _ rfl rfl hz5 ?_; intro w3 hm3 hg3))
        have hB3 := below_grown (below_alloc (Below.refl wr.heap.size wr) _) hg3 (Nat.le_refl _)
        obtain ⟨p5, hp5⟩ : ∃ y, y = wr.heap.size := ⟨_, rfl⟩
        rw [← hp5] at hm3 ⊢
        replace hp5 := Lib.hid hp5
        have hm3l := hm3.lt
        have hrl := row_loss hm3
        have hz6 := Blk.new w3 35 (MkV.L ⟨0, 0, 0, 0, 0, 0, 0, 0, 0⟩)
        clear hg3 hz5 hrw
        go_upto_region 14 with (first
          | (refine wpList_load_at rfl _ _ rfl p5 4 rfl _ _ hrl Tryd.underlying35 rfl (info_ls.trans rfl) ?_)
          | (refine wl_store_ls rfl _ _ rfl w3.heap.size m _ rfl rfl hz6 ?_; intro w4 hl4 hg4))
        have hB34 := below_grown (below_alloc (Below.refl w3.heap.size w3) _) hg4 (Nat.le_refl _)
        obtain ⟨p6, hp6⟩ : ∃ y, y = w3.heap.size := ⟨_, rfl⟩
        rw [← hp6] at hl4 ⊢
        replace hp6 := Lib.hid hp6
        have hm4 := blk_then hm3 hB34
        have hB4 := below_then hB3 hB34
        have q0 : w4.cell? ⟨p5, 0, none⟩ = some (.int .i64 m.serial) := hm4.cellv rfl
        have q1 : w4.cell? ⟨p5, 1, none⟩ = some (.int .i64 m.inode) := hm4.cellv rfl
        have q2 : w4.cell? ⟨p5, 2, none⟩ = some (.int .i64 m.gen) := hm4.cellv rfl
        have q3 : w4.cell? ⟨p5, 3, none⟩ = some (.int .i64 m.off) := hm4.cellv rfl
        have q4 : w4.cell? ⟨p6, 0, none⟩ = some (.int .i64 m.missed) := hl4.cellv rfl
        have q5 : w4.cell? ⟨p6, 1, none⟩ = some (.int .i64 m.gone) := hl4.cellv rfl
        have q6 : w4.cell? ⟨p6, 2, none⟩ = some (.int .i64 m.cuts) := hl4.cellv rfl
        have q7 : w4.cell? ⟨p6, 3, none⟩ = some (.int .i64 m.tails) := hl4.cellv rfl
        have q8 : w4.cell? ⟨p6, 4, none⟩ = some (.int .i64 m.long) := hl4.cellv rfl
        have hBg4 := hB.trans (hB4.mono (by omega))
        have hS4 := hS.out.then_ h7 hBg4
        have hz4 : b1 ≤ w4.heap.size := Nat.le_trans hbz hB4.size
        have ho4 := ho.then_ hB4
        have kN : ∀ W, Below w4.heap.size w4 W → SliceOf W W.heap.size 1 encZ (some ⟨w4.heap.size, 0, none⟩) m.nums → Calls Tryd.prog 20 #[.slice (some ⟨w4.heap.size, 0, none⟩) 9 9] W fun e w' => (∃ A' c', e = .returned (.slice A' 9 c') ∧ Own w' W.heap.size 9 1 encQ (.slice A' 9 c') (m.nums.map itoaB)) ∧ Below W.heap.size W w' := fun W hW hsl =>
          numbers_any _ 9 9 m.nums rfl (by decide) (nums_ok hmok) W hsl (hS4.then_ h7 (hW.mono (by omega)))
        have hml9 : Hid ((m.nums.map itoaB).length = 9) := Lib.hid rfl
        have hal4 : acc.length + 9 ≤ 1099511627776 := by rw [hal.out]; omega
        clear hg4 hz6 hrl hB3 hB34 hm3 hm3l hm4 hl4 hS4
        go_wp2_with (first
          | (refine wl_bsZ9 rfl _ _ _ _ _ _ _ _ _ rfl m.serial m.inode m.gen m.off m.missed m.gone m.cuts m.tails m.long rfl rfl rfl rfl rfl rfl rfl rfl rfl ?_)
          | (go_at_call 20; refine (kN _ ((Below.refl w4.heap.size w4).alloc (Nat.le_refl _) _) (slice_nine (Blk.new _ _ _))).mono ?_; clear kN; rintro e w5 ⟨⟨A5, c5, rfl, ho5⟩, hB5⟩)
          | (refine wl_appS rfl _ _ rfl b1 acc (m.nums.map itoaB) rfl rfl hml9.out.symm (ho5.slice_all encQ_size) ((ho4.alloc _).then_ hB5) rfl (by rw [hml9.out]; exact hal4) (by have := hB5.size; rw [World.size_alloc] at this; omega) ?_; intro A8 c8 w8 ho8 hg8))
        have hz5' : b1 ≤ w5.heap.size := by have := hB5.size; rw [World.size_alloc] at this; omega
        have hB58 : Below b1 w5 w8 := (Below.refl b1 w5).grown hg8 hz5' (fun k e => (((ho4.alloc _).then_ hB5).lt k e).1)
        have hBg8 : Below g w w8 := ((hBg4.alloc (by omega) _).trans (hB5.mono (by rw [World.size_alloc]; omega))).trans (hB58.mono (by omega))
        have e9 : (acc ++ m.nums.map itoaB).length = acc.length + 9 := by rw [List.length_append, hml9.out]
        exact ⟨⟨i + 1, A8, c8, acc ++ m.nums.map itoaB, by omega, by rw [e9], rfl, by rw [e9]; exact ho8, hac2, by rw [e9, hal.out]; omega, hBg8, Nat.le_trans hz5' hB58.size⟩, by simp only [intOf]; omega⟩
      · have hI : ¬ ((i : Nat) : Int) < x.m := by omega
        have hie : i = x.m := by omega
        have hmap : acc.map tl = (keptW :: (ms.flatMap MkV.nums).map Lib.itoa).map quo := by
          rw [hacc.out, List.take_of_length_le (by rw [← hml.out]; omega)]
          rw [List.map_cons, List.map_cons, List.map_map, List.map_map]
          congr 1
          apply List.map_congr_left
          intro z _
          show tl (itoaB z) = quo (Lib.itoa z)
          rw [tl_itoa, quo_itoa]
        have hne : acc ≠ [] := by rw [hacc.out]; simp
        have hbound : (joinW (acc.map tl)).length ≤ 1099511627776 := by
          rw [hmap]
          have h1 := line_ints (ms.flatMap MkV.nums) (fun z hz => by
            obtain ⟨m, hm, hz⟩ := List.mem_flatMap.1 hz
            exact nums_ok (hmk.out m hm) z hz)
          have h2 : ∀ l : List MkV, (l.flatMap MkV.nums).length = 9 * l.length := by
            intro l
            induction l with
            | nil => rfl
            | cons m l ih => rw [List.flatMap_cons, List.length_append, ih, List.length_cons]; show 9 + 9 * l.length = _; omega
          have h3 := h2 ms
          have h4 := hml.out
          have h5 : quo keptW = keptW := quo_pl (by decide)
          rw [List.map_cons, joinW_cons, List.length_append, h5]
          have h6 : keptW.length = 4 := rfl
          omega
        have kJ := join_any acc hne A' c' b1 wr ho (by omega) hbound
        rw [hmap] at kJ
        obtain ⟨R, hR⟩ : ∃ R, strV (joinW ((keptW :: (ms.flatMap MkV.nums).map Lib.itoa).map quo)) = R := ⟨_, rfl⟩
        rw [hR] at kJ
        replace hR := Lib.hid hR
        clear hmap hne hbound hacc ho hal
        go_wp2_with (go_at_call 15; refine kJ.mono ?_; clear kJ; rintro e w9 ⟨rfl, hB9⟩)
        go_ret
        rw [hv.out, hR.out]
        exact ⟨rfl, by rw [← hg.out]; exact hB.trans (hB9.mono (by omega))⟩
  have e4 : (x.kind == 4) = false := beq_eq_false_iff_ne.2 k4
  by_cases k5 : x.kind = 5
  · rw [k5] at cK
    have hv : Hid (strV (joinW ((tellT x.kind x.al x.attempt ms).map quo)) = .string ⟨#[99, 114, 97, 115, 104]⟩) := Lib.hid (by unfold tellT; rw [if_neg k1, if_neg k2, if_neg k3, if_neg k4, if_pos k5]; rfl)
    clear k1 k2 k3 k4 k5
    go_wp2_with (fail)
    go_ret
    exact ⟨by rw [hv.out]; rfl, by rw [← hg.out]; exact hB1⟩
  · have e5 : (x.kind == 5) = false := beq_eq_false_iff_ne.2 k5
    have hv : Hid (strV (joinW ((tellT x.kind x.al x.attempt ms).map quo)) = .string ⟨#[110, 111, 110, 101]⟩) := Lib.hid (by unfold tellT; rw [if_neg k1, if_neg k2, if_neg k3, if_neg k4, if_neg k5]; rfl)
    clear k1 k2 k3 k4 k5
    go_wp2_with (fail)
    go_ret
    exact ⟨by rw [hv.out]; rfl, by rw [← hg.out]; exact hB1⟩
theorem enter_tell (args : Array Value) (w : World) : (callFunc 12 args).run Tryd.prog w = .ok (.enter 12 args) w := by kernel_rfl
end Go.Proofs.YtjplgcmfifoefaaDoor
