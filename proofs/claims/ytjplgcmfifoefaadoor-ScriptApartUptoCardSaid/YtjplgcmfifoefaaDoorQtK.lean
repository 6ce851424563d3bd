/- The walk of script's alert. No condition beyond those named in each lemma. -/
import Derived.Test.YtjplgcmfifoefaaDoorQtJ
namespace Go.Proofs.YtjplgcmfifoefaaDoor
open Go.RowKit Go.Maps
set_option linter.unusedVariables false
set_option linter.unusedSimpArgs false
attribute [local go_sem] Oper.semAt_some

/-- a mark's numbers -/
structure MkV where
  serial : Int
  inode : Int
  gen : Int
  off : Int
  missed : Int
  gone : Int
  cuts : Int
  tails : Int
  long : Int
deriving DecidableEq
def MkV.C (m : MkV) : Array Value := #[.int .i64 m.serial, .int .i64 m.inode, .int .i64 m.gen, .int .i64 m.off, .int .i64 m.missed, .int .i64 m.gone, .int .i64 m.cuts, .int .i64 m.tails, .int .i64 m.long]
def MkV.ok (m : MkV) : Prop := i64z m.serial ∧ i64z m.inode ∧ i64z m.gen ∧ i64z m.off ∧ i64z m.missed ∧ i64z m.gone ∧ i64z m.cuts ∧ i64z m.tails ∧ i64z m.long
structure AlV where
  path : Int
  mark : MkV
  text : ByteArray
  rules : Nat
def AlV.C (a : AlV) : Array Value := #[.int .i64 a.path, .int .i64 a.mark.serial, .int .i64 a.mark.inode, .int .i64 a.mark.gen, .int .i64 a.mark.off, .int .i64 a.mark.missed, .int .i64 a.mark.gone, .int .i64 a.mark.cuts, .int .i64 a.mark.tails, .int .i64 a.mark.long, .string a.text, .int .u32 (a.rules : Int)]
structure AlOk (a : AlV) : Prop where
  path : i64z a.path
  mark : a.mark.ok
  text : a.text.size ≤ 1048576
  rules : a.rules < 4294967296
/-- the texts that an alert tells -/
def textsA (first : Bs) (a : AlV) (ms : List Int) : List Bs := first :: ([a.path, a.mark.serial, a.mark.inode, a.mark.gen, a.mark.off] ++ ms ++ [(a.rules : Int)]).map Lib.itoa ++ [tl a.text]
theorem field_al_0 (b : Nat) (w : World) : (Instr.fieldAt 40 (.pointer (some ⟨b, 0, none⟩)) 0).run Tryd.prog w = .ok (.pointer (some ⟨b, 0, none⟩)) w := by kernel_rfl
theorem field_al_2 (b : Nat) (w : World) : (Instr.fieldAt 40 (.pointer (some ⟨b, 0, none⟩)) 2).run Tryd.prog w = .ok (.pointer (some ⟨b, 10, none⟩)) w := by kernel_rfl
theorem field_al_3 (b : Nat) (w : World) : (Instr.fieldAt 40 (.pointer (some ⟨b, 0, none⟩)) 3).run Tryd.prog w = .ok (.pointer (some ⟨b, 11, none⟩)) w := by kernel_rfl
theorem info_mk : (Tryd.prog.info? 37).map (·.size) = some 9 := by kernel_rfl
theorem run_bsZ5 (w : World) (a b c d e : Int) : (Instr.buildSlice 22 5 #[(0, .int .i64 a), (1, .int .i64 b), (2, .int .i64 c), (3, .int .i64 d), (4, .int .i64 e)]).run Tryd.prog w = .ok (.slice (some ⟨w.heap.size, 0, none⟩) 5 5) (w.alloc (.cells #[.int .i64 a, .int .i64 b, .int .i64 c, .int .i64 d, .int .i64 e] 3)) := by kernel_rfl
theorem run_bsS2 (w : World) (p q : ByteArray) : (Instr.buildSlice 49 2 #[(0, .string p), (1, .string q)]).run Tryd.prog w = .ok (.slice (some ⟨w.heap.size, 0, none⟩) 2 2) (w.alloc (.cells #[.string p, .string q] 9)) := by kernel_rfl
theorem wl_bsZ5 {ops : Array Oper} {rest : List Oper} {o : Oper} {a : Act} {w : World} {Q : Exit → Act → World → Prop} (hgd : o.guard = none) (x1 x2 x3 x4 x5 : Operand) (ho : o.op = .buildSlice 22 5 #[(0, x1), (1, x2), (2, x3), (3, x4), (4, x5)]) (y1 y2 y3 y4 y5 : Int)
    (h1 : a.eval x1 = .int .i64 y1) (h2 : a.eval x2 = .int .i64 y2) (h3 : a.eval x3 = .int .i64 y3) (h4 : a.eval x4 = .int .i64 y4) (h5 : a.eval x5 = .int .i64 y5)
    (h : wpList Tryd.prog ops Q rest (a.put o.dst (.slice (some ⟨w.heap.size, 0, none⟩) 5 5)) (w.alloc (.cells #[.int .i64 y1, .int .i64 y2, .int .i64 y3, .int .i64 y4, .int .i64 y5] 3))) : wpList Tryd.prog ops Q (o :: rest) a w :=
  wpList_plain hgd fun _ hK => by
    unfold Oper.wp execOp
    simp only [ho, List.map_toArray, List.map_cons, List.map_nil, h1, h2, h3, h4, h5, Sem.run_bind, run_bsZ5, Result.andThen_ok, Sem.run_pure]
    exact hK _ _ h
theorem wl_store_mk {ops : Array Oper} {rest : List Oper} {o : Oper} {a : Act} {w : World} {Q : Exit → Act → World → Prop} (hgd : o.guard = none) (x y : Operand) (ho : o.op = .store 37 x y)
    (g : Nat) (m m0 : MkV) (hx : a.eval x = .pointer (some ⟨g, 0, none⟩)) (hy : a.eval y = .agg m.C) (hb : Blk w g 37 m0.C)
    (h : ∀ w', Blk w' g 37 m.C → w.grownBy w' (some g) → wpList Tryd.prog ops Q rest (a.put o.dst undef) w') : wpList Tryd.prog ops Q (o :: rest) a w :=
  wpList_store_row hgd _ x y ho g _ hx hy _ _ hb (info_mk.trans rfl) rfl (by simp [MkV.C, Value.oneCell']) (h _ (hb.setRow_same _) (only_setRow (only_refl _ _) _))
/-- what the steps of the drawn region show -/
def slS (t : TypeId) (cs : Array Value) (n : Nat) : GSpec := ⟨fun v w => ∃ g, v = .slice (some ⟨g, 0, none⟩) n n ∧ Blk w g t cs, fun v w w' ⟨g, h1, h2⟩ hb => ⟨g, h1, blk_then h2 hb⟩⟩
def strsS (ps : List ByteArray) : GSpec := ⟨fun v w => ∃ A c, v = .slice A ps.length c ∧ SliceOf w w.heap.size 1 encQ A ps, fun v w w' ⟨A, c, h1, h2⟩ hb => ⟨A, c, h1, SliceOf.then_' h2 hb⟩⟩
def ptrS (val : Value) : GSpec := ⟨fun v w => ∃ b off, v = .pointer (some ⟨b, off, none⟩) ∧ b < w.heap.size ∧ w.cell? ⟨b, off, none⟩ = some val, fun v w w' ⟨b, off, h1, h2, h3⟩ hb => ⟨b, off, h1, Nat.lt_of_lt_of_le h2 hb.size, (hb.cell h2).trans h3⟩⟩
theorem slice_two {w : World} {g : Nat} {p q : ByteArray} (h : Blk w g 9 #[.string p, .string q]) : SliceOf w w.heap.size 1 encQ (some ⟨g, 0, none⟩) [p, q] := by
  have ho : Own w 0 9 1 encQ (.slice (some ⟨g, 0, none⟩) 2 2) [p, q] := own_made encQ_size h rfl rfl (Nat.zero_le _) (by unfold maxLen; decide)
  exact ho.slice_all encQ_size
theorem slice_five {w : World} {g : Nat} {a b c d e : Int} (h : Blk w g 3 #[.int .i64 a, .int .i64 b, .int .i64 c, .int .i64 d, .int .i64 e]) : SliceOf w w.heap.size 1 encZ (some ⟨g, 0, none⟩) [a, b, c, d, e] := by
  have ho : Own w 0 3 1 encZ (.slice (some ⟨g, 0, none⟩) 5 5) [a, b, c, d, e] := own_made encZ_size h rfl rfl (Nat.zero_le _) (by unfold maxLen; decide)
  exact ho.slice_all encZ_size
theorem lines_len : ∀ ts : List Bs, ∀ M, (∀ t ∈ ts, (quo t).length ≤ M) → (lineW (ts.map quo)).length ≤ ts.length * (M + 1)
  | [], M, _ => by simp [lineW]
  | t :: ts, M, h => by
    have h1 := h t (by simp)
    have h2 := lines_len ts M fun y hy => h y (by simp [hy])
    simp only [List.map_cons, lineW, List.length_cons, List.length_append, Nat.add_mul, Nat.one_mul] at h2 ⊢
    omega
theorem wl_conv32 {x : Int} (h0 : 0 ≤ x) (h1 : x < 4294967296) (w : World) : (convert 38 3 (.int .u32 x)).run Tryd.prog w = .ok (.int .i64 x) w := by
  have e : (convert 38 3 (.int .u32 x)).run Tryd.prog w = .ok (.int .i64 (IntKind.i64.wrap x)) w := by kernel_rfl
  have e2 : IntKind.i64.wrap x = x := by rw [IntKind.wrap_i64]; omega
  rw [e2] at e
  exact e
theorem under_strs : Tryd.prog.underlying 49 = some (.slice (Tryd.prog.elem 49)) := by kernel_rfl
theorem size_strE (w : World) : (sizeOf (Tryd.prog.elem 49)).run Tryd.prog w = .ok 1 w := by kernel_rfl
section
variable {ops : Array Oper} {S : Nat → GSpec} {Q : Exit → Act → World → Prop} {i : Nat} {o : Oper} {a : Act} {w : World}
theorem gs_conv32 (hw : Region.wanted o (yielded ops a.tmps) = true) (x : Operand) (ho : o.op = .convert 38 3 x) (n : Int) (h0 : 0 ≤ n) (h1 : n < 4294967296) (hx : a.eval x = .int .u32 n) (hp : (S i).p (.int .i64 n) w) : GStep Tryd.prog ops S Q i o a w :=
  gs_run hw (v := .int .i64 n) (w' := w) (by unfold execOp; simp only [ho, hx, Sem.run_bind, wl_conv32 h0 h1, Result.andThen_ok, Sem.run_pure]) (Below.refl _ _) hp
theorem gs_bsZ1 (hw : Region.wanted o (yielded ops a.tmps) = true) (x : Operand) (ho : o.op = .buildSlice 22 1 #[(0, x)]) (y : Int) (hx : a.eval x = .int .i64 y) (hp : (S i).p (.slice (some ⟨w.heap.size, 0, none⟩) 1 1) (w.alloc (.cells (encZ y) 3))) : GStep Tryd.prog ops S Q i o a w :=
  gs_run hw (v := .slice (some ⟨w.heap.size, 0, none⟩) 1 1) (w' := w.alloc (.cells (encZ y) 3)) (by unfold execOp; simp only [ho, List.map_toArray, List.map_cons, List.map_nil, hx, Sem.run_bind, run_bsZ1, Result.andThen_ok, Sem.run_pure]; rfl) (below_alloc (Below.refl w.heap.size w) _) hp
theorem gs_bsS2 (hw : Region.wanted o (yielded ops a.tmps) = true) (x y : Operand) (ho : o.op = .buildSlice 49 2 #[(0, x), (1, y)]) (p q : ByteArray) (hx : a.eval x = .string p) (hy : a.eval y = .string q) (hp : (S i).p (.slice (some ⟨w.heap.size, 0, none⟩) 2 2) (w.alloc (.cells #[.string p, .string q] 9))) : GStep Tryd.prog ops S Q i o a w :=
  gs_run hw (v := .slice (some ⟨w.heap.size, 0, none⟩) 2 2) (w' := w.alloc (.cells #[.string p, .string q] 9)) (by unfold execOp; simp only [ho, List.map_toArray, List.map_cons, List.map_nil, hx, hy, Sem.run_bind, run_bsS2, Result.andThen_ok, Sem.run_pure]) (below_alloc (Below.refl w.heap.size w) _) hp
end
set_option maxRecDepth 100000 in
set_option maxHeartbeats 8000000 in
theorem alert_any (f : ByteArray) (hf : quo (tl f) = tl f) (hfs : f.size ≤ 100) (al : AlV) (hal : AlOk al) (A : Option Addr) (n c : Nat) (ms : List Int) (hn : n = ms.length) (hn2 : n ≤ 10) (hms : ∀ z ∈ ms, i64z z) (w : World) (hsm : SliceOf w w.heap.size 1 encZ A ms) (hS : SOk w) :
    Calls Tryd.prog 19 #[.string f, .agg al.C, .slice A n c] w fun e w' => e = .returned (strV (joinW ((textsA (tl f) al ms).map quo))) ∧ Below w.heap.size w w' := by
  have h7 := hS.size
  replace hS := Lib.hid hS
  replace hn := Lib.hid hn
  go_enter Tryd.func19, Tryd.ntmps19
  go_upto_region 1 with (fail)
  have hb : Blk (w.alloc (.cells al.C 40)) w.heap.size 40 al.C := Blk.new w _ _
  have hB1 := below_alloc (Below.refl w.heap.size w) (.cells al.C 40)
  obtain ⟨w1, hw1⟩ : ∃ y, y = w.alloc (.cells al.C 40) := ⟨_, rfl⟩
  rw [← hw1] at hb hB1 ⊢
  clear hw1
  obtain ⟨g, hg⟩ : ∃ y, y = w.heap.size := ⟨_, rfl⟩
  have hsm1 := SliceOf.then_' hsm hB1
  rw [← hg] at hb hB1 h7 ⊢
  replace hg := Lib.hid hg
  have hgl := hb.lt
  clear hsm
  have hrow : RowAt w1 g 1 al.mark.C := fun j v hj => by
    have h9 : al.C[1 + j]? = some v := by
      have : ∀ j v, al.mark.C[j]? = some v → al.C[1 + j]? = some v := by
        intro j v h
        match j, h with
        | 0, h => exact h
        | 1, h => exact h
        | 2, h => exact h
        | 3, h => exact h
        | 4, h => exact h
        | 5, h => exact h
        | 6, h => exact h
        | 7, h => exact h
        | 8, h => exact h
        | j + 9, h => simp [MkV.C] at h
      exact this j v hj
    exact hb.cellv h9
  have hz := Blk.new w1 37 (MkV.C ⟨0, 0, 0, 0, 0, 0, 0, 0, 0⟩)
  go_upto_region 2 with (first
    | (refine wpList_load_at rfl _ _ rfl g 1 rfl _ _ hrow Tryd.underlying37 rfl (info_mk.trans rfl) ?_)
    | (refine wl_store_mk rfl _ _ rfl w1.heap.size al.mark _ rfl rfl hz ?_; intro w2 hm hg2))
  have hB12 := below_grown (below_alloc (Below.refl w1.heap.size w1) _) hg2 (Nat.le_refl _)
  obtain ⟨gm, hgm⟩ : ∃ y, y = w1.heap.size := ⟨_, rfl⟩
  rw [← hgm] at hm ⊢
  replace hgm := Lib.hid hgm
  have hB2 := hB1.trans (hB12.mono (Nat.le_of_lt hgl))
  have hb2 := blk_then hb hB12
  have hsm2 := SliceOf.then_' hsm1 hB12
  have hgml := hm.lt
  have hgl2 := hb2.lt
  clear hg2 hz hrow hb hsm1 hB1 hB12
  obtain ⟨w3, hw3⟩ : ∃ y, y = w2.alloc (.cells (encQ f) 9) := ⟨_, rfl⟩
  have hB23 : Below w2.heap.size w2 w3 := by rw [hw3]; exact below_alloc (Below.refl w2.heap.size w2) _
  have hz3 : w3.heap.size = w2.heap.size + 1 := by rw [hw3, World.size_alloc]
  have ho3 : Own w3 w2.heap.size 9 1 encQ (.slice (some ⟨w2.heap.size, 0, none⟩) 1 1) [f] := by rw [hw3]; exact own_one encQ_size (Blk.new _ _ _) (Nat.le_refl _)
  replace hw3 := Lib.hid hw3
  have hb3 := blk_then hb2 hB23
  have hm3 := blk_then hm hB23
  have hsm3 := SliceOf.then_' hsm2 hB23
  have cP : w3.cell? ⟨g, 0, none⟩ = some (.int .i64 al.path) := hb3.cellv rfl
  have cM0 : w3.cell? ⟨gm, 0, none⟩ = some (.int .i64 al.mark.serial) := hm3.cellv rfl
  have cM1 : w3.cell? ⟨gm, 1, none⟩ = some (.int .i64 al.mark.inode) := hm3.cellv rfl
  have cM2 : w3.cell? ⟨gm, 2, none⟩ = some (.int .i64 al.mark.gen) := hm3.cellv rfl
  have cM3 : w3.cell? ⟨gm, 3, none⟩ = some (.int .i64 al.mark.off) := hm3.cellv rfl
  obtain ⟨b1, hb1⟩ : ∃ y, y = w2.heap.size := ⟨_, rfl⟩
  rw [← hb1] at ho3
  have hg1 : g < b1 := by rw [hb1]; exact hgl2
  have hm1 : gm < b1 := by rw [hb1]; exact hgml
  have hgw2 : g ≤ w2.heap.size := Nat.le_of_lt hgl2
  have hb1z : b1 ≤ w3.heap.size := by rw [hb1]; exact hB23.size
  have hB3 := hB2.trans (hB23.mono hgw2)
  have hS3 := hS.out.then_ h7 hB3
  have kN : ∀ W, Below w3.heap.size w3 W → SliceOf W W.heap.size 1 encZ (some ⟨w3.heap.size, 0, none⟩) [al.path, al.mark.serial, al.mark.inode, al.mark.gen, al.mark.off] → Calls Tryd.prog 20 #[.slice (some ⟨w3.heap.size, 0, none⟩) 5 5] W fun e w' => (∃ A' c', e = .returned (.slice A' 5 c') ∧ Own w' W.heap.size 9 1 encQ (.slice A' 5 c') ([al.path, al.mark.serial, al.mark.inode, al.mark.gen, al.mark.off].map itoaB)) ∧ Below W.heap.size W w' := fun W hW hsl =>
    numbers_any _ 5 5 [al.path, al.mark.serial, al.mark.inode, al.mark.gen, al.mark.off] rfl (by decide) (by
      intro y hy
      obtain ⟨m1, m2, m3, m4, _⟩ := hal.mark
      simp only [List.mem_cons, List.not_mem_nil, or_false] at hy
      rcases hy with rfl | rfl | rfl | rfl | rfl
      · exact hal.path
      · exact m1
      · exact m2
      · exact m3
      · exact m4) W hsl (hS3.then_ h7 (hW.mono (by omega)))
  have hsmB : SliceOf w3 b1 1 encZ A ms := by rw [hb1]; exact hsm2.below hB23
  replace hb1 := Lib.hid hb1
  replace hz3 := Lib.hid hz3
  clear hB23 hb2 hsm2 hm hB2
  go_upto_region 3 with (first
    | (refine wl_bsS rfl _ rfl f rfl ?_; rw [← hb1.out, ← hw3.out])
    | (refine wl_bsZ5 rfl _ _ _ _ _ rfl al.path al.mark.serial al.mark.inode al.mark.gen al.mark.off rfl rfl rfl rfl rfl ?_)
    | (go_at_call 20; refine (kN _ ((Below.refl w3.heap.size w3).alloc (Nat.le_refl _) _) (slice_five (Blk.new _ _ _))).mono ?_; clear kN; rintro e w4 ⟨⟨A4, c4, rfl, ho4⟩, hB4⟩)
    | (refine wl_appS rfl _ _ rfl b1 [f] ([al.path, al.mark.serial, al.mark.inode, al.mark.gen, al.mark.off].map itoaB) rfl rfl rfl (ho4.slice_all encQ_size) ((ho3.alloc _).then_ hB4) rfl (by simp) (by have := hB4.size; rw [World.size_alloc] at this; omega) ?_; intro A5 c5 w5 ho5 hg5))
  have hz4 : b1 ≤ w4.heap.size := by have := hB4.size; rw [World.size_alloc] at this; omega
  have hB34 : Below b1 w3 w4 := ((Below.refl b1 w3).alloc hb1z _).trans (hB4.mono (by rw [World.size_alloc]; omega))
  have hB35 : Below b1 w3 w5 := hB34.trans ((Below.refl b1 w4).grown hg5 hz4 (fun k e => (((ho3.alloc _).then_ hB4).lt k e).1))
  have hb5 := blk_then' hb3 hB35 hg1
  have hsm5 := (hsmB.below hB35).more (show b1 ≤ w5.heap.size from Nat.le_trans hb1z hB35.size)
  have hB5 := hB3.trans (hB35.mono (by omega))
  have hz5 : b1 ≤ w5.heap.size := Nat.le_trans hb1z hB35.size
  have kM := numbers_any A n c ms hn.out (by omega) hms w5 hsm5 (hS.out.then_ h7 hB5)
  obtain ⟨P1, hP1⟩ : ∃ P, [f] ++ [al.path, al.mark.serial, al.mark.inode, al.mark.gen, al.mark.off].map itoaB = P := ⟨_, rfl⟩
  rw [hP1] at ho5
  have hP1l : P1.length = 6 := by rw [← hP1]; rfl
  replace ho5 : Own w5 b1 9 1 encQ (.slice A5 6 c5) P1 := ho5
  replace hP1 := Lib.hid hP1
  replace hP1l := Lib.hid hP1l
  have hml : Hid ((ms.map itoaB).length = n) := Lib.hid (by rw [List.length_map, hn.out])
  have hnn : Hid (ms.length = n) := Lib.hid hn.out.symm
  rw [hnn.out] at kM
  clear hg5 ho4 hB4 hB34 hB35 hb3 hm3 hsmB ho3 hB3 cP cM0 cM1 cM2 cM3 hsm3 hz4 hS3
  go_upto_region 4 with (first
    | (go_at_call 20; refine kM.mono ?_; clear kM; rintro e w6 ⟨⟨A6, c6, rfl, ho6⟩, hB6⟩)
    | (refine wl_appS rfl _ _ rfl b1 P1 (ms.map itoaB) rfl rfl hml.out.symm (ho6.slice_all encQ_size) (ho5.then_ hB6) hP1l.out.symm (by rw [hP1l.out, hml.out]; omega) (Nat.le_trans hz5 hB6.size) ?_; intro A7 c7 w7 ho7 hg7))
  have hB67 : Below b1 w6 w7 := (Below.refl b1 w6).grown hg7 (Nat.le_trans hz5 hB6.size) (fun k e => ((ho5.then_ hB6).lt k e).1)
  have hb7 := blk_then' (blk_then hb5 hB6) hB67 hg1
  have hB7 := (hB5.trans (hB6.mono (by omega))).trans (hB67.mono (by omega))
  have hz7 : b1 ≤ w7.heap.size := Nat.le_trans hz5 (Nat.le_trans hB6.size hB67.size)
  have hS7 := hS.out.then_ h7 hB7
  obtain ⟨P2, hP2⟩ : ∃ P, P1 ++ ms.map itoaB = P := ⟨_, rfl⟩
  rw [hP2] at ho7
  have hP2l : Hid (P2.length = 6 + n) := Lib.hid (by rw [← hP2, List.length_append, hP1l.out, hml.out])
  replace hP2 := Lib.hid hP2
  clear hg7 ho6 hB6 hB67 hb5 hsm5 hB5 ho5
  refine wp_region_steps 12 [eqS (.slice A7 (6 + n) c7), eqS (.pointer (some ⟨g, 11, none⟩)), eqS (.int .u32 (al.rules : Int)), eqS (.int .i64 (al.rules : Int)), slS 3 (encZ (al.rules : Int)) 1, strsS [itoaB (al.rules : Int)], ptrS (.string (itoaB (al.rules : Int))), eqS (.string (itoaB (al.rules : Int))), eqS (.pointer (some ⟨g, 10, none⟩)), eqS (.string al.text), eqS (.string (qB (tl al.text))), slS 9 #[.string (itoaB (al.rules : Int)), .string (qB (tl al.text))] 2] [30, 31, 32, 33, 34, 35, 36, 37, 38, 39, 40, 41] follows_mixed (by kernel_rfl) (by kernel_rfl) ?_ ?_
  · skip
    refine Steps.cons (fun a' w' hG hB dep => gs_move (want_none rfl) _ rfl (hG.other 8 rfl)) ?_
    refine Steps.cons (fun a' w' hG hB dep => gs_field (want_none rfl) _ _ _ rfl g 0 11 (hG.other 4 rfl) (fun wz => field_al_3 g wz) rfl) ?_
    refine Steps.cons (fun a' w' hG hB dep => gs_load1 (want_none rfl) _ _ rfl g 11 (dep 1 rfl 31 rfl) (.int .u32 (al.rules : Int)) ((blk_then hb7 hB).cellv rfl) _ Tryd.underlying38 rfl rfl) ?_
    refine Steps.cons (fun a' w' hG hB dep => gs_conv32 (want_none rfl) _ rfl (al.rules : Int) (by omega) (by have := hal.rules; omega) (dep 2 rfl 32 rfl) rfl) ?_
    refine Steps.cons (fun a' w' hG hB dep => gs_bsZ1 (want_none rfl) _ rfl (al.rules : Int) (dep 3 rfl 33 rfl) ⟨_, rfl, Blk.new _ _ _⟩) ?_
    refine Steps.cons (fun a' w' hG hB dep => by
      obtain ⟨g', hv, hk⟩ := dep 4 rfl 34 rfl
      exact gs_call (want_none rfl) _ _ _ rfl enter_numbers _ (map1 hv) ((numbers_any _ 1 1 [(al.rules : Int)] rfl (by decide) (fun z hz => by
        obtain rfl : z = (al.rules : Int) := by simpa using hz
        have := hal.rules
        unfold i64z
        omega) w' (slice_one (enc := encZ) hk) (hS7.then_ h7 (hB.mono (by omega)))).mono fun e w2 ⟨⟨A', c', h1, h2⟩, h3⟩ => ⟨_, h1, h3, A', c', rfl, h2.slice_all encQ_size⟩)) ?_
    refine Steps.cons (fun a' w' hG hB dep => by
      obtain ⟨A', c', hv, hsl⟩ := dep 5 rfl 35 rfl
      obtain ⟨b, off, rfl, hb, hrow⟩ := hsl.at_ (by simp)
      exact gs_index (want_none rfl) _ _ _ rfl under_strs 1 size_strE b off 1 c' 0 hv rfl (by omega) ⟨b, off + 0 * 1, rfl, hb, hrow 0 (by simp) 0 _ rfl⟩) ?_
    refine Steps.cons (fun a' w' hG hB dep => by
      obtain ⟨b, off, hv, hb, hc⟩ := dep 6 rfl 36 rfl
      exact gs_load1 (want_none rfl) _ _ rfl b off hv (.string (itoaB (al.rules : Int))) hc _ Tryd.underlying9 rfl rfl) ?_
    refine Steps.cons (fun a' w' hG hB dep => gs_field (want_none rfl) _ _ _ rfl g 0 10 (hG.other 4 rfl) (fun wz => field_al_2 g wz) rfl) ?_
    refine Steps.cons (fun a' w' hG hB dep => gs_load1 (want_none rfl) _ _ rfl g 10 (dep 8 rfl 38 rfl) (.string al.text) ((blk_then hb7 hB).cellv rfl) _ Tryd.underlying9 rfl rfl) ?_
    refine Steps.cons (fun a' w' hG hB dep => gs_call (want_none rfl) _ _ _ rfl enter_quote _ (map1 (dep 9 rfl 39 rfl)) ((quote_any al.text (by have := hal.text; omega) w' (hS7.then_ h7 (hB.mono (by omega)))).mono fun e w2 ⟨h1, h2⟩ => ⟨_, h1, h2, rfl⟩)) ?_
    refine Steps.cons (fun a' w' hG hB dep => gs_bsS2 (want_none rfl) _ _ rfl (itoaB (al.rules : Int)) (qB (tl al.text)) (dep 7 rfl 37 rfl) (dep 10 rfl 40 rfl) ⟨_, rfl, Blk.new _ _ _⟩) ?_
    exact Steps.nil
  intro u w8 hw8 ans
  have hu30 : u 30 = .slice A7 (6 + n) c7 := ans 0 30 (by decide) rfl
  obtain ⟨g9, hu41, hb9⟩ := ans 11 41 (by decide) rfl
  clear ans
  simp only [putAll, List.foldl_cons, List.foldl_nil, Act.put, List.setIfInBounds_toArray, List.set_cons_zero, List.set_cons_succ, hu30, hu41]
  clear hu30 hu41
  simp only [List.drop]
  have hwords : Hid ((P2 ++ [itoaB (al.rules : Int), qB (tl al.text)]).map tl = (textsA (tl f) al ms).map quo) := Lib.hid (by
    rw [← hP2.out, ← hP1.out]
    unfold textsA
    simp only [List.map_append, List.map_cons, List.map_nil, List.cons_append, List.nil_append, tl_itoa, tl_qB, quo_itoa, hf, List.append_assoc, List.map_map]
    congr 7
    congr 1
    funext z
    show tl (itoaB z) = quo (Lib.itoa z)
    rw [tl_itoa, quo_itoa])
  have hlen9 : Hid ((P2 ++ [itoaB (al.rules : Int), qB (tl al.text)]).length = 6 + n + 2) := Lib.hid (by rw [List.length_append, hP2l.out]; rfl)
  have hjl : Hid ((joinW ((P2 ++ [itoaB (al.rules : Int), qB (tl al.text)]).map tl)).length ≤ 1099511627776) := Lib.hid (by
    rw [hwords.out]
    have h1 := lines_len (textsA (tl f) al ms) 4194306 (fun t ht => by
      have h2 := quo_len t
      unfold textsA at ht
      rcases List.mem_append.1 ht with ht | ht
      · rcases List.mem_cons.1 ht with rfl | ht
        · have : (tl f).length = f.size := by simp [tl]
          omega
        · obtain ⟨z, hz, rfl⟩ := List.mem_map.1 ht
          have hzi : i64z z := by
            obtain ⟨m1, m2, m3, m4, _⟩ := hal.mark
            simp only [List.mem_append, List.mem_cons, List.not_mem_nil, or_false] at hz
            rcases hz with (hz | hz) | hz
            · rcases hz with rfl | rfl | rfl | rfl | rfl
              · exact hal.path
              · exact m1
              · exact m2
              · exact m3
              · exact m4
            · exact hms z hz
            · have := hal.rules
              unfold i64z
              omega
          have := Lib.itoa_length_le z hzi.1 hzi.2
          omega
      · obtain rfl : t = tl al.text := by simpa using ht
        have h3 : (tl al.text).length = al.text.size := by simp [tl]
        have h4 := hal.text
        omega)
    have h3 : (textsA (tl f) al ms).length ≤ 20 := by
      unfold textsA
      have := hn.out
      simp only [List.length_append, List.length_cons, List.length_map, List.length_nil]
      omega
    have h4 : (joinW ((textsA (tl f) al ms).map quo)).length ≤ (lineW ((textsA (tl f) al ms).map quo)).length := by
      unfold joinW
      rw [List.length_drop]
      omega
    have h5 : (textsA (tl f) al ms).length * (4194306 + 1) ≤ 20 * 4194307 := Nat.mul_le_mul_right _ h3
    omega)
  have kJ : ∀ (A' : Option Addr) (c' : Nat) (W : World), Own W b1 9 1 encQ (.slice A' (6 + n + 2) c') (P2 ++ [itoaB (al.rules : Int), qB (tl al.text)]) → Calls Tryd.prog 15 #[.slice A' (6 + n + 2) c', .string ⟨#[32]⟩] W fun e w' => e = .returned (strV (joinW ((textsA (tl f) al ms).map quo))) ∧ Below W.heap.size W w' := fun A' c' W ho => by
    rw [← hlen9.out] at ho ⊢
    have := join_any _ (by simp) A' c' b1 W ho (by rw [hlen9.out]; omega) hjl.out
    rw [hwords.out] at this
    exact this
  have ho8 := ho7.then_ hw8
  have hz8 : b1 ≤ w8.heap.size := Nat.le_trans hz7 hw8.size
  go_wp2_with (first
    | (refine wl_appS rfl _ _ rfl b1 P2 [itoaB (al.rules : Int), qB (tl al.text)] rfl rfl rfl (slice_two hb9) ho8 hP2l.out.symm (by rw [hP2l.out]; simp; omega) hz8 ?_; intro A9 c9 w9 ho9 hg9)
    | (go_at_call 15; refine (kJ _ _ _ ho9).mono ?_; clear kJ; rintro e w10 ⟨rfl, hB10⟩))
  go_ret
  have hB89 : Below b1 w8 w9 := (Below.refl b1 w8).grown hg9 hz8 (fun k e => (ho8.lt k e).1)
  refine ⟨rfl, ?_⟩
  rw [← hg.out]
  exact ((hB7.trans (hw8.mono (by omega))).trans (hB89.mono (by omega))).trans (hB10.mono (by have := hB89.size; omega))
theorem enter_alert (args : Array Value) (w : World) : (callFunc 19 args).run Tryd.prog w = .ok (.enter 19 args) w := by kernel_rfl
end Go.Proofs.YtjplgcmfifoefaaDoor
