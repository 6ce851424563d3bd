/- ScriptApart: notes and their lines: told, the plain law, the walk. No condition beyond those named in each lemma. -/
import Derived.Test.YtjplgcmfifoefaaDoorQtX
namespace Go.Proofs.YtjplgcmfifoefaaDoor
open Go.RowKit Go.Maps
set_option linter.unusedVariables false
set_option linter.unusedSimpArgs false
section

theorem part_ls0 (e : MkV) (w : World) : (part 3 e.L 0).run Tryd.prog w = .ok (.int .i64 e.missed) w := by kernel_rfl
theorem part_ls1 (e : MkV) (w : World) : (part 3 e.L 1).run Tryd.prog w = .ok (.int .i64 e.gone) w := by kernel_rfl
theorem part_ls2 (e : MkV) (w : World) : (part 3 e.L 2).run Tryd.prog w = .ok (.int .i64 e.cuts) w := by kernel_rfl
theorem part_ls3 (e : MkV) (w : World) : (part 3 e.L 3).run Tryd.prog w = .ok (.int .i64 e.tails) w := by kernel_rfl
theorem part_ls4 (e : MkV) (w : World) : (part 3 e.L 4).run Tryd.prog w = .ok (.int .i64 e.long) w := by kernel_rfl
theorem part_mk0 (e : MkV) (w : World) : (part 3 e.C 0).run Tryd.prog w = .ok (.int .i64 e.serial) w := by kernel_rfl
theorem part_mk1 (e : MkV) (w : World) : (part 3 e.C 1).run Tryd.prog w = .ok (.int .i64 e.inode) w := by kernel_rfl
theorem part_mk2 (e : MkV) (w : World) : (part 3 e.C 2).run Tryd.prog w = .ok (.int .i64 e.gen) w := by kernel_rfl
theorem part_mk3 (e : MkV) (w : World) : (part 3 e.C 3).run Tryd.prog w = .ok (.int .i64 e.off) w := by kernel_rfl
theorem part_mk4 (e : MkV) (w : World) : (part 35 e.C 4).run Tryd.prog w = .ok (.agg e.L) w := by kernel_rfl
theorem part_al0 (e : AlV) (w : World) : (part 3 e.C 0).run Tryd.prog w = .ok (.int .i64 e.path) w := by kernel_rfl
theorem part_al1 (e : AlV) (w : World) : (part 37 e.C 1).run Tryd.prog w = .ok (.agg e.mark.C) w := by kernel_rfl
theorem part_al2 (e : AlV) (w : World) : (part 9 e.C 10).run Tryd.prog w = .ok (.string e.text) w := by kernel_rfl
theorem part_al3 (e : AlV) (w : World) : (part 38 e.C 11).run Tryd.prog w = .ok (.int .u32 (e.rules : Int)) w := by kernel_rfl
def lossEq (a b : MkV) : Bool := decide (a.missed = b.missed ∧ a.gone = b.gone ∧ a.cuts = b.cuts ∧ a.tails = b.tails ∧ a.long = b.long)
theorem eq_loss_at (d : Nat) (a b : MkV) (w : World) : (Op.equalIn (d + 2) 35 (.agg a.L) (.agg b.L)).run Tryd.prog w = .ok (lossEq a b) w := by
  have hf : Tryd.prog.fieldsOf 35 = Tryd.prog.fieldsOf 35 := rfl
  conv at hf => rhs; simp only [Program.fieldsOf, Tryd.underlying35]
  have hu : Tryd.prog.underlying 35 = some (.struct (Tryd.prog.fieldsOf 35)) := by rw [hf]; exact Tryd.underlying35
  have e1 := fun w x y => run_equalIn_int (P := Tryd.prog) w d 3 .i64 .i64 x y Tryd.underlying3
  rw [show d + 2 = (d + 1) + 1 from rfl, run_equalIn_struct w (d + 1) _ _ _ hu (by kernel_rfl), hf]
  simp only [Op.eqFields, ne_eq, String.reduceEq, not_false_eq_true, if_true, Sem.run_bind, part_ls0, part_ls1, part_ls2, part_ls3, part_ls4, Result.andThen_ok, e1, Sem.run_ite, Sem.run_pure]
  unfold lossEq
  by_cases h1 : a.missed = b.missed <;> by_cases h2 : a.gone = b.gone <;> by_cases h3 : a.cuts = b.cuts <;> by_cases h4 : a.tails = b.tails <;> by_cases h5 : a.long = b.long <;> simp [h1, h2, h3, h4, h5]
theorem mk_dec (a b : MkV) : decide (a = b) = (decide (a.serial = b.serial) && (decide (a.inode = b.inode) && (decide (a.gen = b.gen) && (decide (a.off = b.off) && lossEq a b)))) := by
  rw [Bool.eq_iff_iff]
  unfold lossEq
  simp only [decide_eq_true_eq, Bool.and_eq_true]
  constructor
  · rintro rfl; exact ⟨rfl, rfl, rfl, rfl, rfl, rfl, rfl, rfl, rfl⟩
  · obtain ⟨a1, a2, a3, a4, a5, a6, a7, a8, a9⟩ := a
    obtain ⟨b1, b2, b3, b4, b5, b6, b7, b8, b9⟩ := b
    rintro ⟨rfl, rfl, rfl, rfl, rfl, rfl, rfl, rfl, rfl⟩; rfl
theorem eq_mark_at (d : Nat) (a b : MkV) (w : World) : (Op.equalIn (d + 3) 37 (.agg a.C) (.agg b.C)).run Tryd.prog w = .ok (decide (a = b)) w := by
  have hf : Tryd.prog.fieldsOf 37 = Tryd.prog.fieldsOf 37 := rfl
  conv at hf => rhs; simp only [Program.fieldsOf, Tryd.underlying37]
  have hu : Tryd.prog.underlying 37 = some (.struct (Tryd.prog.fieldsOf 37)) := by rw [hf]; exact Tryd.underlying37
  have e1 := fun w x y => run_equalIn_int (P := Tryd.prog) w (d + 1) 3 .i64 .i64 x y Tryd.underlying3
  have e2 := fun w => eq_loss_at d a b w
  rw [show d + 3 = (d + 2) + 1 from rfl, run_equalIn_struct w (d + 2) _ _ _ hu (by kernel_rfl), hf]
  simp only [Op.eqFields, ne_eq, String.reduceEq, not_false_eq_true, if_true, Sem.run_bind, part_mk0, part_mk1, part_mk2, part_mk3, part_mk4, Result.andThen_ok, e1, e2, Sem.run_ite, Sem.run_pure]
  rw [mk_dec]
  by_cases h1 : a.serial = b.serial <;> by_cases h2 : a.inode = b.inode <;> by_cases h3 : a.gen = b.gen <;> by_cases h4 : a.off = b.off <;> cases h5 : lossEq a b <;> simp [h1, h2, h3, h4, h5]
def alertEq (a b : AlV) : Bool := decide (a.path = b.path) && (decide (a.mark = b.mark) && ((a.text.toList == b.text.toList) && decide (a.rules = b.rules)))
theorem eq_alert (a b : AlV) (w : World) : (Op.equalIn 10000 40 (.agg a.C) (.agg b.C)).run Tryd.prog w = .ok (alertEq a b) w := by
  have hf : Tryd.prog.fieldsOf 40 = Tryd.prog.fieldsOf 40 := rfl
  conv at hf => rhs; simp only [Program.fieldsOf, Tryd.underlying40]
  have hu : Tryd.prog.underlying 40 = some (.struct (Tryd.prog.fieldsOf 40)) := by rw [hf]; exact Tryd.underlying40
  have e1 := fun w x y => run_equalIn_int (P := Tryd.prog) w 9998 3 .i64 .i64 x y Tryd.underlying3
  have e2 := fun w => eq_mark_at 9996 a.mark b.mark w
  have e3 := fun w => run_equalIn_string (P := Tryd.prog) w 9998 9 a.text b.text Tryd.underlying9
  have e4 := fun w x y => run_equalIn_int (P := Tryd.prog) w 9998 38 .u32 .u32 x y Tryd.underlying38
  rw [show (10000 : Nat) = 9999 + 1 from rfl, run_equalIn_struct w 9999 _ _ _ hu (by kernel_rfl), hf]
  simp only [Op.eqFields, ne_eq, String.reduceEq, not_false_eq_true, if_true, Sem.run_bind, part_al0, part_al1, part_al2, part_al3, Result.andThen_ok, e1, e2, e3, e4, Sem.run_ite, Sem.run_pure]
  unfold alertEq
  have q4 : ((a.rules : Int) = (b.rules : Int)) ↔ a.rules = b.rules := by omega
  by_cases h1 : a.path = b.path <;> by_cases h2 : a.mark = b.mark <;> cases h3 : (a.text.toList == b.text.toList) <;> by_cases h4 : a.rules = b.rules <;> simp [h1, h2, h3, h4, q4]
theorem guard_alert : Tryd.prog.eqGuardType Tryd.prog.depth 40 = false := by kernel_rfl
theorem guard_mark : Tryd.prog.eqGuardType Tryd.prog.depth 37 = false := by kernel_rfl
theorem run_eql_alert (a b : AlV) (w : World) : (binOp .eql 40 (.agg a.C) (.agg b.C)).run Tryd.prog w = .ok (.bool (alertEq a b)) w := by
  rw [run_eql_struct, eq_alert]; rfl
theorem run_neq_mark (a b : MkV) (w : World) : (binOp .neq 37 (.agg a.C) (.agg b.C)).run Tryd.prog w = .ok (.bool (!decide (a = b))) w := by
  rw [run_neq_struct, show (10000 : Nat) = 9997 + 3 from rfl, eq_mark_at]; rfl
theorem wl_eql_alert {ops : Array Oper} {rest : List Oper} {o : Oper} {a : Act} {w : World} {Q : Exit → Act → World → Prop} (hgd : o.guard = none) (x y : Operand) (t2 : TypeId) (ho : o.op = .binOp .eql 40 x y t2) (p q : AlV) (hx : a.eval x = .agg p.C) (hy : a.eval y = .agg q.C) (b : Bool) (hb : alertEq p q = b)
    (h : wpList Tryd.prog ops Q rest (a.put o.dst (.bool b)) w) : wpList Tryd.prog ops Q (o :: rest) a w :=
  wl_run hgd (v := .bool b) (by
    subst hb
    unfold execOp
    simp only [ho, hx, hy, Sem.run_bind, run_eqGuard_agg w _ _ _ _ _ _ guard_alert, Result.andThen_ok, run_eql_alert, Sem.run_pure]) h
/-- do two notes of one kind tell the same? -/
def noLoss (m : MkV) : MkV := { m with missed := 0, gone := 0, cuts := 0, tails := 0, long := 0 }
def noLossA (a : AlV) : AlV := { a with mark := noLoss a.mark }
def toldB (x : NtV) (ms : List MkV) (y : NtV) (ns : List MkV) : Bool :=
  if x.kind = 1 ∨ x.kind = 2 ∨ x.kind = 3 then alertEq (noLossA x.al) (noLossA y.al) && (x.kind != 1 || x.attempt == y.attempt)
  else if x.kind = 4 then decide (ms = ns) else true
end
section

theorem lineW_join : ∀ {l : List Bs}, l ≠ [] → lineW (l.map quo) = 32 :: joinW (l.map quo)
  | [], h => absurd rfl h
  | a :: l, _ => by rw [List.map_cons, joinW_cons]; rfl
theorem joinW_inj {a b : List Bs} (ha : a ≠ []) (hb : b ≠ []) (h : joinW (a.map quo) = joinW (b.map quo)) : a = b := by
  have h1 := parts_line a [] (by intro b hb; cases hb) (a.length + b.length + 1) (by omega)
  have h2 := parts_line b [] (by intro b hb; cases hb) (a.length + b.length + 1) (by omega)
  rw [List.append_nil, lineW_join ha] at h1
  rw [List.append_nil, lineW_join hb] at h2
  rw [h, h2] at h1
  exact ((List.map_inj_right (fun x y h => quo_inj h)).1 (Option.some.inj h1)).symm
def tellJ (x : NtV) (ms : List MkV) : Bs := joinW ((tellT x.kind x.al x.attempt ms).map quo)
theorem tellT_ne (k : Int) (al : AlV) (t : Int) (ms : List MkV) : tellT k al t ms ≠ [] := by
  unfold tellT textsA
  repeat' split
  all_goals simp
theorem tellJ_one (x : NtV) (ms : List MkV) : oneL (tellJ x ms) = true := oneL_join _
theorem tellJ_eq (x y : NtV) (ms ns : List MkV) : tellJ x ms = tellJ y ns ↔ tellT x.kind x.al x.attempt ms = tellT y.kind y.al y.attempt ns := by
  constructor
  · exact fun h => joinW_inj (tellT_ne _ _ _ _) (tellT_ne _ _ _ _) h
  · intro h
    unfold tellJ
    rw [h]
def kOk (k : Int) : Prop := 1 ≤ k ∧ k ≤ 5
theorem kOk_cases {k : Int} (h : kOk k) : k = 1 ∨ k = 2 ∨ k = 3 ∨ k = 4 ∨ k = 5 := by unfold kOk at h; omega
theorem tell_none {k : Int} (h : ¬ kOk k) (al : AlV) (t : Int) (ms : List MkV) : tellT k al t ms = [noneW] := by
  unfold kOk at h
  unfold tellT
  rw [if_neg (by omega), if_neg (by omega), if_neg (by omega), if_neg (by omega), if_neg (by omega)]
def firstN (k : Int) : Bs := if k = 1 then sentW else if k = 2 then doneW else if k = 3 then backW else if k = 4 then keptW else if k = 5 then crashW else noneW
theorem tell_head (k : Int) (al : AlV) (t : Int) (ms : List MkV) : (tellT k al t ms).head? = some (firstN k) := by
  unfold tellT textsA firstN
  repeat' split
  all_goals rfl
theorem firstN_inj {a b : Int} (ha : kOk a) (hb : kOk b) (h : firstN a = firstN b) : a = b := by
  rcases kOk_cases ha with rfl | rfl | rfl | rfl | rfl <;> rcases kOk_cases hb with rfl | rfl | rfl | rfl | rfl <;> first | rfl | (exact absurd h (by decide))
theorem firstN_none {a : Int} (ha : kOk a) : firstN a ≠ noneW := by
  rcases kOk_cases ha with rfl | rfl | rfl | rfl | rfl <;> decide
theorem noneJ : joinW ([noneW].map quo) = noneW := by decide +kernel
theorem tellJ_none (x : NtV) (ms : List MkV) : tellJ x ms = noneW ↔ ¬ kOk x.kind := by
  constructor
  · intro h hk
    rw [← noneJ] at h
    have h1 := joinW_inj (tellT_ne _ _ _ _) (by simp) h
    have h2 := tell_head x.kind x.al x.attempt ms
    rw [h1] at h2
    exact firstN_none hk (Option.some.inj h2).symm
  · intro h
    unfold tellJ
    rw [tell_none h, noneJ]
theorem ints_inj : ∀ (a b : List Int), (∀ z ∈ a, i64z z) → (∀ z ∈ b, i64z z) → a.map Lib.itoa = b.map Lib.itoa → a = b
  | [], [], _, _, _ => rfl
  | [], _ :: _, _, _, h => by simp at h
  | _ :: _, [], _, _, h => by simp at h
  | x :: a, y :: b, ha, hb, h => by
    simp only [List.map_cons, List.cons.injEq] at h
    have hx := ha x List.mem_cons_self
    have hy := hb y List.mem_cons_self
    rw [itoa_inj hx.1 hx.2 hy.1 hy.2 h.1, ints_inj a b (fun z hz => ha z (List.mem_cons_of_mem _ hz)) (fun z hz => hb z (List.mem_cons_of_mem _ hz)) h.2]
theorem nums_inj : ∀ (a b : List MkV), a.flatMap MkV.nums = b.flatMap MkV.nums → a = b
  | [], [], _ => rfl
  | [], y :: b, h => by simp [MkV.nums] at h
  | x :: a, [], h => by simp [MkV.nums] at h
  | x :: a, y :: b, h => by
    simp only [List.flatMap_cons, MkV.nums, List.cons_append, List.nil_append, List.cons.injEq] at h
    obtain ⟨h1, h2, h3, h4, h5, h6, h7, h8, h9, h10⟩ := h
    rw [nums_inj a b h10]
    obtain ⟨a1, a2, a3, a4, a5, a6, a7, a8, a9⟩ := x
    obtain ⟨b1, b2, b3, b4, b5, b6, b7, b8, b9⟩ := y
    simp only at h1 h2 h3 h4 h5 h6 h7 h8 h9
    subst h1 h2 h3 h4 h5 h6 h7 h8 h9
    rfl
theorem flat_ok {ms : List MkV} (h : ∀ m ∈ ms, m.ok) : ∀ z ∈ ms.flatMap MkV.nums, i64z z := by
  intro z hz
  obtain ⟨m, hm, hz⟩ := List.mem_flatMap.1 hz
  exact nums_ok (h m hm) z hz
def altB (a b : AlV) : Prop := a.path = b.path ∧ a.mark.serial = b.mark.serial ∧ a.mark.inode = b.mark.inode ∧ a.mark.gen = b.mark.gen ∧ a.mark.off = b.mark.off ∧ a.rules = b.rules ∧ tl a.text = tl b.text
theorem alt_eq (a b : AlV) : alertEq (noLossA a) (noLossA b) = true ↔ altB a b := by
  unfold alertEq
  rw [mk_dec]
  unfold lossEq noLossA noLoss altB
  simp only [Bool.and_eq_true, decide_eq_true_eq, beq_iff_eq, ← tl_eq, and_self, and_true]
  constructor
  · rintro ⟨h1, ⟨h2, h3, h4, h5⟩, h6, h7⟩; exact ⟨h1, h2, h3, h4, h5, h7, h6⟩
  · rintro ⟨h1, h2, h3, h4, h5, h7, h6⟩; exact ⟨h1, ⟨h2, h3, h4, h5⟩, h6, h7⟩
theorem texts_eq (f : Bs) (a b : AlV) (ha : AlOk a) (hb : AlOk b) (ms ns : List Int) (hl : ms.length = ns.length) (hm : ∀ z ∈ ms, i64z z) (hn : ∀ z ∈ ns, i64z z) : textsA f a ms = textsA f b ns ↔ altB a b ∧ ms = ns := by
  have key : ∀ (c : AlV) (ks : List Int), AlOk c → (∀ z ∈ ks, i64z z) → ∀ z ∈ [c.path, c.mark.serial, c.mark.inode, c.mark.gen, c.mark.off] ++ ks ++ [(c.rules : Int)], i64z z := by
    intro c ks hc hk z hz
    obtain ⟨p1, ⟨p2, p3, p4, p5, -, -, -, -, -⟩, -, p6⟩ := hc
    rcases List.mem_append.1 hz with hz | hz
    · rcases List.mem_append.1 hz with hz | hz
      · simp only [List.mem_cons, List.not_mem_nil, or_false] at hz
        rcases hz with rfl | rfl | rfl | rfl | rfl <;> assumption
      · exact hk z hz
    · rw [show z = (c.rules : Int) from by simpa using hz]
      exact ⟨by omega, by omega⟩
  constructor
  · intro h
    unfold textsA at h
    rw [List.cons_append, List.cons_append] at h
    have h1 := List.append_inj' (List.cons.inj h).2 rfl
    have h2 := ints_inj _ _ (key a ms ha hm) (key b ns hb hn) h1.1
    have h3 := List.append_inj' h2 rfl
    have h4 := List.append_inj h3.1 rfl
    simp only [List.cons.injEq, and_true] at h4 h1 h3
    obtain ⟨⟨q1, q2, q3, q4, q5⟩, q6⟩ := h4
    exact ⟨⟨q1, q2, q3, q4, q5, by omega, h1.2⟩, q6⟩
  · rintro ⟨⟨q1, q2, q3, q4, q5, q6, q7⟩, rfl⟩
    unfold textsA
    rw [q1, q2, q3, q4, q5, q6, q7]
theorem told_same (x y : NtV) (ms ns : List MkV) (w w' : World) (hx : NtOk w x ms) (hy : NtOk w' y ns) (kx : kOk x.kind) (ky : kOk y.kind) : tellJ x ms = tellJ y ns ↔ x.kind = y.kind ∧ toldB x ms y ns = true := by
  rw [tellJ_eq]
  have hatt : ∀ z ∈ [x.attempt], i64z z := fun z hz => by rw [show z = x.attempt from by simpa using hz]; exact hx.att
  have hatt' : ∀ z ∈ [y.attempt], i64z z := fun z hz => by rw [show z = y.attempt from by simpa using hz]; exact hy.att
  by_cases hk : x.kind = y.kind
  case neg =>
    constructor
    · intro h
      have h1 := tell_head x.kind x.al x.attempt ms
      rw [h, tell_head] at h1
      exact absurd (firstN_inj kx ky (Option.some.inj h1).symm) hk
    · exact fun h => absurd h.1 hk
  case pos =>
    unfold toldB
    rw [← hk]
    simp only [true_and]
    have hno : ∀ z ∈ ([] : List Int), i64z z := fun z hz => by cases hz
    rcases kOk_cases kx with h | h | h | h | h
    · rw [h, if_pos (by decide), show tellT 1 x.al x.attempt ms = textsA sentW x.al [x.attempt] from rfl, show tellT 1 y.al y.attempt ns = textsA sentW y.al [y.attempt] from rfl, texts_eq sentW x.al y.al hx.al hy.al [x.attempt] [y.attempt] rfl hatt hatt', Bool.and_eq_true, alt_eq]
      simp
    · rw [h, if_pos (by decide), show tellT 2 x.al x.attempt ms = textsA doneW x.al [] from rfl, show tellT 2 y.al y.attempt ns = textsA doneW y.al [] from rfl, texts_eq _ _ _ hx.al hy.al _ _ rfl hno hno, Bool.and_eq_true, alt_eq]
      simp
    · rw [h, if_pos (by decide), show tellT 3 x.al x.attempt ms = textsA backW x.al [] from rfl, show tellT 3 y.al y.attempt ns = textsA backW y.al [] from rfl, texts_eq _ _ _ hx.al hy.al _ _ rfl hno hno, Bool.and_eq_true, alt_eq]
      simp
    · rw [h, if_neg (by decide), if_pos rfl, show tellT 4 x.al x.attempt ms = keptW :: (ms.flatMap MkV.nums).map Lib.itoa from rfl, show tellT 4 y.al y.attempt ns = keptW :: (ns.flatMap MkV.nums).map Lib.itoa from rfl]
      simp only [List.cons.injEq, true_and, decide_eq_true_eq]
      constructor
      · exact fun h => nums_inj _ _ (ints_inj _ _ (flat_ok hx.mks) (flat_ok hy.mks) h)
      · rintro rfl; rfl
    · rw [h, if_neg (by decide), if_neg (by decide), show tellT 5 x.al x.attempt ms = [crashW] from rfl, show tellT 5 y.al y.attempt ns = [crashW] from rfl]
      simp
end
section

theorem join_len (ts : List Bs) (n M : Nat) (hn : ts.length ≤ n) (hM : ∀ t ∈ ts, (quo t).length ≤ M) : (joinW (ts.map quo)).length ≤ n * (M + 1) := by
  have h1 := lines_len ts M hM
  have h2 : (joinW (ts.map quo)).length ≤ (lineW (ts.map quo)).length := by
    unfold joinW
    rw [List.length_drop]
    omega
  have h3 : ts.length * (M + 1) ≤ n * (M + 1) := Nat.mul_le_mul_right _ hn
  omega
theorem nums_len : ∀ ms : List MkV, (ms.flatMap MkV.nums).length = 9 * ms.length
  | [] => rfl
  | m :: ms => by
    rw [List.flatMap_cons, List.length_append, nums_len ms]
    simp only [MkV.nums, List.length_cons, List.length_nil]
    omega
theorem textsA_le (f : Bs) (hf : f.length ≤ 100) (al : AlV) (hal : AlOk al) (ms : List Int) (hn : ms.length ≤ 10) (hms : ∀ z ∈ ms, i64z z) : (joinW ((textsA f al ms).map quo)).length ≤ 20 * (4194306 + 1) := by
  refine join_len _ _ _ ?_ ?_
  · unfold textsA
    simp only [List.length_append, List.length_cons, List.length_map, List.length_nil]
    omega
  · intro t ht
    have h2 := quo_len t
    unfold textsA at ht
    rcases List.mem_append.1 ht with ht | ht
    · rcases List.mem_cons.1 ht with rfl | ht
      · omega
      · obtain ⟨z, hz, rfl⟩ := List.mem_map.1 ht
        have hzi : i64z z := by
          obtain ⟨m1, m2, m3, m4, _⟩ := hal.mark
          simp only [List.mem_append, List.mem_cons, List.not_mem_nil, or_false] at hz
          rcases hz with (hz | hz) | hz
          · rcases hz with rfl | rfl | rfl | rfl | rfl
            · exact hal.path
            · exact m1
            · exact m2
            · exact m3
            · exact m4
          · exact hms z hz
          · have := hal.rules
            unfold i64z
            omega
        have := Lib.itoa_length_le z hzi.1 hzi.2
        omega
    · obtain rfl : t = tl al.text := by simpa using ht
      have h3 : (tl al.text).length = al.text.size := by simp [tl]
      have h4 := hal.text
      omega
theorem tellJ_len {x : NtV} {ms : List MkV} {w : World} (hx : NtOk w x ms) : (tellJ x ms).length ≤ 1099511627776 := by
  have hatt : ∀ z ∈ [x.attempt], i64z z := fun z hz => by rw [show z = x.attempt from by simpa using hz]; exact hx.att
  have hno : ∀ z ∈ ([] : List Int), i64z z := fun z hz => by cases hz
  unfold tellJ tellT
  repeat' split
  · have := textsA_le sentW (by decide) x.al hx.al [x.attempt] (by simp) hatt; omega
  · have := textsA_le doneW (by decide) x.al hx.al [] (by decide) hno; omega
  · have := textsA_le backW (by decide) x.al hx.al [] (by decide) hno; omega
  · have h := join_len (keptW :: (ms.flatMap MkV.nums).map Lib.itoa) (9 * 1048576 + 1) 100 (by
      rw [List.length_cons, List.length_map, nums_len, ← hx.len]
      have := hx.few
      omega) (fun t ht => by
      have h2 := quo_len t
      rcases List.mem_cons.1 ht with rfl | ht
      · have : keptW.length = 4 := rfl
        omega
      · obtain ⟨z, hz, rfl⟩ := List.mem_map.1 ht
        have hzi := flat_ok hx.mks z hz
        have := Lib.itoa_length_le z hzi.1 hzi.2
        omega)
    omega
  · decide +kernel
  · decide +kernel
end
section
attribute [local go_sem] Oper.semAt_some

theorem wl_store_al {ops : Array Oper} {rest : List Oper} {o : Oper} {a : Act} {w : World} {Q : Exit → Act → World → Prop} (hgd : o.guard = none) (x y : Operand) (ho : o.op = .store 40 x y)
    (g : Nat) (m m0 : AlV) (hx : a.eval x = .pointer (some ⟨g, 0, none⟩)) (hy : a.eval y = .agg m.C) (hb : Blk w g 40 m0.C)
    (h : ∀ w', Blk w' g 40 m.C → w.grownBy w' (some g) → wpList Tryd.prog ops Q rest (a.put o.dst undef) w') : wpList Tryd.prog ops Q (o :: rest) a w :=
  wpList_store_row hgd _ x y ho g _ hx hy _ _ hb (info_al.trans rfl) rfl (by simp [AlV.C, Value.oneCell']) (h _ (hb.setRow_same _) (only_setRow (only_refl _ _) _))
theorem wl_store_in {P : Program} {w : World} {ops : Array Oper} {rest : List Oper} {o : Oper} {a : Act} {Q : Exit → Act → World → Prop} (hgd : o.guard = none) (ty : TypeId) (x y : Operand) (ho : o.op = .store ty x y)
    (g off : Nat) (hx : a.eval x = .pointer (some ⟨g, off, none⟩)) (zs : Array Value) (hy : a.eval y = .agg zs) (h1 : zs.all (·.oneCell') = true) (hi : (P.info? ty).map (·.size) = some zs.size)
    (t : TypeId) (cs : Array Value) (hb : Blk w g t cs) (hle : off + zs.size ≤ cs.size) (cs' : Array Value) (hc : (cs.toList.take off ++ zs.toList ++ cs.toList.drop (off + zs.toList.length)).toArray = cs')
    (h : ∀ w', Blk w' g t cs' → w.grownBy w' (some g) → wpList P ops Q rest (a.put o.dst undef) w') : wpList P ops Q (o :: rest) a w := by
  have hone : ∀ u ∈ zs.toList, u.oneCell' = true := fun u hu => (Array.all_eq_true_iff_forall_mem.1 h1) u (by simpa using hu)
  have hst := run_storeCells_at P g off t zs.toList 0 cs w hb (by simpa using hle) hone
  simp only [Nat.add_zero] at hst
  have hrun : (storeVar ty ⟨g, off, none⟩ (.agg zs)).run P w = .ok () (w.setRow g cs') := by
    cases hq : P.info? ty with
    | none => simp [hq] at hi
    | some j =>
      have hj : j.size = zs.size := by simpa [hq] using hi
      rw [← hc]
      simp [storeVar, sizeOf, typeInfo, hq, hj, Value.cells]
      simpa using hst
  refine wpList_plain hgd fun _ hK => ?_
  unfold Oper.wp execOp
  simp only [ho, hx, hy, Instr.storeAt, Instr.sureAddr, Sem.run_bind, Sem.run_pure, Result.andThen_ok, hrun]
  exact hK _ _ (h _ (hb.setRow_same _) (only_setRow (only_refl _ _) _))
theorem gs_load_mk_at {ops : Array Oper} {S : Nat → GSpec} {Q : Exit → Act → World → Prop} {i : Nat} {o : Oper} {a : Act} {w : World} (hw : Region.wanted o (yielded ops a.tmps) = true) (x : Operand) (ho : o.op = .load 37 x) (b off : Nat) (hx : a.eval x = .pointer (some ⟨b, off, none⟩)) (y : MkV) (hr : RowAt w b off y.C)
    (hp : (S i).p (.agg y.C) w) : GStep Tryd.prog ops S Q i o a w :=
  gs_run hw (v := .agg y.C) (by unfold execOp; simp only [ho, hx, Instr.loadAt, Instr.sureAddr, Sem.run_bind, Sem.run_pure, Result.andThen_ok, run_loadVar_at w b off _ _ _ hr Tryd.underlying37 rfl (info_mk.trans rfl)]) (Below.refl _ _) hp
theorem under_mks : Tryd.prog.underlying 41 = some (.slice (Tryd.prog.elem 41)) := by kernel_rfl
theorem size_mks (w : World) : (sizeOf (Tryd.prog.elem 41)).run Tryd.prog w = .ok 9 w := by kernel_rfl
theorem gs_neq_mark {ops : Array Oper} {S : Nat → GSpec} {Q : Exit → Act → World → Prop} {i : Nat} {o : Oper} {a : Act} {w : World} (hw : Region.wanted o (yielded ops a.tmps) = true) (t2 : TypeId) (x y : Operand) (ho : o.op = .binOp .neq 37 x y t2) (p q : MkV) (hx : a.eval x = .agg p.C) (hy : a.eval y = .agg q.C)
    (hp : (S i).p (.bool (!decide (p = q))) w) : GStep Tryd.prog ops S Q i o a w :=
  gs_bin hw _ _ _ x y ho _ _ _ hx hy (run_eqGuard_agg w _ _ _ _ _ _ guard_mark) (run_neq_mark p q w) hp
theorem gs_eql_alert {ops : Array Oper} {S : Nat → GSpec} {Q : Exit → Act → World → Prop} {i : Nat} {o : Oper} {a : Act} {w : World} (hw : Region.wanted o (yielded ops a.tmps) = true) (t2 : TypeId) (x y : Operand) (ho : o.op = .binOp .eql 40 x y t2) (p q : AlV) (hx : a.eval x = .agg p.C) (hy : a.eval y = .agg q.C)
    (hp : (S i).p (.bool (alertEq p q)) w) : GStep Tryd.prog ops S Q i o a w :=
  gs_bin hw _ _ _ x y ho _ _ _ hx hy (run_eqGuard_agg w _ _ _ _ _ _ guard_alert) (run_eql_alert p q w) hp
theorem field_nt_2 (b : Nat) (w : World) : (Instr.fieldAt 43 (.pointer (some ⟨b, 0, none⟩)) 2).run Tryd.prog w = .ok (.pointer (some ⟨b, 13, none⟩)) w := by kernel_rfl
theorem field_nt_0 (b : Nat) (w : World) : (Instr.fieldAt 43 (.pointer (some ⟨b, 0, none⟩)) 0).run Tryd.prog w = .ok (.pointer (some ⟨b, 0, none⟩)) w := by kernel_rfl
theorem field_nt_3 (b : Nat) (w : World) : (Instr.fieldAt 43 (.pointer (some ⟨b, 0, none⟩)) 3).run Tryd.prog w = .ok (.pointer (some ⟨b, 14, none⟩)) w := by kernel_rfl
set_option maxRecDepth 100000 in
set_option maxHeartbeats 16000000 in
theorem toldN_any (x y : NtV) (ms ns : List MkV) (w : World) (hx : NtOk w x ms) (hy : NtOk w y ns) :
    Calls Tryd.prog 13 #[.agg x.C, .agg y.C] w fun e w' => e = .returned (.bool (toldB x ms y ns)) ∧ Below w.heap.size w w' := by
  obtain ⟨V, hV⟩ : ∃ V, toldB x ms y ns = V := ⟨_, rfl⟩
  rw [hV]
  replace hV := Lib.hid hV
  go_enter Tryd.func13, Tryd.ntmps13
  go_upto_region 1 with (fail)
  have ha := blk_then (Blk.new w 43 x.C) (below_alloc (Below.refl (w.alloc (.cells x.C 43)).heap.size (w.alloc (.cells x.C 43))) (.cells y.C 43))
  have hb := Blk.new (w.alloc (.cells x.C 43)) 43 y.C
  have hB1 := below_alloc (below_alloc (Below.refl w.heap.size w) (.cells x.C 43)) (.cells y.C 43)
  have hz2 : (w.alloc (.cells x.C 43)).heap.size = w.heap.size + 1 := by rw [World.size_alloc]
  rw [hz2] at hb
  obtain ⟨w1, hw1⟩ : ∃ v, v = (w.alloc (.cells x.C 43)).alloc (.cells y.C 43) := ⟨_, rfl⟩
  rw [← hw1] at ha hb hB1 ⊢
  clear hz2 hw1
  obtain ⟨W0, hW0⟩ : ∃ v, v = w := ⟨_, rfl⟩
  obtain ⟨ga, hga⟩ : ∃ v, v = w.heap.size := ⟨_, rfl⟩
  obtain ⟨gb, hgb⟩ : ∃ v, v = ga + 1 := ⟨_, rfl⟩
  have hxs := hx.sl
  have hys := hy.sl
  rw [← hga] at ha hb hB1 hxs hys ⊢
  rw [← hgb] at hb ⊢
  replace hga := Lib.hid hga
  replace hgb := Lib.hid hgb
  have hml := Lib.hid hx.len
  have hnl := Lib.hid hy.len
  have hmf := hx.few
  have hnf := hy.few
  clear hx hy hW0 W0
  have cK : w1.cell? ⟨ga, 0, none⟩ = some (.int .i64 x.kind) := ha.cellv (by rfl)
  replace hV := hV.out
  by_cases hA : x.kind = 1 ∨ x.kind = 2 ∨ x.kind = 3
  case pos =>
    have hV2 : (alertEq (noLossA x.al) (noLossA y.al) && (x.kind != 1 || x.attempt == y.attempt)) = V := by
      rw [← hV]
      unfold toldB
      rw [if_pos hA]
    clear hV
    have hrx := row_alert ha
    have hry := row_alert hb
    obtain ⟨q, hq⟩ : ∃ q, alertEq (noLossA x.al) (noLossA y.al) = q := ⟨_, rfl⟩
    rw [hq] at hV2
    have cT : w1.cell? ⟨ga, 13, none⟩ = some (.int .i64 x.attempt) := ha.cellv rfl
    have cU : w1.cell? ⟨gb, 13, none⟩ = some (.int .i64 y.attempt) := hb.cellv rfl
    have hgl := hb.lt
    have hgl2 := ha.lt
    obtain ⟨r, hr⟩ : ∃ r, (x.attempt == y.attempt) = r := ⟨_, rfl⟩
    rw [hr] at hV2
    have go : ∀ (k : Int) (hk : k = 1 ∨ k = 2 ∨ k = 3), x.kind = k → Hid ((q && (k != 1 || r)) = V) := fun k _ e => Lib.hid (by rw [← hV2, e])
    clear hV2
    rcases hA with hk | hk | hk
    · rw [hk] at cK
      have hV3 := go 1 (by omega) hk
      clear go hk hxs hys hml hnl hmf hnf
      clear ha hb
      go_upto_region 7 with (first
        | (refine wpList_load_at rfl _ _ rfl ga 1 rfl _ _ hrx Tryd.underlying40 rfl (info_al.trans rfl) ?_; clear hrx)
        | (refine wpList_load_at rfl _ _ rfl gb 1 rfl _ _ hry2 Tryd.underlying40 rfl (info_al.trans rfl) ?_; clear hry2)
        | (refine wl_store_al rfl _ _ rfl w1.heap.size x.al ⟨0, ⟨0, 0, 0, 0, 0, 0, 0, 0, 0⟩, ⟨#[]⟩, 0⟩ rfl rfl (Blk.new _ _ _) ?_; intro w2 h5 hg2; have hB2 := below_grown (below_alloc (Below.refl w1.heap.size w1) _) hg2 (Nat.le_refl _); have hry2 : RowAt w2 gb 1 y.al.C := (fun j v hj => (hB2.cell (p := ⟨gb, 1 + j, none⟩) hgl).trans (hry j v hj)); clear hg2 hry)
        | (refine wl_store_al rfl _ _ rfl w2.heap.size y.al ⟨0, ⟨0, 0, 0, 0, 0, 0, 0, 0, 0⟩, ⟨#[]⟩, 0⟩ rfl rfl (Blk.new _ _ _) ?_; intro w3 h6 hg3))
      have hB3 := below_grown (below_alloc (Below.refl w2.heap.size w2) _) hg3 (Nat.le_refl _)
      have h5b := blk_then h5 hB3
      have hB13 : Below w1.heap.size w1 w3 := hB2.trans (hB3.mono hB2.size)
      obtain ⟨g5, hg5⟩ : ∃ v, v = w1.heap.size := ⟨_, rfl⟩
      obtain ⟨g6, hg6⟩ : ∃ v, v = w2.heap.size := ⟨_, rfl⟩
      have hd56 : g5 ≠ g6 := by have := h5.lt; omega
      have d5a : ga ≠ g5 := by omega
      have d5b : gb ≠ g5 := by omega
      have d6a : ga ≠ g6 := by have := hB2.size; omega
      have d6b : gb ≠ g6 := by have := hB2.size; omega
      have hb5 : w1.heap.size ≤ g5 := by omega
      have hb6 : w1.heap.size ≤ g6 := by have := hB2.size; omega
      rw [← hg5] at h5b ⊢
      rw [← hg6] at h6 ⊢
      replace hg5 := Lib.hid hg5
      replace hg6 := Lib.hid hg6
      clear hB2 hB3 h5 hg3
      go_upto_region 9 with (first
        | (refine wl_store_in rfl _ _ _ rfl g5 5 rfl #[.int .i64 0, .int .i64 0, .int .i64 0, .int .i64 0, .int .i64 0] rfl (by kernel_rfl) (info_ls.trans rfl) _ x.al.C h5b (Nat.le_of_ble_eq_true rfl) (noLossA x.al).C rfl ?_; intro w4 h5c hg4; have h6b := blk_grown h6 hg4 hd56.symm; clear h5b h6)
        | (refine wl_store_in rfl _ _ _ rfl g6 5 rfl #[.int .i64 0, .int .i64 0, .int .i64 0, .int .i64 0, .int .i64 0] rfl (by kernel_rfl) (info_ls.trans rfl) _ y.al.C h6b (Nat.le_of_ble_eq_true rfl) (noLossA y.al).C rfl ?_; intro w5 h6c hg7))
      have hB14 := below_grown hB13 hg4 hb5
      have hB15 := below_grown hB14 hg7 hb6
      have cT5 := cell_keep cT hgl2 hB15
      have cU5 := cell_keep cU hgl hB15
      have cK5 := cell_keep cK hgl2 hB15
      have h5d := blk_grown h5c hg7 hd56
      have hW : Below w.heap.size w w5 := by rw [← hga.out]; exact hB1.trans (hB15.mono (by omega))
      replace hW := Lib.hid hW
      have l5a : ga < w5.heap.size := Nat.lt_of_lt_of_le hgl2 hB15.size
      have l5b : gb < w5.heap.size := Nat.lt_of_lt_of_le hgl hB15.size
      have hz5 : w.heap.size ≤ w5.heap.size := hW.out.size
      clear h5c hg4 hg7 h6b hB14 hB13 hB15 cT cU cK d5a d5b d6a d6b hb5 hb6 hgl hgl2 hd56 hB1
      replace hq := Lib.hid hq
      replace hr := Lib.hid hr
      refine wp_region_text 16 [eqS (.agg (noLossA x.al).C), eqS (.agg (noLossA y.al).C), eqS (.bool q), eqS (.bool q), eqS (vF (true && (q == true)) (.pointer (some ⟨ga, 0, none⟩))), eqS (vF (true && (q == true)) (.int .i64 (1))), eqS (vF (true && (q == true)) (.bool false)), eqS (vF (true && (q == true)) (.bool false)), eqS (vF ((true && (q == true)) && (false == false)) (.pointer (some ⟨ga, 13, none⟩))), eqS (vF ((true && (q == true)) && (false == false)) (.int .i64 (x.attempt))), eqS (vF ((true && (q == true)) && (false == false)) (.pointer (some ⟨gb, 13, none⟩))), eqS (vF ((true && (q == true)) && (false == false)) (.int .i64 (y.attempt))), eqS (vF ((true && (q == true)) && (false == false)) (.bool r)), eqS (vF (true && (q == true)) (.bool (false || r))), eqS (.bool (q && (false || r))), eqS (.bool (q && (false || r)))] [24, 25, 26, 27, 28, 29, 30, 31, 32, 33, 34, 35, 36, 37, 38, 4] (by kernel_rfl) (by kernel_rfl) ?_ ?_
      · skip
        refine Steps.cons (fun a' w' hG hB dep => gs_load (want_none rfl) _ _ rfl g5 (hG.other 5 rfl) _ _ (blk_then h5d hB) _ Tryd.underlying40 rfl (info_al.trans rfl) rfl) ?_
        refine Steps.cons (fun a' w' hG hB dep => gs_load (want_none rfl) _ _ rfl g6 (hG.other 6 rfl) _ _ (blk_then h6c hB) _ Tryd.underlying40 rfl (info_al.trans rfl) rfl) ?_
        refine Steps.cons (fun a' w' hG hB dep => gs_eql_alert (want_none rfl) _ _ _ rfl _ _ (dep 0 rfl 24 rfl) (dep 1 rfl 25 rfl) (id (congrArg Value.bool hq.out))) ?_
        refine Steps.cons (fun a' w' hG hB dep => gs_move (want_none rfl) _ rfl (id (dep 2 rfl 26 rfl))) ?_
        refine Steps.cons (fun a' w' hG hB dep => gs_guard (c := true) (b' := q) rfl rfl (dep 3 rfl 27 rfl) (fun hc he hw => gs_field hw _ _ _ rfl ga (0) (0) (hG.other 2 rfl) (fun wz => field_nt_0 ga wz) (vF_yes (on_g hc he) _).symm) (fun hn => vF_no hn _)) ?_
        refine Steps.cons (fun a' w' hG hB dep => gs_guard (c := true) (b' := q) rfl rfl (dep 3 rfl 27 rfl) (fun hc he hw => gs_load1 hw _ _ rfl ga (0) (Eq.trans (dep 4 rfl 28 rfl) (vF_yes (on_g hc he) _)) (.int .i64 (1)) (cell_keep cK5 l5a hB) _ Tryd.underlying3 rfl (vF_yes (on_g hc he) _).symm) (fun hn => vF_no hn _)) ?_
        refine Steps.cons (fun a' w' hG hB dep => gs_guard (c := true) (b' := q) rfl rfl (dep 3 rfl 27 rfl) (fun hc he hw => gs_neq_int hw _ _ _ _ rfl _ _ _ (Eq.trans (dep 5 rfl 29 rfl) (vF_yes (on_g hc he) _)) rfl (Eq.trans (congrArg Value.bool (by decide)) (vF_yes (on_g hc he) _).symm)) (fun hn => vF_no hn _)) ?_
        refine Steps.cons (fun a' w' hG hB dep => gs_guard (c := true) (b' := q) rfl rfl (dep 3 rfl 27 rfl) (fun hc he hw => gs_move hw _ rfl (Eq.trans (Eq.trans (dep 6 rfl 30 rfl) (vF_yes (on_g hc he) _)) (vF_yes (on_g hc he) _).symm)) (fun hn => vF_no hn _)) ?_
        refine Steps.cons (fun a' w' hG hB dep => gs_guard (c := (true && (q == true))) (b' := false) rfl rfl (dep 7 rfl 31 rfl) (fun hc he hw => gs_field hw _ _ _ rfl ga (0) (13) (hG.other 2 rfl) (fun wz => field_nt_2 ga wz) (vF_yes (on_g hc he) _).symm) (fun hn => vF_no hn _)) ?_
        refine Steps.cons (fun a' w' hG hB dep => gs_guard (c := (true && (q == true))) (b' := false) rfl rfl (dep 7 rfl 31 rfl) (fun hc he hw => gs_load1 hw _ _ rfl ga (13) (Eq.trans (dep 8 rfl 32 rfl) (vF_yes (on_g hc he) _)) (.int .i64 (x.attempt)) (cell_keep cT5 l5a hB) _ Tryd.underlying3 rfl (vF_yes (on_g hc he) _).symm) (fun hn => vF_no hn _)) ?_
        refine Steps.cons (fun a' w' hG hB dep => gs_guard (c := (true && (q == true))) (b' := false) rfl rfl (dep 7 rfl 31 rfl) (fun hc he hw => gs_field hw _ _ _ rfl gb (0) (13) (hG.other 3 rfl) (fun wz => field_nt_2 gb wz) (vF_yes (on_g hc he) _).symm) (fun hn => vF_no hn _)) ?_
        refine Steps.cons (fun a' w' hG hB dep => gs_guard (c := (true && (q == true))) (b' := false) rfl rfl (dep 7 rfl 31 rfl) (fun hc he hw => gs_load1 hw _ _ rfl gb (13) (Eq.trans (dep 10 rfl 34 rfl) (vF_yes (on_g hc he) _)) (.int .i64 (y.attempt)) (cell_keep cU5 l5b hB) _ Tryd.underlying3 rfl (vF_yes (on_g hc he) _).symm) (fun hn => vF_no hn _)) ?_
        refine Steps.cons (fun a' w' hG hB dep => gs_guard (c := (true && (q == true))) (b' := false) rfl rfl (dep 7 rfl 31 rfl) (fun hc he hw => gs_eql_int hw _ _ _ _ rfl _ _ _ (Eq.trans (dep 9 rfl 33 rfl) (vF_yes (on_g hc he) _)) (Eq.trans (dep 11 rfl 35 rfl) (vF_yes (on_g hc he) _)) (Eq.trans (congrArg Value.bool hr.out) (vF_yes (on_g hc he) _).symm)) (fun hn => vF_no hn _)) ?_
        refine Steps.cons (fun a' w' hG hB dep => gs_guard (c := true) (b' := q) rfl rfl (dep 3 rfl 27 rfl) (fun hc he hw => gs_pick hw _ _ _ rfl false (Eq.trans (dep 7 rfl 31 rfl) (vF_yes (on_g hc he) _)) (Eq.trans (pick_or2 (c := (true && (q == true))) (on_g hc he) (dep 12 rfl 36 rfl)) (vF_yes (on_g hc he) _).symm)) (fun hn => vF_no hn _)) ?_
        refine Steps.cons (fun a' w' hG hB dep => gs_pick (want_none rfl) _ _ _ rfl q (dep 3 rfl 27 rfl) (id (pick_and2 (c := true) rfl (dep 13 rfl 37 rfl)))) ?_
        refine Steps.cons (fun a' w' hG hB dep => gs_assign (want_none rfl) _ rfl (id (dep 14 rfl 38 rfl))) ?_
        exact Steps.nil
      intro u w9 hw9 ans
      have hus4 : u 4 = (.bool (q && (false || r))) := ans 15 4 (by decide) rfl
      clear ans
      simp only [putAll, List.foldl_cons, List.foldl_nil, Act.put, List.setIfInBounds_toArray, List.set_cons_zero, List.set_cons_succ, hus4]
      clear hus4
      simp only [List.drop]
      refine wpList_nil ?_
      go_wp2_with (fail)
      go_ret
      exact ⟨by rw [← hV3.out]; rfl, hW.out.trans (hw9.mono hz5)⟩
    · rw [hk] at cK
      have hV3 := go 2 (by omega) hk
      clear go hk hxs hys hml hnl hmf hnf
      clear ha hb
      go_upto_region 7 with (first
        | (refine wpList_load_at rfl _ _ rfl ga 1 rfl _ _ hrx Tryd.underlying40 rfl (info_al.trans rfl) ?_; clear hrx)
        | (refine wpList_load_at rfl _ _ rfl gb 1 rfl _ _ hry2 Tryd.underlying40 rfl (info_al.trans rfl) ?_; clear hry2)
        | (refine wl_store_al rfl _ _ rfl w1.heap.size x.al ⟨0, ⟨0, 0, 0, 0, 0, 0, 0, 0, 0⟩, ⟨#[]⟩, 0⟩ rfl rfl (Blk.new _ _ _) ?_; intro w2 h5 hg2; have hB2 := below_grown (below_alloc (Below.refl w1.heap.size w1) _) hg2 (Nat.le_refl _); have hry2 : RowAt w2 gb 1 y.al.C := (fun j v hj => (hB2.cell (p := ⟨gb, 1 + j, none⟩) hgl).trans (hry j v hj)); clear hg2 hry)
        | (refine wl_store_al rfl _ _ rfl w2.heap.size y.al ⟨0, ⟨0, 0, 0, 0, 0, 0, 0, 0, 0⟩, ⟨#[]⟩, 0⟩ rfl rfl (Blk.new _ _ _) ?_; intro w3 h6 hg3))
      have hB3 := below_grown (below_alloc (Below.refl w2.heap.size w2) _) hg3 (Nat.le_refl _)
      have h5b := blk_then h5 hB3
      have hB13 : Below w1.heap.size w1 w3 := hB2.trans (hB3.mono hB2.size)
      obtain ⟨g5, hg5⟩ : ∃ v, v = w1.heap.size := ⟨_, rfl⟩
      obtain ⟨g6, hg6⟩ : ∃ v, v = w2.heap.size := ⟨_, rfl⟩
      have hd56 : g5 ≠ g6 := by have := h5.lt; omega
      have d5a : ga ≠ g5 := by omega
      have d5b : gb ≠ g5 := by omega
      have d6a : ga ≠ g6 := by have := hB2.size; omega
      have d6b : gb ≠ g6 := by have := hB2.size; omega
      have hb5 : w1.heap.size ≤ g5 := by omega
      have hb6 : w1.heap.size ≤ g6 := by have := hB2.size; omega
      rw [← hg5] at h5b ⊢
      rw [← hg6] at h6 ⊢
      replace hg5 := Lib.hid hg5
      replace hg6 := Lib.hid hg6
      clear hB2 hB3 h5 hg3
      go_upto_region 9 with (first
        | (refine wl_store_in rfl _ _ _ rfl g5 5 rfl #[.int .i64 0, .int .i64 0, .int .i64 0, .int .i64 0, .int .i64 0] rfl (by kernel_rfl) (info_ls.trans rfl) _ x.al.C h5b (Nat.le_of_ble_eq_true rfl) (noLossA x.al).C rfl ?_; intro w4 h5c hg4; have h6b := blk_grown h6 hg4 hd56.symm; clear h5b h6)
        | (refine wl_store_in rfl _ _ _ rfl g6 5 rfl #[.int .i64 0, .int .i64 0, .int .i64 0, .int .i64 0, .int .i64 0] rfl (by kernel_rfl) (info_ls.trans rfl) _ y.al.C h6b (Nat.le_of_ble_eq_true rfl) (noLossA y.al).C rfl ?_; intro w5 h6c hg7))
      have hB14 := below_grown hB13 hg4 hb5
      have hB15 := below_grown hB14 hg7 hb6
      have cT5 := cell_keep cT hgl2 hB15
      have cU5 := cell_keep cU hgl hB15
      have cK5 := cell_keep cK hgl2 hB15
      have h5d := blk_grown h5c hg7 hd56
      have hW : Below w.heap.size w w5 := by rw [← hga.out]; exact hB1.trans (hB15.mono (by omega))
      replace hW := Lib.hid hW
      have l5a : ga < w5.heap.size := Nat.lt_of_lt_of_le hgl2 hB15.size
      have l5b : gb < w5.heap.size := Nat.lt_of_lt_of_le hgl hB15.size
      have hz5 : w.heap.size ≤ w5.heap.size := hW.out.size
      clear h5c hg4 hg7 h6b hB14 hB13 hB15 cT cU cK d5a d5b d6a d6b hb5 hb6 hgl hgl2 hd56 hB1
      replace hq := Lib.hid hq
      replace hr := Lib.hid hr
      refine wp_region_text 16 [eqS (.agg (noLossA x.al).C), eqS (.agg (noLossA y.al).C), eqS (.bool q), eqS (.bool q), eqS (vF (true && (q == true)) (.pointer (some ⟨ga, 0, none⟩))), eqS (vF (true && (q == true)) (.int .i64 (2))), eqS (vF (true && (q == true)) (.bool true)), eqS (vF (true && (q == true)) (.bool true)), eqS (vF ((true && (q == true)) && (true == false)) (.pointer (some ⟨ga, 13, none⟩))), eqS (vF ((true && (q == true)) && (true == false)) (.int .i64 (x.attempt))), eqS (vF ((true && (q == true)) && (true == false)) (.pointer (some ⟨gb, 13, none⟩))), eqS (vF ((true && (q == true)) && (true == false)) (.int .i64 (y.attempt))), eqS (vF ((true && (q == true)) && (true == false)) (.bool r)), eqS (vF (true && (q == true)) (.bool (true || r))), eqS (.bool (q && (true || r))), eqS (.bool (q && (true || r)))] [24, 25, 26, 27, 28, 29, 30, 31, 32, 33, 34, 35, 36, 37, 38, 4] (by kernel_rfl) (by kernel_rfl) ?_ ?_
      · skip
        refine Steps.cons (fun a' w' hG hB dep => gs_load (want_none rfl) _ _ rfl g5 (hG.other 5 rfl) _ _ (blk_then h5d hB) _ Tryd.underlying40 rfl (info_al.trans rfl) rfl) ?_
        refine Steps.cons (fun a' w' hG hB dep => gs_load (want_none rfl) _ _ rfl g6 (hG.other 6 rfl) _ _ (blk_then h6c hB) _ Tryd.underlying40 rfl (info_al.trans rfl) rfl) ?_
        refine Steps.cons (fun a' w' hG hB dep => gs_eql_alert (want_none rfl) _ _ _ rfl _ _ (dep 0 rfl 24 rfl) (dep 1 rfl 25 rfl) (id (congrArg Value.bool hq.out))) ?_
        refine Steps.cons (fun a' w' hG hB dep => gs_move (want_none rfl) _ rfl (id (dep 2 rfl 26 rfl))) ?_
        refine Steps.cons (fun a' w' hG hB dep => gs_guard (c := true) (b' := q) rfl rfl (dep 3 rfl 27 rfl) (fun hc he hw => gs_field hw _ _ _ rfl ga (0) (0) (hG.other 2 rfl) (fun wz => field_nt_0 ga wz) (vF_yes (on_g hc he) _).symm) (fun hn => vF_no hn _)) ?_
        refine Steps.cons (fun a' w' hG hB dep => gs_guard (c := true) (b' := q) rfl rfl (dep 3 rfl 27 rfl) (fun hc he hw => gs_load1 hw _ _ rfl ga (0) (Eq.trans (dep 4 rfl 28 rfl) (vF_yes (on_g hc he) _)) (.int .i64 (2)) (cell_keep cK5 l5a hB) _ Tryd.underlying3 rfl (vF_yes (on_g hc he) _).symm) (fun hn => vF_no hn _)) ?_
        refine Steps.cons (fun a' w' hG hB dep => gs_guard (c := true) (b' := q) rfl rfl (dep 3 rfl 27 rfl) (fun hc he hw => gs_neq_int hw _ _ _ _ rfl _ _ _ (Eq.trans (dep 5 rfl 29 rfl) (vF_yes (on_g hc he) _)) rfl (Eq.trans (congrArg Value.bool (by decide)) (vF_yes (on_g hc he) _).symm)) (fun hn => vF_no hn _)) ?_
        refine Steps.cons (fun a' w' hG hB dep => gs_guard (c := true) (b' := q) rfl rfl (dep 3 rfl 27 rfl) (fun hc he hw => gs_move hw _ rfl (Eq.trans (Eq.trans (dep 6 rfl 30 rfl) (vF_yes (on_g hc he) _)) (vF_yes (on_g hc he) _).symm)) (fun hn => vF_no hn _)) ?_
        refine Steps.cons (fun a' w' hG hB dep => gs_guard (c := (true && (q == true))) (b' := true) rfl rfl (dep 7 rfl 31 rfl) (fun hc he hw => gs_field hw _ _ _ rfl ga (0) (13) (hG.other 2 rfl) (fun wz => field_nt_2 ga wz) (vF_yes (on_g hc he) _).symm) (fun hn => vF_no hn _)) ?_
        refine Steps.cons (fun a' w' hG hB dep => gs_guard (c := (true && (q == true))) (b' := true) rfl rfl (dep 7 rfl 31 rfl) (fun hc he hw => gs_load1 hw _ _ rfl ga (13) (Eq.trans (dep 8 rfl 32 rfl) (vF_yes (on_g hc he) _)) (.int .i64 (x.attempt)) (cell_keep cT5 l5a hB) _ Tryd.underlying3 rfl (vF_yes (on_g hc he) _).symm) (fun hn => vF_no hn _)) ?_
        refine Steps.cons (fun a' w' hG hB dep => gs_guard (c := (true && (q == true))) (b' := true) rfl rfl (dep 7 rfl 31 rfl) (fun hc he hw => gs_field hw _ _ _ rfl gb (0) (13) (hG.other 3 rfl) (fun wz => field_nt_2 gb wz) (vF_yes (on_g hc he) _).symm) (fun hn => vF_no hn _)) ?_
        refine Steps.cons (fun a' w' hG hB dep => gs_guard (c := (true && (q == true))) (b' := true) rfl rfl (dep 7 rfl 31 rfl) (fun hc he hw => gs_load1 hw _ _ rfl gb (13) (Eq.trans (dep 10 rfl 34 rfl) (vF_yes (on_g hc he) _)) (.int .i64 (y.attempt)) (cell_keep cU5 l5b hB) _ Tryd.underlying3 rfl (vF_yes (on_g hc he) _).symm) (fun hn => vF_no hn _)) ?_
        refine Steps.cons (fun a' w' hG hB dep => gs_guard (c := (true && (q == true))) (b' := true) rfl rfl (dep 7 rfl 31 rfl) (fun hc he hw => gs_eql_int hw _ _ _ _ rfl _ _ _ (Eq.trans (dep 9 rfl 33 rfl) (vF_yes (on_g hc he) _)) (Eq.trans (dep 11 rfl 35 rfl) (vF_yes (on_g hc he) _)) (Eq.trans (congrArg Value.bool hr.out) (vF_yes (on_g hc he) _).symm)) (fun hn => vF_no hn _)) ?_
        refine Steps.cons (fun a' w' hG hB dep => gs_guard (c := true) (b' := q) rfl rfl (dep 3 rfl 27 rfl) (fun hc he hw => gs_pick hw _ _ _ rfl true (Eq.trans (dep 7 rfl 31 rfl) (vF_yes (on_g hc he) _)) (Eq.trans (pick_or2 (c := (true && (q == true))) (on_g hc he) (dep 12 rfl 36 rfl)) (vF_yes (on_g hc he) _).symm)) (fun hn => vF_no hn _)) ?_
        refine Steps.cons (fun a' w' hG hB dep => gs_pick (want_none rfl) _ _ _ rfl q (dep 3 rfl 27 rfl) (id (pick_and2 (c := true) rfl (dep 13 rfl 37 rfl)))) ?_
        refine Steps.cons (fun a' w' hG hB dep => gs_assign (want_none rfl) _ rfl (id (dep 14 rfl 38 rfl))) ?_
        exact Steps.nil
      intro u w9 hw9 ans
      have hus4 : u 4 = (.bool (q && (true || r))) := ans 15 4 (by decide) rfl
      clear ans
      simp only [putAll, List.foldl_cons, List.foldl_nil, Act.put, List.setIfInBounds_toArray, List.set_cons_zero, List.set_cons_succ, hus4]
      clear hus4
      simp only [List.drop]
      refine wpList_nil ?_
      go_wp2_with (fail)
      go_ret
      exact ⟨by rw [← hV3.out]; rfl, hW.out.trans (hw9.mono hz5)⟩
    · rw [hk] at cK
      have hV3 := go 3 (by omega) hk
      clear go hk hxs hys hml hnl hmf hnf
      clear ha hb
      go_upto_region 7 with (first
        | (refine wpList_load_at rfl _ _ rfl ga 1 rfl _ _ hrx Tryd.underlying40 rfl (info_al.trans rfl) ?_; clear hrx)
        | (refine wpList_load_at rfl _ _ rfl gb 1 rfl _ _ hry2 Tryd.underlying40 rfl (info_al.trans rfl) ?_; clear hry2)
        | (refine wl_store_al rfl _ _ rfl w1.heap.size x.al ⟨0, ⟨0, 0, 0, 0, 0, 0, 0, 0, 0⟩, ⟨#[]⟩, 0⟩ rfl rfl (Blk.new _ _ _) ?_; intro w2 h5 hg2; have hB2 := below_grown (below_alloc (Below.refl w1.heap.size w1) _) hg2 (Nat.le_refl _); have hry2 : RowAt w2 gb 1 y.al.C := (fun j v hj => (hB2.cell (p := ⟨gb, 1 + j, none⟩) hgl).trans (hry j v hj)); clear hg2 hry)
        | (refine wl_store_al rfl _ _ rfl w2.heap.size y.al ⟨0, ⟨0, 0, 0, 0, 0, 0, 0, 0, 0⟩, ⟨#[]⟩, 0⟩ rfl rfl (Blk.new _ _ _) ?_; intro w3 h6 hg3))
      have hB3 := below_grown (below_alloc (Below.refl w2.heap.size w2) _) hg3 (Nat.le_refl _)
      have h5b := blk_then h5 hB3
      have hB13 : Below w1.heap.size w1 w3 := hB2.trans (hB3.mono hB2.size)
      obtain ⟨g5, hg5⟩ : ∃ v, v = w1.heap.size := ⟨_, rfl⟩
      obtain ⟨g6, hg6⟩ : ∃ v, v = w2.heap.size := ⟨_, rfl⟩
      have hd56 : g5 ≠ g6 := by have := h5.lt; omega
      have d5a : ga ≠ g5 := by omega
      have d5b : gb ≠ g5 := by omega
      have d6a : ga ≠ g6 := by have := hB2.size; omega
      have d6b : gb ≠ g6 := by have := hB2.size; omega
      have hb5 : w1.heap.size ≤ g5 := by omega
      have hb6 : w1.heap.size ≤ g6 := by have := hB2.size; omega
      rw [← hg5] at h5b ⊢
      rw [← hg6] at h6 ⊢
      replace hg5 := Lib.hid hg5
      replace hg6 := Lib.hid hg6
      clear hB2 hB3 h5 hg3
      go_upto_region 9 with (first
        | (refine wl_store_in rfl _ _ _ rfl g5 5 rfl #[.int .i64 0, .int .i64 0, .int .i64 0, .int .i64 0, .int .i64 0] rfl (by kernel_rfl) (info_ls.trans rfl) _ x.al.C h5b (Nat.le_of_ble_eq_true rfl) (noLossA x.al).C rfl ?_; intro w4 h5c hg4; have h6b := blk_grown h6 hg4 hd56.symm; clear h5b h6)
        | (refine wl_store_in rfl _ _ _ rfl g6 5 rfl #[.int .i64 0, .int .i64 0, .int .i64 0, .int .i64 0, .int .i64 0] rfl (by kernel_rfl) (info_ls.trans rfl) _ y.al.C h6b (Nat.le_of_ble_eq_true rfl) (noLossA y.al).C rfl ?_; intro w5 h6c hg7))
      have hB14 := below_grown hB13 hg4 hb5
      have hB15 := below_grown hB14 hg7 hb6
      have cT5 := cell_keep cT hgl2 hB15
      have cU5 := cell_keep cU hgl hB15
      have cK5 := cell_keep cK hgl2 hB15
      have h5d := blk_grown h5c hg7 hd56
      have hW : Below w.heap.size w w5 := by rw [← hga.out]; exact hB1.trans (hB15.mono (by omega))
      replace hW := Lib.hid hW
      have l5a : ga < w5.heap.size := Nat.lt_of_lt_of_le hgl2 hB15.size
      have l5b : gb < w5.heap.size := Nat.lt_of_lt_of_le hgl hB15.size
      have hz5 : w.heap.size ≤ w5.heap.size := hW.out.size
      clear h5c hg4 hg7 h6b hB14 hB13 hB15 cT cU cK d5a d5b d6a d6b hb5 hb6 hgl hgl2 hd56 hB1
      replace hq := Lib.hid hq
      replace hr := Lib.hid hr
      refine wp_region_text 16 [eqS (.agg (noLossA x.al).C), eqS (.agg (noLossA y.al).C), eqS (.bool q), eqS (.bool q), eqS (vF (true && (q == true)) (.pointer (some ⟨ga, 0, none⟩))), eqS (vF (true && (q == true)) (.int .i64 (3))), eqS (vF (true && (q == true)) (.bool true)), eqS (vF (true && (q == true)) (.bool true)), eqS (vF ((true && (q == true)) && (true == false)) (.pointer (some ⟨ga, 13, none⟩))), eqS (vF ((true && (q == true)) && (true == false)) (.int .i64 (x.attempt))), eqS (vF ((true && (q == true)) && (true == false)) (.pointer (some ⟨gb, 13, none⟩))), eqS (vF ((true && (q == true)) && (true == false)) (.int .i64 (y.attempt))), eqS (vF ((true && (q == true)) && (true == false)) (.bool r)), eqS (vF (true && (q == true)) (.bool (true || r))), eqS (.bool (q && (true || r))), eqS (.bool (q && (true || r)))] [24, 25, 26, 27, 28, 29, 30, 31, 32, 33, 34, 35, 36, 37, 38, 4] (by kernel_rfl) (by kernel_rfl) ?_ ?_
      · skip
        refine Steps.cons (fun a' w' hG hB dep => gs_load (want_none rfl) _ _ rfl g5 (hG.other 5 rfl) _ _ (blk_then h5d hB) _ Tryd.underlying40 rfl (info_al.trans rfl) rfl) ?_
        refine Steps.cons (fun a' w' hG hB dep => gs_load (want_none rfl) _ _ rfl g6 (hG.other 6 rfl) _ _ (blk_then h6c hB) _ Tryd.underlying40 rfl (info_al.trans rfl) rfl) ?_
        refine Steps.cons (fun a' w' hG hB dep => gs_eql_alert (want_none rfl) _ _ _ rfl _ _ (dep 0 rfl 24 rfl) (dep 1 rfl 25 rfl) (id (congrArg Value.bool hq.out))) ?_
        refine Steps.cons (fun a' w' hG hB dep => gs_move (want_none rfl) _ rfl (id (dep 2 rfl 26 rfl))) ?_
        refine Steps.cons (fun a' w' hG hB dep => gs_guard (c := true) (b' := q) rfl rfl (dep 3 rfl 27 rfl) (fun hc he hw => gs_field hw _ _ _ rfl ga (0) (0) (hG.other 2 rfl) (fun wz => field_nt_0 ga wz) (vF_yes (on_g hc he) _).symm) (fun hn => vF_no hn _)) ?_
        refine Steps.cons (fun a' w' hG hB dep => gs_guard (c := true) (b' := q) rfl rfl (dep 3 rfl 27 rfl) (fun hc he hw => gs_load1 hw _ _ rfl ga (0) (Eq.trans (dep 4 rfl 28 rfl) (vF_yes (on_g hc he) _)) (.int .i64 (3)) (cell_keep cK5 l5a hB) _ Tryd.underlying3 rfl (vF_yes (on_g hc he) _).symm) (fun hn => vF_no hn _)) ?_
        refine Steps.cons (fun a' w' hG hB dep => gs_guard (c := true) (b' := q) rfl rfl (dep 3 rfl 27 rfl) (fun hc he hw => gs_neq_int hw _ _ _ _ rfl _ _ _ (Eq.trans (dep 5 rfl 29 rfl) (vF_yes (on_g hc he) _)) rfl (Eq.trans (congrArg Value.bool (by decide)) (vF_yes (on_g hc he) _).symm)) (fun hn => vF_no hn _)) ?_
        refine Steps.cons (fun a' w' hG hB dep => gs_guard (c := true) (b' := q) rfl rfl (dep 3 rfl 27 rfl) (fun hc he hw => gs_move hw _ rfl (Eq.trans (Eq.trans (dep 6 rfl 30 rfl) (vF_yes (on_g hc he) _)) (vF_yes (on_g hc he) _).symm)) (fun hn => vF_no hn _)) ?_
        refine Steps.cons (fun a' w' hG hB dep => gs_guard (c := (true && (q == true))) (b' := true) rfl rfl (dep 7 rfl 31 rfl) (fun hc he hw => gs_field hw _ _ _ rfl ga (0) (13) (hG.other 2 rfl) (fun wz => field_nt_2 ga wz) (vF_yes (on_g hc he) _).symm) (fun hn => vF_no hn _)) ?_
        refine Steps.cons (fun a' w' hG hB dep => gs_guard (c := (true && (q == true))) (b' := true) rfl rfl (dep 7 rfl 31 rfl) (fun hc he hw => gs_load1 hw _ _ rfl ga (13) (Eq.trans (dep 8 rfl 32 rfl) (vF_yes (on_g hc he) _)) (.int .i64 (x.attempt)) (cell_keep cT5 l5a hB) _ Tryd.underlying3 rfl (vF_yes (on_g hc he) _).symm) (fun hn => vF_no hn _)) ?_
        refine Steps.cons (fun a' w' hG hB dep => gs_guard (c := (true && (q == true))) (b' := true) rfl rfl (dep 7 rfl 31 rfl) (fun hc he hw => gs_field hw _ _ _ rfl gb (0) (13) (hG.other 3 rfl) (fun wz => field_nt_2 gb wz) (vF_yes (on_g hc he) _).symm) (fun hn => vF_no hn _)) ?_
        refine Steps.cons (fun a' w' hG hB dep => gs_guard (c := (true && (q == true))) (b' := true) rfl rfl (dep 7 rfl 31 rfl) (fun hc he hw => gs_load1 hw _ _ rfl gb (13) (Eq.trans (dep 10 rfl 34 rfl) (vF_yes (on_g hc he) _)) (.int .i64 (y.attempt)) (cell_keep cU5 l5b hB) _ Tryd.underlying3 rfl (vF_yes (on_g hc he) _).symm) (fun hn => vF_no hn _)) ?_
        refine Steps.cons (fun a' w' hG hB dep => gs_guard (c := (true && (q == true))) (b' := true) rfl rfl (dep 7 rfl 31 rfl) (fun hc he hw => gs_eql_int hw _ _ _ _ rfl _ _ _ (Eq.trans (dep 9 rfl 33 rfl) (vF_yes (on_g hc he) _)) (Eq.trans (dep 11 rfl 35 rfl) (vF_yes (on_g hc he) _)) (Eq.trans (congrArg Value.bool hr.out) (vF_yes (on_g hc he) _).symm)) (fun hn => vF_no hn _)) ?_
        refine Steps.cons (fun a' w' hG hB dep => gs_guard (c := true) (b' := q) rfl rfl (dep 3 rfl 27 rfl) (fun hc he hw => gs_pick hw _ _ _ rfl true (Eq.trans (dep 7 rfl 31 rfl) (vF_yes (on_g hc he) _)) (Eq.trans (pick_or2 (c := (true && (q == true))) (on_g hc he) (dep 12 rfl 36 rfl)) (vF_yes (on_g hc he) _).symm)) (fun hn => vF_no hn _)) ?_
        refine Steps.cons (fun a' w' hG hB dep => gs_pick (want_none rfl) _ _ _ rfl q (dep 3 rfl 27 rfl) (id (pick_and2 (c := true) rfl (dep 13 rfl 37 rfl)))) ?_
        refine Steps.cons (fun a' w' hG hB dep => gs_assign (want_none rfl) _ rfl (id (dep 14 rfl 38 rfl))) ?_
        exact Steps.nil
      intro u w9 hw9 ans
      have hus4 : u 4 = (.bool (q && (true || r))) := ans 15 4 (by decide) rfl
      clear ans
      simp only [putAll, List.foldl_cons, List.foldl_nil, Act.put, List.setIfInBounds_toArray, List.set_cons_zero, List.set_cons_succ, hus4]
      clear hus4
      simp only [List.drop]
      refine wpList_nil ?_
      go_wp2_with (fail)
      go_ret
      exact ⟨by rw [← hV3.out]; rfl, hW.out.trans (hw9.mono hz5)⟩
  case neg =>
    have e1 : (x.kind == 1) = false := by rw [beq_eq_false_iff_ne]; omega
    have e2 : (x.kind == 2) = false := by rw [beq_eq_false_iff_ne]; omega
    have e3 : (x.kind == 3) = false := by rw [beq_eq_false_iff_ne]; omega
    by_cases hk : x.kind = 4
    case neg =>
      have e4 : (x.kind == 4) = false := by rw [beq_eq_false_iff_ne]; omega
      have hv : Hid (V = true) := Lib.hid (by rw [← hV]; unfold toldB; rw [if_neg hA, if_neg hk])
      clear hV hA hk ha hb hxs hys hml hnl hmf hnf
      go_wp2_with (fail)
      go_ret
      exact ⟨by rw [hv.out]; rfl, by rw [← hga.out]; exact hB1⟩
    have hV2 : Hid (decide (ms = ns) = V) := Lib.hid (by rw [← hV]; unfold toldB; rw [if_neg hA, if_pos hk])
    clear hV hA
    rw [hk] at cK e1 e2 e3
    clear hk e1 e2 e3
    have cS : w1.cell? ⟨ga, 14, none⟩ = some (.slice x.A x.m x.c) := ha.cellv rfl
    have cR : w1.cell? ⟨gb, 14, none⟩ = some (.slice y.A y.m y.c) := hb.cellv rfl
    have hgl := hb.lt
    have hgl2 := ha.lt
    by_cases hnm : x.m = y.m
    case neg =>
      have f1 : ((x.m : Int) != (y.m : Int)) = true := by rw [bne_iff_ne]; omega
      have hv : Hid (V = false) := Lib.hid (by rw [← hV2.out]; exact decide_eq_false fun h => hnm (by rw [hml.out, hnl.out, h]))
      clear hnm
      go_wp2_with (fail)
      go_ret
      exact ⟨by rw [hv.out]; rfl, by rw [← hga.out]; exact hB1⟩
    have f1 : ((x.m : Int) != (y.m : Int)) = false := by rw [hnm]; simp
    have hnm2 := Lib.hid hnm
    clear hnm
    go_wp2_with (fail)
    clear cK f1
    go_loopw [7] (fun iv wr => ∃ j : Nat, j ≤ x.m ∧ iv = .int .i64 j ∧ Below w1.heap.size w1 wr ∧ Hid (ms.take j = ns.take j)) (fun iv _ => x.m - (intOf iv).toNat)
    case atStart => exact ⟨0, by omega, rfl, Below.refl _ _, Lib.hid rfl⟩
    case round =>
      obtain ⟨j, hj, rfl, hBw, hpre⟩ := hrel
      have ha' := blk_then ha hBw
      have hb' := blk_then hb hBw
      have cS' := cell_keep cS hgl2 hBw
      have cR' := cell_keep cR hgl hBw
      by_cases hjl : j < x.m
      · have hjI : (j : Int) < x.m := by omega
        have hjx : j < ms.length := by rw [← hml.out]; exact hjl
        have hjy : j < ns.length := by rw [← hnl.out, ← hnm2.out]; exact hjl
        have hjm : j < y.m := by rw [← hnm2.out]; exact hjl
        obtain ⟨bA, offA, hAA, hbA, hrA⟩ := hxs.at_ (by omega)
        obtain ⟨bB, offB, hAB, hbB, hrB⟩ := hys.at_ (by omega)
        obtain ⟨p, hp⟩ : ∃ p, ms[j] = p := ⟨_, rfl⟩
        obtain ⟨q, hq⟩ : ∃ q, ns[j] = q := ⟨_, rfl⟩
        have rA : RowAt wr bA (offA + j * 9) p.C := fun i v hi => by
          rw [← hp] at hi
          exact (hBw.cell (p := ⟨bA, offA + j * 9 + i, none⟩) (by simp only; omega)).trans ((hB1.cell (p := ⟨bA, offA + j * 9 + i, none⟩) (by simp only; omega)).trans (hrA j hjx i v hi))
        have rB : RowAt wr bB (offB + j * 9) q.C := fun i v hi => by
          rw [← hq] at hi
          exact (hBw.cell (p := ⟨bB, offB + j * 9 + i, none⟩) (by simp only; omega)).trans ((hB1.cell (p := ⟨bB, offB + j * 9 + i, none⟩) (by simp only; omega)).trans (hrB j hjy i v hi))
        have hsz : w1.heap.size ≤ wr.heap.size := hBw.size
        have lga : ga < wr.heap.size := by omega
        have lgb : gb < wr.heap.size := by omega
        have lA : bA < wr.heap.size := by omega
        have lB : bB < wr.heap.size := by omega
        have hax : Hid (ms[j]? = some p) := Lib.hid (by rw [List.getElem?_eq_getElem hjx, hp])
        have hby : Hid (ns[j]? = some q) := Lib.hid (by rw [List.getElem?_eq_getElem hjy, hq])
        rw [hAA] at cS'
        rw [hAB] at cR'
        clear hp hq hrA hrB
        obtain ⟨b, hb2⟩ : ∃ b, decide (p = q) = b := ⟨_, rfl⟩
        replace hb2 := Lib.hid hb2
        go_upto_region 16 with (fail)
        refine wp_region_steps 11 [eqS (.pointer (some ⟨ga, 14, none⟩)), eqS (.slice (some ⟨bA, offA, none⟩) x.m x.c), eqS (.int .i64 (((j : Nat) : Int))), eqS (.pointer (some ⟨bA, offA + j * 9, none⟩)), eqS (.agg p.C), eqS (.pointer (some ⟨gb, 14, none⟩)), eqS (.slice (some ⟨bB, offB, none⟩) y.m y.c), eqS (.int .i64 (((j : Nat) : Int))), eqS (.pointer (some ⟨bB, offB + j * 9, none⟩)), eqS (.agg q.C), eqS (.bool (!b))] [55, 56, 57, 58, 59, 60, 61, 62, 63, 64, 65] (by kernel_rfl) (by kernel_rfl) (by kernel_rfl) ?_ ?_
        · skip
          refine Steps.cons (fun a' w' hG hB dep => gs_field (want_none rfl) _ _ _ rfl ga (0) (14) (hG.other 2 rfl) (fun wz => field_nt_3 ga wz) rfl) ?_
          refine Steps.cons (fun a' w' hG hB dep => gs_load1 (want_none rfl) _ _ rfl ga (14) (dep 0 rfl 55 rfl) (.slice (some ⟨bA, offA, none⟩) x.m x.c) (cell_keep cS' lga hB) _ Tryd.underlying41 rfl rfl) ?_
          refine Steps.cons (fun a' w' hG hB dep => gs_move (want_none rfl) _ rfl (id (hG.other 7 rfl))) ?_
          refine Steps.cons (fun a' w' hG hB dep => gs_index (want_none rfl) _ _ _ rfl under_mks 9 size_mks bA offA x.m x.c (j) (dep 1 rfl 56 rfl) (dep 2 rfl 57 rfl) hjl rfl) ?_
          refine Steps.cons (fun a' w' hG hB dep => gs_load_mk_at (want_none rfl) _ rfl bA (offA + j * 9) (dep 3 rfl 58 rfl) _ (rA.keep (hB.block bA lA)) rfl) ?_
          refine Steps.cons (fun a' w' hG hB dep => gs_field (want_none rfl) _ _ _ rfl gb (0) (14) (hG.other 3 rfl) (fun wz => field_nt_3 gb wz) rfl) ?_
          refine Steps.cons (fun a' w' hG hB dep => gs_load1 (want_none rfl) _ _ rfl gb (14) (dep 5 rfl 60 rfl) (.slice (some ⟨bB, offB, none⟩) y.m y.c) (cell_keep cR' lgb hB) _ Tryd.underlying41 rfl rfl) ?_
          refine Steps.cons (fun a' w' hG hB dep => gs_move (want_none rfl) _ rfl (id (hG.other 7 rfl))) ?_
          refine Steps.cons (fun a' w' hG hB dep => gs_index (want_none rfl) _ _ _ rfl under_mks 9 size_mks bB offB y.m y.c (j) (dep 6 rfl 61 rfl) (dep 7 rfl 62 rfl) hjm rfl) ?_
          refine Steps.cons (fun a' w' hG hB dep => gs_load_mk_at (want_none rfl) _ rfl bB (offB + j * 9) (dep 8 rfl 63 rfl) _ (rB.keep (hB.block bB lB)) rfl) ?_
          refine Steps.cons (fun a' w' hG hB dep => gs_neq_mark (want_none rfl) _ _ _ rfl p q (dep 4 rfl 59 rfl) (dep 9 rfl 64 rfl) (id (congrArg (fun c => Value.bool (!c)) hb2.out))) ?_
          exact Steps.nil
        intro u w9 hw9 ans
        have hus65 : u 65 = (.bool (!b)) := ans 10 65 (by decide) rfl
        clear ans
        simp only [putAll, List.foldl_cons, List.foldl_nil, Act.put, List.setIfInBounds_toArray, List.set_cons_zero, List.set_cons_succ, hus65]
        clear hus65
        simp only [List.drop]
        refine wpList_nil ?_
        have hBx : Below w1.heap.size w1 w9 := hBw.trans (hw9.mono hBw.size)
        cases b with
        | true =>
          have hpre2 : Hid (ms.take (j + 1) = ns.take (j + 1)) := Lib.hid (by
            rw [List.take_add_one, List.take_add_one, hpre.out, hax.out, hby.out, of_decide_eq_true hb2.out])
          go_wp2_with (fail)
          exact ⟨⟨j + 1, by omega, rfl, hBx, hpre2⟩, by simp only [intOf]; omega⟩
        | false =>
          have hv : Hid (V = false) := Lib.hid (by
            rw [← hV2.out]
            exact decide_eq_false fun h => by
              have h1 := hax.out
              rw [h, hby.out] at h1
              exact of_decide_eq_false hb2.out (Option.some.inj h1).symm)
          go_wp2_with (fail)
          go_ret
          exact ⟨by rw [hv.out]; rfl, by rw [← hga.out]; exact hB1.trans (hBx.mono (by omega))⟩
      · have hjI : ¬ (j : Int) < x.m := by omega
        have hv : Hid (V = true) := Lib.hid (by
          rw [← hV2.out]
          have h1 := hpre.out
          rw [List.take_of_length_le (by rw [← hml.out]; omega), List.take_of_length_le (by rw [← hnl.out, ← hnm2.out]; omega)] at h1
          exact decide_eq_true h1)
        go_wp2_with (fail)
        go_ret
        exact ⟨by rw [hv.out]; rfl, by rw [← hga.out]; exact hB1.trans (hBw.mono (by omega))⟩
end
section
attribute [local go_sem] Oper.semAt_some

theorem info_nt : (Tryd.prog.info? 43).map (·.size) = some 15 := by kernel_rfl
theorem enter_toldN (args : Array Value) (w : World) : (callFunc 13 args).run Tryd.prog w = .ok (.enter 13 args) w := by kernel_rfl
def noneB : ByteArray := ⟨#[110, 111, 110, 101]⟩
theorem noneB_tl : tl noneB = noneW := rfl
set_option maxRecDepth 100000 in
set_option maxHeartbeats 16000000 in
theorem scriptApart_any (a b : NtV) (ka kb : List MkV) (w : World) (hA : NtOk w a ka) (hB0 : NtOk w b kb) (hS : SOk w) :
    Calls Tryd.prog 5 #[.agg a.C, .agg b.C] w fun e w' => e = .returned (.bool true) ∧ Below w.heap.size w w' := by
  have h7 := hS.size
  replace hS := Lib.hid hS
  go_enter Tryd.func5, Tryd.ntmps5
  go_upto_region 1 with (fail)
  have ha := blk_then (Blk.new w 43 a.C) (below_alloc (Below.refl (w.alloc (.cells a.C 43)).heap.size (w.alloc (.cells a.C 43))) (.cells b.C 43))
  have hb := Blk.new (w.alloc (.cells a.C 43)) 43 b.C
  have hB2 := below_alloc (below_alloc (Below.refl w.heap.size w) (.cells a.C 43)) (.cells b.C 43)
  have hz2 : (w.alloc (.cells a.C 43)).heap.size = w.heap.size + 1 := by rw [World.size_alloc]
  rw [hz2] at hb
  obtain ⟨w1, hw1⟩ : ∃ v, v = (w.alloc (.cells a.C 43)).alloc (.cells b.C 43) := ⟨_, rfl⟩
  rw [← hw1] at ha hb hB2 ⊢
  clear hz2 hw1
  obtain ⟨ga, hga⟩ : ∃ v, v = w.heap.size := ⟨_, rfl⟩
  obtain ⟨gb, hgb⟩ : ∃ v, v = ga + 1 := ⟨_, rfl⟩
  rw [← hga] at ha hb ⊢
  rw [← hgb] at hb ⊢
  replace hga := Lib.hid hga
  replace hgb := Lib.hid hgb
  have kF := fixed_any w1 (hS.out.then_ h7 hB2)
  go_upto_region 3 with (go_at_call 6; refine kF.mono ?_; clear kF; rintro e w2 ⟨rfl, hB3⟩; refine Lib.hid ?_)
  have ha2 := blk_then ha hB3
  have hb2 := blk_then hb hB3
  have hBw := hB2.trans (hB3.mono hB2.size)
  clear ha hb hB2 hB3
  have kP := tell_any a ka w2 (hA.then_ hBw) (hS.out.then_ h7 hBw)
  obtain ⟨s, hs⟩ : ∃ s : ByteArray, ⟨(tellJ a ka).toArray⟩ = s := ⟨_, rfl⟩
  obtain ⟨t, ht⟩ : ∃ t : ByteArray, ⟨(tellJ b kb).toArray⟩ = t := ⟨_, rfl⟩
  have hsJ : tl s = tellJ a ka := by rw [← hs]
  have htJ : tl t = tellJ b kb := by rw [← ht]
  have hss : s.size ≤ 1099511627776 := by
    have h1 := tellJ_len hA
    rw [← hsJ] at h1
    have h2 : (tl s).length = s.size := by simp [tl]
    omega
  unfold strV at kP
  rw [show joinW ((tellT a.kind a.al a.attempt ka).map quo) = tellJ a ka from rfl, hs] at kP
  replace hs := Lib.hid hs
  replace ht := Lib.hid ht
  replace hss := Lib.hid hss
  go_upto_region 4 with (first
    | (refine wpList_load_row rfl _ _ rfl ga rfl _ _ _ _ ha2 Tryd.underlying43 rfl (info_nt.trans rfl) ?_)
    | (go_at_call 12; refine kP.mono ?_; clear kP; rintro e w3 ⟨rfl, hB3⟩; refine Lib.hid ?_))
  have ha3 := blk_then ha2 hB3
  have hb3 := blk_then hb2 hB3
  have hBw3 := hBw.trans (hB3.mono hBw.size)
  clear ha2 hb2 hBw hB3
  have kP := tell_any b kb w3 (hB0.then_ hBw3) (hS.out.then_ h7 hBw3)
  unfold strV at kP
  rw [show joinW ((tellT b.kind b.al b.attempt kb).map quo) = tellJ b kb from rfl, ht.out] at kP
  go_upto_region 5 with (first
    | (refine wpList_load_row rfl _ _ rfl gb rfl _ _ _ _ hb3 Tryd.underlying43 rfl (info_nt.trans rfl) ?_)
    | (go_at_call 12; refine kP.mono ?_; clear kP; rintro e w4 ⟨rfl, hB4⟩; refine Lib.hid ?_))
  have ha := blk_then ha3 hB4
  have hb := blk_then hb3 hB4
  have hBw := hBw3.trans (hB4.mono hBw3.size)
  clear ha3 hb3 hBw3 hB4
  have kO : ∀ w', Below w4.heap.size w4 w' → Calls Tryd.prog 11 #[.string s] w' fun e w2 => e = .returned (.bool true) ∧ Below w'.heap.size w' w2 := fun w' hB => by
    have h := oneLine_any s hss.out w'
    rw [hsJ, tellJ_one] at h
    exact h
  obtain ⟨pa, hpa⟩ : ∃ v, (s.toList == noneB.toList) = v := ⟨_, rfl⟩
  obtain ⟨pb, hpb⟩ : ∃ v, (t.toList == noneB.toList) = v := ⟨_, rfl⟩
  obtain ⟨la, hla⟩ : ∃ v, decide (a.kind < 1) = v := ⟨_, rfl⟩
  obtain ⟨xa, hxa⟩ : ∃ v, decide (a.kind > 5) = v := ⟨_, rfl⟩
  obtain ⟨lb, hlb⟩ : ∃ v, decide (b.kind < 1) = v := ⟨_, rfl⟩
  obtain ⟨xb, hxb⟩ : ∃ v, decide (b.kind > 5) = v := ⟨_, rfl⟩
  obtain ⟨st, hst⟩ : ∃ v, (s.toList == t.toList) = v := ⟨_, rfl⟩
  obtain ⟨kk, hkk⟩ : ∃ v, (a.kind == b.kind) = v := ⟨_, rfl⟩
  obtain ⟨tt, htt⟩ : ∃ v, toldB a ka b kb = v := ⟨_, rfl⟩
  have npa : pa = (la || xa) := by
    rw [← hpa, ← hla, ← hxa, Bool.eq_iff_iff, beq_iff_eq, ← tl_eq, noneB_tl, hsJ, tellJ_none, Bool.or_eq_true, decide_eq_true_iff, decide_eq_true_iff]
    unfold kOk
    omega
  have npb : pb = (lb || xb) := by
    rw [← hpb, ← hlb, ← hxb, Bool.eq_iff_iff, beq_iff_eq, ← tl_eq, noneB_tl, htJ, tellJ_none, Bool.or_eq_true, decide_eq_true_iff, decide_eq_true_iff]
    unfold kOk
    omega
  have q5 : (pa != (la || xa)) = false := by rw [npa]; simp
  have hkT : ∀ w', Below w4.heap.size w4 w' → Calls Tryd.prog 13 #[.agg a.C, .agg b.C] w' fun e w2 => e = .returned (.bool tt) ∧ Below w'.heap.size w' w2 := fun w' hB => by
    have hB9 := hBw.trans (hB.mono hBw.size)
    have h := toldN_any a b ka kb w' (hA.then_ hB9) (hB0.then_ hB9)
    rw [htt] at h
    exact h
  have cond8 : (pa || pb) = true → (st == ((la || xa) && (lb || xb))) = true := by
    intro h
    rw [← npa, ← npb]
    have h1 : st = (pa && pb) := by
      rw [← hst, Bool.eq_iff_iff, beq_iff_eq, Bool.and_eq_true, ← hpa, ← hpb, beq_iff_eq, beq_iff_eq]
      constructor
      · intro e
        rw [← hpa, ← hpb, e, Bool.or_self, beq_iff_eq] at h
        exact ⟨e.trans h, h⟩
      · rintro ⟨e1, e2⟩
        rw [e1, e2]
    rw [h1]
    simp
  have cond9 : (pa || pb) = false → (st == (kk && tt)) = true := by
    intro h
    have h2 := Bool.or_eq_false_iff.1 h
    have ka1 : kOk a.kind := by
      by_cases hk : kOk a.kind
      · exact hk
      · have h3 := (tellJ_none a ka).2 hk
        have h4 : pa = true := by rw [← hpa, beq_iff_eq, ← tl_eq, noneB_tl, hsJ, h3]
        rw [h4] at h2
        exact absurd h2.1 (by decide)
    have kb1 : kOk b.kind := by
      by_cases hk : kOk b.kind
      · exact hk
      · have h3 := (tellJ_none b kb).2 hk
        have h4 : pb = true := by rw [← hpb, beq_iff_eq, ← tl_eq, noneB_tl, htJ, h3]
        rw [h4] at h2
        exact absurd h2.2 (by decide)
    rw [beq_iff_eq, ← hst, ← hkk, ← htt, Bool.eq_iff_iff, beq_iff_eq, Bool.and_eq_true, beq_iff_eq, ← tl_eq, hsJ, htJ]
    exact told_same a b ka kb w w hA hB0 ka1 kb1
  have hla' := Lib.hid hla
  have hxa' := Lib.hid hxa
  have hlb' := Lib.hid hlb
  have hxb' := Lib.hid hxb
  have hpa' := Lib.hid hpa
  have hpb' := Lib.hid hpb
  have hst' := Lib.hid hst
  have hkk' := Lib.hid hkk
  have q5' := Lib.hid q5
  replace cond8 := Lib.hid cond8
  replace cond9 := Lib.hid cond9
  clear hla hxa hlb hxb hpa hpb hst hkk htt npa npb q5 hsJ htJ
  refine wp_region_text 16 [eqS (.string s), eqS (.bool true), eqS (.bool (!true)), eqS (.bool (!true)), eqS (vF (true && ((!true) == false)) (.string s)), eqS (vF (true && ((!true) == false)) (.bool pa)), eqS (vF (true && ((!true) == false)) (.pointer (some ⟨ga, 0, none⟩))), eqS (vF (true && ((!true) == false)) (.int .i64 (a.kind))), eqS (vF (true && ((!true) == false)) (.bool la)), eqS (vF (true && ((!true) == false)) (.bool la)), eqS (vF ((true && ((!true) == false)) && (la == false)) (.pointer (some ⟨ga, 0, none⟩))), eqS (vF ((true && ((!true) == false)) && (la == false)) (.int .i64 (a.kind))), eqS (vF ((true && ((!true) == false)) && (la == false)) (.bool xa)), eqS (vF (true && ((!true) == false)) (.bool (la || xa))), eqS (vF (true && ((!true) == false)) (.bool false)), eqS (.bool ((!true) || false))] [13, 14, 15, 16, 17, 18, 19, 20, 21, 22, 23, 24, 25, 26, 27, 28] (by kernel_rfl) (by kernel_rfl) ?_ ?_
  · skip
    refine Steps.cons (fun a' w' hG hB dep => gs_move (want_none rfl) _ rfl (id (hG.other 5 rfl))) ?_
    refine Steps.cons (fun a' w' hG hB dep => gs_call (want_none rfl) _ _ _ rfl enter_oneLine _ (map1 (dep 0 rfl 13 rfl)) ((kO _ hB).mono fun e w2 ⟨hq9, hb9⟩ => ⟨_, hq9, hb9, rfl⟩)) ?_
    refine Steps.cons (fun a' w' hG hB dep => gs_not_bool (want_none rfl) _ _ rfl _ (dep 1 rfl 14 rfl) rfl) ?_
    refine Steps.cons (fun a' w' hG hB dep => gs_move (want_none rfl) _ rfl (id (dep 2 rfl 15 rfl))) ?_
    refine Steps.cons (fun a' w' hG hB dep => gs_guard (c := true) (b' := (!true)) rfl rfl (dep 3 rfl 16 rfl) (fun hc he hw => gs_move hw _ rfl (Eq.trans (hG.other 5 rfl) (vF_yes (on_g hc he) _).symm)) (fun hn => vF_no hn _)) ?_
    refine Steps.cons (fun a' w' hG hB dep => gs_guard (c := true) (b' := (!true)) rfl rfl (dep 3 rfl 16 rfl) (fun hc he hw => gs_eql_str hw _ _ _ _ rfl s noneB (Eq.trans (dep 4 rfl 17 rfl) (vF_yes (on_g hc he) _)) rfl (Eq.trans (congrArg Value.bool hpa'.out) (vF_yes (on_g hc he) _).symm)) (fun hn => vF_no hn _)) ?_
    refine Steps.cons (fun a' w' hG hB dep => gs_guard (c := true) (b' := (!true)) rfl rfl (dep 3 rfl 16 rfl) (fun hc he hw => gs_field hw _ _ _ rfl ga (0) (0) (hG.other 2 rfl) (fun wz => field_nt_0 ga wz) (vF_yes (on_g hc he) _).symm) (fun hn => vF_no hn _)) ?_
    refine Steps.cons (fun a' w' hG hB dep => gs_guard (c := true) (b' := (!true)) rfl rfl (dep 3 rfl 16 rfl) (fun hc he hw => gs_load1 hw _ _ rfl ga (0) (Eq.trans (dep 6 rfl 19 rfl) (vF_yes (on_g hc he) _)) (.int .i64 (a.kind)) ((blk_then ha hB).cellv (i := 0) rfl) _ Tryd.underlying3 rfl (vF_yes (on_g hc he) _).symm) (fun hn => vF_no hn _)) ?_
    refine Steps.cons (fun a' w' hG hB dep => gs_guard (c := true) (b' := (!true)) rfl rfl (dep 3 rfl 16 rfl) (fun hc he hw => gs_lss_int hw _ _ _ _ rfl _ _ _ (Eq.trans (dep 7 rfl 20 rfl) (vF_yes (on_g hc he) _)) rfl (Eq.trans (congrArg Value.bool hla'.out) (vF_yes (on_g hc he) _).symm)) (fun hn => vF_no hn _)) ?_
    refine Steps.cons (fun a' w' hG hB dep => gs_guard (c := true) (b' := (!true)) rfl rfl (dep 3 rfl 16 rfl) (fun hc he hw => gs_move hw _ rfl (Eq.trans (Eq.trans (dep 8 rfl 21 rfl) (vF_yes (on_g hc he) _)) (vF_yes (on_g hc he) _).symm)) (fun hn => vF_no hn _)) ?_
    refine Steps.cons (fun a' w' hG hB dep => gs_guard (c := (true && ((!true) == false))) (b' := la) rfl rfl (dep 9 rfl 22 rfl) (fun hc he hw => gs_field hw _ _ _ rfl ga (0) (0) (hG.other 2 rfl) (fun wz => field_nt_0 ga wz) (vF_yes (on_g hc he) _).symm) (fun hn => vF_no hn _)) ?_
    refine Steps.cons (fun a' w' hG hB dep => gs_guard (c := (true && ((!true) == false))) (b' := la) rfl rfl (dep 9 rfl 22 rfl) (fun hc he hw => gs_load1 hw _ _ rfl ga (0) (Eq.trans (dep 10 rfl 23 rfl) (vF_yes (on_g hc he) _)) (.int .i64 (a.kind)) ((blk_then ha hB).cellv (i := 0) rfl) _ Tryd.underlying3 rfl (vF_yes (on_g hc he) _).symm) (fun hn => vF_no hn _)) ?_
    refine Steps.cons (fun a' w' hG hB dep => gs_guard (c := (true && ((!true) == false))) (b' := la) rfl rfl (dep 9 rfl 22 rfl) (fun hc he hw => gs_gtr_int hw _ _ _ _ rfl _ _ _ (Eq.trans (dep 11 rfl 24 rfl) (vF_yes (on_g hc he) _)) rfl (Eq.trans (congrArg Value.bool hxa'.out) (vF_yes (on_g hc he) _).symm)) (fun hn => vF_no hn _)) ?_
    refine Steps.cons (fun a' w' hG hB dep => gs_guard (c := true) (b' := (!true)) rfl rfl (dep 3 rfl 16 rfl) (fun hc he hw => gs_pick hw _ _ _ rfl la (Eq.trans (dep 9 rfl 22 rfl) (vF_yes (on_g hc he) _)) (Eq.trans (pick_or2 (c := (true && ((!true) == false))) (on_g hc he) (dep 12 rfl 25 rfl)) (vF_yes (on_g hc he) _).symm)) (fun hn => vF_no hn _)) ?_
    refine Steps.cons (fun a' w' hG hB dep => gs_guard (c := true) (b' := (!true)) rfl rfl (dep 3 rfl 16 rfl) (fun hc he hw => gs_neq_bool hw _ _ _ rfl _ _ (Eq.trans (dep 5 rfl 18 rfl) (vF_yes (on_g hc he) _)) (Eq.trans (dep 13 rfl 26 rfl) (vF_yes (on_g hc he) _)) (Eq.trans (congrArg Value.bool q5'.out) (vF_yes (on_g hc he) _).symm)) (fun hn => vF_no hn _)) ?_
    refine Steps.cons (fun a' w' hG hB dep => gs_pick (want_none rfl) _ _ _ rfl (!true) (dep 3 rfl 16 rfl) (id (pick_or2 (c := true) rfl (dep 14 rfl 27 rfl)))) ?_
    exact Steps.nil
  intro u w5 hw5 ans
  have hus28 : u 28 = (.bool ((!true) || false)) := ans 15 28 (by decide) rfl
  clear ans
  simp only [putAll, List.foldl_cons, List.foldl_nil, Act.put, List.setIfInBounds_toArray, List.set_cons_zero, List.set_cons_succ, hus28]
  clear hus28
  simp only [List.drop]
  refine wpList_nil ?_
  have ha5 := blk_then ha hw5
  have hb5 := blk_then hb hw5
  have hBw5 := hBw.trans (hw5.mono hBw.size)
  go_upto_region 7 with (fail)
  refine wp_region_text 6 [eqS (.string s), eqS (.bool pa), eqS (.bool pa), eqS (vF (true && (pa == false)) (.string t)), eqS (vF (true && (pa == false)) (.bool pb)), eqS (.bool (pa || pb))] [29, 30, 31, 32, 33, 34] (by kernel_rfl) (by kernel_rfl) ?_ ?_
  · skip
    refine Steps.cons (fun a' w' hG hB dep => gs_move (want_none rfl) _ rfl (id (hG.other 5 rfl))) ?_
    refine Steps.cons (fun a' w' hG hB dep => gs_eql_str (want_none rfl) _ _ _ _ rfl s noneB (dep 0 rfl 29 rfl) rfl (id (congrArg Value.bool hpa'.out))) ?_
    refine Steps.cons (fun a' w' hG hB dep => gs_move (want_none rfl) _ rfl (id (dep 1 rfl 30 rfl))) ?_
    refine Steps.cons (fun a' w' hG hB dep => gs_guard (c := true) (b' := pa) rfl rfl (dep 2 rfl 31 rfl) (fun hc he hw => gs_move hw _ rfl (Eq.trans (hG.other 6 rfl) (vF_yes (on_g hc he) _).symm)) (fun hn => vF_no hn _)) ?_
    refine Steps.cons (fun a' w' hG hB dep => gs_guard (c := true) (b' := pa) rfl rfl (dep 2 rfl 31 rfl) (fun hc he hw => gs_eql_str hw _ _ _ _ rfl t noneB (Eq.trans (dep 3 rfl 32 rfl) (vF_yes (on_g hc he) _)) rfl (Eq.trans (congrArg Value.bool hpb'.out) (vF_yes (on_g hc he) _).symm)) (fun hn => vF_no hn _)) ?_
    refine Steps.cons (fun a' w' hG hB dep => gs_pick (want_none rfl) _ _ _ rfl pa (dep 2 rfl 31 rfl) (id (pick_or2 (c := true) rfl (dep 4 rfl 33 rfl)))) ?_
    exact Steps.nil
  intro u w6 hw6 ans
  have hus34 : u 34 = (.bool (pa || pb)) := ans 5 34 (by decide) rfl
  clear ans
  simp only [putAll, List.foldl_cons, List.foldl_nil, Act.put, List.setIfInBounds_toArray, List.set_cons_zero, List.set_cons_succ, hus34]
  clear hus34
  simp only [List.drop]
  refine wpList_nil ?_
  have ha6 := blk_then ha5 hw6
  have hb6 := blk_then hb5 hw6
  have hBw6 := hBw5.trans (hw6.mono hBw5.size)
  have hz6 : w4.heap.size ≤ w6.heap.size := Nat.le_trans hw5.size hw6.size
  have hB46 : Below w4.heap.size w4 w6 := hw5.trans (hw6.mono hw5.size)
  obtain ⟨pp, hpp⟩ : ∃ v, (pa || pb) = v := ⟨_, rfl⟩
  rw [hpp]
  rw [hpp] at cond8 cond9
  clear hpp ha hb ha5 hb5 hBw5 hw5 hw6
  cases pp with
  | true =>
    have q8 : (st == ((la || xa) && (lb || xb))) = true := cond8.out rfl
    replace q8 := Lib.hid q8
    clear cond8 cond9
    go_upto_region 8 with (fail)
    refine wp_region_text 23 [eqS (.string s), eqS (.string t), eqS (.bool st), eqS (.pointer (some ⟨ga, 0, none⟩)), eqS (.int .i64 (a.kind)), eqS (.bool la), eqS (.bool la), eqS (vF (true && (la == false)) (.pointer (some ⟨ga, 0, none⟩))), eqS (vF (true && (la == false)) (.int .i64 (a.kind))), eqS (vF (true && (la == false)) (.bool xa)), eqS (.bool (la || xa)), eqS (.bool (la || xa)), eqS (vF (true && ((la || xa) == true)) (.pointer (some ⟨gb, 0, none⟩))), eqS (vF (true && ((la || xa) == true)) (.int .i64 (b.kind))), eqS (vF (true && ((la || xa) == true)) (.bool lb)), eqS (vF (true && ((la || xa) == true)) (.bool lb)), eqS (vF ((true && ((la || xa) == true)) && (lb == false)) (.pointer (some ⟨gb, 0, none⟩))), eqS (vF ((true && ((la || xa) == true)) && (lb == false)) (.int .i64 (b.kind))), eqS (vF ((true && ((la || xa) == true)) && (lb == false)) (.bool xb)), eqS (vF (true && ((la || xa) == true)) (.bool (lb || xb))), eqS (.bool ((la || xa) && (lb || xb))), eqS (.bool true), eqS (.bool true)] [35, 36, 37, 38, 39, 40, 41, 42, 43, 44, 45, 46, 47, 48, 49, 50, 51, 52, 53, 54, 55, 56, 4] (by kernel_rfl) (by kernel_rfl) ?_ ?_
    · skip
      refine Steps.cons (fun a' w' hG hB dep => gs_move (want_none rfl) _ rfl (id (hG.other 5 rfl))) ?_
      refine Steps.cons (fun a' w' hG hB dep => gs_move (want_none rfl) _ rfl (id (hG.other 6 rfl))) ?_
      refine Steps.cons (fun a' w' hG hB dep => gs_eql_str (want_none rfl) _ _ _ _ rfl s t (dep 0 rfl 35 rfl) (dep 1 rfl 36 rfl) (id (congrArg Value.bool hst'.out))) ?_
      refine Steps.cons (fun a' w' hG hB dep => gs_field (want_none rfl) _ _ _ rfl ga (0) (0) (hG.other 2 rfl) (fun wz => field_nt_0 ga wz) rfl) ?_
      refine Steps.cons (fun a' w' hG hB dep => gs_load1 (want_none rfl) _ _ rfl ga (0) (dep 3 rfl 38 rfl) (.int .i64 (a.kind)) ((blk_then ha6 hB).cellv (i := 0) rfl) _ Tryd.underlying3 rfl rfl) ?_
      refine Steps.cons (fun a' w' hG hB dep => gs_lss_int (want_none rfl) _ _ _ _ rfl _ _ _ (dep 4 rfl 39 rfl) rfl (id (congrArg Value.bool hla'.out))) ?_
      refine Steps.cons (fun a' w' hG hB dep => gs_move (want_none rfl) _ rfl (id (dep 5 rfl 40 rfl))) ?_
      refine Steps.cons (fun a' w' hG hB dep => gs_guard (c := true) (b' := la) rfl rfl (dep 6 rfl 41 rfl) (fun hc he hw => gs_field hw _ _ _ rfl ga (0) (0) (hG.other 2 rfl) (fun wz => field_nt_0 ga wz) (vF_yes (on_g hc he) _).symm) (fun hn => vF_no hn _)) ?_
      refine Steps.cons (fun a' w' hG hB dep => gs_guard (c := true) (b' := la) rfl rfl (dep 6 rfl 41 rfl) (fun hc he hw => gs_load1 hw _ _ rfl ga (0) (Eq.trans (dep 7 rfl 42 rfl) (vF_yes (on_g hc he) _)) (.int .i64 (a.kind)) ((blk_then ha6 hB).cellv (i := 0) rfl) _ Tryd.underlying3 rfl (vF_yes (on_g hc he) _).symm) (fun hn => vF_no hn _)) ?_
      refine Steps.cons (fun a' w' hG hB dep => gs_guard (c := true) (b' := la) rfl rfl (dep 6 rfl 41 rfl) (fun hc he hw => gs_gtr_int hw _ _ _ _ rfl _ _ _ (Eq.trans (dep 8 rfl 43 rfl) (vF_yes (on_g hc he) _)) rfl (Eq.trans (congrArg Value.bool hxa'.out) (vF_yes (on_g hc he) _).symm)) (fun hn => vF_no hn _)) ?_
      refine Steps.cons (fun a' w' hG hB dep => gs_pick (want_none rfl) _ _ _ rfl la (dep 6 rfl 41 rfl) (id (pick_or2 (c := true) rfl (dep 9 rfl 44 rfl)))) ?_
      refine Steps.cons (fun a' w' hG hB dep => gs_move (want_none rfl) _ rfl (id (dep 10 rfl 45 rfl))) ?_
      refine Steps.cons (fun a' w' hG hB dep => gs_guard (c := true) (b' := (la || xa)) rfl rfl (dep 11 rfl 46 rfl) (fun hc he hw => gs_field hw _ _ _ rfl gb (0) (0) (hG.other 3 rfl) (fun wz => field_nt_0 gb wz) (vF_yes (on_g hc he) _).symm) (fun hn => vF_no hn _)) ?_
      refine Steps.cons (fun a' w' hG hB dep => gs_guard (c := true) (b' := (la || xa)) rfl rfl (dep 11 rfl 46 rfl) (fun hc he hw => gs_load1 hw _ _ rfl gb (0) (Eq.trans (dep 12 rfl 47 rfl) (vF_yes (on_g hc he) _)) (.int .i64 (b.kind)) ((blk_then hb6 hB).cellv (i := 0) rfl) _ Tryd.underlying3 rfl (vF_yes (on_g hc he) _).symm) (fun hn => vF_no hn _)) ?_
      refine Steps.cons (fun a' w' hG hB dep => gs_guard (c := true) (b' := (la || xa)) rfl rfl (dep 11 rfl 46 rfl) (fun hc he hw => gs_lss_int hw _ _ _ _ rfl _ _ _ (Eq.trans (dep 13 rfl 48 rfl) (vF_yes (on_g hc he) _)) rfl (Eq.trans (congrArg Value.bool hlb'.out) (vF_yes (on_g hc he) _).symm)) (fun hn => vF_no hn _)) ?_
      refine Steps.cons (fun a' w' hG hB dep => gs_guard (c := true) (b' := (la || xa)) rfl rfl (dep 11 rfl 46 rfl) (fun hc he hw => gs_move hw _ rfl (Eq.trans (Eq.trans (dep 14 rfl 49 rfl) (vF_yes (on_g hc he) _)) (vF_yes (on_g hc he) _).symm)) (fun hn => vF_no hn _)) ?_
      refine Steps.cons (fun a' w' hG hB dep => gs_guard (c := (true && ((la || xa) == true))) (b' := lb) rfl rfl (dep 15 rfl 50 rfl) (fun hc he hw => gs_field hw _ _ _ rfl gb (0) (0) (hG.other 3 rfl) (fun wz => field_nt_0 gb wz) (vF_yes (on_g hc he) _).symm) (fun hn => vF_no hn _)) ?_
      refine Steps.cons (fun a' w' hG hB dep => gs_guard (c := (true && ((la || xa) == true))) (b' := lb) rfl rfl (dep 15 rfl 50 rfl) (fun hc he hw => gs_load1 hw _ _ rfl gb (0) (Eq.trans (dep 16 rfl 51 rfl) (vF_yes (on_g hc he) _)) (.int .i64 (b.kind)) ((blk_then hb6 hB).cellv (i := 0) rfl) _ Tryd.underlying3 rfl (vF_yes (on_g hc he) _).symm) (fun hn => vF_no hn _)) ?_
      refine Steps.cons (fun a' w' hG hB dep => gs_guard (c := (true && ((la || xa) == true))) (b' := lb) rfl rfl (dep 15 rfl 50 rfl) (fun hc he hw => gs_gtr_int hw _ _ _ _ rfl _ _ _ (Eq.trans (dep 17 rfl 52 rfl) (vF_yes (on_g hc he) _)) rfl (Eq.trans (congrArg Value.bool hxb'.out) (vF_yes (on_g hc he) _).symm)) (fun hn => vF_no hn _)) ?_
      refine Steps.cons (fun a' w' hG hB dep => gs_guard (c := true) (b' := (la || xa)) rfl rfl (dep 11 rfl 46 rfl) (fun hc he hw => gs_pick hw _ _ _ rfl lb (Eq.trans (dep 15 rfl 50 rfl) (vF_yes (on_g hc he) _)) (Eq.trans (pick_or2 (c := (true && ((la || xa) == true))) (on_g hc he) (dep 18 rfl 53 rfl)) (vF_yes (on_g hc he) _).symm)) (fun hn => vF_no hn _)) ?_
      refine Steps.cons (fun a' w' hG hB dep => gs_pick (want_none rfl) _ _ _ rfl (la || xa) (dep 11 rfl 46 rfl) (id (pick_and2 (c := true) rfl (dep 19 rfl 54 rfl)))) ?_
      refine Steps.cons (fun a' w' hG hB dep => gs_eql_bool (want_none rfl) _ _ _ rfl _ _ (dep 2 rfl 37 rfl) (dep 20 rfl 55 rfl) (id (congrArg Value.bool q8.out))) ?_
      refine Steps.cons (fun a' w' hG hB dep => gs_assign (want_none rfl) _ rfl (id (dep 21 rfl 56 rfl))) ?_
      exact Steps.nil
    intro u w7 hw7 ans
    have hus4 : u 4 = (.bool true) := ans 22 4 (by decide) rfl
    clear ans
    simp only [putAll, List.foldl_cons, List.foldl_nil, Act.put, List.setIfInBounds_toArray, List.set_cons_zero, List.set_cons_succ, hus4]
    clear hus4
    simp only [List.drop]
    refine wpList_nil ?_
    go_wp2_with (fail)
    go_ret
    exact ⟨rfl, hBw6.trans (hw7.mono hBw6.size)⟩
  | false =>
    have q9 : (st == (kk && tt)) = true := cond9.out rfl
    replace q9 := Lib.hid q9
    clear cond8 cond9
    have kT : ∀ w', Below w6.heap.size w6 w' → Calls Tryd.prog 13 #[.agg a.C, .agg b.C] w' fun e w2 => e = .returned (.bool tt) ∧ Below w'.heap.size w' w2 := fun w' hB => hkT w' (hB46.trans (hB.mono hz6))
    go_upto_region 9 with (fail)
    refine wp_region_text 15 [eqS (.string s), eqS (.string t), eqS (.bool st), eqS (.pointer (some ⟨ga, 0, none⟩)), eqS (.int .i64 (a.kind)), eqS (.pointer (some ⟨gb, 0, none⟩)), eqS (.int .i64 (b.kind)), eqS (.bool kk), eqS (.bool kk), eqS (vF (true && (kk == true)) (.agg a.C)), eqS (vF (true && (kk == true)) (.agg b.C)), eqS (vF (true && (kk == true)) (.bool tt)), eqS (.bool (kk && tt)), eqS (.bool true), eqS (.bool true)] [57, 58, 59, 60, 61, 62, 63, 64, 65, 66, 67, 68, 69, 70, 4] (by kernel_rfl) (by kernel_rfl) ?_ ?_
    · skip
      refine Steps.cons (fun a' w' hG hB dep => gs_move (want_none rfl) _ rfl (id (hG.other 5 rfl))) ?_
      refine Steps.cons (fun a' w' hG hB dep => gs_move (want_none rfl) _ rfl (id (hG.other 6 rfl))) ?_
      refine Steps.cons (fun a' w' hG hB dep => gs_eql_str (want_none rfl) _ _ _ _ rfl s t (dep 0 rfl 57 rfl) (dep 1 rfl 58 rfl) (id (congrArg Value.bool hst'.out))) ?_
      refine Steps.cons (fun a' w' hG hB dep => gs_field (want_none rfl) _ _ _ rfl ga (0) (0) (hG.other 2 rfl) (fun wz => field_nt_0 ga wz) rfl) ?_
      refine Steps.cons (fun a' w' hG hB dep => gs_load1 (want_none rfl) _ _ rfl ga (0) (dep 3 rfl 60 rfl) (.int .i64 (a.kind)) ((blk_then ha6 hB).cellv (i := 0) rfl) _ Tryd.underlying3 rfl rfl) ?_
      refine Steps.cons (fun a' w' hG hB dep => gs_field (want_none rfl) _ _ _ rfl gb (0) (0) (hG.other 3 rfl) (fun wz => field_nt_0 gb wz) rfl) ?_
      refine Steps.cons (fun a' w' hG hB dep => gs_load1 (want_none rfl) _ _ rfl gb (0) (dep 5 rfl 62 rfl) (.int .i64 (b.kind)) ((blk_then hb6 hB).cellv (i := 0) rfl) _ Tryd.underlying3 rfl rfl) ?_
      refine Steps.cons (fun a' w' hG hB dep => gs_eql_int (want_none rfl) _ _ _ _ rfl _ _ _ (dep 4 rfl 61 rfl) (dep 6 rfl 63 rfl) (id (congrArg Value.bool hkk'.out))) ?_
      refine Steps.cons (fun a' w' hG hB dep => gs_move (want_none rfl) _ rfl (id (dep 7 rfl 64 rfl))) ?_
      refine Steps.cons (fun a' w' hG hB dep => gs_guard (c := true) (b' := kk) rfl rfl (dep 8 rfl 65 rfl) (fun hc he hw => gs_load hw _ _ rfl ga (hG.other 2 rfl) _ _ (blk_then ha6 hB) _ Tryd.underlying43 rfl (info_nt.trans rfl) (vF_yes (on_g hc he) _).symm) (fun hn => vF_no hn _)) ?_
      refine Steps.cons (fun a' w' hG hB dep => gs_guard (c := true) (b' := kk) rfl rfl (dep 8 rfl 65 rfl) (fun hc he hw => gs_load hw _ _ rfl gb (hG.other 3 rfl) _ _ (blk_then hb6 hB) _ Tryd.underlying43 rfl (info_nt.trans rfl) (vF_yes (on_g hc he) _).symm) (fun hn => vF_no hn _)) ?_
      refine Steps.cons (fun a' w' hG hB dep => gs_guard (c := true) (b' := kk) rfl rfl (dep 8 rfl 65 rfl) (fun hc he hw => gs_call hw _ _ _ rfl enter_toldN _ (map2 (Eq.trans (dep 9 rfl 66 rfl) (vF_yes (on_g hc he) _)) (Eq.trans (dep 10 rfl 67 rfl) (vF_yes (on_g hc he) _))) ((kT _ hB).mono fun e w2 ⟨hq9, hb9⟩ => ⟨_, hq9, hb9, (vF_yes (on_g hc he) _).symm⟩)) (fun hn => vF_no hn _)) ?_
      refine Steps.cons (fun a' w' hG hB dep => gs_pick (want_none rfl) _ _ _ rfl kk (dep 8 rfl 65 rfl) (id (pick_and2 (c := true) rfl (dep 11 rfl 68 rfl)))) ?_
      refine Steps.cons (fun a' w' hG hB dep => gs_eql_bool (want_none rfl) _ _ _ rfl _ _ (dep 2 rfl 59 rfl) (dep 12 rfl 69 rfl) (id (congrArg Value.bool q9.out))) ?_
      refine Steps.cons (fun a' w' hG hB dep => gs_assign (want_none rfl) _ rfl (id (dep 13 rfl 70 rfl))) ?_
      exact Steps.nil
    intro u w7 hw7 ans
    have hus4 : u 4 = (.bool true) := ans 14 4 (by decide) rfl
    clear ans
    simp only [putAll, List.foldl_cons, List.foldl_nil, Act.put, List.setIfInBounds_toArray, List.set_cons_zero, List.set_cons_succ, hus4]
    clear hus4
    simp only [List.drop]
    refine wpList_nil ?_
    go_wp2_with (fail)
    go_ret
    exact ⟨rfl, hBw6.trans (hw7.mono hBw6.size)⟩
end
end Go.Proofs.YtjplgcmfifoefaaDoor
