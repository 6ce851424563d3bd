/- Part 12 of a proof; packed: the texts that it was made of follow one another. No condition beyond those named in each lemma. -/
import Derived.Test.YtkedgombccdamaaGreatDoorPm1
import Derived.Test.YtkedgombccdamaaGreatDoorPm10
import Derived.Test.YtkedgombccdamaaGreatDoorPm11
import Derived.Test.YtkedgombccdamaaGreatDoorPm2
import Derived.Test.YtkedgombccdamaaGreatDoorPm7
import Derived.Test.YtkedgombccdamaaGreatDoorPm8
import Derived.Laws.CopyOwn
import Derived.StringKeys
namespace Go.Proofs.YtkedgombccdamaaGreatDoor
open Go.RowKit Go.Shelf Go.Maps
set_option linter.unusedVariables false
set_option linter.unusedSimpArgs false
section
variable {P : Program} (w : World)
theorem run_append_new {α : Type} {enc : α → Array Value} (base : Nat) (t ty e : TypeId) (i : TypeInfo) (z : Value) (size bytes : Nat) (ht : P.underlying t = some (.slice e)) (hi : P.info? e = some i) (hz : i.zero = some z)
  (hsize : i.size = size) (hby : i.bytes = bytes) (hzs : z.cells.size = size) (hsz : 0 < size) (hs : ∀ y, (enc y).size = size) (h1 : ∀ y, (enc y).all (·.oneCell') = true)
  (g : Nat) (hown : Own w base e size enc (.slice (some ⟨g, 0, none⟩) 0 0) ([] : List α)) (B : Nat) (A : Option Addr) (m c : Nat) (ys : List α) (hm : m = ys.length) (hr : SliceOf w B size enc A ys) (h0 : 0 < m)
  (h63 : m ≤ maxLen) (hbytes : m * bytes ≤ 140737488355328) (hbase : base ≤ w.heap.size) :
  ∃ v' w', (Builtin.append_ #[t, t] ty #[.slice (some ⟨g, 0, none⟩) 0 0, .slice A m c]).run P w = .ok v' w' ∧ Own w' base e size enc v' ys ∧ Below w.heap.size w w' := by
 obtain ⟨v', w', hrun, h2, h3, h4⟩ := run_append_slice (P := P) w base t ty e i z size bytes ht hi hz hsize hby hzs hsz hs h1 _ [] hown B A m c ys hm hr (by simpa using h63) (by simpa using hbytes) hbase
 refine ⟨v', w', hrun, by simpa using h2, ?_⟩
 subst hm
 obtain ⟨b, off, rfl, _, hrow⟩ := hr.at_ h0
 have hcells : ∀ j u, (flat enc ys)[j]? = some u → w.cell? ((⟨b, off, none⟩ : Addr).add j) = some u := by
  intro j u hu
  have hj : j < ys.length * size := by
   rw [← zyn hs]
   rcases Nat.lt_or_ge j (flat enc ys).length with h | h
   ·exact h
   ·rw [List.getElem?_eq_none h] at hu; cases hu
  have hdm : j = j / size * size + j % size := by rw [Nat.mul_comm]; exact (Nat.div_add_mod _ _).symm
  have hi2 : j / size < ys.length := Nat.div_lt_of_lt_mul (by rw [Nat.mul_comm]; exact hj)
  have hq : j % size < size := Nat.mod_lt _ hsz
  have hu' : (enc ys[j / size])[j % size]? = some u := by
   rw [← flat_at hs ys _ _ hi2 hq, ← hdm]; exact hu
  have := hrow _ hi2 _ _ hu'
  rw [addr_add]
  rw [show off + j / size * size + j % size = off + j by omega] at this
  exact this
 have hl := zyn hs ys
 subst hsize
 rw [run_append_grow (P := P) w t ty e i z ht hi hz ⟨g, 0, none⟩ 0 0 [] (by simp) (fun j v h => by simp at h) ⟨b, off, none⟩ ys.length c (flat enc ys) hl hcells (by omega) (by simp only [maxLen] at h63; omega) (growslice_fits (by omega) (by rw [hby]; simpa using hbytes))] at hrun
 injection hrun with _ hw
 subst hw
 exact ⟨rfl, rfl, rfl, by simp, fun k hk => Below.heap_alloc w.drew _ k hk⟩
end
theorem ValMap.then_ {w w' : World} {b n : Nat} {m : Int → Option Value} (h : ValMap w b n m) (hb : Below w.heap.size w w') : ValMap w' b n m := h.keep (hb.block b h.lt)
def noKeys : Int → Option Value := fun _ => none
def mapS (lo : Nat) : GSpec := ⟨fun v w => ∃ b, v = .map (some b) ∧ lo ≤ b ∧ ValMap w b 0 noKeys, fun v w w' ⟨b, h1, h2, h3⟩ hb => ⟨b, h1, h2, h3.then_ hb⟩⟩
def emptyS (lo : Nat) : GSpec := ⟨fun v w => ∃ g, v = .slice (some ⟨g, 0, none⟩) 0 0 ∧ Own w lo 42 1 encR v ([] : List Nat), fun v w w' ⟨g, h1, h2⟩ hb => ⟨g, h1, h2.then_ hb⟩⟩
def rowS (lo : Nat) (R : List Nat) : GSpec := ⟨fun v w => Own w lo 42 1 encR v R, fun v w w' h hb => h.then_ hb⟩
def machS (lo : Nat) (s : Int) (R : List Nat) : GSpec := ⟨fun v w => ∃ b u, v = .agg #[.int .i64 s, .map (some b), u] ∧ lo ≤ b ∧ ValMap w b 0 noKeys ∧ Own w lo 42 1 encR u R, fun v w w' ⟨b, u, h1, h2, h3, h4⟩ hb => ⟨b, u, h1, h2, h3.then_ hb, h4.then_ hb⟩⟩
def boxS (lo : Nat) (s : Int) (R : List Nat) : GSpec := ⟨fun v w => ∃ gm b u, v = .pointer (some ⟨gm, 0, none⟩) ∧ lo ≤ gm ∧ Blk w gm 91 #[.int .i64 s, .map (some b), u] ∧ lo ≤ b ∧ ValMap w b 0 noKeys ∧ Own w lo 42 1 encR u R,
 fun v w w' ⟨gm, b, u, h1, h2, h3, h4, h5, h6⟩ hb => ⟨gm, b, u, h1, h2, zqb h3 hb, h4, h5.then_ hb, h6.then_ hb⟩⟩
theorem run_makeMap (w : World) : (Instr.makeMap 89 none).run Tryz.prog w = .ok (.map (some w.heap.size)) (w.alloc (.map #[] 0)) := by kernel_rfl
theorem run_build0 (w : World) : (Instr.buildSlice 24 0 #[]).run Tryz.prog w = .ok (.slice (some ⟨w.heap.size, 0, none⟩) 0 0) (w.alloc (.cells #[] 42)) := by kernel_rfl
theorem run_buildM (w : World) (s : Int) (b : Nat) (A : Option Addr) (n c : Nat) : (Instr.build 91 #[(0, .int .i64 s), (1, .map (some b)), (2, .slice A n c)]).run Tryz.prog w = .ok (.agg #[.int .i64 s, .map (some b), .slice A n c]) w := by kernel_rfl
theorem run_boxM (w : World) (s : Int) (b : Nat) (A : Option Addr) (n c : Nat) : (Instr.box 91 (.agg #[.int .i64 s, .map (some b), .slice A n c])).run Tryz.prog w = .ok (.pointer (some ⟨w.heap.size, 0, none⟩)) (w.alloc (.cells #[.int .i64 s, .map (some b), .slice A n c] 91)) := by kernel_rfl
section
variable {ops : Array Oper} {S : Nat → GSpec} {Q : Exit → Act → World → Prop} {i : Nat} {o : Oper} {a : Act} {w : World}
theorem gs_makeMap (hw : Region.wanted o (yielded ops a.tmps) = true) (ho : o.op = .makeMap 89 none) {lo : Nat} (hlo : lo ≤ w.heap.size) (hp : ∀ v w', (mapS lo).p v w' → (S i).p v w') : GStep Tryz.prog ops S Q i o a w :=
 zzx hw (v := .map (some w.heap.size)) (by unfold execOp; simp only [ho, Option.map_none, Sem.run_bind, run_makeMap, Result.andThen_ok, Sem.run_pure]) (zqc (Below.refl _ _) _) (hp _ _ ⟨_, rfl, hlo, ValMap.new w rfl⟩)
theorem gs_build0 (hw : Region.wanted o (yielded ops a.tmps) = true) (ho : o.op = .buildSlice 24 0 #[]) {lo : Nat} (hlo : lo ≤ w.heap.size) (hp : ∀ v w', (emptyS lo).p v w' → (S i).p v w') : GStep Tryz.prog ops S Q i o a w :=
 zzx hw (v := .slice (some ⟨w.heap.size, 0, none⟩) 0 0) (by unfold execOp; simp only [ho, List.map_toArray, List.map_nil, Sem.run_bind, run_build0, Result.andThen_ok, Sem.run_pure]) (zqc (Below.refl _ _) _) (hp _ _ ⟨_, rfl, own_empty hlo⟩)
theorem gs_append_row (hw : Region.wanted o (yielded ops a.tmps) = true) (x y : Operand) (ho : o.op = .call { callee := .builtin .append, args := #[x, y], argTypes := #[24, 24] }) {lo : Nat} (hlo : lo ≤ w.heap.size) (hx : (emptyS lo).p (a.eval x) w)
  (B : Nat) (A : Option Addr) (m c : Nat) (R : List Nat) (hy : a.eval y = .slice A m c) (hm : m = R.length) (hr : SliceOf w B 1 encR A R) (h0 : 0 < m) (hb : m ≤ 1099511627776) (hp : ∀ v w', (rowS lo R).p v w' → (S i).p v w') : GStep Tryz.prog ops S Q i o a w := by
 obtain ⟨g, hv, hown⟩ := hx
 obtain ⟨i0, hi0, hz0, hz1, hz2⟩ := info_parts info_r3
 rw [hv] at hown
 obtain ⟨v', w', hrun, h2, h3⟩ := run_append_new (P := Tryz.prog) w lo 24 o.type 42 i0 _ 1 4 Tryz.underlying24 hi0 hz0 hz1 hz2 rfl (by decide) zya encR_one g hown B A m c R hm hr h0 (by unfold maxLen; omega) (by omega) hlo
 refine zzx hw (v := v') (w' := w') ?_ h3 (hp _ _ h2)
 unfold execOp
 simp only [ho, resolve, invoke, builtin, Sem.run_bind, Sem.run_pure, Result.andThen_ok, List.map_toArray, List.map_cons, List.map_nil, hv, hy, hrun]
theorem gs_buildM (hw : Region.wanted o (yielded ops a.tmps) = true) (x y z : Operand) (ho : o.op = .build 91 #[(0, x), (1, y), (2, z)]) {lo : Nat} (s : Int) (R : List Nat) (hx : a.eval x = .int .i64 s) (hy : (mapS lo).p (a.eval y) w) (hz : (rowS lo R).p (a.eval z) w)
  (hp : ∀ v w', (machS lo s R).p v w' → (S i).p v w') : GStep Tryz.prog ops S Q i o a w := by
 obtain ⟨b, hv, hlb, hm⟩ := hy
 have hz' : Own w lo 42 1 encR (a.eval z) R := hz
 obtain ⟨A, c, hu, _, _⟩ := hz'.shape
 refine zzx hw (v := .agg #[.int .i64 s, .map (some b), a.eval z]) ?_ (Below.refl _ _) (hp _ _ ⟨b, _, rfl, hlb, hm, hz'⟩)
 unfold execOp
 simp only [ho, List.map_toArray, List.map_cons, List.map_nil, hx, hv, hu, Sem.run_bind, run_buildM, Result.andThen_ok, Sem.run_pure]
theorem gs_boxM (hw : Region.wanted o (yielded ops a.tmps) = true) (x : Operand) (ho : o.op = .box 91 x) {lo : Nat} (hlo : lo ≤ w.heap.size) (s : Int) (R : List Nat) (hx : (machS lo s R).p (a.eval x) w)
  (hp : ∀ v w', (boxS lo s R).p v w' → (S i).p v w') : GStep Tryz.prog ops S Q i o a w := by
 obtain ⟨b, u, hv, hlb, hm, ho2⟩ := hx
 obtain ⟨A, c, hu, _, _⟩ := ho2.shape
 subst hu
 have hB : Below w.heap.size w (w.alloc (.cells #[.int .i64 s, .map (some b), .slice A R.length c] 91)) := zqc (Below.refl _ _) _
 refine zzx hw (v := .pointer (some ⟨w.heap.size, 0, none⟩)) ?_ hB (hp _ _ ⟨_, b, _, rfl, hlo, Blk.new _ _ _, hlb, hm.then_ hB, ho2.then_ hB⟩)
 unfold execOp
 simp only [ho, hv, Sem.run_bind, run_boxM, Result.andThen_ok, Sem.run_pure]
end
def vAt (mf : Int → Option Value) (n : Nat) : Value := (mf (n : Int)).getD (.slice none 0 0)
structure EdMap (lo : Nat) (W : World) (bm N : Nat) (es : List Edg) (nm : Nat) (mf : Int → Option Value) : Prop where
 cnt : nm ≤ es.length
 low : lo ≤ bm
 map : ValMap W bm nm mf
 own : ∀ n : Nat, n < N → Own W lo 69 7 edgC (vAt mf n) (zqq es n)
 apart : ∀ n n' k : Nat, n < N → n' < N → n ≠ n' → (vAt mf n).ownBlock = some k → (vAt mf n').ownBlock ≠ some k
theorem own_map_ne {α : Type} {enc : α → Array Value} {W : World} {lo size bm nm : Nat} {e : TypeId} {v : Value} {ys : List α} {mf : Int → Option Value} (h : Own W lo e size enc v ys) (hm : ValMap W bm nm mf) : v.ownBlock ≠ some bm := by
 intro hv0
 obtain ⟨D, ⟨es, clock, hb, _⟩, _⟩ := hm
 rcases h.2 with ⟨hv, _⟩ | ⟨g', cap, cur, hv, _, hh, _⟩
 ·rw [hv] at hv0; cases hv0
 ·rw [hv] at hv0
  have a1 : g' = bm := by simpa [Value.ownBlock] using hv0
  subst a1
  rw [hb] at hh
  injection hh with hh
  cases hh
theorem blk_map_ne {W : World} {g bm nm : Nat} {t : TypeId} {cs : Array Value} {mf : Int → Option Value} (h : Blk W g t cs) (hm : ValMap W bm nm mf) : g ≠ bm := by
 rintro rfl
 obtain ⟨D, ⟨es, clock, hb, _⟩, _⟩ := hm
 unfold Blk at h
 rw [hb] at h
 injection h with h
 cases h
theorem EdMap.new {lo bm N : Nat} {W : World} (hl : lo ≤ bm) (hm : ValMap W bm 0 noKeys) : EdMap lo W bm N [] 0 noKeys :=
 ⟨Nat.le_refl _, hl, hm, fun n _ => Own.nil_ _ _ _ _ _, fun n n' k _ _ _ h => by cases h⟩
theorem EdMap.then_ {lo bm N nm : Nat} {W W' : World} {es : List Edg} {mf : Int → Option Value} (h : EdMap lo W bm N es nm mf) (hb : Below W.heap.size W W') : EdMap lo W' bm N es nm mf :=
 ⟨h.cnt, h.low, h.map.then_ hb, fun n hn => (h.own n hn).then_ hb, h.apart⟩
theorem edgesAt_snoc (es : List Edg) (d : Edg) (n : Nat) : zqq (es ++ [d]) n = zqq es n ++ (if d.fr = n then [d] else []) := by
 unfold zqq
 rw [List.filter_append]
 congr 1
 by_cases h : d.fr = (n : Int) <;> simp [h]
theorem EdMap.step {lo bm N nm n0 : Nat} {W w4 w5 : World} {es : List Edg} {mf : Int → Option Value} {dd : Edg} {v' : Value} (h : EdMap lo W bm N es nm mf) (hn0 : n0 < N) (hdd : dd.fr = n0)
  (hg : W.grownBy w4 (vAt mf n0).ownBlock) (hm4 : ValMap w4 bm nm mf) (hv : Own w4 lo 69 7 edgC v' (zqq es n0 ++ [dd])) (hat : v'.ownBlock = (vAt mf n0).ownBlock ∨ ∃ k, v'.ownBlock = some k ∧ W.heap.size ≤ k)
  (hm : ValMap w5 bm (nm + 1) (fun z => if z = (n0 : Int) then some v' else mf z)) (hg5 : w4.grownBy w5 (some bm)) : EdMap lo w5 bm N (es ++ [dd]) (nm + 1) (fun z => if z = (n0 : Int) then some v' else mf z) := by
 have e0 : vAt (fun z => if z = (n0 : Int) then some v' else mf z) n0 = v' := by simp [vAt]
 have e1 : ∀ n : Nat, n ≠ n0 → vAt (fun z => if z = (n0 : Int) then some v' else mf z) n = vAt mf n := fun n hn => by
  have : ¬ (n : Int) = n0 := by omega
  simp [vAt, this]
 have hfar : ∀ n k : Nat, n < N → n ≠ n0 → (vAt mf n).ownBlock = some k → v'.ownBlock ≠ some k := fun n k hn hne hk h2 => by
  rcases hat with h3 | ⟨k3, h3, h4⟩
  ·exact h.apart n n0 k hn hn0 hne hk (h3 ▸ h2)
  ·rw [h3] at h2
   injection h2 with h2
   have := ((h.own n hn).lt k hk).2
   omega
 refine ⟨by have := h.cnt; simp; omega, h.low, hm, fun n hn => ?_, fun n n' k hn hn' hne hk => ?_⟩
 ·by_cases e : n = n0
  ·subst e
   rw [e0, edgesAt_snoc, if_pos hdd]
   exact hv.kept_ hg5 (fun j h1 h2 => by injection h2 with h2; subst h2; exact own_map_ne hv hm4 h1)
  ·rw [e1 n e, edgesAt_snoc, if_neg (by omega), List.append_nil]
   have h4 : Own w4 lo 69 7 edgC (vAt mf n) (zqq es n) := (h.own n hn).kept_ hg (fun j h1 h2 => h.apart n n0 j hn hn0 e h1 h2)
   exact h4.kept_ hg5 (fun j h1 h2 => by injection h2 with h2; subst h2; exact own_map_ne h4 hm4 h1)
 ·by_cases e : n = n0
  ·subst e
   rw [e0] at hk
   rw [e1 n' (fun e => hne e.symm)]
   exact fun h2 => hfar n' k hn' (fun e => hne e.symm) h2 hk
  ·rw [e1 n e] at hk
   by_cases e' : n' = n0
   ·subst e'
    rw [e0]
    exact hfar n k hn e hk
   ·rw [e1 n' e']
    exact h.apart n n' k hn hn' hne hk
theorem own_sliceof {α : Type} {enc : α → Array Value} {W W' : World} {lo size n c : Nat} {e : TypeId} {A : Option Addr} {ys : List α} (hs : ∀ y, (enc y).size = size) (h : Own W lo e size enc (.slice A n c) ys) (hk : ∀ k, lo ≤ k → k < W.heap.size → W'.heap[k]? = W.heap[k]?) : SliceOf W' W.heap.size size enc A ys := by
 have h1 := h.slice_all hs
 rcases h1 with h1 | ⟨b, off, hA, hlt, hr⟩
 ·exact .inl h1
 ·subst hA
  exact .inr ⟨b, off, rfl, hlt, fun i hi => (hr i hi).keep (hk b ((h.lt b rfl).1) hlt)⟩
theorem mach_of {lo gm bm N nm : Nat} {W : World} {E : List Edg} {R : List Nat} {mf : Int → Option Value} {u : Value} (hf : Fits N E R) (hN : N ≤ 1099511627776) (hE : E.length ≤ 1099511627776) (hR : ∀ r ∈ R, r < 4294967296) (hlo : 0 < lo) (hg : lo ≤ gm)
  (hb : Blk W gm 91 #[.int .i64 (N : Int), .map (some bm), u]) (hu : Own W lo 42 1 encR u R) (hm : EdMap lo W bm N E nm mf) : MachIn lo W.heap.size W gm N E R := by
 intro W' hk hs
 obtain ⟨B, d, rfl, _, _⟩ := hu.shape
 have hgl := hb.lt
 have hbl := hm.map.lt
 refine ⟨hf, hN, hE, hR, by omega, hs, hgl, bm, nm, B, _, d, mf, hbl, (hk gm hg hgl).trans hb, rfl, own_sliceof zya hu hk, hm.map.keep (hk bm hm.low hbl), fun n hn => ?_⟩
 have ho := hm.own n hn
 obtain ⟨A, c, hv, _, _⟩ := ho.shape
 rw [hv] at ho
 exact ⟨A, _, c, hv, rfl, own_sliceof zxt ho hk⟩
theorem right_fits {s : Int} {E : List Edg} {R : List Nat} (h : rightB s E R.length = true) : ∃ N : Nat, s = N ∧ Fits N E R := by
 unfold rightB at h
 simp only [Bool.and_eq_true, decide_eq_true_eq, List.all_eq_true] at h
 obtain ⟨⟨h1, h2⟩, h3⟩ := h
 refine ⟨R.length, h2.symm, ⟨by omega, rfl, fun d hd => ?_, fun d hd => ?_, fun d hd => ?_, fun d hd hk => ?_⟩⟩
 all_goals
  have h4 := h3 d hd
  unfold badE inS at h4
  simp only [Bool.not_or, Bool.not_and, Bool.and_eq_true, Bool.or_eq_true, Bool.not_eq_true', Bool.not_not, decide_eq_true_eq, decide_eq_false_iff_not, bne_iff_ne, bne_eq_false_iff_eq, Bool.not_eq_false'] at h4
 ·omega
 ·omega
 ·omega
 ·rcases h4.2 with h5 | h5
  ·exact absurd h5 hk
  ·exact h5
end Go.Proofs.YtkedgombccdamaaGreatDoor
namespace Go.Proofs.YtkedgombccdamaaGreatDoor
open Go.RowKit Go.Shelf Go.Maps
set_option linter.unusedVariables false
set_option linter.unusedSimpArgs false
attribute [local go_sem] Oper.semAt_some
theorem gs_lookup_v {ops : Array Oper} {S : Nat → GSpec} {Q : Exit → Act → World → Prop} {i : Nat} {o : Oper} {a : Act} {w : World} {b n : Nat} {mf : Int → Option Value} (hw : Region.wanted o (yielded ops a.tmps) = true) (x y : Operand) (ho : o.op = .lookup 89 x y false) (h : ValMap w b n mf) (k : Int) (hk : (Lit.int .i64 k).wf = true)
  (hx : a.eval x = .map (some b)) (hy : a.eval y = .int .i64 k) (hp : (S i).p ((mf k).getD (.slice none 0 0)) w) : GStep Tryz.prog ops S Q i o a w :=
 zzx hw (v := (mf k).getD (.slice none 0 0)) (by unfold execOp; simp only [ho, hx, hy, Sem.run_bind, run_vmap h k hk, Result.andThen_ok, Sem.run_pure]) (Below.refl _ _) hp
set_option maxRecDepth 100000 in
set_option maxHeartbeats 4000000 in
theorem s_begin_any (s : Int) (A : Option Addr) (n c0 : Nat) (B : Option Addr) (m d0 : Nat) (E : List Edg) (R : List Nat) (hn : n = E.length) (hm : m = R.length) (hE : E.length ≤ 1099511627776) (hRl : R.length ≤ 1099511627776) (hR : ∀ r ∈ R, r < 4294967296) (w : World)
  (hsE : SliceOf w w.heap.size 7 edgC A E) (hsR : SliceOf w w.heap.size 1 encR B R) (hT : TabOk w) :
  Calls Tryz.prog 8 #[.agg (nfaC s A n c0 B m d0)] w fun e w' => Below w.heap.size w w' ∧
   ((rightB s E m = false ∧ e = .returned (.tuple #[.pointer none, .int .i64 70])) ∨
    (rightB s E m = true ∧ ∃ gw gm lo nb, e = .returned (.tuple #[.pointer (some ⟨gw, 0, none⟩), .int .i64 0]) ∧ w.heap.size ≤ lo ∧ w.heap.size ≤ gw ∧ WalkOk lo nb w' gw gm R.length E R (begW E R.length R))) := by
 have hn2 : n ≤ 1099511627776 := by omega
 have hright := fun W1 => right_any s A n c0 B m d0 E hn hE W1
 have Hn := Lib.hid hn
 have Hm := Lib.hid hm
 clear hn hm
 go_enter Tryz.func8, Tryz.ntmps8
 have h1 := Blk.new w 26 (nfaC s A n c0 B m d0)
 have hB1 : Below w.heap.size w (w.alloc (.cells (nfaC s A n c0 B m d0) 26)) := zqc (Below.refl _ _) _
 go_upto_region 1 with (fail)
 obtain ⟨W1, hW1⟩ : ∃ y, y = w.alloc (.cells (nfaC s A n c0 B m d0) 26) := ⟨_, rfl⟩
 rw [← hW1] at h1 hB1 ⊢
 clear hW1
 have hs1 := (hsE.below hB1).more hB1.size
 replace hright := hright W1 hs1
 cases hrb : rightB s E m
 ·rw [hrb] at hright
  go_wp2_with (first | (refine wl_load_nfa rfl _ rfl _ rfl _ _ _ _ _ _ _ h1 ?_) | (go_at_call 19; refine hright.mono ?_; rintro e w3 ⟨rfl, hB3⟩))
  go_ret2
  exact ⟨zqd hB1 hB3, .inl ⟨hrb, rfl⟩⟩
 ·rw [hrb] at hright
  go_upto_region 3 with (first | (refine wl_load_nfa rfl _ rfl _ rfl _ _ _ _ _ _ _ h1 ?_) | (go_at_call 19; refine hright.mono ?_; rintro e w3 ⟨rfl, hB3⟩))
  obtain ⟨N, hsN, hf⟩ := right_fits (Hm.out ▸ hrb)
  have hNR : Hid (N = R.length) := Lib.hid hf.rules.symm
  have hm0 : 0 < m := by rw [Hm.out, ← hNR.out]; exact hf.one
  have hm2 : m ≤ 1099511627776 := by rw [Hm.out]; exact hRl
  have hNN : N ≤ 1099511627776 := by rw [hNR.out]; exact hRl
  subst hsN
  replace h1 := zqb h1 hB3
  replace hB1 := zqd hB1 hB3
  clear hright hs1 hB3
  obtain ⟨lo, hlo⟩ : ∃ y, y = w3.heap.size := ⟨_, rfl⟩
  have hlo2 : w.heap.size ≤ lo := by rw [hlo]; exact hB1.size
  refine zql 10 [eqS (.pointer (some ⟨w.heap.size, 0, none⟩)), eqS (.int .i64 (N : Int)), mapS lo, emptyS lo, eqS (.pointer (some ⟨w.heap.size, 2, none⟩)), eqS (.slice B m d0), rowS lo R, machS lo (N : Int) R, boxS lo (N : Int) R, boxS lo (N : Int) R] [11, 12, 13, 14, 15, 16, 17, 18, 19, 4] rfl (by kernel_rfl) rfl ?_ ?_
  ·skip
   refine Steps.cons (fun a' w' hG hB dep => zqn (zqa rfl) _ _ _ rfl w.heap.size 0 0 (hG.other 1 rfl) (field_nfa_0 _ 0) rfl) ?_
   refine Steps.cons (fun a' w' hG hB dep => zqj (zqa rfl) _ _ rfl w.heap.size 0 (dep 0 rfl 11 rfl) _ ((zqb h1 hB).cellv (i := 0) rfl) _ Tryz.underlying3 rfl rfl) ?_
   refine Steps.cons (fun a' w' hG hB dep => gs_makeMap (zqa rfl) rfl (lo := lo) (by have := hB.size; omega) (fun _ _ h => h)) ?_
   refine Steps.cons (fun a' w' hG hB dep => gs_build0 (zqa rfl) rfl (lo := lo) (by have := hB.size; omega) (fun _ _ h => h)) ?_
   refine Steps.cons (fun a' w' hG hB dep => zqn (zqa rfl) _ _ _ rfl w.heap.size 0 2 (hG.other 1 rfl) (field_nfa_2 _ 0) rfl) ?_
   refine Steps.cons (fun a' w' hG hB dep => zqj (zqa rfl) _ _ rfl w.heap.size 2 (dep 4 rfl 15 rfl) _ ((zqb h1 hB).cellv (i := 2) rfl) _ Tryz.underlying24 rfl rfl) ?_
   refine Steps.cons (fun a' w' hG hB dep => gs_append_row (zqa rfl) _ _ rfl (lo := lo) (by have := hB.size; omega) (dep 3 rfl 14 rfl) w.heap.size B m d0 R (dep 5 rfl 16 rfl) Hm.out (hsR.below (hB1.trans (hB.mono hB1.size))) hm0 hm2 (fun _ _ h => h)) ?_
   refine Steps.cons (fun a' w' hG hB dep => gs_buildM (zqa rfl) _ _ _ rfl (lo := lo) (N : Int) R (dep 1 rfl 12 rfl) (dep 2 rfl 13 rfl) (dep 6 rfl 17 rfl) (fun _ _ h => h)) ?_
   refine Steps.cons (fun a' w' hG hB dep => gs_boxM (zqa rfl) _ rfl (lo := lo) (by have := hB.size; omega) (N : Int) R (dep 7 rfl 18 rfl) (fun _ _ h => h)) ?_
   refine Steps.cons (fun a' w' hG hB dep => zxl (zqa rfl) _ rfl (dep 8 rfl 19 rfl)) ?_
   exact Steps.nil
  intro uf w4 hB4 ans
  obtain ⟨gm, bm, uR, u4, hgmlo, hgm, hbmlo, hvm, huR⟩ := ans 9 4 (by decide) rfl
  clear ans
  simp only [zqr, List.foldl_cons, List.foldl_nil, Act.put, List.setIfInBounds_toArray, List.set_cons_zero, List.set_cons_succ, u4]
  clear u4
  simp only [List.drop]
  refine wpList_nil ?_
  replace h1 := zqb h1 hB4
  replace hB1 := zqd hB1 hB4
  have hlo4 : lo ≤ w4.heap.size := by rw [hlo]; exact hB4.size
  clear hlo hB4
  obtain ⟨l, hl⟩ : ∃ l, l = E := ⟨_, rfl⟩
  have hlE : E.length = l.length := by rw [hl]
  have hnl : Hid (n = l.length) := Lib.hid (by rw [Hn.out, hlE])
  rw [← hl] at hsE
  have Hl := Lib.hid hl
  clear hl
  have c1 : w4.cell? ⟨w.heap.size, 1, none⟩ = some (.slice A n c0) := h1.cellv (i := 1) rfl
  go_wp2_with (fail)
  clear c1 h1
  have hed0 : EdMap lo w4 bm N (l.take 0) 0 noKeys := EdMap.new hbmlo hvm
  clear hvm
  go_loopw [23] (fun i wr => ∃ k : Nat, k ≤ n ∧ i = .int .i64 k ∧ Blk wr gm 91 #[.int .i64 (N : Int), .map (some bm), uR] ∧ Own wr lo 42 1 encR uR R ∧ (∃ nm mf, EdMap lo wr bm N (l.take k) nm mf) ∧ Below w.heap.size w wr ∧ lo ≤ wr.heap.size) (fun i _ => n - (intOf i).toNat)
  case atStart => exact ⟨0, by omega, rfl, hgm, huR, ⟨0, noKeys, hed0⟩, hB1, hlo4⟩
  case round =>
   clear hgm huR hed0 hB1 hlo4
   obtain ⟨k, hk, rfl, hgm, huR, ⟨nm, mf, hed⟩, hB1, hlo4⟩ := hrel
   by_cases hkl : k < n
   ·have hkI : (k : Int) < n := by omega
    have hkl2 : k < l.length := by rw [← hnl.out]; exact hkl
    obtain ⟨b, off, rfl, hb, hrows⟩ := hsE.at_ (by omega)
    have hr0 := (hrows k hkl2).keep (hB1.block b hb)
    have htk : l.take (k + 1) = l.take k ++ [l[k]] := List.take_succ_eq_append_getElem hkl2
    have hdE : l[k] ∈ E := by rw [← Hl.out]; exact List.getElem_mem hkl2
    obtain ⟨dd, hd⟩ : ∃ d, d = l[k] := ⟨_, rfl⟩
    rw [← hd] at hr0 htk hdE
    have Htk := Lib.hid htk
    clear hd htk
    have hkb : k < 1099511628000 := by omega
    go_upto_region 7 with (first | (refine zzs rfl _ rfl _ _ rfl _ hr0 ?_) | (refine zxm rfl _ _ rfl _ _ rfl rfl edge0 (Blk.new _ _ _) ?_; intro w6 h6 hg6))
    have hB6 := zqh (zqc (Below.refl _ wr) (.cells #[.int .i64 0, .int .i64 0, .int .i64 0, .int .u64 0, .int .u64 0, .int .u64 0, .int .u64 0] 69)) hg6 (Nat.le_refl _)
    clear hr0 hg6
    have hfrb := hf.fr dd hdE
    obtain ⟨n0, hfr⟩ : ∃ q : Nat, dd.fr = (q : Int) := ⟨dd.fr.toNat, by omega⟩
    have hn0 : n0 < N := by omega
    have hlt0 := (hed.own n0 hn0).lt
    have hne_bm : (some bm : Option Nat) ≠ (vAt mf n0).ownBlock := fun e => own_map_ne (hed.own n0 hn0) hed.map e.symm
    have hne_gm : (some gm : Option Nat) ≠ (vAt mf n0).ownBlock := fun e => zzm (hed.own n0 hn0) hgm (by decide) e.symm
    have hne_6 : (some wr.heap.size : Option Nat) ≠ (vAt mf n0).ownBlock := fun e => by have := (hlt0 _ e.symm).2; omega
    have huN : ∀ j, uR.ownBlock = some j → (vAt mf n0).ownBlock ≠ some j := fun j h1 h2 => by
     rcases (hed.own n0 hn0).2 with ⟨hv, _⟩ | ⟨g', cap, cur, hv, _, hh, _⟩
     ·rw [hv] at h2; cases h2
     ·rcases huR.2 with ⟨hv2, _⟩ | ⟨g2, cap2, cur2, hv2, _, hh2, _⟩
      ·rw [hv2] at h1; cases h1
      ·rw [hv] at h2; rw [hv2] at h1
       have a1 : g' = j := by simpa [Value.ownBlock] using h2
       have a2 : g2 = j := by simpa [Value.ownBlock] using h1
       subst a1; subst a2
       rw [hh] at hh2
       injection hh2 with hh2
       injection hh2 with _ hh2
       cases hh2
    replace hgm := zqb hgm hB6
    replace huR := huR.then_ hB6
    replace hed := hed.then_ hB6
    replace hB1 := zqd hB1 hB6
    have hlt6 : wr.heap.size < w6.heap.size := h6.lt
    have hlo6 : lo ≤ w6.heap.size := by omega
    have hel : (zqq (l.take k) n0).length ≤ 1099511627776 := Nat.le_trans (List.length_filter_le _ _) (by rw [List.length_take]; omega)
    obtain ⟨rw0, hrw⟩ : ∃ y, (vAt mf n0).ownBlock = y := ⟨_, rfl⟩
    rw [hrw] at hne_bm hne_gm hne_6 huN hlt0
    clear hB6
    refine zzv (rw := rw0) (i0 := 15) 16 [eqS (.pointer (some ⟨gm, 0, none⟩)), eqS (.pointer (some ⟨gm, 0, none⟩)), eqS (.pointer (some ⟨gm, 1, none⟩)), eqS (.map (some bm)), eqS (.pointer (some ⟨wr.heap.size, 1, none⟩)), eqS (.int .i64 (n0 : Int)), eqS (.pointer (some ⟨gm, 0, none⟩)), eqS (.pointer (some ⟨gm, 0, none⟩)), eqS (.pointer (some ⟨gm, 1, none⟩)), eqS (.map (some bm)), eqS (.pointer (some ⟨wr.heap.size, 1, none⟩)), eqS (.int .i64 (n0 : Int)), eqS (vAt mf n0), eqS (.agg (edgC dd)), oneS w6.heap.size dd, moreS lo w6.heap.size rw0 (zqq (l.take k) n0 ++ [dd])] [27, 28, 29, 30, 31, 32, 33, 34, 35, 36, 37, 38, 39, 40, 41, 42] rfl ?_ (by kernel_rfl) rfl ?_ ?_
    ·intro j hj v wa wb hp hg
     match j, hj, hp with
     | 0, _, hp => exact hp
     | 1, _, hp => exact hp
     | 2, _, hp => exact hp
     | 3, _, hp => exact hp
     | 4, _, hp => exact hp
     | 5, _, hp => exact hp
     | 6, _, hp => exact hp
     | 7, _, hp => exact hp
     | 8, _, hp => exact hp
     | 9, _, hp => exact hp
     | 10, _, hp => exact hp
     | 11, _, hp => exact hp
     | 12, _, hp => exact hp
     | 13, _, hp => exact hp
     | 14, _, hp =>
       obtain ⟨g, q1, q2, q3⟩ := hp
       exact ⟨g, q1, q2, q3.grown hg (fun e => by have := (hlt0 g e.symm).2; omega)⟩
     | 15, hj, _ => exact absurd rfl hj
     | j + 16, _, hp => exact hp
    ·skip
     refine StepsR.cons (fun a' w' hG hW hP dep => GStepR.of (zqi (zqa rfl) _ rfl (hG.other 4 rfl))) ?_
     refine StepsR.cons (fun a' w' hG hW hP dep => GStepR.of (gs_nil (zqa rfl) _ rfl _ (dep 0 rfl 27 rfl) rfl)) ?_
     refine StepsR.cons (fun a' w' hG hW hP dep => GStepR.of (zqn (zqa rfl) _ _ _ rfl gm 0 1 (dep 1 rfl 28 rfl) (field_mach_1 gm) rfl)) ?_
     refine StepsR.cons (fun a' w' hG hW hP dep => GStepR.of (zqj (zqa rfl) _ _ rfl gm 1 (dep 2 rfl 29 rfl) _ ((hgm.grown hW hne_gm).cellv (i := 1) rfl) _ Tryz.underlying89 rfl rfl)) ?_
     refine StepsR.cons (fun a' w' hG hW hP dep => GStepR.of (zqn (zqa rfl) _ _ _ rfl wr.heap.size 0 1 (hG.other 6 rfl) (field_edge_1 _ _) rfl)) ?_
     refine StepsR.cons (fun a' w' hG hW hP dep => GStepR.of (zqj (zqa rfl) _ _ rfl wr.heap.size 1 (dep 4 rfl 31 rfl) (.int .i64 (n0 : Int)) (by rw [← hfr]; exact (h6.grown hW hne_6).cellv (i := 1) rfl) _ Tryz.underlying3 rfl rfl)) ?_
     refine StepsR.cons (fun a' w' hG hW hP dep => GStepR.of (zqi (zqa rfl) _ rfl (hG.other 4 rfl))) ?_
     refine StepsR.cons (fun a' w' hG hW hP dep => GStepR.of (gs_nil (zqa rfl) _ rfl _ (dep 6 rfl 33 rfl) rfl)) ?_
     refine StepsR.cons (fun a' w' hG hW hP dep => GStepR.of (zqn (zqa rfl) _ _ _ rfl gm 0 1 (dep 7 rfl 34 rfl) (field_mach_1 gm) rfl)) ?_
     refine StepsR.cons (fun a' w' hG hW hP dep => GStepR.of (zqj (zqa rfl) _ _ rfl gm 1 (dep 8 rfl 35 rfl) _ ((hgm.grown hW hne_gm).cellv (i := 1) rfl) _ Tryz.underlying89 rfl rfl)) ?_
     refine StepsR.cons (fun a' w' hG hW hP dep => GStepR.of (zqn (zqa rfl) _ _ _ rfl wr.heap.size 0 1 (hG.other 6 rfl) (field_edge_1 _ _) rfl)) ?_
     refine StepsR.cons (fun a' w' hG hW hP dep => GStepR.of (zqj (zqa rfl) _ _ rfl wr.heap.size 1 (dep 10 rfl 37 rfl) (.int .i64 (n0 : Int)) (by rw [← hfr]; exact (h6.grown hW hne_6).cellv (i := 1) rfl) _ Tryz.underlying3 rfl rfl)) ?_
     refine StepsR.cons (fun a' w' hG hW hP dep => GStepR.of (gs_lookup_v (zqa rfl) _ _ rfl (hed.map.keep (hW.block bm hed.map.lt hne_bm)) _ (wf_of_nat (by omega)) (dep 9 rfl 36 rfl) (dep 11 rfl 38 rfl) rfl)) ?_
     refine StepsR.cons (fun a' w' hG hW hP dep => GStepR.of (gs_load_edge_at (zqa rfl) _ rfl wr.heap.size 0 (hG.other 6 rfl) dd (RowAt.of_blk (h6.grown hW hne_6)) rfl)) ?_
     refine StepsR.cons (fun a' w' hG hW hP dep => GStepR.of (gs_one (zqa rfl) _ rfl (lo := w6.heap.size) hW.size dd (dep 13 rfl 40 rfl) (fun _ _ h => h))) ?_
     refine StepsR.cons (fun a' w' hG hW hP dep => gs_more (zqa rfl) _ _ rfl (lo := lo) (k0 := w6.heap.size) (by have := hW.size; omega) hW.size (vAt mf n0) _ dd (dep 12 rfl 39 rfl) hrw ((hed.own n0 hn0).then_ (hP rfl)) hel w6.heap.size (dep 14 rfl 41 rfl) (fun _ _ h => h)) ?_
     exact trivial
    intro uf w7 hW7 ans
    have u30 : uf 30 = .map (some bm) := ans 3 30 (by decide) rfl
    have u32 : uf 32 = .int .i64 (n0 : Int) := ans 5 32 (by decide) rfl
    obtain ⟨hv7, hat7⟩ := ans 15 42 (by decide) rfl
    clear ans
    simp only [zqr, List.foldl_cons, List.foldl_nil, Act.put, List.setIfInBounds_toArray, List.set_cons_zero, List.set_cons_succ, u30, u32]
    clear u30 u32
    simp only [List.drop]
    have hm7 : ValMap w7 bm nm mf := hed.map.keep (hW7.block bm hed.map.lt hne_bm)
    have hnm := hed.cnt
    rw [List.length_take] at hnm
    refine wl_vmap_put hm7 (by unfold maxLen; omega) rfl _ _ _ rfl rfl n0 (wf_of_nat (by omega)) rfl _ rfl ?_
    intro w8 hm8 hg8
    refine wpList_nil ?_
    have hgm7 : Blk w7 gm _ _ := hgm.grown hW7 hne_gm
    have huR7 := huR.kept_ hW7 (fun j h1 h2 => huN j h1 h2)
    have hgm8 := zqk hgm7 hg8 (blk_map_ne hgm7 hm7)
    have huR8 := huR7.kept_ hg8 (fun j h1 h2 => by injection h2 with h2; subst h2; exact own_map_ne huR7 hm7 h1)
    have hed8 := hed.step hn0 hfr (by rw [hrw]; exact hW7) hm7 hv7 (by rw [hrw]; exact hat7) hm8 hg8
    rw [← Htk.out] at hed8
    have hB8 : Below w.heap.size w w8 := (hB1.grown hW7 hB1.size (fun j e => by have := (hlt0 j e).1; omega)).grown hg8 (by have := hB1.size; have := hW7.size; omega) (fun j e => by injection e with e; omega)
    have hlo8 : lo ≤ w8.heap.size := by have := hW7.size; have := hg8.size; omega
    clear hgm hgm7 huR huR7 hed hB1 hlo4 hm7 hm8 hg8 hv7 hat7 hW7 h6
    go_wp2_with (fail)
    exact ⟨⟨k + 1, by omega, rfl, hgm8, huR8, ⟨_, _, hed8⟩, hB8, hlo8⟩, by simp only [intOf]; omega⟩
   ·have hkI : ¬ (k : Int) < n := by omega
    rw [List.take_of_length_le (by rw [← hnl.out]; omega), Hl.out] at hed
    have hMI := mach_of hf (by rw [hNR.out]; exact hRl) hE hR (by have := hT.size; omega) hgmlo hgm huR hed
    have hM := hMI.ok
    clear hgm huR hed
    go_upto_region 10 with (fail)
    have hgw := Blk.new wr 94 (walkC gm (.slice none 0 0) 0 true)
    have hBw : Below wr.heap.size wr (wr.alloc (.cells #[.pointer (some ⟨gm, 0, none⟩), .slice none 0 0, .int .u32 0, .bool true] 94)) := zqc (Below.refl _ _) _
    obtain ⟨wa, hwa⟩ : ∃ y, y = wr.alloc (.cells #[.pointer (some ⟨gm, 0, none⟩), .slice none 0 0, .int .u32 0, .bool true] 94) := ⟨_, rfl⟩
    have hgw' : Blk wa wr.heap.size 94 (walkC gm (.slice none 0 0) 0 true) := by rw [hwa]; exact hgw
    rw [← hwa] at hBw ⊢
    clear hwa hgw
    have hMa := hM.below hBw hM.2.2.2.2.2.1
    have hTr := hT.then_ hT.size hB1
    have hMIa := hMI.keep (fun i _ hi => hBw.block i hi) hBw.size
    have hBa := zqd hB1 hBw
    go_upto_region 11 with (first
     | (go_at_call 29; refine (none_any wr.heap.size gm N E R wa hMa).mono ?_; rintro e wb ⟨g, c, rfl, hg, hs, hBb⟩)
     | (go_at_call 28; refine (at_any wr.heap.size gm N E R wa.heap.size wr.heap.size g c 0 0 true _ (fun i hi => by simp at hi) (by decide) wb (hMa.below hBb hMa.2.2.2.2.2.1) (zqb hgw' hBb) (Nat.le_refl _) hs hBw.size (by have := hgw'.lt; omega) ((hTr.then_ hTr.size hBw).then_ (by have := hBw.size; have := hTr.size; omega) hBb)).mono ?_; rintro e wc ⟨rfl, hwc, hsc, hG⟩))
    have hBb2 := zqd hBa hBb
    have hz1 := hBw.size
    have hz2 := hBb.size
    have hz3 := hB1.size
    have hlw := hgw'.lt
    rw [Nat.zero_or, Nat.zero_or] at hwc
    rw [Nat.zero_or] at hsc
    have hMc : MachIn lo wr.heap.size wc gm N E R := hMIa.keep (fun i _ hi => (hG.block i (by omega) (by omega) (by omega)).trans (hBb.block i (by omega))) (Nat.le_trans hz2 hG.size)
    have hBc : Below w.heap.size w wc := ⟨hG.os.trans hBb2.os, hG.tape.trans hBb2.tape, hG.output.trans hBb2.output, Nat.le_trans hBb2.size hG.size, fun i hi => (hG.block i (by omega) (by omega) (by omega)).trans (hBb2.block i hi)⟩
    clear hs
    go_wp2_with (fail)
    go_ret2
    refine ⟨hBc, .inr ⟨hrb, wr.heap.size, gm, lo, wr.heap.size, rfl, hlo2, hB1.size, ?_⟩⟩
    rw [← hNR.out]
    exact ⟨hMc, Nat.le_refl _, met_lt hR _ _, spread_below _ _ _ _ _, g, c, by omega, hwc, hsc.mono (by omega)⟩
def zyb (ln : ByteArray) : List Nat := ln.data.toList.map (·.toNat)
theorem bytesL_length (ln : ByteArray) : (zyb ln).length = ln.size := by
 unfold zyb
 rw [List.length_map]
 rfl
noncomputable def goesW (E : List Edg) (N : Nat) (R : List Nat) (cs : List Nat) (k : Wk) : Wk := cs.foldl (byteW E N R) k
theorem goesW_snoc (E : List Edg) (N : Nat) (R : List Nat) (cs : List Nat) (c : Nat) (k : Wk) : goesW E N R (cs ++ [c]) k = byteW E N R (goesW E N R cs k) c := by simp [goesW]
theorem bytesL_get (ln : ByteArray) (k : Nat) (h : k < ln.size) (h2 : k < (zyb ln).length) : (zyb ln)[k] = (ln[k]).toNat :=
 (List.getElem_map (fun x : UInt8 => x.toNat) (l := ln.data.toList) (i := k) (h := h2)).trans rfl
theorem bytesL_take (ln : ByteArray) (k : Nat) (h : k < ln.size) : (zyb ln).take (k + 1) = (zyb ln).take k ++ [(ln[k]).toNat] := by
 have h2 : k < (zyb ln).length := by rw [bytesL_length]; exact h
 rw [List.take_succ_eq_append_getElem h2, bytesL_get ln k h h2]
set_option maxRecDepth 100000 in
set_option maxHeartbeats 4000000 in
theorem line_any (s : Int) (A : Option Addr) (n c0 : Nat) (B : Option Addr) (m d0 : Nat) (E : List Edg) (R : List Nat) (ln : ByteArray) (hn : n = E.length) (hm : m = R.length) (hE : E.length ≤ 1099511627776) (hRl : R.length ≤ 1099511627776) (hR : ∀ r ∈ R, r < 4294967296) (w : World)
  (hsE : SliceOf w w.heap.size 7 edgC A E) (hsR : SliceOf w w.heap.size 1 encR B R) (hT : TabOk w) (hln : ln.size ≤ 1099511627776) :
  Calls Tryz.prog 13 #[.agg (nfaC s A n c0 B m d0), .string ln] w fun e w' => Below w.heap.size w w' ∧
   ((rightB s E m = false ∧ e = .returned (.tuple #[.int .u32 0, .int .i64 70])) ∨
    (rightB s E m = true ∧ e = .returned (.tuple #[.int .u32 (endW E R.length R (goesW E R.length R (zyb ln) (begW E R.length R)) : Nat), .int .i64 0]))) := by
 have hbeg := fun w1 h1 h2 h3 => s_begin_any s A n c0 B m d0 E R hn hm hE hRl hR w1 h1 h2 h3
 clear hn hm
 go_enter Tryz.func13, Tryz.ntmps13
 have h1 := Blk.new w 26 (nfaC s A n c0 B m d0)
 have hB1 : Below w.heap.size w (w.alloc (.cells (nfaC s A n c0 B m d0) 26)) := zqc (Below.refl _ _) _
 go_upto_region 1 with (fail)
 obtain ⟨W1, hW1⟩ : ∃ y, y = w.alloc (.cells (nfaC s A n c0 B m d0) 26) := ⟨_, rfl⟩
 rw [← hW1] at h1 hB1 ⊢
 clear hW1
 replace hbeg := hbeg W1 ((hsE.below hB1).more hB1.size) ((hsR.below hB1).more hB1.size) (hT.then_ hT.size hB1)
 rcases hrb : rightB s E m with _ | _
 ·have hbeg2 : Calls Tryz.prog 8 #[.agg (nfaC s A n c0 B m d0)] W1 fun e w' => Below W1.heap.size W1 w' ∧ e = .returned (.tuple #[.pointer none, .int .i64 70]) := hbeg.mono (fun e w' ⟨q1, q2⟩ => ⟨q1, by
   rcases q2 with q2 | q2
   ·exact q2.2
   ·rw [hrb] at q2; exact absurd q2.1 (by decide)⟩)
  clear hbeg
  go_wp2_with (first | (refine wl_load_nfa rfl _ rfl _ rfl _ _ _ _ _ _ _ h1 ?_) | (go_at_call 8; refine hbeg2.mono ?_; rintro e w3 ⟨hB3, rfl⟩))
  go_ret2
  exact ⟨zqd hB1 hB3, .inl ⟨hrb, rfl⟩⟩
 ·have hbeg2 : Calls Tryz.prog 8 #[.agg (nfaC s A n c0 B m d0)] W1 fun e w' => Below W1.heap.size W1 w' ∧ ∃ gw gm lo nb, e = .returned (.tuple #[.pointer (some ⟨gw, 0, none⟩), .int .i64 0]) ∧ W1.heap.size ≤ lo ∧ W1.heap.size ≤ gw ∧ WalkOk lo nb w' gw gm R.length E R (begW E R.length R) := hbeg.mono (fun e w' ⟨q1, q2⟩ => ⟨q1, by
   rcases q2 with q2 | q2
   ·rw [hrb] at q2; exact absurd q2.1 (by decide)
   ·exact q2.2⟩)
  clear hbeg
  go_upto_region 4 with (first | (refine wl_load_nfa rfl _ rfl _ rfl _ _ _ _ _ _ _ h1 ?_) | (go_at_call 8; refine hbeg2.mono ?_; rintro e w3 ⟨hB3, gw, gm, lo, nb, rfl, hlo, hgw, hW3⟩))
  replace hB1 := zqd hB1 hB3
  have hT3 := hT.then_ hT.size hB1
  have hgw2 : w.heap.size ≤ gw := by have := h1.lt; omega
  clear hbeg2 hB3 h1 hlo hgw
  obtain ⟨N, hN⟩ : ∃ N, N = R.length := ⟨_, rfl⟩
  rw [← hN] at hW3
  have HN := Lib.hid hN
  clear hN
  go_wp2_with (fail)
  have Hsz := Lib.hid (bytesL_length ln).symm
  go_loopw [19] (fun i wr => ∃ k : Nat, k ≤ ln.size ∧ i = .int .i64 k ∧ WalkOk lo nb wr gw gm N E R (goesW E N R ((zyb ln).take k) (begW E N R)) ∧ Below w.heap.size w wr ∧ TabOk wr) (fun i _ => ln.size - (intOf i).toNat)
  case atStart => exact ⟨0, by omega, rfl, hW3, hB1, hT3⟩
  case round =>
   clear hW3 hB1 hT3
   obtain ⟨k, hk, rfl, hW3, hB1, hT3⟩ := hrel
   by_cases hkl : k < ln.size
   ·have hkI : (k : Int) < ln.size := by omega
    have hstep : goesW E N R ((zyb ln).take (k + 1)) (begW E N R) = byteW E N R (goesW E N R ((zyb ln).take k) (begW E N R)) (ln[k]).toNat := by
     rw [bytesL_take ln k hkl, goesW_snoc]
    have Hst := Lib.hid hstep
    clear hstep
    go_wp2_with (go_at_call 14; refine (s_byte_any lo nb gw gm N E R _ (ln[k]).toNat (UInt8.toNat_lt _) wr hW3 hT3).mono ?_; rintro e wc ⟨rfl, hWc, hgc⟩)
    have hlb := hW3.lt
    exact ⟨⟨k + 1, by omega, rfl, by rw [Hst.out]; exact hWc, zqh hB1 hgc hgw2, tab_grown hT3 hgc (by have := hW3.1.ok.2.2.2.2.1; have := hW3.2.1; omega)⟩, by simp only [intOf]; omega⟩
   ·have hkI : ¬ (k : Int) < ln.size := by omega
    rw [List.take_of_length_le (by rw [← Hsz.out]; omega)] at hW3
    go_wp2_with (go_at_call 11; refine (s_end_any lo nb gw gm N E R _ wr hW3 hT3).mono ?_; rintro e wc ⟨rfl, hBc⟩)
    go_ret2
    refine ⟨zqd hB1 hBc, .inr ⟨hrb, ?_⟩⟩
    rw [← HN.out]
    rfl
end Go.Proofs.YtkedgombccdamaaGreatDoor
namespace Go.Proofs.YtkedgombccdamaaGreatDoor
open Go.RowKit
set_option linter.unusedVariables false
set_option linter.unusedSimpArgs false
theorem spread_none {E : List Edg} {N x : Nat} {b e : Bool} (hE : ∀ d ∈ E, 0 ≤ d.tt ∧ d.tt < N) (hm : ∀ d ∈ E, may b e d = false) (hx : below x N) : zzf E N b e x = x := by
 apply bits_ext
 intro i
 rw [spread_bit hE hx]
 constructor
 ·intro h
  cases h with
  | base h => exact h
  | step hd h1 _ => rw [hm _ hd] at h1; cases h1
 ·exact fun h => .base h
end Go.Proofs.YtkedgombccdamaaGreatDoor
namespace Go.Proofs.YtkedgombccdamaaGreatDoor
open Go.RowKit Go.Shelf Go.Maps
set_option linter.unusedVariables false
set_option linter.unusedSimpArgs false
attribute [local go_sem] Oper.semAt_some
theorem chr_of {q : ByteArray} {k : Nat} (h : k < q.size) : Ere.chr q k = (q[k]).toNat := by unfold Ere.chr; rw [dif_pos h]
namespace Mt
section
variable {E : List Edg} {N : Nat} {R : List Nat}
theorem goes_wk (q : ByteArray) : ∀ k, k ≤ q.size → goesW E N R ((zyb q).take k) (begW E N R) = wkAt E N R q k
 | 0, _ => by rw [List.take_zero]; rfl
 | k + 1, h => by
   rw [bytesL_take q k (by omega), goesW_snoc, goes_wk q k (by omega)]
   show byteW E N R _ _ = byteW E N R _ (Ere.chr q k)
   rw [chr_of (by omega)]
theorem goes_all (q : ByteArray) : goesW E N R (zyb q) (begW E N R) = wkAt E N R q q.size := by
 rw [← goes_wk q q.size (Nat.le_refl _), List.take_of_length_le (by rw [bytesL_length]; exact Nat.le_refl _)]
end
theorem line_v {F : NF} {N : Nat} (hF : FitsF F N) (q : ByteArray) : endW F.E N F.R (goesW F.E N F.R (zyb q) (begW F.E N F.R)) = vF q F := by
 rw [goes_all, endW_mV hF.2.one (fun d hd => ⟨hF.2.tt d hd |>.1, hF.2.tt d hd |>.2⟩)]
 unfold vF
 rw [hF.1]
 simp
end Mt
theorem line_mo {x : MV} {N : Nat} (hF : Mt.FitsF x.F N) (hE : x.F.E.length ≤ 16777216) (hN : N ≤ 1048576) (hR : ∀ r ∈ x.F.R, r < 4294967296) (hr : rightF x.F = true) (w : World) (hsE : SliceOf w w.heap.size 7 edgC x.A x.F.E) (hsR : SliceOf w w.heap.size 1 encR x.B x.F.R) (hT : TabOk w) (q : ByteArray) (hq : q.size ≤ 1000) :
  Calls Tryz.prog 13 #[.agg x.C, .string q] w fun e w' => e = .returned (.tuple #[.int .u32 ((Mt.vF q x.F : Nat) : Int), .int .i64 0]) ∧ Below w.heap.size w w' := by
 have hl : x.F.R.length = N := hF.2.rules
 refine (line_any x.F.s x.A x.F.E.length x.c x.B x.F.R.length x.d x.F.E x.F.R q rfl rfl (by omega) (by omega) hR w hsE hsR hT (by omega)).mono ?_
 rintro e w' ⟨hb, ⟨h1, -⟩ | ⟨-, rfl⟩⟩
 ·unfold rightF at hr
  rw [hr] at h1
  cases h1
 ·rw [hl, Mt.line_v hF]
  exact ⟨rfl, hb⟩
theorem begin_mo {x : MV} {N : Nat} (hF : Mt.FitsF x.F N) (hE : x.F.E.length ≤ 16777216) (hN : N ≤ 1048576) (hR : ∀ r ∈ x.F.R, r < 4294967296) (hr : rightF x.F = true) (w : World) (hsE : SliceOf w w.heap.size 7 edgC x.A x.F.E) (hsR : SliceOf w w.heap.size 1 encR x.B x.F.R) (hT : TabOk w) :
  Calls Tryz.prog 8 #[.agg x.C] w fun e w' => (∃ gw gm lo nb, e = .returned (.tuple #[.pointer (some ⟨gw, 0, none⟩), .int .i64 0]) ∧ w.heap.size ≤ gw ∧ WalkOk lo nb w' gw gm N x.F.E x.F.R (begW x.F.E N x.F.R)) ∧ Below w.heap.size w w' := by
 have hl : x.F.R.length = N := hF.2.rules
 refine (s_begin_any x.F.s x.A x.F.E.length x.c x.B x.F.R.length x.d x.F.E x.F.R rfl rfl (by omega) (by omega) hR w hsE hsR hT).mono ?_
 rintro e w' ⟨hb, ⟨h1, -⟩ | ⟨-, gw, gm, lo, nb, rfl, h2, h3, h4⟩⟩
 ·unfold rightF at hr
  rw [hr] at h1
  cases h1
 ·rw [hl] at h4
  exact ⟨⟨gw, gm, lo, nb, rfl, h3, h4⟩, hb⟩
end Go.Proofs.YtkedgombccdamaaGreatDoor
namespace Go.Proofs.YtkedgombccdamaaGreatDoor
open Go.RowKit
set_option linter.unusedVariables false
set_option linter.unusedSimpArgs false
set_option linter.unnecessarySimpa false
def waitsB (ops : Array Oper) (i0 : Nat) (D : List Nat) : Bool := D.all fun j => j == i0 || (match ops[j]? with | some o => o.after.any fun e => Region.binds .any e && (D.contains e.on && decide (e.on < j)) | none => false)
section
variable {G : Type} {i0 : Nat}
def exS (S : G → Nat → GSpec) (i0 : Nat) : GSpec := ⟨fun v w => ∃ g, (S g i0).p v w, fun v w w' ⟨g, h⟩ hb => ⟨g, (S g i0).st v w w' h hb⟩⟩
def ghoS (S : G → Nat → GSpec) (i0 : Nat) (g : G) (k : Nat) : GSpec := cond (Nat.beq k i0) (exS S i0) (S g k)
theorem getD_set_sameE {l : Array Bool} {i : Nat} (h : i < l.size) : (l.setIfInBounds i true).getD i false = true := by simp [h]
structure GInvE (i0 : Nat) (ops : Array Oper) (n : Nat) (S : G → Nat → GSpec) (a0 : Act) (W0 : World) (listed : Array Bool) (a : Act) (w : World) : Prop where
 head : HeadInv .any ops n listed
 base : GBase ops n a0 a
 below : Below W0.heap.size W0 w
 done : ∃ g, ∀ j, j < n → listed.getD j false = true → opOk ops (S g) a w j
 deps : ∀ j o, j < n → ops[j]? = some o → listed.getD j false = true → ∀ e ∈ o.after, Region.binds .any e = true → listed.getD e.on false = true
theorem waits_listed {ops : Array Oper} {n : Nat} {D : List Nat} {listed : Array Bool} (hD : waitsB ops i0 D = true) (hn : n ≤ ops.size)
  (deps : ∀ j o, j < n → ops[j]? = some o → listed.getD j false = true → ∀ e ∈ o.after, Region.binds .any e = true → listed.getD e.on false = true) : ∀ j, j < n → D.contains j = true → listed.getD j false = true → listed.getD i0 false = true := by
 intro j
 induction j using Nat.strongRecOn with
 | _ j ih =>
 intro hj hm hl
 unfold waitsB at hD
 have h1 := List.all_eq_true.1 hD j (by simpa [List.contains_eq_mem] using hm)
 rw [Bool.or_eq_true] at h1
 rcases h1 with h1 | h1
 ·rw [beq_iff_eq] at h1
  rw [← h1]; exact hl
 ·cases ho : ops[j]? with
  | none => rw [ho] at h1; cases h1
  | some o =>
    rw [ho] at h1
    simp only [Array.any_eq_true, Bool.and_eq_true, decide_eq_true_eq] at h1
    obtain ⟨q, hq, h2, h3, h4⟩ := h1
    exact ih _ h4 (by omega) h3 (deps j o hj ho hl _ (Array.getElem_mem hq) h2)
theorem wpAny_growE {P : Program} {ops : Array Oper} {n : Nat} {D : List Nat} {S : G → Nat → GSpec} (hD : waitsB ops i0 D = true) (hind : ∀ g g' j, D.contains j = false → S g j = S g' j) {Q : Exit → Act → World → Prop} {a0 : Act} {W0 : World} (hB : growB ops n a0.tmps.size = true)
  (hstep : ∀ i o, i < n → ops[i]? = some o → ∀ g a w, GBase ops n a0 a → Below W0.heap.size W0 w → (∀ e ∈ o.after, Region.binds .any e = true → opOk ops (S g) a w e.on) → GStep P ops (ghoS S i0 g) Q i o a w)
  (hend : ∀ g a w, GBase ops n a0 a → Below W0.heap.size W0 w → (∀ j, j < n → opOk ops (S g) a w j) → wpList P ops Q (ops.toList.drop n) a w) :
  ∀ (m : Nat) (listed : Array Bool) (a : Act) (w : World), GInvE i0 ops n S a0 W0 listed a w → unl n listed = m → wpAny P .any ops Q (m + (ops.size - n)) listed a w := by
 simp only [growB, Bool.and_eq_true, Bool.or_eq_true, decide_eq_true_eq] at hB
 obtain ⟨⟨⟨⟨⟨hn, hdup⟩, hlt⟩, hedge⟩, htail⟩, hseq⟩ := hB
 have hedge' : ∀ i o, i < n → ops[i]? = some o → ∀ e ∈ o.after, Region.binds .any e = true → e.on < i := by
  intro i o hi ho e he hb
  have h1 := List.all_eq_true.1 hedge i (List.mem_range.2 hi)
  simp only [ho] at h1
  have h2 := (Array.all_eq_true_iff_forall_mem.1 h1) e he
  simpa [hb] using h2
 have hready : ∀ (listed : Array Bool) (a : Act) (w : World), GInvE i0 ops n S a0 W0 listed a w → 0 < unl n listed → ∀ j ∈ Region.ready .any ops listed, j < n := by
  intro listed a w inv hpos j hj
  rcases htail with he | ⟨hs, hc⟩
  ·obtain ⟨_, o, ho, _⟩ := mem_ready.1 hj
   have := (Array.getElem?_eq_some_iff.1 ho).1
   omega
  ·rcases Nat.lt_or_ge n ops.size with hlt' | hge
   ·unfold unl at hpos
    obtain ⟨i, hi⟩ := List.exists_mem_of_length_pos hpos
    simp only [List.mem_filter, List.mem_range, Bool.not_eq_true'] at hi
    have hun : listed.getD i true = false := getD_in (by rw [inv.head.size]; omega) hi.2
    rcases Nat.lt_or_ge j n with h | h
    ·exact h
    ·exact absurd hj (tail_waits hs hc hlt' inv.head _ i rfl hi.1 hun j h)
   ·obtain ⟨_, o, ho, _⟩ := mem_ready.1 hj
    have := (Array.getElem?_eq_some_iff.1 ho).1
    omega
 have hne : ∀ (listed : Array Bool) (a : Act) (w : World), GInvE i0 ops n S a0 W0 listed a w → 0 < unl n listed → Region.ready .any ops listed ≠ [] := by
  intro listed a w inv hpos hnil
  have hex : ∃ i, i < n ∧ listed.getD i false = false := by
   unfold unl at hpos
   obtain ⟨i, hi⟩ := List.exists_mem_of_length_pos hpos
   simp only [List.mem_filter, List.mem_range, Bool.not_eq_true'] at hi
   exact ⟨i, hi.1, hi.2⟩
  have hmin : ∃ i, i < n ∧ listed.getD i false = false ∧ ∀ k, k < i → listed.getD k false = true := by
   obtain ⟨i, hi, hf⟩ := hex
   clear hpos
   induction i using Nat.strongRecOn with
   | _ i ih =>
     by_cases h : ∃ k, k < i ∧ listed.getD k false = false
     ·obtain ⟨k, hk, hkf⟩ := h
      exact ih k hk (by omega) hkf
     ·refine ⟨i, hi, hf, fun k hk => ?_⟩
      cases hc : listed.getD k false with
      | true => rfl
      | false => exact absurd ⟨k, hk, hc⟩ h
  obtain ⟨i, hi, hf, hall⟩ := hmin
  have ho : ops[i]? = some ops[i] := Array.getElem?_eq_getElem (by omega)
  have hmem : i ∈ Region.ready .any ops listed := mem_ready.2 ⟨getD_in (by rw [inv.head.size]; omega) hf, _, ho, fun e he hb => hall _ (hedge' i _ hi ho e he hb)⟩
  rw [hnil] at hmem
  cases hmem
 intro m
 induction m with
 | zero =>
   intro listed a w inv hm
   have hall : ∀ j, j < n → listed.getD j false = true := by
    intro j hj
    cases hc : listed.getD j false with
    | true => rfl
    | false => have := unl_pos hj hc; omega
   have hlist : listed = headTrue n (ops.size - n) := by
    have hsz := inv.head.size
    apply Array.ext
    ·simp [headTrue, hsz]; omega
    ·intro j h1 h2
     have hj : j < ops.size := by rw [← hsz]; exact h1
     simp only [headTrue, List.getElem_toArray, List.getElem_append, List.length_replicate, List.getElem_replicate]
     by_cases hjn : j < n
     ·have := hall j hjn
      simp [h1] at this
      simp [hjn, this]
     ·have := inv.head.tail j (by omega) hj
      simp [h1] at this
      simp [hjn, this]
   obtain ⟨g, hdone⟩ := inv.done
   have hw := hend g a w inv.base inv.below (fun j hj => hdone j hj (hall j hj))
   have hdl : (ops.toList.drop n).length = ops.size - n := by simp
   have := wpAny_of_seq (md := .any) (Q' := Q) (ops.toList.drop n) n listed a w (fun j => by simp [List.getElem?_drop]) (by rw [hdl, hlist]; exact hseq) hw
   rw [hdl] at this
   rw [Nat.zero_add]
   exact this
 | succ m ih =>
   intro listed a w inv hm
   rw [show m + 1 + (ops.size - n) = (m + (ops.size - n)) + 1 by omega]
   refine ⟨fun h => absurd h (hne listed a w inv (by omega)), fun i hi => ?_⟩
   have hin := hready listed a w inv (by omega) i hi
   obtain ⟨hun, o, ho, hall⟩ := mem_ready.1 hi
   have hlisted : listed.getD i false = false := getD_both hun
   obtain ⟨g, hdone⟩ := inv.done
   have hg := hstep i o hin ho g a w inv.base inv.below (fun e he hb => hdone e.on (by have := hedge' i o hin ho e he hb; omega) (hall e he hb))
   have hsz : i < listed.size := by rw [inv.head.size]; omega
   have hnext : ∀ a' w', GK (ghoS S i0 g) i o a w a' w' → wpAny P .any ops Q (m + (ops.size - n)) (listed.setIfInBounds i true) a' w' := by
    rintro a' w' ⟨v, rfl, hb, hp⟩
    obtain ⟨g2, hp2, hsame⟩ : ∃ g2, (S g2 i).p v w' ∧ ∀ j, j < n → listed.getD j false = true → S g2 j = S g j := by
     by_cases hi0 : i = i0
     ·subst hi0
      unfold ghoS at hp
      rw [show Nat.beq i i = true from Nat.beq_refl i] at hp
      obtain ⟨g2, hp⟩ := hp
      refine ⟨g2, hp, fun j hj hl => hind g2 g j ?_⟩
      cases hc : D.contains j with
      | false => rfl
      | true =>
        have := waits_listed hD hn inv.deps j hj hc hl
        rw [hlisted] at this
        cases this
     ·have hb0 : Nat.beq i i0 = false := by
       cases h : Nat.beq i i0 with
       | false => rfl
       | true => exact absurd (Nat.eq_of_beq_eq_true h) hi0
      unfold ghoS at hp
      rw [hb0] at hp
      exact ⟨g, hp, fun j _ _ => rfl⟩
    refine ih _ _ _ ⟨inv.head.set hi hin, ⟨by rw [put_defers]; exact inv.base.defers, by rw [put_size]; exact inv.base.size, fun t ht => ?_⟩, inv.below.trans (hb.mono inv.below.size), ⟨g2, fun j hj hl d hd => ?_⟩, fun j oj hj hoj hl e he hbd => ?_⟩ (by have := unl_set hin hsz hlisted; omega)
    ·cases hd : o.dst with
     | none => exact inv.base.other t ht
     | some d =>
       have hmem : d ∈ zzd ops n := List.mem_filterMap.2 ⟨o, by
        rw [List.mem_iff_getElem?]
        exact ⟨i, by rw [List.getElem?_take]; simp [hin, ho]⟩, hd⟩
       have hne : d ≠ t := by
        rintro rfl
        rw [List.contains_eq_mem] at ht
        simp [hmem] at ht
       rw [zxp hne]
       exact inv.base.other t ht
    ·by_cases hij : i = j
     ·subst hij
      rw [ho] at hd
      simp only [Option.bind_some] at hd
      rw [hd]
      have hmem : d ∈ zzd ops n := List.mem_filterMap.2 ⟨o, by
       rw [List.mem_iff_getElem?]
       exact ⟨i, by rw [List.getElem?_take]; simp [hin, ho]⟩, hd⟩
      have hdl : d < a.tmps.size := by
       have := List.all_eq_true.1 hlt d hmem
       rw [inv.base.size]; simpa using this
      rw [put_getD_same hdl]
      exact hp2
     ·rw [getD_set_ne false hij] at hl
      have hold := hdone j hj hl d hd
      have hkeep : (a.put o.dst v).tmps.getD d undef = a.tmps.getD d undef := by
       cases hod : o.dst with
       | none => rfl
       | some e =>
         apply zxp
         rintro rfl
         cases hoj : ops[j]? with
         | none => rw [hoj] at hd; cases hd
         | some oj =>
           rw [hoj] at hd
           simp only [Option.bind_some] at hd
           exact hij (noDup_spec _ hdup i j o oj e (by rw [List.getElem?_take]; simp [hin, ho]) (by rw [List.getElem?_take]; simp [hj, hoj]) hod hd)
      rw [hkeep]
      rw [hsame j hj hl]
      exact (S g j).st _ _ _ hold hb
    ·by_cases hij : i = j
     ·subst hij
      rw [ho] at hoj
      injection hoj with hoj
      subst hoj
      have h5 := hall e he hbd
      by_cases h6 : i = e.on
      ·rw [← h6]; exact getD_set_sameE hsz
      ·rw [getD_set_ne false h6]; exact h5
     ·rw [getD_set_ne false hij] at hl
      have h5 := inv.deps j oj hj hoj hl e he hbd
      by_cases h6 : i = e.on
      ·rw [← h6]; exact getD_set_sameE hsz
      ·rw [getD_set_ne false h6]; exact h5
   unfold wpOp
   simp only [ho]
   unfold GStep at hg
   split
   ·rename_i hw
    rw [if_pos hw] at hg
    exact .inl (Oper.wp_mono hnext hg)
   ·rename_i hw
    rw [if_neg hw] at hg
    exact hnext _ _ ⟨undef, rfl, Below.refl _ _, hg⟩
theorem wp_region_growE {P : Program} {id : Nat} {l : List Oper} {Q : Exit → Act → World → Prop} {a : Act} {w : World} (n : Nat) (D : List Nat) (S : G → List GSpec) (g0 : G) (hm : P.follows .mixedOrders = true) (hB : growB l.toArray n a.tmps.size = true) (hD : waitsB l.toArray i0 D = true) (hind : ∀ g g' j, D.contains j = false → zzl (S g) j = zzl (S g') j)
  (hstep : ∀ i o, i < n → l[i]? = some o → ∀ g a' w', GBase l.toArray n a a' → Below w.heap.size w w' → (∀ e ∈ o.after, Region.binds .any e = true → opOk l.toArray (zzl (S g)) a' w' e.on) → GStep P l.toArray (ghoS (fun g => zzl (S g)) i0 g) Q i o a' w')
  (hend : ∀ g (u : Nat → Value) w', Below w.heap.size w w' → (∀ j d, j < n → (l[j]?).bind (·.dst) = some d → (zzl (S g) j).p (u d) w') → wpList P l.toArray Q (l.drop n) (zqr a (zzd l.toArray n) u) w') :
  (Code.region id l.toArray true).wp P Q a w := by
 refine wp_region_any hm ?_
 have hdr : ∀ {x : World}, Below w.heap.size w x → Below w.heap.size w.drew x := fun h => ⟨h.os, h.tape, h.output, h.size, h.block⟩
 have hrd : ∀ {x : World}, Below w.heap.size w.drew x → Below w.heap.size w x := fun h => ⟨h.os, h.tape, h.output, h.size, h.block⟩
 have hn : n ≤ l.length := by
  simp only [growB, Bool.and_eq_true, decide_eq_true_eq] at hB
  simpa using hB.1.1.1.1.1
 have key := wpAny_growE (i0 := i0) (P := P) (ops := l.toArray) (n := n) (D := D) (S := fun g => zzl (S g)) hD hind (Q := Q) (a0 := a) (W0 := w.drew) hB
  (fun i o hi ho g a' w' hb hw hd => hstep i o hi (by simpa using ho) g a' w' hb (hrd hw) hd)
  (fun g a' w' hb hw hd => by
   rw [act_eq hb]
   have := hend g (fun d => a'.tmps.getD d undef) w' (hrd hw) (fun j d hj hd' => hd j hj d (by simpa using hd'))
   simpa using this)
  n (Array.replicate l.toArray.size false) a w.drew
  ⟨⟨by simp, fun j oj _ hl => (by rw [getD_replicate_false] at hl; cases hl), fun t _ ht => getD_in (by simpa using ht) (getD_replicate_false _ _)⟩, ⟨rfl, rfl, fun _ _ => rfl⟩, Below.refl _ _, ⟨g0, fun j _ hl => (by rw [getD_replicate_false] at hl; cases hl)⟩, fun j _ _ _ hl => (by rw [getD_replicate_false] at hl; cases hl)⟩
  (by
   unfold unl
   rw [List.filter_eq_self.2 (fun j _ => by rw [getD_replicate_false]; rfl), List.length_range])
 rw [show n + (l.toArray.size - n) = l.toArray.size by simp; omega] at key
 exact key
def StepsE (i0 : Nat) (P : Program) (ops : Array Oper) (S : G → Nat → GSpec) (Q : Exit → Act → World → Prop) (n : Nat) (a : Act) (w : World) : List Oper → Nat → Prop
 | [], _ => True
 | o :: l, i => (∀ g a' w', GBase ops n a a' → Below w.heap.size w w' → (∀ j, (o.after.toList.any fun e => Region.binds .any e && e.on == j) = true → opOk ops (S g) a' w' j) → GStep P ops (ghoS S i0 g) Q i o a' w') ∧ StepsE i0 P ops S Q n a w l (i + 1)
theorem StepsE.nil {P : Program} {ops : Array Oper} {S : G → Nat → GSpec} {Q : Exit → Act → World → Prop} {n : Nat} {a : Act} {w : World} {i : Nat} : StepsE i0 P ops S Q n a w [] i := trivial
theorem StepsE.cons {P : Program} {ops : Array Oper} {S : G → Nat → GSpec} {Q : Exit → Act → World → Prop} {n : Nat} {a : Act} {w : World} {o : Oper} {l : List Oper} {i : Nat}
  (h : ∀ g a' w', GBase ops n a a' → Below w.heap.size w w' → (∀ j, (o.after.toList.any fun e => Region.binds .any e && e.on == j) = true → opOk ops (S g) a' w' j) → GStep P ops (ghoS S i0 g) Q i o a' w')
  (hl : StepsE i0 P ops S Q n a w l (i + 1)) : StepsE i0 P ops S Q n a w (o :: l) i := ⟨h, hl⟩
theorem StepsE.at_ {P : Program} {ops : Array Oper} {S : G → Nat → GSpec} {Q : Exit → Act → World → Prop} {n : Nat} {a : Act} {w : World} : ∀ {l : List Oper} {i : Nat}, StepsE i0 P ops S Q n a w l i → ∀ (k : Nat) (o : Oper), l[k]? = some o →
  ∀ g a' w', GBase ops n a a' → Below w.heap.size w w' → (∀ j, (o.after.toList.any fun e => Region.binds .any e && e.on == j) = true → opOk ops (S g) a' w' j) → GStep P ops (ghoS S i0 g) Q (i + k) o a' w'
 | [], _, _, k, o, hk => by simp at hk
 | o' :: l, i, h, k, o, hk => by
   rcases k with _ | k
   ·simp only [List.getElem?_cons_zero, Option.some.injEq] at hk
    subst hk
    exact h.1
   ·rw [List.getElem?_cons_succ] at hk
    have := StepsE.at_ h.2 k o hk
    rw [show i + (k + 1) = i + 1 + k by omega]
    exact this
theorem wp_region_stepsE {P : Program} {id : Nat} {l : List Oper} {Q : Exit → Act → World → Prop} {a : Act} {w : World} (n i0 : Nat) (D : List Nat) (S : G → List GSpec) (g0 : G) (ds : List Nat) (hm : P.follows .mixedOrders = true) (hB : growB l.toArray n a.tmps.size = true) (hD : waitsB l.toArray i0 D = true) (hind : ∀ g g' j, D.contains j = false → zzl (S g) j = zzl (S g') j)
  (hds : zzd l.toArray n = ds) (hstep : StepsE i0 P l.toArray (fun g => zzl (S g)) Q n a w (l.take n) 0)
  (hend : ∀ g (u : Nat → Value) w', Below w.heap.size w w' → (∀ j d, j < n → (l[j]?).bind (·.dst) = some d → (zzl (S g) j).p (u d) w') → wpList P l.toArray Q (l.drop n) (zqr a ds u) w') :
  (Code.region id l.toArray true).wp P Q a w := by
 subst hds
 refine wp_region_growE (i0 := i0) n D S g0 hm hB hD hind (fun i o hi ho g a' w' hb hw hd => ?_) hend
 have := hstep.at_ i o (by rw [List.getElem?_take, if_pos hi]; exact ho) g a' w' hb hw (fun j hj => by
  obtain ⟨e, he, hh⟩ := List.any_eq_true.1 hj
  simp only [Bool.and_eq_true, beq_iff_eq] at hh
  rw [← hh.2]
  exact hd e (Array.mem_toList_iff.1 he) hh.1)
 rw [Nat.zero_add] at this
 exact this
end
end Go.Proofs.YtkedgombccdamaaGreatDoor
namespace Go.Proofs.YtkedgombccdamaaGreatDoor
open Go.RowKit Go.Shelf Go.Maps
set_option linter.unusedVariables false
set_option linter.unusedSimpArgs false
attribute [local go_sem] Oper.semAt_some
theorem enter_line8 (args : Array Value) (w : World) : (callFunc 13 args).run Tryz.prog w = .ok (.enter 13 args) w := by kernel_rfl
theorem gs_str_to {ops : Array Oper} {S : Nat → GSpec} {Q : Exit → Act → World → Prop} {i : Nat} {o : Oper} {a : Act} {w : World} (hw : Region.wanted o (yielded ops a.tmps) = true) (x y : Operand) (ho : o.op = .slice 9 x none (some y) none) (q : ByteArray) (n : Nat) (hx : a.eval x = .string q) (hy : a.eval y = .int .i64 (n : Int)) (hn : n ≤ q.size)
  (hp : (S i).p (.string (q.extract 0 n)) w) : GStep Tryz.prog ops S Q i o a w :=
 zzx hw (v := .string (q.extract 0 n)) (by
  unfold execOp
  have e := run_slice_string_to_if (P := Tryz.prog) w 9 q .i64 (n : Int) Tryz.underlying9
  rw [if_pos ⟨by omega, by omega⟩, Int.toNat_natCast] at e
  simp only [ho, Option.map_none, Option.map_some, hx, hy, Sem.run_bind, run_sliceAt_string (P := Tryz.prog) w 9 _ _ _ _ Tryz.underlying9, e, Result.andThen_ok, Sem.run_pure]) (Below.refl _ _) hp
theorem gs_extract {ops : Array Oper} {S : Nat → GSpec} {Q : Exit → Act → World → Prop} {i : Nat} {o : Oper} {a : Act} {w : World} (hw : Region.wanted o (yielded ops a.tmps) = true) (x : Operand) (k : Nat) (ho : o.op = .extract x k) (vs : Array Value) (hx : a.eval x = .tuple vs) (u : Value) (hk : vs[k]? = some u)
  (hp : (S i).p u w) : GStep Tryz.prog ops S Q i o a w :=
 zzx hw (v := u) (by unfold execOp; simp only [ho, hx, Instr.extract, hk, Sem.run_bind, Sem.run_pure, Result.andThen_ok]) (Below.refl _ _) hp
def okS (s : List UInt8) : Prop := s.length ≤ maxLen
def litK (s : List UInt8) : Lit := .string s
theorem keyStr : KeyEnc Tryz.prog 9 (List UInt8) okS (fun s => .string (bs s)) litK where
 law := string_keyed Tryz.underlying9
 key s hs := by
  have := Go.WideMaps.keyOf_string_mk (s := bs s) Tryz.underlying9 (by rw [bs_size]; exact hs)
  simpa [bs, litK] using this
 inj x y h := bs_inj (by injection h)
def idxM (l : List (List UInt8)) (s : List UInt8) : Option Int := if s ∈ l then some (l.idxOf s : Int) else none
theorem idxM_nil : idxM [] = fun _ => none := by funext s; simp [idxM]
theorem idxM_old {l : List (List UInt8)} {s : List UInt8} (h : s ∈ l) : idxM l s = some (l.idxOf s : Int) := by simp [idxM, h]
theorem idxM_new {l : List (List UInt8)} {s : List UInt8} (h : s ∉ l) : idxM l s = none := by simp [idxM, h]
theorem idxM_put {l : List (List UInt8)} {s : List UInt8} (h : s ∉ l) : putM (idxM l) s (l.length : Int) = idxM (l ++ [s]) := by
 funext y
 unfold putM idxM
 by_cases e : y = s
 ·subst e
  rw [List.idxOf_append, if_neg h]
  simp [h]
 ·by_cases h2 : y ∈ l
  ·rw [List.idxOf_append, if_pos h2]; simp [e, h2]
  ·simp [e, h2]
structure MoOk (N K : Nat) (m : Mo) : Prop where
 lo : below m.at_ N
 nk : N ≤ 64 * K
 met : m.met < 4294967296
 en : m.end_ < 4294967296
def keyMo (K : Nat) (m : Mo) : List UInt8 := keyL m.met m.end_ (zqu m.at_ K)
theorem wordsN_lt (x K : Nat) : ∀ u ∈ zqu x K, u < 18446744073709551616 := by
 intro u hu
 unfold zqu at hu
 obtain ⟨i, _, rfl⟩ := List.mem_map.1 hu
 exact wordN_lt' x i
theorem keyMo_inj {N K : Nat} {a b : Mo} (ha : MoOk N K a) (hb : MoOk N K b) (h : keyMo K a = keyMo K b) : a = b := by
 have h1 := ha.met; have h2 := hb.met; have h3 := ha.en; have h4 := hb.en
 obtain ⟨e1, e2, e3⟩ := keyL_inj (by omega) (by omega) (by
  intro u hu
  rcases List.mem_cons.1 hu with rfl | hu
  ·omega
  ·exact wordsN_lt _ _ u hu) (by
  intro u hu
  rcases List.mem_cons.1 hu with rfl | hu
  ·omega
  ·exact wordsN_lt _ _ u hu) h
 have e4 := wordsN_inj (Nat.lt_of_lt_of_le (below_lt ha.lo) (Nat.pow_le_pow_right (by decide) ha.nk)) (Nat.lt_of_lt_of_le (below_lt hb.lo) (Nat.pow_le_pow_right (by decide) hb.nk)) e3
 cases a; cases b
 simp only at e1 e2 e4
 subst e1; subst e2; subst e4
 rfl
theorem keys_mem {N K : Nat} {Q : List Mo} {x : Mo} (hQ : ∀ y ∈ Q, MoOk N K y) (hx : MoOk N K x) : keyMo K x ∈ Q.map (keyMo K) ↔ x ∈ Q := by
 constructor
 ·intro h
  obtain ⟨y, hy, e⟩ := List.mem_map.1 h
  rw [← keyMo_inj (hQ y hy) hx e]
  exact hy
 ·exact fun h => List.mem_map.2 ⟨x, h, rfl⟩
theorem keys_idx {N K : Nat} {x : Mo} (hx : MoOk N K x) : ∀ {Q : List Mo}, (∀ y ∈ Q, MoOk N K y) → (Q.map (keyMo K)).idxOf (keyMo K x) = Q.idxOf x
 | [], _ => rfl
 | y :: Q, hQ => by
   rw [List.map_cons, List.idxOf_cons, List.idxOf_cons, keys_idx hx fun z hz => hQ z (List.mem_cons_of_mem _ hz)]
   by_cases e : y = x
   ·subst e; simp
   ·have e2 : ¬ keyMo K y = keyMo K x := fun h => e (keyMo_inj (hQ y (List.mem_cons_self ..)) hx h)
    have b1 : (y == x) = false := by simpa using e
    have b2 : (keyMo K y == keyMo K x) = false := by simpa using e2
    rw [b1, b2]
theorem keyMo_ok {K : Nat} {m : Mo} (hK : K ≤ 1048576) : okS (keyMo K m) := by
 unfold okS keyMo maxLen keyL
 rw [List.length_append]
 have h1 := dig36_len m.met
 have h2 := join36_len (m.end_ :: zqu m.at_ K)
 rw [List.length_cons, zqz] at h2
 omega
structure MQ where
 g : Nat
 c : Nat
 mo : Mo
def encM (K : Nat) (x : MQ) : Array Value := momC (some ⟨x.g, 0, none⟩) K x.c x.mo.met x.mo.end_
theorem encM_size (K : Nat) (x : MQ) : (encM K x).size = 3 := rfl
theorem encM_one (K : Nat) (x : MQ) : (encM K x).all (·.oneCell') = true := momC_one _ _ _ _ _
def addM (L : List MQ) (x : MQ) : List MQ := if x.mo ∈ L.map MQ.mo then L else L ++ [x]
theorem addM_old {L : List MQ} {x : MQ} (h : x.mo ∈ L.map MQ.mo) : addM L x = L := by simp [addM, h]
theorem addM_new {L : List MQ} {x : MQ} (h : x.mo ∉ L.map MQ.mo) : addM L x = L ++ [x] := by simp [addM, h]
structure FQ (b0 gd bm gq : Nat) (W W' : World) : Prop where
 os : W'.os = W.os
 tape : W'.tape = W.tape
 output : W'.output = W.output
 size : W.heap.size ≤ W'.heap.size
 block : ∀ k, k < W.heap.size → k ≠ gd → k ≠ bm → k ≠ gq → (k < b0 ∨ ∃ t cs, Blk W k t cs ∧ t ≠ 81 ∧ t ≠ 42) → W'.heap[k]? = W.heap[k]?
section
variable {b0 gd bm gq : Nat} {W W' W2 : World}
theorem FQ.of_below (h : Below W.heap.size W W') : FQ b0 gd bm gq W W' := ⟨h.os, h.tape, h.output, h.size, fun k hk _ _ _ _ => h.block k hk⟩
theorem FQ.trans (h : FQ b0 gd bm gq W W') (k : FQ b0 gd bm gq W' W2) : FQ b0 gd bm gq W W2 :=
 ⟨k.os.trans h.os, k.tape.trans h.tape, k.output.trans h.output, Nat.le_trans h.size k.size, fun i hi h1 h2 h3 h4 => by
  have e := h.block i hi h1 h2 h3 h4
  refine (k.block i (Nat.lt_of_lt_of_le hi h.size) h1 h2 h3 ?_).trans e
  rcases h4 with h4 | ⟨t, cs, hb, ht⟩
  ·exact .inl h4
  ·exact .inr ⟨t, cs, e.trans hb, ht⟩⟩
theorem FQ.then_ (h : FQ b0 gd bm gq W W') (k : Below W'.heap.size W' W2) : FQ b0 gd bm gq W W2 := h.trans (.of_below k)
theorem FQ.one {r : Nat} (hg : W.grownBy W' (some r)) (hr : r = gd ∨ r = bm ∨ r = gq) : FQ b0 gd bm gq W W' :=
 ⟨hg.os, hg.tape, hg.output, hg.size, fun i hi h1 h2 h3 _ => hg.block i hi (fun e => by injection e with e; omega)⟩
theorem FQ.own {α : Type} {enc : α → Array Value} {size : Nat} {e : TypeId} {v : Value} {ys : List α} (ho : Own W b0 e size enc v ys) (he : e = 81 ∨ e = 42) (hg : W.grownBy W' v.ownBlock) : FQ b0 gd bm gq W W' :=
 ⟨hg.os, hg.tape, hg.output, hg.size, fun i hi _ _ _ h4 => hg.block i hi (by
  intro e1
  rcases ho.2 with ⟨hv, _⟩ | ⟨g', cap, cur, hv, hge, hh, _⟩
  ·rw [hv] at e1; cases e1
  ·rw [hv] at e1
   have a1 : g' = i := by simpa [Value.ownBlock] using e1.symm
   subst a1
   rcases h4 with h4 | ⟨t, cs, hb, h5, h6⟩
   ·omega
   ·have h2 : some (Obj.cells cs t) = some _ := hb.symm.trans hh
    injection h2 with h2
    injection h2 with _ h3
    rcases he with he | he
    ·exact h5 (h3.trans he)
    ·exact h6 (h3.trans he))⟩
theorem blk_fq {g : Nat} {t : TypeId} {cs : Array Value} (h : Blk W g t cs) (hf : FQ b0 gd bm gq W W') (h1 : g ≠ gd) (h2 : g ≠ bm) (h3 : g ≠ gq) (ht : g < b0 ∨ (t ≠ 81 ∧ t ≠ 42)) : Blk W' g t cs :=
 (hf.block g h.lt h1 h2 h3 (ht.imp id fun h4 => ⟨t, cs, h, h4⟩)).trans h
theorem Own.fq {α : Type} {enc : α → Array Value} {size base : Nat} {e : TypeId} {v : Value} {ys : List α} (h : Own W base e size enc v ys) (hf : FQ b0 gd bm gq W W') (hb : ∀ k, v.ownBlock = some k → k ≠ gd ∧ k ≠ bm ∧ k ≠ gq) (he : e ≠ 81 ∧ e ≠ 42) : Own W' base e size enc v ys :=
 own_block h (fun j e1 => by
  have h1 := hb j e1
  have hl := (h.lt j e1).2
  rcases h.2 with ⟨hv, _⟩ | ⟨g', cap, cur, hv, hge, hh, _⟩
  ·rw [hv] at e1; cases e1
  ·rw [hv] at e1
   have a1 : g' = j := by simpa [Value.ownBlock] using e1
   subst a1
   exact hf.block g' hl h1.1 h1.2.1 h1.2.2 (.inr ⟨e, _, hh, he⟩))
theorem SMach.fq {nb gk N : Nat} {E : List Edg} {R : List Nat} (h : SMach nb W gk N E R) (hf : FQ b0 gd bm gq W W') (h1 : nb ≤ gd) (h2 : nb ≤ bm) (h3 : nb ≤ gq) (h4 : nb ≤ b0) : SMach nb W' gk N E R :=
 h.keep (fun k hk => hf.block k (by have := h.low; omega) (by omega) (by omega) (by omega) (.inl (by omega))) hf.size
end
structure QSt (N K b0 gd bm gm gq : Nat) (f : Nat → Int) (AN : Option Addr) (nN cN : Nat) (L : List MQ) (W : World) : Prop where
 ord : gd < bm ∧ bm < gm ∧ gm < gq ∧ gq < b0 ∧ b0 ≤ W.heap.size
 m : Blk W gm 76 #[.map (some bm)]
 im : IntMap Tryz.prog 9 3 okS litK W bm L.length (idxM (L.map fun x => keyMo K x.mo)) L.length
 q : ∃ A c, Blk W gq 77 #[.slice A L.length c] ∧ Own W b0 81 3 (encM K) (.slice A L.length c) L
 ins : ∀ x ∈ L, Own W b0 51 1 encU (.slice (some ⟨x.g, 0, none⟩) K x.c) (zqu x.mo.at_ K)
 d : ∃ AF cF AE cE, Blk W gd 33 (dfaC f AN nN cN AF L.length cF AE L.length cE) ∧ Own W b0 42 1 encR (.slice AF L.length cF) (L.map (·.mo.met)) ∧ Own W b0 42 1 encR (.slice AE L.length cE) (L.map (·.mo.end_)) ∧ ∀ a b, AF = some a → AE = some b → a.block ≠ b.block
 ok : ∀ x ∈ L, MoOk N K x.mo
theorem QSt.then_ {N K b0 gd bm gm gq : Nat} {f : Nat → Int} {AN : Option Addr} {nN cN : Nat} {L : List MQ} {W W' : World} (h : QSt N K b0 gd bm gm gq f AN nN cN L W) (hb : Below W.heap.size W W') : QSt N K b0 gd bm gm gq f AN nN cN L W' := by
 obtain ⟨A, c, q1, q2⟩ := h.q
 obtain ⟨AF, cF, AE, cE, d1, d2, d3, d4⟩ := h.d
 have o := h.ord
 exact ⟨⟨o.1, o.2.1, o.2.2.1, o.2.2.2.1, Nat.le_trans o.2.2.2.2 hb.size⟩, zqb h.m hb, h.im.then_ hb, ⟨A, c, zqb q1 hb, q2.then_ hb⟩, fun x hx => (h.ins x hx).then_ hb, ⟨AF, cF, AE, cE, zqb d1 hb, d2.then_ hb, d3.then_ hb, d4⟩, h.ok⟩
end Go.Proofs.YtkedgombccdamaaGreatDoor
namespace Go.Proofs.YtkedgombccdamaaGreatDoor
open Go.RowKit Go.Maps Go.WideMaps
set_option linter.unusedVariables false
set_option linter.unusedSimpArgs false
section
variable {P : Program} {ops : Array Oper} {S : Nat → GSpec} {Q : Exit → Act → World → Prop} {i : Nat} {o : Oper} {a : Act} {w : World}
end
section
variable {ops : Array Oper} {S : Nat → GSpec} {Q : Exit → Act → World → Prop} {i : Nat} {o : Oper} {a : Act} {w : World}
end
theorem eqNI {p q : Int} (h : ¬ p = q) : Value.bool (p == q) = .bool false := by rw [beq_eq_false_iff_ne.2 h]
theorem arrK_set : ArrKey Tryz.prog 53 51 4 := ⟨Tryz.underlying53, by kernel_rfl, by kernel_rfl, by kernel_rfl⟩
theorem wf_word (x : BSet) (k : Nat) : (Lit.int .u64 (word x k : Int)).wf = true := by
 have h := word_lt' x k
 have h2 : IntKind.u64.min = 0 := by decide
 have h3 : IntKind.u64.max = 18446744073709551615 := by decide
 simp only [Lit.wf, Bool.and_eq_true, decide_eq_true_eq]
 exact ⟨by omega, by omega⟩
def litS (x : BSet) : Lit := .string (keyBytes ((words x).map (Lit.int .u64)))
theorem keySet : KeyEnc Tryz.prog 53 BSet (fun _ => True) (fun x => .agg (setC x)) litS where
 law := Keyed.of_law (deep_law_laid laid_out (m := 2) (by omega) (of_decide_eq_true (by kernel_rfl)) (by kernel_rfl) (by rw [Tryz.underlying53]))
 key y _ := keyOf_ints arrK_set Tryz.underlying51 types_pos (words y) rfl (fun x hx => by
  simp only [words, List.mem_cons, List.not_mem_nil, or_false] at hx
  rcases hx with rfl | rfl | rfl | rfl <;> exact wf_word _ _)
 inj x y h := setC_inj (by injection h)
def mapSt (xs : List BSet) (x : BSet) : Option Int := if x ∈ xs then some 1 else none
theorem mapSt_nil : mapSt [] = fun _ => none := by funext x; simp [mapSt]
theorem mapSt_old {xs : List BSet} {x : BSet} (h : x ∈ xs) : (mapSt xs x).getD 0 = 1 := by simp [mapSt, h]
theorem mapSt_new {xs : List BSet} {x : BSet} (h : x ∉ xs) : (mapSt xs x).getD 0 = 0 := by simp [mapSt, h]
theorem mapSt_none {xs : List BSet} {x : BSet} (h : x ∉ xs) : (mapSt xs x).isSome = false := by simp [mapSt, h]
theorem mapSt_put {xs : List BSet} {x : BSet} : putM (mapSt xs) x 1 = mapSt (xs ++ [x]) := by
 funext y
 unfold putM mapSt
 by_cases h : y = x <;> by_cases h2 : y ∈ xs <;> simp [h, h2]
theorem IntMap.grown' {P : Program} {k e : TypeId} {κ : Type} {ok : κ → Prop} {lit : κ → Lit} {w w' : World} {b n cnt : Nat} {m : κ → Option Int} {row : Option Nat} (h : IntMap P k e ok lit w b n m cnt) (hg : w.grownBy w' row) (hne : some b ≠ row) : IntMap P k e ok lit w' b n m cnt := by
 obtain ⟨D, h1, h2⟩ := h
 exact ⟨D, h1.kept hg hne, h2⟩
abbrev SMap (w : World) (b n : Nat) (xs : List BSet) : Prop := IntMap Tryz.prog 53 3 (fun _ => True) litS w b n (mapSt xs) xs.length
section
variable {ops : Array Oper} {S : Nat → GSpec} {Q : Exit → Act → World → Prop} {i : Nat} {o : Oper} {a : Act} {w : World}
theorem gs_lookup_set (hw : Region.wanted o (yielded ops a.tmps) = true) (m x : Operand) (ho : o.op = .lookup 122 m x false) (b n : Nat) (xs : List BSet) (h : SMap w b n xs) (hm : a.eval m = .map (some b)) (y : BSet) (hx : a.eval x = .agg (setC y))
  (z : Int) (hz : (mapSt xs y).getD 0 = z) (hp : (S i).p (.int .i64 z) w) : GStep Tryz.prog ops S Q i o a w := by
 obtain ⟨D, h1, h2, h3, h4⟩ := h
 obtain ⟨c, hrun, hat, _⟩ := h1.lookup_int keySet.law Tryz.underlying122 Tryz.underlying3 (zero_int w) (keySet.key y trivial)
 rw [h3 y trivial, hz] at hat
 injection hat with hat
 injection hat with _ hat
 subst hat
 exact zzx hw (v := .int .i64 z) (by unfold execOp; simp only [ho, hm, hx, Sem.run_bind, hrun, Result.andThen_ok, Sem.run_pure]) (Below.refl _ _) hp
end
end Go.Proofs.YtkedgombccdamaaGreatDoor
namespace Go.Proofs.YtkedgombccdamaaGreatDoor
open Go.RowKit Go.Shelf Go.Maps
set_option linter.unusedVariables false
set_option linter.unusedSimpArgs false
attribute [local go_sem] Oper.semAt_some
theorem run_bsM (A : Option Addr) (k c r e : Nat) (w : World) : (Instr.buildSlice 77 1 #[(0, .agg (momC A k c r e))]).run Tryz.prog w = .ok (.slice (some ⟨w.heap.size, 0, none⟩) 1 1) (w.alloc (.cells (momC A k c r e) 81)) := by kernel_rfl
theorem run_bs32 (y : Int) (w : World) : (Instr.buildSlice 24 1 #[(0, .int .u32 y)]).run Tryz.prog w = .ok (.slice (some ⟨w.heap.size, 0, none⟩) 1 1) (w.alloc (.cells #[.int .u32 y] 42)) := by kernel_rfl
theorem info_mom3 : (Tryz.prog.info? 81).map (fun i => (i.zero, i.size, i.bytes)) = some (some (.agg #[.slice none 0 0, .int .u32 0, .int .u32 0]), 3, 32) := by kernel_rfl
theorem info_u32z3 : (Tryz.prog.info? 42).map (fun i => (i.zero, i.size, i.bytes)) = some (some (.int .u32 0), 1, 4) := by kernel_rfl
theorem info_moms1 : (Tryz.prog.info? 77).map (·.size) = some 1 := by kernel_rfl
theorem info_u32s1 : (Tryz.prog.info? 24).map (·.size) = some 1 := by kernel_rfl
theorem encR_one1 (y : Nat) : (encR y).all (·.oneCell') = true := by simp [encR, Value.oneCell']
theorem enter_key (args : Array Value) (w : World) : (callFunc 24 args).run Tryz.prog w = .ok (.enter 24 args) w := by kernel_rfl
section
variable {ops : Array Oper} {rest : List Oper} {o : Oper} {a : Act} {w : World} {Q : Exit → Act → World → Prop}
theorem wl_bsM (hgd : o.guard = none) (x : Operand) (ho : o.op = .buildSlice 77 1 #[(0, x)]) (A : Option Addr) (k c r e : Nat) (hx : a.eval x = .agg (momC A k c r e))
  (h : wpList Tryz.prog ops Q rest (a.put o.dst (.slice (some ⟨w.heap.size, 0, none⟩) 1 1)) (w.alloc (.cells (momC A k c r e) 81))) : wpList Tryz.prog ops Q (o :: rest) a w :=
 wpList_plain hgd fun _ hK => by
  unfold Oper.wp execOp
  simp only [ho, List.map_toArray, List.map_cons, List.map_nil, hx, Sem.run_bind, run_bsM, Result.andThen_ok, Sem.run_pure]
  exact hK _ _ h
theorem wl_bs32 (hgd : o.guard = none) (x : Operand) (ho : o.op = .buildSlice 24 1 #[(0, x)]) (y : Int) (hx : a.eval x = .int .u32 y)
  (h : wpList Tryz.prog ops Q rest (a.put o.dst (.slice (some ⟨w.heap.size, 0, none⟩) 1 1)) (w.alloc (.cells #[.int .u32 y] 42))) : wpList Tryz.prog ops Q (o :: rest) a w :=
 wpList_plain hgd fun _ hK => by
  unfold Oper.wp execOp
  simp only [ho, List.map_toArray, List.map_cons, List.map_nil, hx, Sem.run_bind, run_bs32, Result.andThen_ok, Sem.run_pure]
  exact hK _ _ h
theorem wl_pushM (hgd : o.guard = none) (s x : Operand) (ho : o.op = .call { callee := .builtin .append, args := #[s, x], argTypes := #[77, 77] })
  (base K : Nat) (l : List MQ) (z : MQ) {A : Option Addr} {n c g : Nat} (hs : a.eval s = .slice A n c) (hx : a.eval x = .slice (some ⟨g, 0, none⟩) 1 1) (hb1 : Blk w g 81 (encM K z)) (hown : Own w base 81 3 (encM K) (.slice A n c) l) (hn : n = l.length) (hl : l.length ≤ 1099511627) (hbase : base ≤ w.heap.size)
  (h : ∀ A' c' w', Own w' base 81 3 (encM K) (.slice A' (n + 1) c') (l ++ [z]) → w.grownBy w' (Value.slice A n c).ownBlock → wpList Tryz.prog ops Q rest (a.put o.dst (.slice A' (n + 1) c')) w') : wpList Tryz.prog ops Q (o :: rest) a w := by
 obtain ⟨ii, hii, hz0, hz1, hz2⟩ := info_parts info_mom3
 subst hn
 refine zxh _ hgd _ _ 77 ho base 81 ii _ 3 32 Tryz.underlying77 hii hz0 hz1 hz2 rfl (by decide) (encM_size K) (encM_one K) (.slice A l.length c) l hs hown _ _ 1 1 [z] hx rfl (zxk (enc := encM K) hb1) (by unfold maxLen; omega) (by omega) hbase ?_
 intro v' w' ho' hg hv
 obtain ⟨A', c', rfl, _, _⟩ := ho'.shape
 have hl8 : (l ++ [z]).length = l.length + 1 := by simp
 rw [hl8] at ho' hv ⊢
 exact h _ _ _ ho' hg
theorem wl_push32 (hgd : o.guard = none) (s x : Operand) (ho : o.op = .call { callee := .builtin .append, args := #[s, x], argTypes := #[24, 24] })
  (base : Nat) (l : List Nat) (z : Nat) {A : Option Addr} {n c g : Nat} (hs : a.eval s = .slice A n c) (hx : a.eval x = .slice (some ⟨g, 0, none⟩) 1 1) (hb1 : Blk w g 42 (encR z)) (hown : Own w base 42 1 encR (.slice A n c) l) (hn : n = l.length) (hl : l.length ≤ 1099511627) (hbase : base ≤ w.heap.size)
  (h : ∀ A' c' w', Own w' base 42 1 encR (.slice A' (n + 1) c') (l ++ [z]) → w.grownBy w' (Value.slice A n c).ownBlock → (∀ b, A' = some b → A.map (·.block) = some b.block ∨ b.block = w.heap.size) → wpList Tryz.prog ops Q rest (a.put o.dst (.slice A' (n + 1) c')) w') : wpList Tryz.prog ops Q (o :: rest) a w := by
 obtain ⟨ii, hii, hz0, hz1, hz2⟩ := info_parts info_u32z3
 subst hn
 refine zxh _ hgd _ _ 24 ho base 42 ii _ 1 4 Tryz.underlying24 hii hz0 hz1 hz2 rfl (by decide) zya encR_one1 (.slice A l.length c) l hs hown _ _ 1 1 [z] hx rfl (zxk (enc := encR) hb1) (by unfold maxLen; omega) (by omega) hbase ?_
 intro v' w' ho' hg hv
 obtain ⟨A', c', rfl, _, _⟩ := ho'.shape
 have hl8 : (l ++ [z]).length = l.length + 1 := by simp
 rw [hl8] at ho' hv ⊢
 refine h _ _ _ ho' hg fun b hb => ?_
 subst hb
 rcases hv with hv | hv
 ·cases A with
  | none => simp [Value.ownBlock] at hv
  | some a => simp [Value.ownBlock] at hv; simp [hv]
 ·simp [Value.ownBlock] at hv
  exact .inr hv
end
section
variable {ops : Array Oper} {S : Nat → GSpec} {Q : Exit → Act → World → Prop} {i : Nat} {o : Oper} {a : Act} {w : World}
theorem gs_load_mom (hw : Region.wanted o (yielded ops a.tmps) = true) (x : Operand) (ho : o.op = .load 81 x) (g : Nat) (hx : a.eval x = .pointer (some ⟨g, 0, none⟩)) {A : Option Addr} {k c r e : Nat} (hg : Blk w g 81 (momC A k c r e))
  (hp : (S i).p (.agg (momC A k c r e)) w) : GStep Tryz.prog ops S Q i o a w :=
 gs_load hw _ x ho g hx _ _ hg _ Tryz.underlying81 rfl (info_mom.trans rfl) hp
theorem gs_lookup_str (hw : Region.wanted o (yielded ops a.tmps) = true) (m x : Operand) (ho : o.op = .lookup 76 m x true) (b n cnt : Nat) (mf : List UInt8 → Option Int) (h : IntMap Tryz.prog 9 3 okS litK w b n mf cnt) (hm : a.eval m = .map (some b)) (y : List UInt8) (hy : okS y) (hx : a.eval x = .string (bs y))
  (hp : (S i).p (.tuple #[.int .i64 ((mf y).getD 0), .bool (mf y).isSome]) w) : GStep Tryz.prog ops S Q i o a w := by
 obtain ⟨D, h1, h2, h3, h4⟩ := h
 obtain ⟨v, ps, hrun, hv⟩ := h1.look_ok keyStr.law Tryz.underlying76 (zero_int w) (plainElem_int Tryz.underlying3 (a := 0) (by decide)) (keyStr.key y hy)
 obtain ⟨c, rfl, hc, hwc⟩ := plainElem_int_inv Tryz.underlying3 hv
 have hat := congrArg Prod.fst hc
 simp only at hat
 rw [h3 y hy] at hat
 injection hat with hat
 injection hat with _ hat
 rw [h2 y hy] at hrun
 rw [hat] at hp
 exact zzx hw (v := .tuple #[.int .i64 c, .bool (mf y).isSome]) (by unfold execOp; simp only [ho, hm, hx, Sem.run_bind, hrun, Result.andThen_ok, Sem.run_pure]) (Below.refl _ _) hp
end
theorem own_aside {α : Type} {enc : α → Array Value} {base size n c n2 c2 : Nat} {e : TypeId} {W W' : World} {A B : Option Addr} {ys : List α} (h : Own W base e size enc (.slice A n c) ys) (hab : ∀ a b, A = some a → B = some b → a.block ≠ b.block) (hg : W.grownBy W' (Value.slice B n2 c2).ownBlock) : Own W' base e size enc (.slice A n c) ys :=
 h.kept_ hg (fun j e1 e3 => by
  rcases A with _ | a
  ·simp [Value.ownBlock] at e1
  ·rcases B with _ | b
   ·simp [Value.ownBlock] at e3
   ·have h1 := hab a b rfl rfl
    simp [Value.ownBlock] at e1 e3
    omega)
theorem blk_aside {α : Type} {enc : α → Array Value} {base size g : Nat} {e t : TypeId} {W W' : World} {v : Value} {ys : List α} {cs : Array Value} (h : Blk W g t cs) (ho : Own W base e size enc v ys) (hg : W.grownBy W' v.ownBlock) (hne : e ≠ t) : Blk W' g t cs :=
 h.grown hg (fun e1 => zzm ho h hne e1.symm)
theorem apart_new {A A' B : Option Addr} {M : Nat} (hv : ∀ b, A' = some b → A.map (·.block) = some b.block ∨ b.block = M) (h : ∀ a b, A = some a → B = some b → a.block ≠ b.block) (hB : ∀ b, B = some b → b.block < M) : ∀ a b, A' = some a → B = some b → a.block ≠ b.block := by
 intro a b ha hb
 rcases hv a ha with h1 | h1
 ·cases hA : A with
  | none => rw [hA] at h1; simp at h1
  | some a0 =>
    rw [hA] at h1
    have e : a0.block = a.block := by simpa using h1
    rw [← e]
    exact h a0 b hA hb
 ·have := hB b hb
  omega
theorem own_blk_lt {α : Type} {enc : α → Array Value} {base size n c : Nat} {e : TypeId} {W : World} {B : Option Addr} {ys : List α} (h : Own W base e size enc (.slice B n c) ys) : ∀ b, B = some b → b.block < W.heap.size := fun b hb => by
 subst hb
 rcases h.2 with ⟨hv, _⟩ | ⟨g', cap, cur, hv, hge, hh, _⟩
 ·cases hv
 ·injection hv with hv
  injection hv with hv
  rw [hv]
  exact (Array.getElem?_eq_some_iff.1 hh).1
set_option maxRecDepth 100000 in
set_option maxHeartbeats 8000000 in
theorem state_any (nb gk N K b0 gd bm gm gq : Nat) (f : Nat → Int) (AN : Option Addr) (nN cN : Nat) (L : List MQ) (x : MQ) (hK : K ≤ 1048576) (hL : L.length ≤ 10000) (w : World) (h : QSt N K b0 gd bm gm gq f AN nN cN L w) (hx : MoOk N K x.mo) (hI : Own w b0 51 1 encU (.slice (some ⟨x.g, 0, none⟩) K x.c) (zqu x.mo.at_ K)) :
  Calls Tryz.prog 23 #[.agg (momC (some ⟨x.g, 0, none⟩) K x.c x.mo.met x.mo.end_), .pointer (some ⟨gm, 0, none⟩), .pointer (some ⟨gq, 0, none⟩), .pointer (some ⟨gd, 0, none⟩)] w fun e w' => e = .returned (.int .i64 (((addM L x).map MQ.mo).idxOf x.mo : Nat)) ∧ QSt N K b0 gd bm gm gq f AN nN cN (addM L x) w' ∧ FQ b0 gd bm gq w w' := by
 obtain ⟨⟨o1, o2, o3, o4, o5⟩, hm, him, ⟨A, c, hq1, hq2⟩, hins, ⟨AF, cF, AE, cE, hd1, hd2, hd3, hd4⟩, hok⟩ := h
 have hkey := keyMo_ok (m := x.mo) hK
 have hmem := keys_mem (Q := L.map MQ.mo) (fun y hy => by obtain ⟨z, hz, rfl⟩ := List.mem_map.1 hy; exact hok z hz) hx
 have hidx := keys_idx (Q := L.map MQ.mo) hx (fun y hy => by obtain ⟨z, hz, rfl⟩ := List.mem_map.1 hy; exact hok z hz)
 rw [List.map_map] at hmem hidx
 have kK : ∀ W, Below w.heap.size w W → Calls Tryz.prog 24 #[.agg (momC (some ⟨x.g, 0, none⟩) K x.c x.mo.met x.mo.end_)] W fun en w' => en = .returned (.string (bs (keyMo K x.mo))) ∧ Below W.heap.size W w' := fun W hW =>
  key_any _ K x.c x.mo.met x.mo.end_ (zqu x.mo.at_ K) (zqz _ _).symm hK hx.met hx.en (wordsN_lt _ _) W ((hI.then_ hW).slice_all zzu)
 obtain ⟨key, hkk⟩ : ∃ k, k = keyMo K x.mo := ⟨_, rfl⟩
 rw [← hkk] at kK hkey hmem hidx
 have hkeys : (L.map fun x => keyMo K x.mo) = List.map (keyMo K ∘ MQ.mo) L := rfl
 rw [← hkeys] at hmem hidx
 obtain ⟨ks, hks⟩ : ∃ ks, ks = L.map fun x => keyMo K x.mo := ⟨_, rfl⟩
 have hkl : ks.length = L.length := by rw [hks, List.length_map]
 rw [← hks] at him hmem hidx
 have Hks := Lib.hid hks
 have Hkk := Lib.hid hkk
 have Hok := Lib.hid hok
 have Hins := Lib.hid hins
 have Hx := Lib.hid hx
 have Hd4 := Lib.hid hd4
 have Hkey := Lib.hid hkey
 have Hmem := Lib.hid hmem
 have Hidx := Lib.hid hidx
 obtain ⟨lq, hlq⟩ : ∃ q, q = L.length := ⟨_, rfl⟩
 rw [← hlq] at hL him hq1 hq2 hd1 hd2 hd3 hkl
 have Hlq := Lib.hid hlq
 have Hkl := Lib.hid hkl
 clear hkeys hks hkk hok hins hx hd4 hkey hmem hidx hlq hkl
 go_enter Tryz.func23, Tryz.ntmps23
 go_upto_region 1 with (fail)
 have h4 : Blk (w.alloc (.cells (momC (some ⟨x.g, 0, none⟩) K x.c x.mo.met x.mo.end_) 81)) w.heap.size 81 (momC (some ⟨x.g, 0, none⟩) K x.c x.mo.met x.mo.end_) := Blk.new w _ _
 have hB1 : Below w.heap.size w (w.alloc (.cells (momC (some ⟨x.g, 0, none⟩) K x.c x.mo.met x.mo.end_) 81)) := zqc (Below.refl _ _) _
 obtain ⟨w1, hw1⟩ : ∃ y, y = w.alloc (.cells (momC (some ⟨x.g, 0, none⟩) K x.c x.mo.met x.mo.end_) 81) := ⟨_, rfl⟩
 have hs1 : w1.heap.size = w.heap.size + 1 := by rw [hw1]; exact Array.size_push ..
 rw [← hw1] at h4 hB1 ⊢
 obtain ⟨gx, hgx⟩ : ∃ y, y = w.heap.size := ⟨_, rfl⟩
 rw [← hgx] at h4 ⊢
 have Hgx := Lib.hid hgx
 have hAlt : ∀ r, (Value.slice A lq c).ownBlock = some r → r < gx := fun r e => by have := (hq2.lt r e).2; omega
 replace hm := zqb hm hB1
 replace hq1 := zqb hq1 hB1
 replace hd1 := zqb hd1 hB1
 replace him := him.then_ hB1
 clear hw1 hgx
 obtain ⟨V, hV⟩ : ∃ V, V = (idxM ks key).getD 0 := ⟨_, rfl⟩
 obtain ⟨b, hb⟩ : ∃ b, b = (idxM ks key).isSome := ⟨_, rfl⟩
 refine zql 9 [eqS (.map (some bm)), eqS (.agg (momC (some ⟨x.g, 0, none⟩) K x.c x.mo.met x.mo.end_)), eqS (.string (bs key)), eqS (.tuple #[.int .i64 V, .bool b]), eqS (.tuple #[.int .i64 V, .bool b]), eqS (.int .i64 V), eqS (.bool b), eqS (.int .i64 V), eqS (.bool b)] [9, 10, 11, 12, 8, 13, 14, 6, 7] zqp (by kernel_rfl) (by kernel_rfl) ?_ ?_
 ·skip
  refine Steps.cons (fun a' w' hG hB dep => zqj (zqa rfl) _ _ rfl gm 0 (hG.other 1 rfl) (.map (some bm)) ((zqb hm hB).cellv rfl) _ Tryz.underlying76 rfl rfl) ?_
  refine Steps.cons (fun a' w' hG hB dep => gs_load_mom (zqa rfl) _ rfl gx (hG.other 4 rfl) (zqb h4 hB) rfl) ?_
  refine Steps.cons (fun a' w' hG hB dep => zze (zqa rfl) _ _ _ rfl enter_key #[.agg (momC (some ⟨x.g, 0, none⟩) K x.c x.mo.met x.mo.end_)] (map1 (dep 1 rfl 10 rfl)) (ret_step (kK _ (zqd hB1 hB)) (fun _ => rfl))) ?_
  refine Steps.cons (fun a' w' hG hB dep => gs_lookup_str (zqa rfl) _ _ rfl bm lq lq (idxM ks) (him.then_ hB) (dep 0 rfl 9 rfl) key Hkey.out (dep 2 rfl 11 rfl) (by rw [← hV, ← hb]; rfl)) ?_
  refine Steps.cons (fun a' w' hG hB dep => zqi (zqa rfl) _ rfl (id (dep 3 rfl 12 rfl))) ?_
  refine Steps.cons (fun a' w' hG hB dep => gs_extract (zqa rfl) _ _ rfl #[.int .i64 V, .bool b] (dep 4 rfl 8 rfl) (.int .i64 V) rfl rfl) ?_
  refine Steps.cons (fun a' w' hG hB dep => gs_extract (zqa rfl) _ _ rfl #[.int .i64 V, .bool b] (dep 4 rfl 8 rfl) (.bool b) rfl rfl) ?_
  refine Steps.cons (fun a' w' hG hB dep => zxl (zqa rfl) _ rfl (id (dep 5 rfl 13 rfl))) ?_
  refine Steps.cons (fun a' w' hG hB dep => zxl (zqa rfl) _ rfl (id (dep 6 rfl 14 rfl))) ?_
  exact Steps.nil
 intro uu w2 hB2 ans
 have u9 : uu 9 = .map (some bm) := ans 0 9 (by decide) rfl
 have u6 : uu 6 = .int .i64 V := ans 7 6 (by decide) rfl
 have u7 : uu 7 = .bool b := ans 8 7 (by decide) rfl
 clear ans
 simp only [zqr, List.foldl_cons, List.foldl_nil, Act.put, List.setIfInBounds_toArray, List.set_cons_zero, List.set_cons_succ, u6, u7, u9]
 clear u6 u7 u9
 simp only [List.drop]
 refine wpList_nil ?_
 replace hm := zqb hm hB2
 replace hq1 := zqb hq1 hB2
 replace hd1 := zqb hd1 hB2
 replace him := him.then_ hB2
 replace h4 := zqb h4 hB2
 have hB := zqd hB1 hB2
 have hs2 : w.heap.size + 1 ≤ w2.heap.size := by have := hB2.size; omega
 clear hB1 hB2 hs1
 have hQ0 : Hid (QSt N K b0 gd bm gm gq f AN nN cN L w2) := Lib.hid ⟨⟨o1, o2, o3, o4, Nat.le_trans o5 hB.size⟩, hm, by rw [← Hlq.out, ← Hks.out]; exact him, ⟨A, c, by rw [← Hlq.out]; exact hq1, by rw [← Hlq.out]; exact hq2.then_ hB⟩, fun x hx => (Hins.out x hx).then_ hB, ⟨AF, cF, AE, cE, by rw [← Hlq.out]; exact hd1, by rw [← Hlq.out]; exact hd2.then_ hB, by rw [← Hlq.out]; exact hd3.then_ hB, Hd4.out⟩, Hok.out⟩
 by_cases hin : key ∈ ks
 ·have hb1 : b = true := by rw [hb, idxM_old hin]; rfl
  have hV1 : V = (ks.idxOf key : Int) := by rw [hV, idxM_old hin]; rfl
  subst hb1
  have hm2 := Hmem.out.1 hin
  have HV := Lib.hid (And.intro hV1 hm2)
  clear hV hb hV1 hm2 hin
  go_wp2_with (fail)
  go_ret
  rw [addM_old HV.out.2]
  exact ⟨by rw [HV.out.1, Hidx.out]; rfl, hQ0.out, .of_below hB⟩
 ·have hb1 : b = false := by rw [hb, idxM_new hin]; rfl
  subst hb1
  have Hin := Lib.hid hin
  clear hV hb hin
  have cq : w2.cell? ⟨gq, 0, none⟩ = some (.slice A lq c) := hq1.cellv rfl
  have hno : x.mo ∉ L.map MQ.mo := fun h => Hin.out (Hmem.out.2 h)
  have Hno := Lib.hid hno
  clear hQ0 hno
  go_upto_region 4 with (fail)
  clear cq
  refine zql 4 [eqS (.map (some bm)), eqS (.agg (momC (some ⟨x.g, 0, none⟩) K x.c x.mo.met x.mo.end_)), eqS (.string (bs key)), eqS (.int .i64 (lq : Int))] [19, 20, 21, 22] zqp (by kernel_rfl) (by kernel_rfl) ?_ ?_
  ·skip
   refine Steps.cons (fun a' w' hG hB dep => zqj (zqa rfl) _ _ rfl gm 0 (hG.other 1 rfl) (.map (some bm)) ((zqb hm hB).cellv rfl) _ Tryz.underlying76 rfl rfl) ?_
   refine Steps.cons (fun a' w' hG hB dep => gs_load_mom (zqa rfl) _ rfl gx (hG.other 4 rfl) (zqb h4 hB) rfl) ?_
   refine Steps.cons (fun a' w' hG hB3 dep => zze (zqa rfl) _ _ _ rfl enter_key #[.agg (momC (some ⟨x.g, 0, none⟩) K x.c x.mo.met x.mo.end_)] (map1 (dep 1 rfl 20 rfl)) (ret_step (kK _ (zqd hB hB3)) (fun _ => rfl))) ?_
   refine Steps.cons (fun a' w' hG hB dep => zqi (zqa rfl) _ rfl (id (hG.other 6 rfl))) ?_
   exact Steps.nil
  intro uu2 w3 hB3 ans
  have u19 : uu2 19 = .map (some bm) := ans 0 19 (by decide) rfl
  have u21 : uu2 21 = .string (bs key) := ans 2 21 (by decide) rfl
  have u22 : uu2 22 = .int .i64 (lq : Int) := ans 3 22 (by decide) rfl
  clear ans
  simp only [zqr, List.foldl_cons, List.foldl_nil, Act.put, List.setIfInBounds_toArray, List.set_cons_zero, List.set_cons_succ, u19, u21, u22]
  clear u19 u21 u22
  simp only [List.drop]
  replace hm := zqb hm hB3
  replace hq1 := zqb hq1 hB3
  replace hd1 := zqb hd1 hB3
  replace him := him.then_ hB3
  replace h4 := zqb h4 hB3
  replace hB := zqd hB hB3
  replace hs2 : w.heap.size + 1 ≤ w3.heap.size := by have := hB3.size; omega
  clear hB3 kK
  refine wl_map_put keyStr Tryz.underlying76 Tryz.underlying3 him (by unfold maxLen; omega) rfl _ _ _ rfl rfl key Hkey.out rfl lq rfl (by rw [show ((lq : Int)) = (lq : Nat) from rfl]; exact wf_small (by omega) (by omega)) ?_
  intro w4 him4 hg4
  refine wpList_nil ?_
  have him5 : IntMap Tryz.prog 9 3 okS litK w4 bm (lq + 1) (idxM (ks ++ [key])) (lq + 1) := by
   have e := him4
   rw [idxM_new Hin.out, ← Hkl.out, idxM_put Hin.out, Hkl.out] at e
   exact e
  have hgt : ∀ {α : Type} {enc : α → Array Value} {size : Nat} {e : TypeId} {v : Value} {ys : List α}, Own w b0 e size enc v ys → Own w4 b0 e size enc v ys := fun h => (h.then_ hB).grown hg4 (fun e => by have := (h.lt _ e).1; omega)
  replace hq2 := hgt hq2
  replace hd2 := hgt hd2
  replace hd3 := hgt hd3
  have Hins4 := Lib.hid (fun y hy => hgt (Hins.out y hy))
  have HI4 := Lib.hid (hgt hI)
  have hF4 : FQ b0 gd bm gq w w4 := (FQ.of_below hB).trans (.one hg4 (.inr (.inl rfl)))
  replace hm := zqk hm hg4 (by omega)
  replace hq1 := zqk hq1 hg4 (by omega)
  replace hd1 := zqk hd1 hg4 (by omega)
  replace h4 := zqk h4 hg4 (by have := Hgx.out; omega)
  replace hs2 : w.heap.size + 1 ≤ w4.heap.size := by have := hg4.size; omega
  clear him4 him hgt hg4 hB hI Hins
  have cq : w4.cell? ⟨gq, 0, none⟩ = some (.slice A lq c) := hq1.cellv rfl
  go_upto_region 6 with (first
   | (refine wl_load_mom rfl _ rfl gx rfl (some ⟨x.g, 0, none⟩) K x.c x.mo.met x.mo.end_ h4 ?_)
   | (refine wl_bsM rfl _ rfl (some ⟨x.g, 0, none⟩) K x.c x.mo.met x.mo.end_ rfl ?_)
   | (at_builtin; refine wl_pushM rfl _ _ rfl b0 K L x rfl rfl (Blk.new _ _ _) (hq2.then_ (zqc (Below.refl _ _) _)) Hlq.out (by have := Hlq.out; omega) (by have := Hgx.out; simp; omega) ?_; intro A' c' w6 hq6 hg6; have hq16 := zyc (zqb hq1 (zqc (Below.refl _ _) _)) (hq2.then_ (zqc (Below.refl _ _) _)) hg6 o4)
   | (refine zqt rfl _ _ _ rfl gq 0 rfl 77 _ #[.slice A' (lq + 1) c'] hq16 (Nat.lt_succ_self 0) info_moms1 rfl rfl rfl ?_; intro w7 hq17 hg7))
  have Ba : Below w4.heap.size w4 (w4.alloc (.cells (momC (some ⟨x.g, 0, none⟩) K x.c x.mo.met x.mo.end_) 81)) := zqc (Below.refl _ _) _
  have hqa := hq2.then_ Ba
  have gt7 : ∀ {α : Type} {enc : α → Array Value} {size : Nat} {e : TypeId} {v : Value} {ys : List α}, 81 ≠ e → Own w4 b0 e size enc v ys → Own w7 b0 e size enc v ys := fun hne h => zxr (zxw (h.then_ Ba) hqa hg6 hne) hg7 o4
  replace hd2 := gt7 (by decide) hd2
  replace hd3 := gt7 (by decide) hd3
  have HI7 := Lib.hid (gt7 (by decide) HI4.out)
  have Hins7 := Lib.hid (fun y hy => gt7 (by decide) (Hins4.out y hy))
  have hq7 := zxr hq6 hg7 o4
  replace hm := zqk (zyc (zqb hm Ba) hqa hg6 (by omega)) hg7 (by omega)
  replace hd1 := zqk (zyc (zqb hd1 Ba) hqa hg6 (by omega)) hg7 (by omega)
  have h47 := zqk ((zqb h4 Ba).grown hg6 (fun e => by have := hAlt _ e.symm; omega)) hg7 (by have := Hgx.out; omega)
  have him7 := ((him5.then_ Ba).grown' hg6 (fun e => by have := (hqa.lt _ e.symm).1; omega)).grown hg7 (by omega)
  have hF7 := ((hF4.then_ Ba).trans (.own hqa (.inl rfl) hg6)).trans (.one hg7 (.inr (.inr rfl)))
  have hs7 : w.heap.size + 1 ≤ w7.heap.size := by have h1 := Ba.size; have h2 := hg6.size; have h3 := hg7.size; omega
  clear gt7 hqa Ba hq2 hq6 hq16 hq1 h4 him5 hg6 hg7 hF4 hs2 cq HI4 Hins4 hAlt
  have cF7 : w7.cell? ⟨gd, 257, none⟩ = some (.slice AF lq cF) := blk_d2 hd1
  have cm7 : w7.cell? ⟨gx, 1, none⟩ = some (.int .u32 (x.mo.met : Int)) := h47.cellv (i := 1) rfl
  go_upto_region 7 with (first
   | (refine wl_bs32 rfl _ rfl (x.mo.met : Int) rfl ?_)
   | (at_builtin; refine wl_push32 rfl _ _ rfl b0 (L.map (·.mo.met)) x.mo.met rfl rfl (Blk.new _ _ _) (hd2.then_ (zqc (Below.refl _ _) _)) (by rw [List.length_map]; exact Hlq.out) (by rw [List.length_map]; have := Hlq.out; omega) (by have := Hgx.out; simp; omega) ?_; intro AF' cF' w8 hd8 hg8 hv8; have hd18 := zyc (zqb hd1 (zqc (Below.refl _ _) _)) (hd2.then_ (zqc (Below.refl _ _) _)) hg8 (show gd < b0 by omega))
   | (refine zqt rfl _ _ _ rfl gd 257 rfl 33 _ (dfaC f AN nN cN AF' (lq + 1) cF' AE lq cE) hd18 (by rw [dfaC_size]; omega) info_u32s1 rfl rfl (dfaC_set2 _ _ _ _ _ _ _ _ _ _ _ _ _) ?_; intro w9 hd19 hg9))
  have Bb : Below w7.heap.size w7 (w7.alloc (.cells (encR x.mo.met) 42)) := zqc (Below.refl _ _) _
  have hfa := hd2.then_ Bb
  have gt9 : ∀ {α : Type} {enc : α → Array Value} {size : Nat} {e : TypeId} {v : Value} {ys : List α}, 42 ≠ e → Own w7 b0 e size enc v ys → Own w9 b0 e size enc v ys := fun hne h => zxr (zxw (h.then_ Bb) hfa hg8 hne) hg9 (by omega)
  have HI9 := Lib.hid (gt9 (by decide) HI7.out)
  have Hins9 := Lib.hid (fun y hy => gt9 (by decide) (Hins7.out y hy))
  have hq9 := gt9 (by decide) hq7
  have hd4b := apart_new hv8 Hd4.out (fun b hb => Nat.lt_of_lt_of_le (own_blk_lt hd3 b hb) Bb.size)
  have Hd4b := Lib.hid hd4b
  have hd39 := zxr (own_aside (hd3.then_ Bb) (fun a b ha hb => (Hd4.out b a hb ha).symm) hg8) hg9 (show gd < b0 by omega)
  have hd29 := zxr hd8 hg9 (show gd < b0 by omega)
  replace hm := zqk (zyc (zqb hm Bb) hfa hg8 (by omega)) hg9 (by omega)
  have hq19 := zqk (zyc (zqb hq17 Bb) hfa hg8 o4) hg9 (by omega)
  have h49 := zqk (blk_aside (zqb h47 Bb) hfa hg8 (by decide)) hg9 (by have := Hgx.out; omega)
  have him9 := ((him7.then_ Bb).grown' hg8 (fun e => by have := (hfa.lt _ e.symm).1; omega)).grown hg9 (by omega)
  have hF9 := ((hF7.then_ Bb).trans (.own hfa (.inr rfl) hg8)).trans (.one hg9 (.inl rfl))
  have hs9 : w.heap.size + 1 ≤ w9.heap.size := Nat.le_trans hs7 (Nat.le_trans Bb.size (Nat.le_trans hg8.size hg9.size))
  clear gt9 hfa Bb hd2 hd3 hd8 hv8 hd18 hd1 h47 him7 hg8 hg9 hF7 hs7 cF7 cm7 HI7 Hins7 hq7 hq17 hd4b Hd4
  have cE9 : w9.cell? ⟨gd, 258, none⟩ = some (.slice AE lq cE) := blk_d3 hd19
  have cm9 : w9.cell? ⟨gx, 2, none⟩ = some (.int .u32 (x.mo.end_ : Int)) := h49.cellv (i := 2) rfl
  go_wp2_with (first
   | (refine wl_bs32 rfl _ rfl (x.mo.end_ : Int) rfl ?_)
   | (at_builtin; refine wl_push32 rfl _ _ rfl b0 (L.map (·.mo.end_)) x.mo.end_ rfl rfl (Blk.new _ _ _) (hd39.then_ (zqc (Below.refl _ _) _)) (by rw [List.length_map]; exact Hlq.out) (by rw [List.length_map]; have := Hlq.out; omega) (by have := Hgx.out; simp; omega) ?_; intro AE' cE' wa hda hga hva; have hd1a := zyc (zqb hd19 (zqc (Below.refl _ _) _)) (hd39.then_ (zqc (Below.refl _ _) _)) hga (show gd < b0 by omega))
   | (refine zqt rfl _ _ _ rfl gd 258 rfl 33 _ (dfaC f AN nN cN AF' (lq + 1) cF' AE' (lq + 1) cE') hd1a (by rw [dfaC_size]; omega) info_u32s1 rfl rfl (dfaC_set3 _ _ _ _ _ _ _ _ _ _ _ _ _) ?_; intro wb hd1b hgb))
  have Bc : Below w9.heap.size w9 (w9.alloc (.cells (encR x.mo.end_) 42)) := zqc (Below.refl _ _) _
  have hfa := hd39.then_ Bc
  have gtb : ∀ {α : Type} {enc : α → Array Value} {size : Nat} {e : TypeId} {v : Value} {ys : List α}, 42 ≠ e → Own w9 b0 e size enc v ys → Own wb b0 e size enc v ys := fun hne h => zxr (zxw (h.then_ Bc) hfa hga hne) hgb (by omega)
  have HIb := gtb (by decide) HI9.out
  have Hinsb := fun y hy => gtb (by decide) (Hins9.out y hy)
  have hqb := gtb (by decide) hq9
  have hd2b := zxr (own_aside (hd29.then_ Bc) Hd4b.out hga) hgb (show gd < b0 by omega)
  have hd3b := zxr hda hgb (show gd < b0 by omega)
  have hd5 : ∀ a b, AF' = some a → AE' = some b → a.block ≠ b.block := fun a b ha hb => (apart_new hva (fun a b ha hb => (Hd4b.out b a hb ha).symm) (fun b hb => Nat.lt_of_lt_of_le (own_blk_lt hd29 b hb) Bc.size) b a hb ha).symm
  replace hm := zqk (zyc (zqb hm Bc) hfa hga (by omega)) hgb (by omega)
  have hq1b := zqk (zyc (zqb hq19 Bc) hfa hga o4) hgb (by omega)
  have himb := ((him9.then_ Bc).grown' hga (fun e => by have := (hfa.lt _ e.symm).1; omega)).grown hgb (by omega)
  have hFb := ((hF9.then_ Bc).trans (.own hfa (.inr rfl) hga)).trans (.one hgb (.inl rfl))
  have hl1 : (L ++ [x]).length = lq + 1 := by rw [List.length_append, ← Hlq.out]; rfl
  go_ret
  rw [addM_new Hno.out]
  refine ⟨?_, ⟨⟨o1, o2, o3, o4, Nat.le_trans o5 hFb.size⟩, hm, ?_, ⟨A', c', by rw [hl1]; exact hq1b, by rw [hl1]; exact hqb⟩, ?_, ⟨AF', cF', AE', cE', by rw [hl1]; exact hd1b, ?_, ?_, hd5⟩, ?_⟩, hFb⟩
  ·rw [List.map_append, List.idxOf_append, if_neg Hno.out]
   simp [← Hlq.out]
  ·rw [hl1, List.map_append, ← Hks.out, List.map_cons, List.map_nil, ← Hkk.out]
   exact himb
  ·intro y hy
   rcases List.mem_append.1 hy with hy | hy
   ·exact Hinsb y hy
   ·rw [List.mem_singleton] at hy
    subst hy
    exact HIb
  ·rw [hl1, List.map_append]
   exact hd2b
  ·rw [hl1, List.map_append]
   exact hd3b
  ·intro y hy
   rcases List.mem_append.1 hy with hy | hy
   ·exact Hok.out y hy
   ·rw [List.mem_singleton] at hy
    subst hy
    exact Hx.out
end Go.Proofs.YtkedgombccdamaaGreatDoor
