/- Part 13 of a proof; packed: the texts that it was made of follow one another. No condition beyond those named in each lemma. -/
import Derived.Test.YtkedgombccdamaaDoorPe1
import Derived.Test.YtkedgombccdamaaDoorPe12
import Derived.Test.YtkedgombccdamaaDoorPe2
import Derived.Test.YtkedgombccdamaaDoorPe3
import Derived.Test.YtkedgombccdamaaDoorRows
import Derived.JoinedCond
import Derived.LaidMore
import Derived.Lib.LaidTab
import Derived.Lib.SmallJoins
import Derived.OpenShut
import Derived.ProofKit
import Derived.Shelf.Vars
import Derived.WalkKit
namespace Go.Proofs.YtkedgombccdamaaDoor
open Go.RowKit Go.Shelf Go.Maps
set_option linter.unusedVariables false
set_option linter.unusedSimpArgs false
attribute [local go_sem] Oper.semAt_some

/-- a table and a line, as they are asked -/
structure AV where
  x : TV
  q : ByteArray
def encA (a : AV) : Array Value := a.x.C' ++ #[.string a.q]
theorem encA_size (a : AV) : (encA a).size = 260 := by
  unfold encA TV.C'
  rw [Array.size_append, dfaC_size]
  rfl
/-- its lists are short, its line too -/
structure AOk (w : World) (N : Nat) (a : AV) : Prop where
  tab : TabIn w N a.x
  sml : Sml a.x
  line : a.q.size ≤ 1099511627776
theorem row_prefix {w : World} {b off : Nat} {xs ys : Array Value} (h : RowAt w b off (xs ++ ys)) : RowAt w b off xs := fun i v hv => h i v (by
  have hi : i < xs.size := (Array.getElem?_eq_some_iff.1 hv).1
  rw [Array.getElem?_append_left hi]
  exact hv)
theorem ask_dfa {w : World} {b off : Nat} {a : AV} (h : RowAt w b off (encA a)) : RowAt w b off a.x.C' := row_prefix h
theorem ask_line {w : World} {b : Nat} {a : AV} (h : RowAt w b 0 (encA a)) : w.cell? ⟨b, 259, none⟩ = some (.string a.q) := by
  have := h 259 (.string a.q) (by
    unfold encA TV.C'
    rw [Array.getElem?_append_right (by rw [dfaC_size]; exact Nat.le_refl _), dfaC_size]
    rfl)
  simpa using this
theorem ask_one (a : AV) : (encA a).all (·.oneCell') = true := by
  unfold encA TV.C'
  rw [Array.all_append, dfaC_one]
  simp [Value.oneCell']
theorem info_ask : (Tryd.prog.info? 40).map (·.size) = some 260 := by kernel_rfl
theorem field_ask_0 (b off : Nat) (w : World) : (Instr.fieldAt 40 (.pointer (some ⟨b, off, none⟩)) 0).run Tryd.prog w = .ok (.pointer (some ⟨b, off, none⟩)) w := by kernel_rfl
section
variable {w : World} {ops : Array Oper} {rest : List Oper} {o : Oper} {a : Act} {Q : Exit → Act → World → Prop}
theorem wl_load_ask_at (hgd : o.guard = none) (x : Operand) (ho : o.op = .load 40 x) (g off : Nat) (hx : a.eval x = .pointer (some ⟨g, off, none⟩)) (y : AV) (hr : RowAt w g off (encA y))
    (h : wpList Tryd.prog ops Q rest (a.put o.dst (.agg (encA y))) w) : wpList Tryd.prog ops Q (o :: rest) a w :=
  wpList_load_at hgd _ x ho g off hx _ _ hr Tryd.underlying40 rfl (info_ask.trans (by rw [encA_size])) h
theorem wl_load_dfa_at (hgd : o.guard = none) (x : Operand) (ho : o.op = .load 33 x) (g off : Nat) (hx : a.eval x = .pointer (some ⟨g, off, none⟩)) (y : TV) (hr : RowAt w g off y.C')
    (h : wpList Tryd.prog ops Q rest (a.put o.dst (.agg y.C')) w) : wpList Tryd.prog ops Q (o :: rest) a w :=
  wpList_load_at hgd _ x ho g off hx _ _ hr Tryd.underlying33 rfl (info_dfa.trans (by unfold TV.C'; rw [dfaC_size])) h
theorem wl_store_ask (hgd : o.guard = none) (x y : Operand) (ho : o.op = .store 40 x y) (g : Nat) (z : AV) (hx : a.eval x = .pointer (some ⟨g, 0, none⟩)) (hy : a.eval y = .agg (encA z)) (cs : Array Value) (hs : cs.size = 260) (hb : Blk w g 40 cs)
    (h : ∀ w', Blk w' g 40 (encA z) → w.grownBy w' (some g) → wpList Tryd.prog ops Q rest (a.put o.dst undef) w') : wpList Tryd.prog ops Q (o :: rest) a w :=
  wpList_store_row hgd _ x y ho g _ hx hy _ _ hb (info_ask.trans (by rw [encA_size])) (by rw [hs, encA_size]) (ask_one z) (h _ (hb.setRow_same _) (only_setRow (only_refl _ _) _))
end
theorem gs_load_dfa_at {ops : Array Oper} {S : Nat → GSpec} {Q : Exit → Act → World → Prop} {i : Nat} {o : Oper} {a : Act} {w : World} (hw : Region.wanted o (yielded ops a.tmps) = true) (x : Operand) (ho : o.op = .load 33 x) (g off : Nat) (hx : a.eval x = .pointer (some ⟨g, off, none⟩)) (y : TV) (hr : RowAt w g off y.C')
    (hp : (S i).p (.agg y.C') w) : GStep Tryd.prog ops S Q i o a w :=
  gs_run hw (v := .agg y.C') (by unfold execOp; simp only [ho, hx, Instr.loadAt, Instr.sureAddr, Sem.run_bind, Sem.run_pure, Result.andThen_ok, run_loadVar_at w g off _ _ _ hr Tryd.underlying33 rfl (info_dfa.trans (by unfold TV.C'; rw [dfaC_size]))]) (Below.refl _ _) hp
theorem tabIn_Q {x : TV} {w : World} {base N i : Nat} {E : List Edg} {R : List Nat} {f : Nat → Int} {bs : List Nat} (hR : ∀ r ∈ R, r < 4294967296) (hbs : bs.length ≤ 256) (hi : i ≤ 4096) (hD : Done (stepM E N R) bs (mo0 E N R) i) (hT : x.T = tabQ E N R f bs i) (hO : TOwn w base x [] [] []) : TabIn w w.heap.size x := by
  have hlen : (bfsN (stepM E N R) bs (mo0 E N R) i).length = i := hD
  have hr : x.rs.map (·.l) = (rowsQ (stepM E N R) bs (mo0 E N R) i).map (fun l => l.map fun (n : Nat) => (n : Int)) := congrArg Tb.nx hT
  have hf : x.fo = (bfsN (stepM E N R) bs (mo0 E N R) i).map Mo.met := congrArg Tb.fo hT
  have he : x.en = (bfsN (stepM E N R) bs (mo0 E N R) i).map Mo.end_ := congrArg Tb.en hT
  have hok : ∀ y ∈ bfsN (stepM E N R) bs (mo0 E N R) i, MoOk N (wordsFor N) y := bfs_all (p := MoOk N (wordsFor N)) (moN_ok hR (words_room N) 0 0 true (by decide)) (fun q b hq _ => stepM_ok hR (words_room N) b hq) i
  have hl : x.rs.length = i := by
    have := congrArg List.length hr
    rw [List.length_map, List.length_map, rows_len (by omega)] at this
    exact this
  refine hO.tab (by omega) (fun r h => ?_) (by rw [hf, List.length_map]; omega) (by rw [he, List.length_map]; omega) (fun y hy => ?_) (fun y hy => ?_)
  · have h1 : r.l ∈ x.rs.map (·.l) := List.mem_map_of_mem h
    rw [hr] at h1
    obtain ⟨l, hl1, hl2⟩ := List.mem_map.1 h1
    unfold rowsQ at hl1
    obtain ⟨q, _, hq⟩ := List.mem_map.1 hl1
    rw [← hl2, List.length_map, ← hq]
    unfold entsQ
    rw [List.length_map]
    omega
  · rw [hf] at hy
    obtain ⟨q, hq, rfl⟩ := List.mem_map.1 hy
    exact (hok q hq).met
  · rw [he] at hy
    obtain ⟨q, hq, rfl⟩ := List.mem_map.1 hy
    exact (hok q hq).en
theorem repE_len (E : List Edg) : (repE E).length ≤ 256 := by
  unfold repE
  rw [repL_length]
  exact many_le _
def zeroT : TV := ⟨fun _ => 0, [], none, 0, [], none, 0, [], none, 0⟩
/-- which table and which number -/
def DAlt (s : Int) (E : List Edg) (m : Nat) (R : List Nat) (most : Int) (x : TV) (k : Int) : Prop :=
  (rightB s E m = false ∧ k = 70 ∧ x = zeroT) ∨ (rightB s E m = true ∧ k = 0 ∧ ∃ i : Nat, Done (stepM E s.toNat R) (repE E) (mo0 E s.toNat R) i ∧ (i : Int) ≤ min most 4096 ∧ x.T = tabQ E s.toNat R (clsE E) (repE E) i) ∨
     (rightB s E m = true ∧ k = 100 ∧ (∀ i : Nat, Done (stepM E s.toNat R) (repE E) (mo0 E s.toNat R) i → min most 4096 < (i : Int)) ∧ x = zeroT)
/-- one answer of Build, as a table and a number -/
theorem dres_tab {s : Int} {E : List Edg} {m : Nat} {R : List Nat} {most : Int} {base : Nat} {e : Ending} {w : World} (hR : ∀ r ∈ R, r < 4294967296) (h : DRes s E m R most base e w) : ∃ (x : TV) (k : Int), e = .returned (.tuple #[.agg x.C', .int .i64 k]) ∧ TabIn w w.heap.size x ∧ TOwn w base x [] [] [] ∧ DAlt s E m R most x k := by
  rcases h with ⟨h1, rfl⟩ | ⟨h1, i, x, hD, hi, rfl, hT, hO⟩ | ⟨h1, h2, rfl⟩
  · exact ⟨zeroT, 70, rfl, zero_tab w, TOwn.nil _ _ _, .inl ⟨h1, rfl, rfl⟩⟩
  · exact ⟨x, 0, rfl, tabIn_Q hR (repE_len E) (by omega) hD hT hO, hO, .inr (.inl ⟨h1, rfl, i, hD, hi, hT⟩)⟩
  · exact ⟨zeroT, 100, rfl, zero_tab w, TOwn.nil _ _ _, .inr (.inr ⟨h1, rfl, h2, rfl⟩)⟩
theorem dalt_two {s : Int} {E : List Edg} {m : Nat} {R : List Nat} {most : Int} {x y : TV} {k j : Int} (a : DAlt s E m R most x k) (b : DAlt s E m R most y j) : k = j ∧ x.T = y.T := by
  rcases a with ⟨a1, rfl, a2⟩ | ⟨a1, rfl, i, a2, a3, a4⟩ | ⟨a1, rfl, a2, a3⟩
  · rcases b with ⟨b1, rfl, b2⟩ | ⟨b1, _⟩ | ⟨b1, _⟩
    · exact ⟨rfl, by rw [a2, b2]⟩
    · rw [a1] at b1; cases b1
    · rw [a1] at b1; cases b1
  · rcases b with ⟨b1, _⟩ | ⟨_, rfl, j, b2, b3, b4⟩ | ⟨_, rfl, b2, _⟩
    · rw [a1] at b1; cases b1
    · have := Done.one a2 b2
      subst this
      exact ⟨rfl, by rw [a4, b4]⟩
    · have := b2 i a2
      omega
  · rcases b with ⟨b1, _⟩ | ⟨_, rfl, j, b2, b3, b4⟩ | ⟨_, rfl, b2, b3⟩
    · rw [a1] at b1; cases b1
    · have := a2 j b2
      omega
    · exact ⟨rfl, by rw [a3, b3]⟩
theorem runV_of {x : TV} (q : ByteArray) : ∃ (r : Nat) (k : Int), runV x q = .tuple #[.int .u32 (r : Int), .int .i64 k] := by
  unfold runV
  split
  · exact ⟨_, _, rfl⟩
  · exact ⟨0, _, rfl⟩
theorem runV_eq {x y : TV} (h : y.T = x.T) (q : ByteArray) : runV y q = runV x q := by
  have he : y.en = x.en := congrArg Tb.en h
  unfold runV endOf
  rw [h, he]
theorem tabIn_own {x y : TV} {rz : List RV} {xr : List Int} {xf : List Nat} {w w0 : World} {base N : Nat} (he : y.T = x.T) (hS : Sml x) (hT : TabIn w0 N x) (hO : TOwn w base y xr xf rz) : TabIn w w.heap.size y := by
  have hlr : y.rs.length = x.rs.length := by have := congrArg (fun T : Tb => T.nx.length) he; simpa [TV.T] using this
  have hlf : y.fo = x.fo := congrArg Tb.fo he
  have hle : y.en = x.en := congrArg Tb.en he
  have hrl : ∀ i (h1 : i < y.rs.length) (h2 : i < x.rs.length), y.rs[i].l = x.rs[i].l := fun i h1 h2 => by
    have h3 : y.rs.map (·.l) = x.rs.map (·.l) := congrArg Tb.nx he
    have h4 : (y.rs.map (·.l))[i]'(by simpa using h1) = (x.rs.map (·.l))[i]'(by simpa using h2) := by simp only [h3]
    simpa using h4
  exact hO.tab (by have := hS.n; omega) (fun r hr => by
      obtain ⟨i, hi, rfl⟩ := List.mem_iff_getElem.1 hr
      rw [hrl i hi (by omega)]
      have := hS.r _ (List.getElem_mem (show i < x.rs.length by omega))
      omega) (by rw [hlf]; have := hS.f; omega) (by rw [hle]; have := hS.e; omega) (by rw [hlf]; exact hT.f32) (by rw [hle]; exact hT.e32)
theorem enter_srun' (args : Array Value) (w : World) : (callFunc 16 args).run Tryd.prog w = .ok (.enter 16 args) w := by kernel_rfl
set_option maxRecDepth 100000 in
set_option maxHeartbeats 8000000 in
theorem subsetExact_any (s : Int) (A : Option Addr) (n c : Nat) (B : Option Addr) (m d : Nat) (E : List Edg) (R : List Nat) (hn : n = E.length) (hm : m = R.length) (hE : E.length ≤ 1048576) (hRl : R.length ≤ 1048576) (hR : ∀ r ∈ R, r < 4294967296) (most : Int) (A2 : Option Addr) (n2 c2 : Nat) (l2 : List AV) (hn2 : n2 = l2.length) (hl2 : n2 ≤ 1048576) (hc2 : n2 ≤ c2) (w : World)
    (hsE : SliceOf w w.heap.size 7 edgC A E) (hsR : SliceOf w w.heap.size 1 encR B R) (hs2 : SliceOf w w.heap.size 260 encA A2 l2) (hok : ∀ a ∈ l2, AOk w w.heap.size a) :
    Calls Tryd.prog 3 #[.agg (nfaC s A n c B m d), .int .i64 most, .slice A2 n2 c2] w fun e w' => e = .returned (.bool true) ∧ Below w.heap.size w w' := by
  have Hn := Lib.hid hn
  have Hm := Lib.hid hm
  have HR := Lib.hid hR
  have Hok := Lib.hid hok
  have Hs2 := Lib.hid hs2
  have Hn2 := Lib.hid hn2
  have HsE := Lib.hid hsE
  have HsR := Lib.hid hsR
  clear hn hm hR hok hs2 hn2 hsE hsR
  obtain ⟨p1, hp1⟩ : ∃ p, p = (decide (s ≤ 40) && decide ((n : Int) ≤ 120)) := ⟨_, rfl⟩
  obtain ⟨p2, hp2⟩ : ∃ p, p = decide (most ≤ 100) := ⟨_, rfl⟩
  have kSm := fun W => small10_any s A n c B m d W
  rw [← hp1] at kSm
  have Hp1 := Lib.hid hp1
  have Hp2 := Lib.hid hp2
  clear hp1
  go_enter Tryd.func3, Tryd.ntmps3
  go_upto_region 1 with (fail)
  have h3 : Blk (w.alloc (.cells (nfaC s A n c B m d) 25)) w.heap.size 25 (nfaC s A n c B m d) := Blk.new w _ _
  have hB1 := below_alloc (Below.refl w.heap.size w) (.cells (nfaC s A n c B m d) 25)
  obtain ⟨w1, hw1⟩ : ∃ y, y = w.alloc (.cells (nfaC s A n c B m d) 25) := ⟨_, rfl⟩
  rw [← hw1] at h3 hB1 ⊢
  obtain ⟨g3, hg3⟩ : ∃ y, y = w.heap.size := ⟨_, rfl⟩
  rw [← hg3] at h3 ⊢
  have hg3w : w.heap.size ≤ g3 := by omega
  clear hw1 hg3
  go_upto_region 3 with (go_at_call 7; refine (known10_any w1).mono ?_; rintro e w2 ⟨rfl, hB2⟩)
  replace h3 := blk_then h3 hB2
  replace hB1 := below_then hB1 hB2
  clear hB2
  have kS2 := kSm w2
  clear kSm hp2
  go_cut [26] from 21 to 27 (fun v wx => Below w2.heap.size w2 wx ∧ v = .bool (p1 && p2))
  case first =>
    clear Hok Hs2 HsE HsR
    cases p1 with
    | false =>
      go_wp2_with (first
        | (refine wpList_load_row rfl _ _ rfl _ rfl _ _ _ _ h3 Tryd.underlying25 rfl (info_nfa3.trans rfl) ?_)
        | (go_at_call 8; refine kS2.mono ?_; clear kS2; rintro e w3 ⟨rfl, hB3⟩))
      go_meet
      exact ⟨hB3, rfl⟩
    | true =>
      cases p2 with
      | false =>
        have h100 : ¬ most ≤ 100 := of_decide_eq_false Hp2.out.symm
        go_wp2_with (first
          | (refine wpList_load_row rfl _ _ rfl _ rfl _ _ _ _ h3 Tryd.underlying25 rfl (info_nfa3.trans rfl) ?_)
          | (go_at_call 8; refine kS2.mono ?_; clear kS2; rintro e w3 ⟨rfl, hB3⟩))
        go_meet
        exact ⟨hB3, congrArg Value.bool (by simp [h100])⟩
      | true =>
        have h100 : most ≤ 100 := of_decide_eq_true Hp2.out.symm
        go_wp2_with (first
          | (refine wpList_load_row rfl _ _ rfl _ rfl _ _ _ _ h3 Tryd.underlying25 rfl (info_nfa3.trans rfl) ?_)
          | (go_at_call 8; refine kS2.mono ?_; clear kS2; rintro e w3 ⟨rfl, hB3⟩))
        go_meet
        exact ⟨hB3, congrArg Value.bool (by simp [h100])⟩
  case rest =>
    obtain ⟨hBc, rfl⟩ := hcut
    replace h3 := blk_then h3 hBc
    replace hB1 := below_then hB1 hBc
    clear hBc kS2
    obtain ⟨w3, hw3⟩ : ∃ y, y = wc := ⟨_, rfl⟩
    rw [← hw3] at h3 hB1 ⊢
    clear hw3
    obtain ⟨P, hP⟩ : ∃ P, P = (p1 && p2) := ⟨_, rfl⟩
    rw [← hP]
    have HP := Lib.hid hP
    clear hP
    go_upto_if 26 with (fail)
    go_cut [] from 7 to 56 (fun wx => Below w3.heap.size w3 wx)
    case first =>
      cases P with
      | false =>
        go_wp2_with (fail)
        go_meet
        exact Below.refl _ _
      | true =>
        have hpp := HP.out.symm
        rw [Bool.and_eq_true] at hpp
        obtain ⟨hpa, hpb⟩ := hpp
        rw [Hp1.out, Bool.and_eq_true] at hpa
        rw [Hp2.out] at hpb
        have hs40 : s ≤ 40 := of_decide_eq_true hpa.1
        have hn120 : (n : Int) ≤ 120 := of_decide_eq_true hpa.2
        have h100 : most ≤ 100 := of_decide_eq_true hpb
        have hE3 : E.length ≤ 100000 := by have := Hn.out; omega
        have hE4 := Lib.hid hE3
        have hsE3 := HsE.out.below hB1
        have hsR3 := HsR.out.below hB1
        have kC := copied10_any ⟨s, E, R⟩ A n c B m d Hn.out Hm.out hE hRl w3 (hsE3.more hB1.size) (hsR3.more hB1.size)
        clear hpa hpb hE3
        go_upto_region 5 with (first
          | (refine wpList_load_row rfl _ _ rfl _ rfl _ _ _ _ h3 Tryd.underlying25 rfl (info_nfa3.trans rfl) ?_)
          | (go_at_call 9; refine kC.mono ?_; clear kC; rintro e w4 ⟨hB4, ⟨F0, ge, ce, gu, cu⟩, hF0, rfl, hIn⟩; simp only at hF0; subst hF0; unfold CP.C; simp only; rw [← Hn.out, ← Hm.out])
          | (refine wl_store_nfa rfl _ _ rfl w4.heap.size _ _ _ _ _ _ _ rfl rfl _ _ _ _ _ _ _ (Blk.new _ _ _) ?_; intro w5 h7 hg7))
        have hB5 := below_grown (below_alloc (Below.refl w4.heap.size w4) (.cells #[.int .i64 0, .slice none 0 0, .slice none 0 0] 25)) hg7 (Nat.le_refl _)
        obtain ⟨g7, hg7e⟩ : ∃ y, y = w4.heap.size := ⟨_, rfl⟩
        rw [← hg7e] at h7 ⊢
        have hB35 := below_then hB4 hB5
        replace h3 := blk_then h3 hB35
        replace hIn := hIn.then_ hB5
        clear hg7 hB4 hB5 hg7e
        try simp only [Act.put]
        obtain ⟨hI1, hI2⟩ := hIn
        simp only at hI1 hI2
        rw [← Hn.out] at hI1
        rw [← Hm.out] at hI2
        have hce : n + 1 ≤ ce := by
          obtain ⟨_, _, hv, _, _, hc9, _⟩ := hI1.form (by simp)
          injection hv with e1 e2 e3
          rw [List.length_append, ← Hn.out] at hc9
          simp at hc9
          omega
        have hcu : m + 1 ≤ cu := by
          obtain ⟨_, _, hv, _, _, hc9, _⟩ := hI2.form (by simp)
          injection hv with e1 e2 e3
          rw [List.length_append, ← Hm.out] at hc9
          simp at hc9
          omega
        have hsC : SliceOf w5 w5.heap.size 7 edgC (some ⟨ge, 0, none⟩) E := own_take edgC_size hI1
        have hsD : SliceOf w5 w5.heap.size 1 encR (some ⟨gu, 0, none⟩) R := own_take encR_size hI2
        have kB := dfa_any s _ n ce _ m cu E R most Hn.out hE4.out Hm.out HR.out (by omega) w5 hsC hsD
        clear hsC hsD
        have HI := Lib.hid (And.intro hI1 hI2)
        have Hcc := Lib.hid (And.intro hce hcu)
        have HsE3 := Lib.hid hsE3
        have HsR3 := Lib.hid hsR3
        clear hI1 hI2 hce hcu hsE3 hsR3
        go_upto_region 6 with (first
          | (refine wpList_load_row rfl _ _ rfl _ rfl _ _ _ _ h7 Tryd.underlying25 rfl (info_nfa3.trans rfl) ?_)
          | (go_at_call 10; refine kB.mono ?_; clear kB; rintro e w6 ⟨hD, hB6⟩; obtain ⟨xa, ka, rfl, hTa, hOa, hAa⟩ := dres_tab HR.out hD; clear hD hOa; unfold TV.C'; have hzc := Blk.new w6 33 Tryd.zeroCells33; rw [zero_cells_dfa] at hzc)
          | (rw [zero_cells_dfa]; refine wl_store_dfa rfl _ _ rfl w6.heap.size rfl rfl hzc ?_; intro w7 h8 hg8))
        have hB7 := below_grown (below_alloc (Below.refl w6.heap.size w6) (.cells (dfaC (fun _ => 0) none 0 0 none 0 0 none 0 0) 33)) hg8 (Nat.le_refl _)
        obtain ⟨g8, hg8e⟩ : ∃ y, y = w6.heap.size := ⟨_, rfl⟩
        rw [← hg8e] at h8 ⊢
        replace hTa := hTa.then_ hB7
        have hB57 := below_then hB6 hB7
        replace h3 := blk_then h3 hB57
        replace h7 := blk_then h7 hB57
        have hB37 := below_then hB35 hB57
        clear hzc hg8 hB6 hB7 hg8e
        try simp only [Act.put]
        have kB := rdfa_any s A n c B m d E R most Hn.out hE4.out Hm.out HR.out (by omega) w7 ((HsE3.out.more hB1.size).below hB37 |>.more hB37.size) ((HsR3.out.more hB1.size).below hB37 |>.more hB37.size)
        have HTa := Lib.hid hTa
        have HAa := Lib.hid hAa
        clear hTa hAa
        go_upto_region 7 with (first
          | (refine wpList_load_row rfl _ _ rfl _ rfl _ _ _ _ h3 Tryd.underlying25 rfl (info_nfa3.trans rfl) ?_)
          | (go_at_call 11; refine kB.mono ?_; clear kB; rintro e w8 ⟨hD, hB8⟩; obtain ⟨xb, kk, rfl, hTb, hOb, hAb⟩ := dres_tab HR.out hD; clear hD hOb; unfold TV.C'; have hzc := Blk.new w8 33 Tryd.zeroCells33; rw [zero_cells_dfa] at hzc)
          | (rw [zero_cells_dfa]; refine wl_store_dfa rfl _ _ rfl w8.heap.size rfl rfl hzc ?_; intro w9 h10 hg10))
        have hB9 := below_grown (below_alloc (Below.refl w8.heap.size w8) (.cells (dfaC (fun _ => 0) none 0 0 none 0 0 none 0 0) 33)) hg10 (Nat.le_refl _)
        obtain ⟨g10, hg10e⟩ : ∃ y, y = w8.heap.size := ⟨_, rfl⟩
        rw [← hg10e] at h10 ⊢
        replace hTb := hTb.then_ hB9
        have hB79 := below_then hB8 hB9
        replace h3 := blk_then h3 hB79
        replace h7 := blk_then h7 hB79
        replace h8 := blk_then h8 hB79
        have hTa := HTa.out.then_ hB79
        have hB39 := below_then hB37 hB79
        clear hzc hg10 hB8 hB9 hg10e
        try simp only [Act.put]
        obtain ⟨hkk, hTT⟩ := dalt_two HAa.out hAb
        subst hkk
        have hSame : ∀ W : World, Below w9.heap.size w9 W → Calls Tryd.prog 12 #[.agg (dfaC xa.f xa.A xa.rs.length xa.c xa.B xa.fo.length xa.d xa.C xa.en.length xa.e), .agg (dfaC xb.f xb.A xb.rs.length xb.c xb.B xb.fo.length xb.d xb.C xb.en.length xb.e)] W fun e w' => e = .returned (.bool true) ∧ Below W.heap.size W w' := fun W hW => same10_any xa xb (TEq.of hTT) W (hTa.then_ hW) (hTb.then_ hW)
        have hB59 := below_then hB57 hB79
        have hKept : ∀ W : World, Below w9.heap.size w9 W → Calls Tryd.prog 13 #[.agg (nfaC s (some ⟨ge, 0, none⟩) n ce (some ⟨gu, 0, none⟩) m cu), .agg (nfaC s A n c B m d)] W fun e w' => e = .returned (.bool true) ∧ Below W.heap.size W w' := fun W hW =>
          kept10_any s A n c B m d ge ce gu cu E R Hn.out Hm.out hE hRl Hcc.out.1 Hcc.out.2 W (((HsE3.out.more hB1.size).below hB39 |>.more hB39.size).below hW |>.more hW.size) (((HsR3.out.more hB1.size).below hB39 |>.more hB39.size).below hW |>.more hW.size) (((HI.out.1.then_ hB59).then_ hW).slice_all edgC_size) (((HI.out.2.then_ hB59).then_ hW).slice_all encR_size)
        clear hTa hTb hAb hTT
        refine wp_region_text 15 [eqS (.int .i64 (ka)), eqS (.int .i64 (ka)), eqS (.bool false), eqS (.bool false), eqS (vF (true && (false == false)) (.agg (dfaC xa.f xa.A xa.rs.length xa.c xa.B xa.fo.length xa.d xa.C xa.en.length xa.e))), eqS (vF (true && (false == false)) (.agg (dfaC xb.f xb.A xb.rs.length xb.c xb.B xb.fo.length xb.d xb.C xb.en.length xb.e))), eqS (vF (true && (false == false)) (.bool true)), eqS (vF (true && (false == false)) (.bool (!true))), eqS (.bool (false || (!true))), eqS (.bool (false || (!true))), eqS (vF (true && ((false || (!true)) == false)) (.agg (nfaC s (some ⟨ge, 0, none⟩) n ce (some ⟨gu, 0, none⟩) m cu))), eqS (vF (true && ((false || (!true)) == false)) (.agg (nfaC s A n c B m d))), eqS (vF (true && ((false || (!true)) == false)) (.bool true)), eqS (vF (true && ((false || (!true)) == false)) (.bool (!true))), eqS (.bool ((false || (!true)) || (!true)))] [41, 42, 43, 44, 45, 46, 47, 48, 49, 50, 51, 52, 53, 54, 55] (by kernel_rfl) (by kernel_rfl) ?_ ?_
        · skip
          refine Steps.cons (fun a' w' hG hB dep => gs_move (want_none rfl) _ rfl (id (hG.other 9 rfl))) ?_
          refine Steps.cons (fun a' w' hG hB dep => gs_move (want_none rfl) _ rfl (id (hG.other 11 rfl))) ?_
          refine Steps.cons (fun a' w' hG hB dep => gs_neq_int (want_none rfl) _ _ _ _ rfl _ _ _ (dep 0 rfl 41 rfl) (dep 1 rfl 42 rfl) (id (congrArg Value.bool (bne_self_eq_false _)))) ?_
          refine Steps.cons (fun a' w' hG hB dep => gs_move (want_none rfl) _ rfl (id (dep 2 rfl 43 rfl))) ?_
          refine Steps.cons (fun a' w' hG hB dep => gs_guard (c := true) (b' := false) rfl rfl (dep 3 rfl 44 rfl) (fun hc he hw => gs_load_dfa hw _ rfl g8 (hG.other 8 rfl) (blk_then h8 hB) (vF_yes (on_g hc he) _).symm) (fun hn => vF_no hn _)) ?_
          refine Steps.cons (fun a' w' hG hB dep => gs_guard (c := true) (b' := false) rfl rfl (dep 3 rfl 44 rfl) (fun hc he hw => gs_load_dfa hw _ rfl g10 (hG.other 10 rfl) (blk_then h10 hB) (vF_yes (on_g hc he) _).symm) (fun hn => vF_no hn _)) ?_
          refine Steps.cons (fun a' w' hG hB dep => gs_guard (c := true) (b' := false) rfl rfl (dep 3 rfl 44 rfl) (fun hc he hw => gs_call hw _ _ _ rfl enter_same10 _ (map2 (Eq.trans (dep 4 rfl 45 rfl) (vF_yes (on_g hc he) _)) (Eq.trans (dep 5 rfl 46 rfl) (vF_yes (on_g hc he) _))) ((hSame _ hB).mono fun e w2 ⟨hq9, hb9⟩ => ⟨_, hq9, hb9, (vF_yes (on_g hc he) _).symm⟩)) (fun hn => vF_no hn _)) ?_
          refine Steps.cons (fun a' w' hG hB dep => gs_guard (c := true) (b' := false) rfl rfl (dep 3 rfl 44 rfl) (fun hc he hw => gs_not_bool hw _ _ rfl _ (Eq.trans (dep 6 rfl 47 rfl) (vF_yes (on_g hc he) _)) (vF_yes (on_g hc he) _).symm) (fun hn => vF_no hn _)) ?_
          refine Steps.cons (fun a' w' hG hB dep => gs_pick (want_none rfl) _ _ _ rfl false (dep 3 rfl 44 rfl) (id (pick_or2 (c := true) rfl (dep 7 rfl 48 rfl)))) ?_
          refine Steps.cons (fun a' w' hG hB dep => gs_move (want_none rfl) _ rfl (id (dep 8 rfl 49 rfl))) ?_
          refine Steps.cons (fun a' w' hG hB dep => gs_guard (c := true) (b' := (false || (!true))) rfl rfl (dep 9 rfl 50 rfl) (fun hc he hw => gs_load_nfa hw _ rfl g7 (hG.other 7 rfl) _ _ _ _ _ _ _ (blk_then h7 hB) (vF_yes (on_g hc he) _).symm) (fun hn => vF_no hn _)) ?_
          refine Steps.cons (fun a' w' hG hB dep => gs_guard (c := true) (b' := (false || (!true))) rfl rfl (dep 9 rfl 50 rfl) (fun hc he hw => gs_load_nfa hw _ rfl g3 (hG.other 3 rfl) _ _ _ _ _ _ _ (blk_then h3 hB) (vF_yes (on_g hc he) _).symm) (fun hn => vF_no hn _)) ?_
          refine Steps.cons (fun a' w' hG hB dep => gs_guard (c := true) (b' := (false || (!true))) rfl rfl (dep 9 rfl 50 rfl) (fun hc he hw => gs_call hw _ _ _ rfl enter_kept10 _ (map2 (Eq.trans (dep 10 rfl 51 rfl) (vF_yes (on_g hc he) _)) (Eq.trans (dep 11 rfl 52 rfl) (vF_yes (on_g hc he) _))) ((hKept _ hB).mono fun e w2 ⟨hq9, hb9⟩ => ⟨_, hq9, hb9, (vF_yes (on_g hc he) _).symm⟩)) (fun hn => vF_no hn _)) ?_
          refine Steps.cons (fun a' w' hG hB dep => gs_guard (c := true) (b' := (false || (!true))) rfl rfl (dep 9 rfl 50 rfl) (fun hc he hw => gs_not_bool hw _ _ rfl _ (Eq.trans (dep 12 rfl 53 rfl) (vF_yes (on_g hc he) _)) (vF_yes (on_g hc he) _).symm) (fun hn => vF_no hn _)) ?_
          refine Steps.cons (fun a' w' hG hB dep => gs_pick (want_none rfl) _ _ _ rfl (false || (!true)) (dep 9 rfl 50 rfl) (id (pick_or2 (c := true) rfl (dep 13 rfl 54 rfl)))) ?_
          exact Steps.nil
        intro u wz hwz ans
        have hus55 : u 55 = (.bool ((false || (!true)) || (!true))) := ans 14 55 (by decide) rfl
        clear ans
        simp only [putAll, List.foldl_cons, List.foldl_nil, Act.put, List.setIfInBounds_toArray, List.set_cons_zero, List.set_cons_succ, hus55]
        clear hus55
        simp only [List.drop]
        refine wpList_nil ?_
        replace hB39 := below_then hB39 hwz
        rw [show ((false || (!true)) || (!true)) = false from rfl]
        clear hSame hKept hwz
        go_wp2_with (fail)
        go_meet
        exact hB39
    case rest =>
      have hBc := hcut
      obtain ⟨w4, hw4⟩ : ∃ y, y = wc := ⟨_, rfl⟩
      rw [← hw4] at hBc ⊢
      replace hB1 := below_then hB1 hBc
      clear hBc hcut hw4 h3
      obtain ⟨K, hK⟩ : ∃ K : Nat, K = min n2 20 := ⟨_, rfl⟩
      have HK := Lib.hid hK
      clear hK
      go_upto_region 9 with (fail)
      go_cut [60, 61, 62] from 56 to 63 (fun a b c wx => wx = w4 ∧ a = .slice A2 K c2 ∧ b = .int .i64 (K : Int) ∧ c = .int .i64 (0 : Nat))
      case first =>
        have hKe := HK.out
        by_cases h20 : (n2 : Int) ≤ 20
        · have e1 : K = n2 := by omega
          have h20b : n2 ≤ 20 := by omega
          subst e1
          clear hKe
          go_wp2_with (fail)
          go_meet
          exact ⟨rfl, by first | rfl | (congr 1; omega), congrArg (Value.int .i64) (by omega), rfl⟩
        · have e1 : K = 20 := by omega
          subst e1
          have h20c : (20 : Int) ≤ c2 := by omega
          have h20d : 20 ≤ c2 := by omega
          have h20e : (20 : Int) < n2 := by omega
          clear hKe
          go_wp2_with (fail)
          go_meet
          exact ⟨rfl, by first | rfl | (congr 1; omega), congrArg (Value.int .i64) (by omega), rfl⟩
      case rest =>
        obtain ⟨rfl, rfl, rfl, rfl⟩ := hcut
        have hKl : K ≤ l2.length := by have := HK.out; have := Hn2.out; omega
        have hK20 : K ≤ 20 := by have := HK.out; omega
        have hs4 := Lib.hid (Hs2.out.below hB1)
        have hok4 := Lib.hid (fun a ha => (Hok.out a ha))
        go_wp2_with (fail)
        go_loopw [62] (fun iv wr => ∃ i : Nat, i ≤ K ∧ iv = .int .i64 i ∧ Below w.heap.size w wr) (fun iv _ => K - (intOf iv).toNat)
        case atStart => exact ⟨0, by omega, rfl, hB1⟩
        case round =>
          clear hB1
          obtain ⟨i, hi, rfl, hB1⟩ := hrel
          by_cases hik : i < K
          · have hikI : (i : Int) < K := by omega
            have hil : i < l2.length := by omega
            obtain ⟨bA, oA, hA2, hbA, hrows⟩ := Hs2.out.at_ (by omega)
            have hr0 := (hrows i hil).keep (hB1.block bA hbA)
            obtain ⟨ak, hak⟩ : ∃ a, a = l2[i] := ⟨_, rfl⟩
            rw [← hak] at hr0
            have hOk := Hok.out ak (by rw [hak]; exact List.getElem_mem hil)
            have hTx := hOk.tab.then_ hB1
            have hSx := hOk.sml
            have hqx := hOk.line
            have HTx := Lib.hid hTx
            have HSx := Lib.hid hSx
            have Hqx := Lib.hid hqx
            have HA2 := Lib.hid hA2
            rw [hA2]
            clear hrows hak hOk hTx hSx hqx hA2
            have hzs : (Tryd.zeroCells40).size = 260 := by kernel_rfl
            have Hzs := Lib.hid hzs
            clear hzs
            go_upto_region 12 with (first
              | (refine wl_load_ask_at rfl _ rfl bA _ rfl ak hr0 ?_)
              | (refine wl_store_ask rfl _ _ rfl wr.heap.size ak rfl rfl _ Hzs.out (Blk.new _ _ _) ?_; intro w5 h13 hg13))
            have hB5 := below_grown (below_alloc (Below.refl wr.heap.size wr) (.cells Tryd.zeroCells40 40)) hg13 (Nat.le_refl _)
            obtain ⟨g13, hg13e⟩ : ∃ y, y = wr.heap.size := ⟨_, rfl⟩
            rw [← hg13e] at h13 ⊢
            replace hB1 := below_then hB1 hB5
            have hTx := Lib.hid (HTx.out.then_ hB5)
            clear hg13 hr0 hg13e HTx hB5
            try simp only [Act.put]
            have kT := table_any ak.x HSx.out w5 hTx.out
            have hxr := ask_dfa (RowAt.of_blk h13)
            go_upto_region 13 with (first
              | (refine wl_load_dfa_at rfl _ rfl g13 _ rfl ak.x hxr ?_)
              | (go_at_call 14; refine kT.mono ?_; clear kT; rintro e w6 ⟨hB6, y, rz, rfl, hO, hrz, hyT⟩; unfold TV.C'; have hzc := Blk.new w6 33 Tryd.zeroCells33; rw [zero_cells_dfa] at hzc)
              | (rw [zero_cells_dfa]; refine wl_store_dfa rfl _ _ rfl w6.heap.size rfl rfl hzc ?_; intro w7 h14 hg14))
            have hB7 := below_grown (below_alloc (Below.refl w6.heap.size w6) (.cells (dfaC (fun _ => 0) none 0 0 none 0 0 none 0 0) 33)) hg14 (Nat.le_refl _)
            obtain ⟨g14, hg14e⟩ : ∃ y, y = w6.heap.size := ⟨_, rfl⟩
            rw [← hg14e] at h14 ⊢
            have hB57 := below_then hB6 hB7
            replace hO := hO.then_ hB7
            replace hB1 := below_then hB1 hB57
            replace h13 := blk_then h13 hB57
            have hTx7 := hTx.out.then_ hB57
            have hTy7 : TabIn w7 w7.heap.size y := tabIn_own hyT HSx.out hTx7 hO
            clear hg14 hg14e hzc hB6 hB7 hxr
            try simp only [Act.put]
            obtain ⟨fb, hfb⟩ : ∃ b, b = fitsB ak.x.T := ⟨_, rfl⟩
            have hRy : ∀ W : World, Below w7.heap.size w7 W → Calls Tryd.prog 15 #[.agg (dfaC y.f y.A y.rs.length y.c y.B y.fo.length y.d y.C y.en.length y.e)] W fun e w' => e = .returned (.bool fb) ∧ Below W.heap.size W w' := fun W hW => by
              have h9 := s_right_any y W (hTy7.then_ hW)
              rw [hyT, ← hfb] at h9
              exact h9
            have hRx : ∀ W : World, Below w7.heap.size w7 W → Calls Tryd.prog 16 #[.agg ak.x.C'] W fun e w' => e = .returned (.bool fb) ∧ Below W.heap.size W w' := fun W hW => by
              have h9 := rright_any ak.x W (hTx7.then_ hW)
              rw [← hfb] at h9
              exact h9
            have HO := Lib.hid hO
            have HTx7 := Lib.hid hTx7
            have HTy7 := Lib.hid hTy7
            have HyT := Lib.hid hyT
            have Hrz := Lib.hid hrz
            clear hO hTx7 hTy7 hyT hrz hfb
            refine wp_region_steps 6 [eqS (.agg (dfaC y.f y.A y.rs.length y.c y.B y.fo.length y.d y.C y.en.length y.e)), eqS (.bool fb), eqS (.pointer (some ⟨g13, 0, none⟩)), eqS (.agg ak.x.C'), eqS (.bool fb), eqS (.bool false)] [69, 70, 71, 72, 73, 74] follows_mixed (by kernel_rfl) (by kernel_rfl) ?_ ?_
            · skip
              refine Steps.cons (fun a' w' hG hB dep => gs_load_dfa (want_none rfl) _ rfl g14 (hG.other 14 rfl) (blk_then h14 hB) rfl) ?_
              refine Steps.cons (fun a' w' hG hB dep => gs_call (want_none rfl) _ _ _ rfl enter_sright _ (map1 (dep 0 rfl 69 rfl)) ((hRy _ hB).mono fun e w2 ⟨hq9, hb9⟩ => ⟨_, hq9, hb9, rfl⟩)) ?_
              refine Steps.cons (fun a' w' hG hB dep => gs_field (want_none rfl) _ _ _ rfl g13 (0) (0) (hG.other 13 rfl) (fun wz => field_ask_0 g13 (0) wz) rfl) ?_
              refine Steps.cons (fun a' w' hG hB dep => gs_load_dfa_at (want_none rfl) _ rfl g13 0 (dep 2 rfl 71 rfl) ak.x (ask_dfa (RowAt.of_blk (blk_then h13 hB))) rfl) ?_
              refine Steps.cons (fun a' w' hG hB dep => gs_call (want_none rfl) _ _ _ rfl enter_srun' _ (map1 (dep 3 rfl 72 rfl)) ((hRx _ hB).mono fun e w2 ⟨hq9, hb9⟩ => ⟨_, hq9, hb9, rfl⟩)) ?_
              refine Steps.cons (fun a' w' hG hB dep => gs_neq_bool (want_none rfl) _ _ _ rfl _ _ (dep 1 rfl 70 rfl) (dep 4 rfl 73 rfl) (id (congrArg Value.bool (bne_self_eq_false _)))) ?_
              exact Steps.nil
            intro u w8 hwz ans
            have hus74 : u 74 = (.bool false) := ans 5 74 (by decide) rfl
            clear ans
            simp only [putAll, List.foldl_cons, List.foldl_nil, Act.put, List.setIfInBounds_toArray, List.set_cons_zero, List.set_cons_succ, hus74]
            clear hus74
            simp only [List.drop]
            refine wpList_nil ?_
            replace h13 := blk_then h13 hwz
            replace h14 := blk_then h14 hwz
            have hB8 := hwz
            clear hRx hRy hwz
            obtain ⟨rr, kk, hrk⟩ := runV_of (x := ak.x) ak.q
            have kRy := srun_any y ak.q Hqx.out w8 (HTy7.out.then_ hB8)
            rw [runV_eq HyT.out, hrk] at kRy
            unfold TV.C' at kRy
            have hcq : w8.cell? ⟨g13, 259, none⟩ = some (.string ak.q) := ask_line (RowAt.of_blk h13)
            have Hrk := Lib.hid hrk
            clear hrk
            go_upto_region 16 with (first
              | (refine wl_load_dfa rfl _ rfl g14 rfl h14 ?_)
              | (go_at_call 17; refine kRy.mono ?_; clear kRy; rintro e w9 ⟨rfl, hB9⟩))
            replace h13 := blk_then h13 hB9
            replace h14 := blk_then h14 hB9
            replace hB8 := below_then hB8 hB9
            clear hB9 hcq
            have kRx := rrun_any ak.x ak.q Hqx.out w9 (HTx7.out.then_ hB8)
            rw [Hrk.out] at kRx
            have hcq : w9.cell? ⟨g13, 259, none⟩ = some (.string ak.q) := ask_line (RowAt.of_blk h13)
            have hxr := ask_dfa (RowAt.of_blk h13)
            go_upto_region 17 with (first
              | (refine wl_load_dfa_at rfl _ rfl g13 _ rfl ak.x hxr ?_)
              | (go_at_call 18; refine kRx.mono ?_; clear kRx; rintro e w10 ⟨rfl, hB10⟩))
            replace h13 := blk_then h13 hB10
            replace h14 := blk_then h14 hB10
            replace hB8 := below_then hB8 hB10
            clear hB10 hcq hxr
            have hStay : ∀ W : World, Below w10.heap.size w10 W → Calls Tryd.prog 19 #[.agg (dfaC y.f y.A y.rs.length y.c y.B y.fo.length y.d y.C y.en.length y.e), .agg ak.x.C'] W fun e w' => e = .returned (.bool true) ∧ Below W.heap.size W w' := fun W hW =>
              stays_any ak.x y rz _ HyT.out Hrz.out HSx.out W ((HTx7.out.then_ hB8).then_ hW) ((HO.out.then_ hB8).then_ hW)
            refine wp_region_text 15 [eqS (.int .u32 (((rr : Nat) : Int))), eqS (.int .u32 (((rr : Nat) : Int))), eqS (.bool false), eqS (.bool false), eqS (vF (true && (false == false)) (.int .i64 (kk))), eqS (vF (true && (false == false)) (.int .i64 (kk))), eqS (vF (true && (false == false)) (.bool false)), eqS (.bool (false || false)), eqS (.bool (false || false)), eqS (vF (true && ((false || false) == false)) (.agg (dfaC y.f y.A y.rs.length y.c y.B y.fo.length y.d y.C y.en.length y.e))), eqS (vF (true && ((false || false) == false)) (.pointer (some ⟨g13, 0, none⟩))), eqS (vF (true && ((false || false) == false)) (.agg ak.x.C')), eqS (vF (true && ((false || false) == false)) (.bool true)), eqS (vF (true && ((false || false) == false)) (.bool (!true))), eqS (.bool ((false || false) || (!true)))] [90, 91, 92, 93, 94, 95, 96, 97, 98, 99, 100, 101, 102, 103, 104] (by kernel_rfl) (by kernel_rfl) ?_ ?_
            · skip
              refine Steps.cons (fun a' w' hG hB dep => gs_move (want_none rfl) _ rfl (id (hG.other 15 rfl))) ?_
              refine Steps.cons (fun a' w' hG hB dep => gs_move (want_none rfl) _ rfl (id (hG.other 17 rfl))) ?_
              refine Steps.cons (fun a' w' hG hB dep => gs_neq_int (want_none rfl) _ _ _ _ rfl _ _ _ (dep 0 rfl 90 rfl) (dep 1 rfl 91 rfl) (id (congrArg Value.bool (bne_self_eq_false _)))) ?_
              refine Steps.cons (fun a' w' hG hB dep => gs_move (want_none rfl) _ rfl (id (dep 2 rfl 92 rfl))) ?_
              refine Steps.cons (fun a' w' hG hB dep => gs_guard (c := true) (b' := false) rfl rfl (dep 3 rfl 93 rfl) (fun hc he hw => gs_move hw _ rfl (Eq.trans (hG.other 16 rfl) (vF_yes (on_g hc he) _).symm)) (fun hn => vF_no hn _)) ?_
              refine Steps.cons (fun a' w' hG hB dep => gs_guard (c := true) (b' := false) rfl rfl (dep 3 rfl 93 rfl) (fun hc he hw => gs_move hw _ rfl (Eq.trans (hG.other 18 rfl) (vF_yes (on_g hc he) _).symm)) (fun hn => vF_no hn _)) ?_
              refine Steps.cons (fun a' w' hG hB dep => gs_guard (c := true) (b' := false) rfl rfl (dep 3 rfl 93 rfl) (fun hc he hw => gs_neq_int hw _ _ _ _ rfl _ _ _ (Eq.trans (dep 4 rfl 94 rfl) (vF_yes (on_g hc he) _)) (Eq.trans (dep 5 rfl 95 rfl) (vF_yes (on_g hc he) _)) (Eq.trans (congrArg Value.bool (bne_self_eq_false _)) (vF_yes (on_g hc he) _).symm)) (fun hn => vF_no hn _)) ?_
              refine Steps.cons (fun a' w' hG hB dep => gs_pick (want_none rfl) _ _ _ rfl false (dep 3 rfl 93 rfl) (id (pick_or2 (c := true) rfl (dep 6 rfl 96 rfl)))) ?_
              refine Steps.cons (fun a' w' hG hB dep => gs_move (want_none rfl) _ rfl (id (dep 7 rfl 97 rfl))) ?_
              refine Steps.cons (fun a' w' hG hB dep => gs_guard (c := true) (b' := (false || false)) rfl rfl (dep 8 rfl 98 rfl) (fun hc he hw => gs_load_dfa hw _ rfl g14 (hG.other 14 rfl) (blk_then h14 hB) (vF_yes (on_g hc he) _).symm) (fun hn => vF_no hn _)) ?_
              refine Steps.cons (fun a' w' hG hB dep => gs_guard (c := true) (b' := (false || false)) rfl rfl (dep 8 rfl 98 rfl) (fun hc he hw => gs_field hw _ _ _ rfl g13 (0) (0) (hG.other 13 rfl) (fun wz => field_ask_0 g13 (0) wz) (vF_yes (on_g hc he) _).symm) (fun hn => vF_no hn _)) ?_
              refine Steps.cons (fun a' w' hG hB dep => gs_guard (c := true) (b' := (false || false)) rfl rfl (dep 8 rfl 98 rfl) (fun hc he hw => gs_load_dfa_at hw _ rfl g13 0 (Eq.trans (dep 10 rfl 100 rfl) (vF_yes (on_g hc he) _)) ak.x (ask_dfa (RowAt.of_blk (blk_then h13 hB))) (vF_yes (on_g hc he) _).symm) (fun hn => vF_no hn _)) ?_
              refine Steps.cons (fun a' w' hG hB dep => gs_guard (c := true) (b' := (false || false)) rfl rfl (dep 8 rfl 98 rfl) (fun hc he hw => gs_call hw _ _ _ rfl enter_stays _ (map2 (Eq.trans (dep 9 rfl 99 rfl) (vF_yes (on_g hc he) _)) (Eq.trans (dep 11 rfl 101 rfl) (vF_yes (on_g hc he) _))) ((hStay _ hB).mono fun e w2 ⟨hq9, hb9⟩ => ⟨_, hq9, hb9, (vF_yes (on_g hc he) _).symm⟩)) (fun hn => vF_no hn _)) ?_
              refine Steps.cons (fun a' w' hG hB dep => gs_guard (c := true) (b' := (false || false)) rfl rfl (dep 8 rfl 98 rfl) (fun hc he hw => gs_not_bool hw _ _ rfl _ (Eq.trans (dep 12 rfl 102 rfl) (vF_yes (on_g hc he) _)) (vF_yes (on_g hc he) _).symm) (fun hn => vF_no hn _)) ?_
              refine Steps.cons (fun a' w' hG hB dep => gs_pick (want_none rfl) _ _ _ rfl (false || false) (dep 8 rfl 98 rfl) (id (pick_or2 (c := true) rfl (dep 13 rfl 103 rfl)))) ?_
              exact Steps.nil
            intro u wz hwz ans
            have hus104 : u 104 = (.bool ((false || false) || (!true))) := ans 14 104 (by decide) rfl
            clear ans
            simp only [putAll, List.foldl_cons, List.foldl_nil, Act.put, List.setIfInBounds_toArray, List.set_cons_zero, List.set_cons_succ, hus104]
            clear hus104
            simp only [List.drop]
            refine wpList_nil ?_
            replace hB8 := below_then hB8 hwz
            rw [show ((false || false) || (!true)) = false from rfl]
            clear hStay hwz h13 h14
            go_wp2_with (fail)
            exact ⟨⟨i + 1, by omega, rfl, below_then hB1 hB8⟩, by simp only [intOf]; omega⟩
          · have hikI : ¬ (i : Int) < K := by omega
            go_wp2_with (fail)
            go_ret
            exact ⟨rfl, hB1⟩
end Go.Proofs.YtkedgombccdamaaDoor
namespace Go.Proofs.YtkedgombccdamaaDoor
open Go.ChangeShapes Go.WideShapes Go.ChangeAt Go.RowKit Go.Joins
set_option linter.unusedVariables false
set_option linter.unusedSimpArgs false

theorem cells_edge : Tryd.prog.cellsOf 76 = 7 := by kernel_rfl
theorem cells_nfa : Tryd.prog.cellsOf 25 = 3 := by kernel_rfl
section
variable {H : Type} {enc : TypeId × Value → H} {W : World} {held : Bool} {r : Go.Reach} {b0 : Nat} {v : Value} {d : DataW H} {ps : List MemPlace} {fuel : Nat}
set_option maxRecDepth 100000 in
theorem trod_edge {w : World} {base : Nat} {spare : Nat → Bool} {cs : List Value} {x : DataW H × List MemPlace} (h : DataW.trod enc Tryd.prog w base spare held fuel 76 cs = some x) : ∃ y : Edg, cs = (edgC y).toList := by
  obtain ⟨xs, n, _, _, hl, hlen, hf⟩ := DataW.trod_struct Tryd.underlying76 h
  rw [cells_edge] at hl
  have xsl : xs.length = 4 := hlen
  have h0 : DataW.trod enc Tryd.prog w base spare held n 3 ((cs.drop 0).take (Tryd.prog.cellsOf 3)) = xs[0]? := hf 0 _ rfl
  have h1 : DataW.trod enc Tryd.prog w base spare held n 3 ((cs.drop 1).take (Tryd.prog.cellsOf 3)) = xs[1]? := hf 1 _ rfl
  have h2 : DataW.trod enc Tryd.prog w base spare held n 3 ((cs.drop 2).take (Tryd.prog.cellsOf 3)) = xs[2]? := hf 2 _ rfl
  have h3 : DataW.trod enc Tryd.prog w base spare held n 52 ((cs.drop 3).take (Tryd.prog.cellsOf 52)) = xs[3]? := hf 3 _ rfl
  rw [cells_int, List.getElem?_eq_getElem (by omega)] at h0 h1 h2
  rw [cells_set, List.getElem?_eq_getElem (by omega)] at h3
  obtain ⟨z0, e0, _, _⟩ := DataW.trod_int Tryd.underlying3 h0
  obtain ⟨z1, e1, _, _⟩ := DataW.trod_int Tryd.underlying3 h1
  obtain ⟨z2, e2, _, _⟩ := DataW.trod_int Tryd.underlying3 h2
  obtain ⟨y, e3⟩ := trod_set h3
  refine ⟨⟨z0, z1, z2, y⟩, ?_⟩
  match cs, hl with
  | [c0, c1, c2, c3, c4, c5, c6], _ =>
    simp [setC] at e0 e1 e2 e3
    obtain ⟨e3, e4, e5, e6⟩ := e3
    subst e0 e1 e2 e3 e4 e5 e6
    simp [edgC]
/-- a slice, opened from its reading -/
theorem trod_slice_of {α : Type} {ea : α → Array Value} {t e : TypeId} {size : Nat} {x : DataW H × List MemPlace}
    (ht : Tryd.prog.underlying t = some (.slice e)) (hc : Tryd.prog.cellsOf e = size) (hpos : 0 < size) (hsz : ∀ y, (ea y).size = size)
    (hel : ∀ (fuel : Nat) (cs : List Value) (x : DataW H × List MemPlace), DataW.trod enc Tryd.prog W 0 (fun _ => true) held fuel e cs = some x → ∃ y, cs = (ea y).toList)
    (hf : DataW.trod enc Tryd.prog W 0 (fun _ => true) held fuel t [v] = some x) :
    ∃ (A : Option Addr) (n c : Nat) (l : List α), v = .slice A n c ∧ n = l.length ∧ n ≤ c ∧ c ≤ maxLen ∧ SliceOf W W.heap.size size ea A l ∧ ((x.1 = .nil ∧ n = 0) ∨ ∃ el sp, x.1 = .slice el sp ∧ el.length = n) := by
  rcases Deep.open_slice ht hf with ⟨hcs, hx⟩ | ⟨a, len, cap, m, n', D, Pl, hcs, _, hl, hm, hmm, hx, hi⟩
  · injection hcs with hcs _
    subst hcs
    exact ⟨none, 0, 0, [], rfl, rfl, Nat.le_refl _, by unfold maxLen; omega, .inl rfl, .inl ⟨by rw [hx], rfl⟩⟩
  · injection hcs with hcs _
    subst hcs
    have hmc : m = cap := by simpa using hmm
    subst hmc
    have key : ∀ i, i < len → ∃ y : α, W.cells? 0 (a.add (i * size)) size = some (ea y).toList := by
      intro i hlt
      obtain ⟨cs', h1, h2⟩ := hi i (by omega)
      obtain ⟨y, hy⟩ := hel _ _ _ h2
      rw [hc] at h1
      exact ⟨y, by rw [h1, hy]⟩
    obtain ⟨l, hll, hp⟩ := choose_list len key
    refine ⟨some a, len, m, l, rfl, hll.symm, hl, hm, ?_, .inr ⟨_, _, by rw [hx], by simp⟩⟩
    rcases Nat.eq_zero_or_pos l.length with h0 | h0
    · exact .inl (List.eq_nil_of_length_eq_zero h0)
    · have hcell : ∀ i (h : i < l.length) (j : Nat) (u : Value), (ea l[i])[j]? = some u → W.cell? ((a.add (i * size)).add j) = some u := by
        intro i h j u hu
        obtain ⟨_, hlen, hget⟩ := World.cells?_some (hp i h)
        have hj : j < size := by
          rw [← hsz l[i]]
          rcases Nat.lt_or_ge j (ea l[i]).size with h1 | h1
          · exact h1
          · rw [Array.getElem?_eq_none h1] at hu; cases hu
        rw [hget j hj]
        simpa using hu
      have hz : ∃ u, (ea l[0])[0]? = some u := ⟨_, Array.getElem?_eq_getElem (by rw [hsz]; exact hpos)⟩
      obtain ⟨u, hu⟩ := hz
      have h00 := hcell 0 h0 0 u hu
      have hsp : a.spot = none := by
        have := spot_none h00
        simpa [Addr.add] using this
      obtain ⟨b, off, spot⟩ := a
      simp only at hsp
      subst hsp
      have hb : b < W.heap.size := by
        have := block_lt_of_cell h00
        simpa [Addr.add] using this
      refine .inr ⟨b, off, rfl, hb, fun i h j u hu => ?_⟩
      have := hcell i h j u hu
      rw [addr_add, addr_add] at this
      exact this
end

end Go.Proofs.YtkedgombccdamaaDoor
namespace Go.Proofs.YtkedgombccdamaaDoor
open Go.ChangeShapes Go.WideShapes Go.ChangeAt Go.RowKit Go.Joins
set_option linter.unusedVariables false
set_option linter.unusedSimpArgs false

section
variable {H : Type}
theorem bulk_pos (d : DataW H) : 1 ≤ Rows.uptoBulk d := by
  cases d with
  | lit l => cases l <;> simp [Rows.uptoBulk]
  | _ => simp [Rows.uptoBulk]
theorem bulk_len : ∀ l : List (DataW H), l.length ≤ Rows.uptoBulkAll l
  | [] => by simp [Rows.uptoBulkAll]
  | d :: l => by
    have := bulk_pos d
    have := bulk_len l
    simp only [List.length_cons, Rows.uptoBulkAll]
    omega
theorem bulk_mem : ∀ (l : List (DataW H)) (d : DataW H), d ∈ l → Rows.uptoBulk d ≤ Rows.uptoBulkAll l
  | [], d, h => by simp at h
  | e :: l, d, h => by
    simp only [Rows.uptoBulkAll]
    rcases List.mem_cons.1 h with rfl | h
    · omega
    · have := bulk_mem l d h
      omega
end
section
variable {H : Type} {enc : TypeId × Value → H} {W : World} {held : Bool}
set_option maxRecDepth 100000 in
/-- a slice, opened from its reading, where what is read is of bulk at most K -/
theorem trod_slice_q {α : Type} {ea : α → Array Value} {t e : TypeId} {size K fuel : Nat} {v : Value} {x : DataW H × List MemPlace}
    (ht : Tryd.prog.underlying t = some (.slice e)) (hc : Tryd.prog.cellsOf e = size) (hpos : 0 < size) (hsz : ∀ y, (ea y).size = size)
    (hel : ∀ (fuel : Nat) (cs : List Value) (x : DataW H × List MemPlace), DataW.trod enc Tryd.prog W 0 (fun _ => true) held fuel e cs = some x → Rows.uptoBulk x.1 + 1 ≤ K → ∃ y, cs = (ea y).toList)
    (hf : DataW.trod enc Tryd.prog W 0 (fun _ => true) held fuel t [v] = some x) (hK : Rows.uptoBulk x.1 ≤ K) :
    ∃ (A : Option Addr) (n c : Nat) (l : List α), v = .slice A n c ∧ n = l.length ∧ n ≤ K ∧ SliceOf W W.heap.size size ea A l := by
  rcases Deep.open_slice ht hf with ⟨hcs, hx⟩ | ⟨a, len, cap, m, n', D, Pl, hcs, _, hl, hm, hmm, hx, hi⟩
  · injection hcs with hcs _
    subst hcs
    exact ⟨none, 0, 0, [], rfl, rfl, by omega, .inl rfl⟩
  · injection hcs with hcs _
    subst hcs
    have hmc : m = cap := by simpa using hmm
    subst hmc
    rw [hx] at hK
    simp only [Rows.uptoBulk] at hK
    have hlen := bulk_len ((List.range len).map D)
    rw [List.length_map, List.length_range] at hlen
    have key : ∀ i, i < len → ∃ y : α, W.cells? 0 (a.add (i * size)) size = some (ea y).toList := by
      intro i hlt
      obtain ⟨cs', h1, h2⟩ := hi i (by omega)
      have hb := bulk_mem ((List.range len).map D) (D i) (List.mem_map_of_mem (List.mem_range.2 hlt))
      obtain ⟨y, hy⟩ := hel _ _ _ h2 (by simp only; omega)
      rw [hc] at h1
      exact ⟨y, by rw [h1, hy]⟩
    obtain ⟨l, hll, hp⟩ := choose_list len key
    refine ⟨some a, len, m, l, rfl, hll.symm, by omega, ?_⟩
    rcases Nat.eq_zero_or_pos l.length with h0 | h0
    · exact .inl (List.eq_nil_of_length_eq_zero h0)
    · have hcell : ∀ i (h : i < l.length) (j : Nat) (u : Value), (ea l[i])[j]? = some u → W.cell? ((a.add (i * size)).add j) = some u := by
        intro i h j u hu
        obtain ⟨_, hlen, hget⟩ := World.cells?_some (hp i h)
        have hj : j < size := by
          rw [← hsz l[i]]
          rcases Nat.lt_or_ge j (ea l[i]).size with h1 | h1
          · exact h1
          · rw [Array.getElem?_eq_none h1] at hu; cases hu
        rw [hget j hj]
        simpa using hu
      have hz : ∃ u, (ea l[0])[0]? = some u := ⟨_, Array.getElem?_eq_getElem (by rw [hsz]; exact hpos)⟩
      obtain ⟨u, hu⟩ := hz
      have h00 := hcell 0 h0 0 u hu
      have hsp : a.spot = none := by
        have := spot_none h00
        simpa [Addr.add] using this
      obtain ⟨b, off, spot⟩ := a
      simp only at hsp
      subst hsp
      have hb : b < W.heap.size := by
        have := block_lt_of_cell h00
        simpa [Addr.add] using this
      refine .inr ⟨b, off, rfl, hb, fun i h j u hu => ?_⟩
      have := hcell i h j u hu
      rw [addr_add, addr_add] at this
      exact this
theorem bulk_nth {xs : List (DataW H × List MemPlace)} (i : Nat) (h : i < xs.length) : Rows.uptoBulk (xs[i]).1 ≤ Rows.uptoBulkAll (xs.map (·.1)) :=
  bulk_mem _ _ (List.mem_map_of_mem (List.getElem_mem h))
variable {r : Go.Reach} {b0 : Nat} {v : Value} {d : DataW H} {ps : List MemPlace}
end
end Go.Proofs.YtkedgombccdamaaDoor
namespace Go.Proofs.YtkedgombccdamaaDoor
open Go.ChangeShapes Go.WideShapes Go.ChangeAt Go.RowKit Go.Joins
set_option linter.unusedVariables false
set_option linter.unusedSimpArgs false

section
variable {H : Type}
/-- the bulk of a machine tells its lists' lengths -/
theorem bulk_nfa {q0 q1 q2 : DataW H} {n m K : Nat} (h1 : (q1 = .nil ∧ n = 0) ∨ ∃ el sp, q1 = .slice el sp ∧ el.length = n) (h2 : (q2 = .nil ∧ m = 0) ∨ ∃ el sp, q2 = .slice el sp ∧ el.length = m) (h : Rows.uptoBulk (.agg [q0, q1, q2]) ≤ K) : n ≤ K ∧ m ≤ K := by
  simp only [Rows.uptoBulk, Rows.uptoBulkAll] at h
  constructor
  · rcases h1 with ⟨_, e⟩ | ⟨el, sp, rfl, e⟩
    · omega
    · have := bulk_len el
      simp only [Rows.uptoBulk] at h
      omega
  · rcases h2 with ⟨_, e⟩ | ⟨el, sp, rfl, e⟩
    · omega
    · have := bulk_len el
      simp only [Rows.uptoBulk] at h
      omega
end
section
variable {H : Type} {enc : TypeId × Value → H} {W : World} {held : Bool} {r : Go.Reach} {b0 : Nat} {v : Value} {d : DataW H} {ps : List MemPlace} {fuel : Nat}
set_option maxRecDepth 100000 in
theorem open_nfa2 (hval : Value.okWide Tryd.prog W r b0 25 v) (hd : DataW.Trod enc Tryd.prog W 0 (fun _ => true) held 25 v d ps) :
    ∃ (s : Int) (A : Option Addr) (n c : Nat) (B : Option Addr) (m e : Nat) (es : List Edg) (rs : List Nat) (q0 q1 q2 : DataW H), v = .agg (nfaC s A n c B m e) ∧ n = es.length ∧ SliceOf W W.heap.size 7 edgC A es ∧
      m = rs.length ∧ SliceOf W W.heap.size 1 encR B rs ∧ (∀ x ∈ rs, x < 4294967296) ∧ d = .agg [q0, q1, q2] ∧ ((q1 = .nil ∧ n = 0) ∨ ∃ el sp, q1 = .slice el sp ∧ el.length = n) ∧ ((q2 = .nil ∧ m = 0) ∨ ∃ el sp, q2 = .slice el sp ∧ el.length = m) := by
  obtain ⟨v0, v1, v2, y0, y1, y2, k, rfl, rfl, rfl, h0, h1, h2⟩ := open_agg3 Tryd.underlying25 (by kernel_rfl) cells_nfa hval hd
  obtain ⟨s, hs, _, hw⟩ := DataW.trod_int Tryd.underlying3 h0
  injection hs with hs _
  subst hs
  obtain ⟨A, n, c, es, rfl, hn, hc, hcm, hsl, hq1⟩ := trod_slice_of (size := 7) (ea := edgC) Tryd.underlying22 cells_edge (by omega) edgC_size (fun _ _ _ h => trod_edge h) h1
  obtain ⟨B, m, e, rs, rfl, hm, he, hem, hsr, hq2⟩ := trod_slice_of (size := 1) (ea := fun z : {z : Nat // z < 4294967296} => encR z.1) Tryd.underlying23 (by kernel_rfl) (by omega) (fun z => rfl) (fun _ _ _ h => by
    obtain ⟨z, hz, _, hw⟩ := DataW.trod_int Tryd.underlying43 h
    have h2 : IntKind.u32.min = 0 := by decide
    have h3 : IntKind.u32.max = 4294967295 := by decide
    simp only [Lit.wf, Bool.and_eq_true, decide_eq_true_eq] at hw
    obtain ⟨z', rfl⟩ := Int.eq_ofNat_of_zero_le (show 0 ≤ z by omega)
    exact ⟨⟨z', by omega⟩, by rw [hz]; rfl⟩) h2
  refine ⟨s, A, n, c, B, m, e, es, rs.map (·.1), _, _, _, rfl, hn, hsl, by rw [List.length_map]; exact hm, ?_, ?_, rfl, hq1, hq2⟩
  · rcases hsr with h | ⟨b, off, h1, h2, h3⟩
    · exact .inl (by rw [h]; rfl)
    · refine .inr ⟨b, off, h1, h2, fun i hi => ?_⟩
      rw [List.getElem_map]
      exact h3 i (by simpa using hi)
  · intro x hx
    obtain ⟨z, _, rfl⟩ := List.mem_map.1 hx
    exact z.2
end

theorem witness_and {H : Type} {enc : TypeId × Value → H} {C : Checked} {os : Os} {f : FuncId} {fn : Func} {s : OpenSpec} {k : (H : Type) → List (DataW H) → Bool} (hk : s.cond = some k) {conds : List PathCond} {apart : Bool} {X : World → Prop} (modest : Bool) (w0 : World) (args : Array Value) (fuel : Nat) (hos : w0.os = os)
    (hsh : (w0.forCall (fun _ _ => 0) ⟨#[], args, []⟩).Shaped C.prog)
    (hok : Input.okWideB C.prog (w0.forCall (fun _ _ => 0) ⟨#[], args, []⟩) f ⟨#[], args, []⟩ = true)
    {x : List (DataW H) × List (DataW H) × List MemPlace} (hx : DataW.whole enc C.prog (w0.forCall (fun _ _ => 0) ⟨#[], args, []⟩).memory fn.params.toList s.vars apart args.toList fuel = some x)
    (hconds : conds.all (PathCond.test C.prog ⟨fn.params.toList, x.1, s.bare.plain.varTypes C.prog, x.2.1⟩) = true) (hkk : k H (x.1 ++ x.2.1) = true)
    (hsz : s.bare.sizedB enc C.prog fn apart (w0.forCall (fun _ _ => 0) ⟨#[], args, []⟩).memory args fuel = true)
    (hX : X (w0.forCall (fun _ _ => 0) ⟨#[], args, []⟩).memory) :
    ∃ (w : World) (tape : Tape) (i : Input), w.os = os ∧ (w.forCall tape i).Shaped C.prog ∧ i.vars = [] ∧ Input.okWide C.prog (w.forCall tape i) .any w.heap.size f i ∧
      ((s.pre enc C.prog fn conds apart (w.forCall tape i).memory i.args ∧ X (w.forCall tape i).memory) ∧ sizedMet enc C.prog fn s apart (w.forCall tape i).memory i.args) ∧ ({ modest := modest } : Assume).holds C.prog (lone (Frame.enter C.prog f i.args .normal) [] (w.forCall tape i)) :=
  ⟨w0, fun _ _ => 0, ⟨#[], args, []⟩, hos, hsh, (Input.okWide_of_okWideB (base := 0) hok).1, (Input.okWide_of_okWideB hok).2,
    ⟨⟨(OpenSpec.pre_some hk conds apart _ _).2 ⟨x.1, x.2.1, x.2.2, DataW.Whole_of_whole hx, hconds, hkk⟩, hX⟩, sizedMet_of_sizedB hsz⟩, by
    simp only [Assume.holds]
    exact ⟨by simp, by simp, fun _ => Modest.zero, by simp, by simp⟩⟩
end Go.Proofs.YtkedgombccdamaaDoor
namespace Go.Proofs.YtkedgombccdamaaDoor
open Go.ChangeShapes Go.WideShapes Go.ChangeAt Go.RowKit
open Go.ChangeMaps (open_string shut_string)
set_option linter.unusedVariables false
set_option linter.unusedSimpArgs false

theorem bulk_str {H : Type} {l : List UInt8} {K : Nat} (h : Rows.uptoBulk (DataW.lit (H := H) (.string l)) ≤ K) : l.length ≤ K := by
  simp only [Rows.uptoBulk] at h
  omega
end Go.Proofs.YtkedgombccdamaaDoor
namespace Go.Proofs.YtkedgombccdamaaDoor
open Go.ChangeShapes Go.WideShapes Go.ChangeAt Go.RowKit Go.Joins
set_option linter.unusedVariables false
set_option linter.unusedSimpArgs false

/-- a row whose specification has a condition of its own, that wants a word on the world besides; the world's shape kept -/
theorem returnsInHanded_of_cond_and_shaped {H : Type} {enc : TypeId × Value → H} {a : Assume} {C : Checked} {os : Os} {f : FuncId} {fn : Func} {s : OpenSpec} {k : (H : Type) → List (DataW H) → Bool} (hk : s.cond = some k) {F : Stop.Interp} {conds : List PathCond} {apart fresh handsOn again : Bool} {X : World → Prop}
    (hX : ∀ (w w' : World), w.heap = w'.heap → X w → X w')
    (own : ownKnob C.prog.godebug = none) (started : os.Started) (noInit : C.prog.inits.idxOf? f = none) (hfn : C.prog.funcs[f]? = some fn)
    (witness : ∃ (w : World) (tape : Tape) (i : Input), w.os = os ∧ (w.forCall tape i).Shaped C.prog ∧ i.vars = [] ∧ Input.okWide C.prog (w.forCall tape i) .any w.heap.size f i ∧
      ((s.pre enc C.prog fn conds apart (w.forCall tape i).memory i.args ∧ X (w.forCall tape i).memory) ∧ sizedMet enc C.prog fn s apart (w.forCall tape i).memory i.args) ∧ a.holds C.prog (lone (Frame.enter C.prog f i.args .normal) [] (w.forCall tape i)))
    (contract : ∀ (W : World) (base : Nat) (args : Array Value) (ds gs : List (DataW H)) (before : List MemPlace),
      (∀ (j : Nat) t v, fn.params[j]? = some t → args[j]? = some v → Value.okWide C.prog W .any base t v) →
      DataW.Whole enc C.prog fn.params.toList s.vars apart W args.toList ds gs before →
      conds.all (PathCond.test C.prog ⟨fn.params.toList, ds, s.bare.plain.varTypes C.prog, gs⟩) = true → k H (ds ++ gs) = true → X W → W.ShapedOpen C.prog →
      a.holds C.prog (lone (Frame.enter C.prog f args .normal) [] W) →
      Calls C.prog f args W fun e W' => ∃ v, e = .returned v ∧ (s.at F).post enc C.prog fn apart fresh handsOn again W args v W') :
    ReturnsInHanded a C os f .any (fun w args => (s.pre enc C.prog fn conds apart w args ∧ X w) ∧ sizedMet enc C.prog fn s apart w args) ((s.at F).post enc C.prog fn apart fresh handsOn again) := by
  refine returnsInHanded_of_calls own started noInit witness ?_
  intro w tape i _ hsh _ hok hpre hholds
  obtain ⟨_, _, _, fn', hfn', _, _, _, _, hval⟩ := hok
  have e : fn' = fn := Option.some.inj (hfn'.symm.trans hfn)
  subst e
  obtain ⟨ds, gs, before, hw, hc, hkk⟩ := (OpenSpec.pre_some hk conds apart _ _).1 hpre.1.1
  have hw' := DataW.Whole.of_heap (w' := w.forCall tape i) (by rfl) hw
  refine (contract (w.forCall tape i) w.heap.size i.args ds gs before hval hw' hc hkk (hX _ _ (by rfl) hpre.1.2) hsh hholds).mono fun e W' ⟨v, he, hp⟩ => ?_
  subst he
  exact ChangeSpec.post_blind hp
end Go.Proofs.YtkedgombccdamaaDoor
namespace Go.Proofs.YtkedgombccdamaaDoor
open Go.ChangeShapes Go.WideShapes Go.ChangeAt Go.RowKit Go.Joins
set_option linter.unusedVariables false
set_option linter.unusedSimpArgs false

section
variable {H : Type} {enc : TypeId × Value → H} {W : World} {held : Bool}
set_option maxRecDepth 100000 in
theorem trod_cls {fuel : Nat} {cs : List Value} {x : DataW H × List MemPlace} (h : DataW.trod enc Tryd.prog W 0 (fun _ => true) held fuel 30 cs = some x) : ∃ f : Nat → Int, cs = (clsC f).toList := by
  obtain ⟨xs, m, _, _, hl, hn, hi⟩ := DataW.trod_array Tryd.underlying30 h
  rw [show Tryd.prog.cellsOf 30 = 256 by kernel_rfl] at hl
  have key : ∀ i, i < 256 → ∃ z : Int, cs[i]? = some (.int .i64 z) := by
    intro i hlt
    have h1 := hi i hlt
    rw [show Tryd.prog.cellsOf 3 = 1 by kernel_rfl, Nat.mul_one] at h1
    have hx : xs[i]? = some xs[i] := List.getElem?_eq_getElem (by omega)
    rw [hx] at h1
    obtain ⟨z, hc, _, hw⟩ := DataW.trod_int Tryd.underlying3 h1
    refine ⟨z, ?_⟩
    have : ((cs.drop i).take 1)[0]? = some (.int .i64 z) := by rw [hc]; rfl
    simpa using this
  obtain ⟨l, hll, hp⟩ := choose_list 256 key
  refine ⟨fun i => l.getD i 0, ?_⟩
  apply List.ext_getElem?
  intro i
  have e : (clsC fun i => l.getD i 0).toList[i]? = (clsC fun i => l.getD i 0)[i]? := by simp
  rw [e]
  by_cases h2 : i < 256
  · rw [clsC_at _ i h2, hp i (by omega)]
    simp [List.getD_eq_getElem?_getD, List.getElem?_eq_getElem (show i < l.length by omega)]
  · rw [List.getElem?_eq_none (by omega), Array.getElem?_eq_none (by rw [clsC_size]; omega)]
set_option maxRecDepth 100000 in
theorem trod_u32s {t K n : Nat} {v : Value} {x : DataW H × List MemPlace} (h : DataW.trod enc Tryd.prog W 0 (fun _ => true) held n 23 [v] = some x) (hb : Rows.uptoBulk x.1 ≤ K) :
    ∃ (A : Option Addr) (n c : Nat) (l : List Nat), v = .slice A n c ∧ n = l.length ∧ n ≤ K ∧ SliceOf W W.heap.size 1 encR A l ∧ ∀ y ∈ l, y < 4294967296 := by
  obtain ⟨B, m, e, rs, rfl, hm, hmK, hsr⟩ := trod_slice_q (K := K) (size := 1) (ea := fun z : {z : Nat // z < 4294967296} => encR z.1) Tryd.underlying23 (by kernel_rfl) (by omega) (fun z => rfl) (fun _ _ _ h _ => by
    obtain ⟨z, hz, _, hw⟩ := DataW.trod_int Tryd.underlying43 h
    have h2 : IntKind.u32.min = 0 := by decide
    have h3 : IntKind.u32.max = 4294967295 := by decide
    simp only [Lit.wf, Bool.and_eq_true, decide_eq_true_eq] at hw
    obtain ⟨z', rfl⟩ := Int.eq_ofNat_of_zero_le (show 0 ≤ z by omega)
    exact ⟨⟨z', by omega⟩, by rw [hz]; rfl⟩) h hb
  refine ⟨B, m, e, rs.map (·.1), rfl, by rw [List.length_map]; exact hm, hmK, ?_, fun y hy => ?_⟩
  · rcases hsr with h | ⟨b, off, q1, q2, q3⟩
    · exact .inl (by rw [h]; rfl)
    · refine .inr ⟨b, off, q1, q2, fun i hi => ?_⟩
      simp only [List.getElem_map]
      exact q3 i (by simpa using hi)
  · obtain ⟨z, _, rfl⟩ := List.mem_map.1 hy
    exact z.2
/-- a row opened -/
theorem trod_row {K n : Nat} (hK : K ≤ 1048576) (fuel : Nat) (cs : List Value) (x : DataW H × List MemPlace) (h : DataW.trod enc Tryd.prog W 0 (fun _ => true) held fuel 67 cs = some x) (hb : Rows.uptoBulk x.1 ≤ K) :
    ∃ r : RV, cs = (rowC r).toList ∧ SliceOf W W.heap.size 1 encZ r.a r.l ∧ r.l.length ≤ 1048576 := by
  obtain ⟨v, rfl⟩ : ∃ v, cs = [v] := by
    rcases Deep.open_slice Tryd.underlying67 h with ⟨hcs, _⟩ | ⟨a, len, cap, m, n', D, Pl, hcs, _⟩
    · exact ⟨_, hcs⟩
    · exact ⟨_, hcs⟩
  obtain ⟨A, m, c, l, rfl, hm, hmK, hs⟩ := trod_slice_q (K := K) (size := 1) (ea := encZ) Tryd.underlying67 (by kernel_rfl) (by omega) encZ_size (fun _ _ _ h _ => by
    obtain ⟨z, hz, _, _⟩ := DataW.trod_int Tryd.underlying3 h
    exact ⟨z, by rw [hz]; rfl⟩) h hb
  subst hm
  exact ⟨⟨A, c, l⟩, rfl, hs, by simp only; omega⟩
set_option maxRecDepth 100000 in
theorem trod_dfa {fuel : Nat} {cs : List Value} {x : DataW H × List MemPlace} (h : DataW.trod enc Tryd.prog W 0 (fun _ => true) held fuel 33 cs = some x) (hb : Rows.uptoBulk x.1 ≤ 1048576) :
    ∃ y : TV, cs = y.C'.toList ∧ TabIn W W.heap.size y ∧ y.rs.length ≤ 1048576 ∧ (∀ r ∈ y.rs, r.l.length ≤ 1048576) ∧ y.fo.length ≤ 1048576 ∧ y.en.length ≤ 1048576 := by
  obtain ⟨xs, n, _, hx, hl, hlen, hf⟩ := DataW.trod_struct Tryd.underlying33 h
  rw [show Tryd.prog.cellsOf 33 = 259 by kernel_rfl] at hl
  have xsl : xs.length = 4 := hlen
  have h0 : DataW.trod enc Tryd.prog W 0 (fun _ => true) held n 30 ((cs.drop 0).take (Tryd.prog.cellsOf 30)) = xs[0]? := hf 0 _ rfl
  have h1 : DataW.trod enc Tryd.prog W 0 (fun _ => true) held n 31 ((cs.drop 256).take (Tryd.prog.cellsOf 31)) = xs[1]? := hf 1 _ rfl
  have h2 : DataW.trod enc Tryd.prog W 0 (fun _ => true) held n 23 ((cs.drop 257).take (Tryd.prog.cellsOf 23)) = xs[2]? := hf 2 _ rfl
  have h3 : DataW.trod enc Tryd.prog W 0 (fun _ => true) held n 23 ((cs.drop 258).take (Tryd.prog.cellsOf 23)) = xs[3]? := hf 3 _ rfl
  rw [show Tryd.prog.cellsOf 30 = 256 by kernel_rfl, List.getElem?_eq_getElem (by omega), List.drop_zero] at h0
  rw [show Tryd.prog.cellsOf 31 = 1 by kernel_rfl, List.getElem?_eq_getElem (by omega)] at h1
  rw [show Tryd.prog.cellsOf 23 = 1 by kernel_rfl, List.getElem?_eq_getElem (by omega)] at h2 h3
  have one : ∀ i (hi : i < cs.length), (cs.drop i).take 1 = [cs[i]] := fun i hi => by
    rw [List.drop_eq_getElem_cons hi]; rfl
  have e1 := one 256 (by omega)
  have e2 := one 257 (by omega)
  have e3 := one 258 (by omega)
  have h4 : cs.drop 256 = [cs[256], cs[257], cs[258]] := by
    rw [List.drop_eq_getElem_cons (by omega), List.drop_eq_getElem_cons (by omega), List.drop_eq_getElem_cons (by omega), List.drop_eq_nil_of_le (by omega)]
  obtain ⟨v1, ev1⟩ : ∃ v, v = cs[256] := ⟨_, rfl⟩
  obtain ⟨v2, ev2⟩ : ∃ v, v = cs[257] := ⟨_, rfl⟩
  obtain ⟨v3, ev3⟩ : ∃ v, v = cs[258] := ⟨_, rfl⟩
  rw [← ev1] at e1 h4
  rw [← ev2] at e2 h4
  rw [← ev3] at e3 h4
  rw [e1] at h1
  rw [e2] at h2
  rw [e3] at h3
  have hb1 := bulk_nth 1 (show 1 < xs.length by omega)
  have hb2 := bulk_nth 2 (show 2 < xs.length by omega)
  have hb3 := bulk_nth 3 (show 3 < xs.length by omega)
  rw [hx] at hb
  simp only [Rows.uptoBulk] at hb
  obtain ⟨f, e0⟩ := trod_cls h0
  obtain ⟨A, n1, c1, l, q1, hn1, hk1, hs1⟩ := trod_slice_q (K := 1048576) (size := 1) (ea := fun z : {r : RV // SliceOf W W.heap.size 1 encZ r.a r.l ∧ r.l.length ≤ 1048576} => rowC z.1) Tryd.underlying31 (by kernel_rfl) (by omega) (fun z => rfl) (fun fuel cs x hx hb => by
    obtain ⟨r, e, h⟩ := trod_row (K := 1048576) (n := 0) (Nat.le_refl _) fuel cs x hx (by omega)
    exact ⟨⟨r, h⟩, e⟩) h1 (by omega)
  obtain ⟨B, n2, c2, fo, q2, hn2, hk2, hs2, hf2⟩ := trod_u32s (t := 0) (K := 1048576) h2 (by omega)
  obtain ⟨C, n3, c3, en, q3, hn3, hk3, hs3, hf3⟩ := trod_u32s (t := 0) (K := 1048576) h3 (by omega)
  subst hn1 hn2 hn3
  have hcs : cs = (clsC f).toList ++ [v1, v2, v3] := by
    rw [← e0, ← h4, List.take_append_drop]
  refine ⟨⟨f, l.map (·.1), A, c1, fo, B, c2, en, C, c3⟩, ?_, ⟨?_, fun r hr => ?_, hs2, hs3, ?_, fun r hr => ?_, ?_, ?_, hf2, hf3⟩, ?_, fun r hr => ?_, hk2, hk3⟩
  · rw [hcs, q1, q2, q3]
    unfold TV.C' dfaC
    simp
  · rcases hs1 with h | ⟨b, off, q1, q2, q3⟩
    · exact .inl (by simp only; rw [h]; rfl)
    · refine .inr ⟨b, off, q1, q2, fun i hi => ?_⟩
      simp only [List.getElem_map]
      exact q3 i (by simpa using hi)
  · obtain ⟨z, _, rfl⟩ := List.mem_map.1 hr
    exact z.2.1
  · simp only [List.length_map]; omega
  · obtain ⟨z, _, rfl⟩ := List.mem_map.1 hr
    have := z.2.2
    omega
  · simp only; omega
  · simp only; omega
  · simp only [List.length_map]; omega
  · obtain ⟨z, _, rfl⟩ := List.mem_map.1 hr
    exact z.2.2

set_option maxRecDepth 100000 in
theorem trod_ask {fuel : Nat} {cs : List Value} {x : DataW H × List MemPlace} (h : DataW.trod enc Tryd.prog W 0 (fun _ => true) held fuel 40 cs = some x) (hb : Rows.uptoBulk x.1 ≤ 1048576) : ∃ y : AV, cs = (encA y).toList ∧ AOk W W.heap.size y := by
  obtain ⟨xs, n, _, hx, hl, hlen, hf⟩ := DataW.trod_struct Tryd.underlying40 h
  rw [show Tryd.prog.cellsOf 40 = 260 by kernel_rfl] at hl
  have xsl : xs.length = 2 := hlen
  have h0 : DataW.trod enc Tryd.prog W 0 (fun _ => true) held n 33 ((cs.drop 0).take (Tryd.prog.cellsOf 33)) = xs[0]? := hf 0 _ rfl
  have h1 : DataW.trod enc Tryd.prog W 0 (fun _ => true) held n 9 ((cs.drop 259).take (Tryd.prog.cellsOf 9)) = xs[1]? := hf 1 _ rfl
  rw [show Tryd.prog.cellsOf 33 = 259 by kernel_rfl, List.getElem?_eq_getElem (by omega), List.drop_zero] at h0
  rw [cells_string, List.getElem?_eq_getElem (by omega)] at h1
  have hb0 := bulk_nth 0 (show 0 < xs.length by omega)
  have hb1 := bulk_nth 1 (show 1 < xs.length by omega)
  rw [hx] at hb
  simp only [Rows.uptoBulk] at hb
  obtain ⟨y, e0, hT, q1, q2, q3, q4⟩ := trod_dfa h0 (by omega)
  obtain ⟨s, hc, hd, _⟩ := DataW.trod_string Tryd.underlying9 h1
  have hs : s.size ≤ 1048576 := by
    rw [hd] at hb1
    have hb2 : Rows.uptoBulk (DataW.lit (H := H) (.string s.data.toList)) ≤ 1048576 := by
      have h9 : Rows.uptoBulk (DataW.lit (H := H) (.string s.data.toList)) ≤ Rows.uptoBulkAll (xs.map (·.1)) := hb1
      omega
    have := bulk_str (H := H) (l := s.data.toList) (K := 1048576) hb2
    simpa using this
  have hcs : cs = y.C'.toList ++ [.string s] := by
    rw [← e0]
    have : cs.drop 259 = [.string s] := by
      rw [← hc, List.take_of_length_le (by rw [List.length_drop]; omega)]
    rw [← this, List.take_append_drop]
  exact ⟨⟨y, s⟩, by rw [hcs]; unfold encA; simp, hT, ⟨q1, q2, q3, q4⟩, by simp only; omega⟩
end
section
variable {H : Type} {enc : TypeId × Value → H} {W : World} {held : Bool} {r : Go.Reach} {b0 : Nat} {v : Value} {d : DataW H} {ps : List MemPlace}
set_option maxRecDepth 100000 in
theorem open_asks (hval : Value.okWide Tryd.prog W r b0 26 v) (hd : DataW.Trod enc Tryd.prog W 0 (fun _ => true) held 26 v d ps) (hK : Rows.uptoBulk d ≤ 1048576) :
    ∃ (A : Option Addr) (n c : Nat) (l : List AV), v = .slice A n c ∧ n = l.length ∧ n ≤ 1048576 ∧ n ≤ c ∧ SliceOf W W.heap.size 260 encA A l ∧ ∀ a ∈ l, AOk W W.heap.size a := by
  obtain ⟨A0, n0, c0, rfl⟩ := okWide_slice Tryd.underlying26 hval
  have hcap := (open_cap Tryd.underlying26 hd).1
  obtain ⟨fuel, hf⟩ := hd
  obtain ⟨A, n, c, l, h1, h2, h3, h4⟩ := trod_slice_q (K := 1048576) (v := .slice A0 n0 c0) (α := {a : AV // AOk W W.heap.size a}) (ea := fun a => encA a.1) (size := 260) Tryd.underlying26 (by kernel_rfl) (by omega) (fun a => encA_size a.1) (fun fuel cs x hx hxK => by
    obtain ⟨y, e, hy⟩ := trod_ask hx (by omega)
    exact ⟨⟨y, hy⟩, e⟩) (by simpa [Value.cells] using hf) hK
  injection h1 with q1 q2 q3
  subst q1 q2 q3
  refine ⟨A0, n0, c0, l.map (·.1), rfl, by rw [List.length_map]; exact h2, h3, hcap, ?_, fun a ha => ?_⟩
  · rcases h4 with h | ⟨b, off, e1, e2, e3⟩
    · exact .inl (by rw [h]; rfl)
    · refine .inr ⟨b, off, e1, e2, fun i hi => ?_⟩
      rw [List.getElem_map]
      exact e3 i (by simpa using hi)
  · obtain ⟨z, _, rfl⟩ := List.mem_map.1 ha
    exact z.2
end
end Go.Proofs.YtkedgombccdamaaDoor
