/- The walk of bears. -/
import Derived.Test.YtjpiebapemalfaaStore
import Derived.Test.YtjpiebapemalfaaSetsWalk
import Derived.Test.YtjpiebapemalfaaGs5
namespace Go.Proofs.Ytjpiebapemalfaa
open Go.RowKit Go.Maps Go.WideMaps
set_option linter.unusedVariables false
set_option linter.unusedSimpArgs false

set_option maxRecDepth 100000 in
set_option maxHeartbeats 1000000 in
theorem bears_any (A : Option Addr) (n c : Nat) (l : List BSet) (X : BSet) (x : Int) (w : World) (hX : Hid (setC X = #[.int .u64 x, .int .u64 x, .int .u64 x, .int .u64 x])) (hall : ∀ y ∈ l, y = X) (hn : n = l.length) (hm : n ≤ maxLen) (hs : SliceOf w w.heap.size 4 setC A l) :
    Calls Try.prog 16 #[.slice A n c, .int .u64 x] w fun e w' => e = .returned (.bool true) ∧ Below w.heap.size w w' := by
  have Hn := Lib.hid hn
  have Hall := Lib.hid hall
  clear hn hall
  unfold maxLen at hm
  go_enter Try.func16, Try.ntmps16
  go_wp2
  go_loopw [8] (fun i wr => ∃ k : Nat, k ≤ n ∧ i = .int .i64 k ∧ Below w.heap.size w wr) (fun i _ => n - (intOf i).toNat)
  case atStart => exact ⟨0, by omega, rfl, Below.refl _ _⟩
  case round =>
    obtain ⟨k, hk, rfl, hB⟩ := hrel
    by_cases hlt : k < n
    · have hkl : k < l.length := by have := Hn.out; omega
      have hkI : (k : Int) < n := by omega
      obtain ⟨b0, off, rfl, hbl, hrow⟩ := (hs.below hB).at_ (by omega)
      have hr := hrow k hkl
      have hb2 : b0 < wr.heap.size := by have := hB.size; omega
      have hx : Hid (l[k] = X) := Lib.hid (Hall.out _ (List.getElem_mem hkl))
      have hB0 := hB
      clear hrow hB
      go_upto_region 4 with (fail)
      refine wp_region_text 10 [eqS (.slice (some ⟨b0, off, none⟩) n c), eqS (.int .i64 ((k : Int))), eqS (.pointer (some ⟨b0, off + k * 4, none⟩)), eqS (.agg (setC l[k])), eqS (.int .u64 (x)), eqS (.int .u64 (x)), eqS (.int .u64 (x)), eqS (.int .u64 (x)), eqS (.agg (setC X)), eqS (.bool false)] [11, 12, 13, 14, 15, 16, 17, 18, 19, 20] (by kernel_rfl) rfl ?_ ?_
      · refine Steps.cons (fun a' w' hG hB dep => gs_move (want_none rfl) _ rfl (hG.other 0 rfl)) ?_
        refine Steps.cons (fun a' w' hG hB dep => gs_move (want_none rfl) _ rfl (hG.other 5 rfl)) ?_
        refine Steps.cons (fun a' w' hG hB dep => gs_index (want_none rfl) _ _ _ rfl under_sets _ size_setE _ _ _ _ _ (dep 0 rfl 11 rfl) (dep 1 rfl 12 rfl) hlt rfl) ?_
        refine Steps.cons (fun a' w' hG hB dep => gs_load_set_at (want_none rfl) _ rfl _ _ (dep 2 rfl 13 rfl) _ (hr.keep (hB.block b0 hb2)) rfl) ?_
        refine Steps.cons (fun a' w' hG hB dep => gs_move (want_none rfl) _ rfl (hG.other 1 rfl)) ?_
        refine Steps.cons (fun a' w' hG hB dep => gs_move (want_none rfl) _ rfl (hG.other 1 rfl)) ?_
        refine Steps.cons (fun a' w' hG hB dep => gs_move (want_none rfl) _ rfl (hG.other 1 rfl)) ?_
        refine Steps.cons (fun a' w' hG hB dep => gs_move (want_none rfl) _ rfl (hG.other 1 rfl)) ?_
        refine Steps.cons (fun a' w' hG hB dep => gs_build_set4 (want_none rfl) _ _ _ _ rfl _ _ hX.out (dep 4 rfl 15 rfl) (dep 5 rfl 16 rfl) (dep 6 rfl 17 rfl) (dep 7 rfl 18 rfl) rfl) ?_
        refine Steps.cons (fun a' w' hG hB dep => gs_neq_set (want_none rfl) _ _ _ rfl _ _ (dep 3 rfl 14 rfl) (dep 8 rfl 19 rfl) (eqF hx.out)) ?_
        exact Steps.nil
      intro u w3 hB3 ans
      have ux : u 20 = .bool false := ans 9 20 (by decide) rfl
      clear ans
      refine wpList_nil ?_
      simp only [putAll, List.foldl_cons, List.foldl_nil, Act.put, List.setIfInBounds_toArray, List.set_cons_zero, List.set_cons_succ, ux]
      clear ux

      go_wp2
      go_roundw
      case rel => exact ⟨k + 1, by omega, by go_num, below_then hB0 hB3⟩
      case measure => simp [intOf]; omega
    · have hkI : ¬ (k : Int) < n := by omega
      go_wp2
      go_ret
      exact ⟨rfl, hB⟩

theorem enter_bears (args : Array Value) (w : World) : (callFunc 16 args).run Try.prog w = .ok (.enter 16 args) w := by kernel_rfl
theorem enter_rsets (args : Array Value) (w : World) : (callFunc 13 args).run Try.prog w = .ok (.enter 13 args) w := by kernel_rfl
section
variable {ops : Array Oper} {S : Nat → GSpec} {Q : Exit → Act → World → Prop} {i : Nat} {o : Oper} {a : Act} {w : World}
theorem gs_bears (hw : Region.wanted o (yielded ops a.tmps) = true) (x y : Operand) (ats : Array TypeId) (ho : o.op = .call { callee := .value (.func 16), args := #[x, y], argTypes := ats }) (A : Option Addr) (n c : Nat) (l : List BSet) (X : BSet) (z : Int)
    (hx : a.eval x = .slice A n c) (hy : a.eval y = .int .u64 z) (hX : Hid (setC X = #[.int .u64 z, .int .u64 z, .int .u64 z, .int .u64 z])) (hall : ∀ y ∈ l, y = X) (hn : n = l.length) (hl : n ≤ maxLen) (hs : SliceOf w w.heap.size 4 setC A l) (hp : ∀ w', (S i).p (.bool true) w') : GStep Try.prog ops S Q i o a w :=
  gs_call hw _ _ _ ho enter_bears _ (map2 hx hy) ((bears_any A n c l X z w hX hall hn hl hs).mono fun e w' ⟨he, hb⟩ => ⟨_, he, hb, hp _⟩)
theorem gs_load_nfa (hw : Region.wanted o (yielded ops a.tmps) = true) (x : Operand) (ho : o.op = .load 25 x) (g : Nat) (hx : a.eval x = .pointer (some ⟨g, 0, none⟩)) (s : Int) (A : Option Addr) (n c : Nat) (B : Option Addr) (m d : Nat) (hg : Blk w g 25 (nfaC s A n c B m d))
    (hp : (S i).p (.agg (nfaC s A n c B m d)) w) : GStep Try.prog ops S Q i o a w :=
  gs_load hw _ x ho g hx _ _ hg _ Try.underlying25 rfl (info_nfa.trans rfl) hp
theorem gs_rsets (hw : Region.wanted o (yielded ops a.tmps) = true) (x : Operand) (ats : Array TypeId) (ho : o.op = .call { callee := .value (.func 13), args := #[x], argTypes := ats }) (s : Int) (A : Option Addr) (n c : Nat) (B : Option Addr) (m d : Nat) (es : List Edg)
    (hx : a.eval x = .agg (nfaC s A n c B m d)) (hn : n = es.length) (hl : n ≤ 100000) (hs : SliceOf w w.heap.size 7 edgC A es) (hp : ∀ v w', (setsS (setsL es)).p v w' → (S i).p v w') : GStep Try.prog ops S Q i o a w :=
  gs_call hw _ _ _ ho enter_rsets _ (map1 hx) ((rsets_any s A n c B m d es w hn hl hs).mono fun e w' ⟨A', c', he, hown, hb⟩ => ⟨_, he, hb, hp _ _ ⟨_, _, _, rfl, rfl, hown.slice_all setC_size⟩⟩)
theorem gs_same_sets (hw : Region.wanted o (yielded ops a.tmps) = true) (x y : Operand) (ats : Array TypeId) (ho : o.op = .call { callee := .value (.func 15), args := #[x, y], argTypes := ats }) (A : Option Addr) (n c : Nat) (xs ys : List BSet)
    (hx : a.eval x = .slice A n c) (hn : n = xs.length) (hl : n ≤ maxLen) (hs : SliceOf w w.heap.size 4 setC A xs) (hy : (setsS ys).p (a.eval y) w) (hl2 : ys.length ≤ maxLen) (he : xs = ys)
    (hp : ∀ w', (S i).p (.bool true) w') : GStep Try.prog ops S Q i o a w := by
  obtain ⟨B, m, d, hv, hn2, hs2⟩ := hy
  exact gs_call hw _ _ _ ho enter_same _ (map2 hx hv) ((same_any A B n c m d xs ys w hn hl hn2 (by omega) hs hs2).mono fun e w' ⟨h, hb⟩ => ⟨_, h, hb, by rw [decide_eq_true he]; exact hp _⟩)
end

end Go.Proofs.Ytjpiebapemalfaa
