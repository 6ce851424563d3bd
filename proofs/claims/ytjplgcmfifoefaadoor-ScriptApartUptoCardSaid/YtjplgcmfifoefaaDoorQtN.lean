/- script's take: what it answers for each letter. No condition beyond those named in each lemma. -/
import Derived.Test.YtjplgcmfifoefaaDoorQtM
import Derived.Test.YtjplgcmfifoefaaDoorGrowR
namespace Go.Proofs.YtjplgcmfifoefaaDoor
open Go.RowKit Go.Maps
set_option linter.unusedVariables false
set_option linter.unusedSimpArgs false
attribute [local go_sem] Oper.semAt_some

def fnOf (c : UInt8) : FuncId := if c = 110 ∨ c = 111 ∨ c = 100 then 48 else if c = 121 then 49 else if c = 107 then 50 else 52
def offOf (c : UInt8) : Nat := if c = 110 then 1 else if c = 111 then 2 else if c = 100 then 3 else 0
theorem text_any (ge k : Nat) (w : World) : Calls Tryd.prog 47 #[.pointer (some ⟨ge, k, none⟩)] w fun e w' => (∃ pb, e = .returned (.func (.func 48) #[] #[.pointer (some ⟨pb, 0, none⟩)]) ∧ w.heap.size ≤ pb ∧ pb < w'.heap.size ∧ ∃ T, Blk w' pb T #[.pointer (some ⟨ge, k, none⟩)] ∧ T ≠ 3) ∧ Below w.heap.size w w' := by
  go_enter Tryd.func47, Tryd.ntmps47
  go_wp2_with (fail)
  go_ret
  have hb := Blk.new w 99 #[.pointer (some ⟨ge, k, none⟩)]
  exact ⟨⟨w.heap.size, rfl, Nat.le_refl _, hb.lt, _, hb, by decide⟩, below_alloc (Below.refl w.heap.size w) _⟩
theorem enter_text (args : Array Value) (w : World) : (callFunc 47 args).run Tryd.prog w = .ok (.enter 47 args) w := by kernel_rfl
set_option maxHeartbeats 4000000 in
theorem take_any (c : UInt8) (z : Int) (hz : z = (c.toNat : Int)) (ge : Nat) (w : World) : Calls Tryd.prog 29 #[.int .i32 z, .pointer (some ⟨ge, 0, none⟩)] w fun e w' => (∃ pb, e = .returned (.func (.func (fnOf c)) #[] #[.pointer (some ⟨pb, 0, none⟩)]) ∧ w.heap.size ≤ pb ∧ pb < w'.heap.size ∧ ∃ T, Blk w' pb T #[.pointer (some ⟨ge, offOf c, none⟩)] ∧ T ≠ 3) ∧ Below w.heap.size w w' := by
  have hb := Blk.new w 76 #[.pointer (some ⟨ge, 0, none⟩)]
  have hB := below_alloc (Below.refl w.heap.size w) (.cells #[.pointer (some ⟨ge, 0, none⟩)] 76)
  obtain ⟨w1, hw1⟩ : ∃ y, y = w.alloc (.cells #[.pointer (some ⟨ge, 0, none⟩)] 76) := ⟨_, rfl⟩
  rw [← hw1] at hb hB
  have hbl := hb.lt
  have cP : w1.cell? ⟨w.heap.size, 0, none⟩ = some (.pointer (some ⟨ge, 0, none⟩)) := hb.cellv rfl
  replace hw1 := Lib.hid hw1
  have kT := fun k => text_any ge k w1
  by_cases c110 : c = 110
  · obtain rfl : z = 110 := by rw [hz, c110]; rfl
    have hv : Hid (fnOf c = 48 ∧ offOf c = 1) := Lib.hid (by subst c110; exact ⟨rfl, rfl⟩)
    clear hz c110
    go_enter Tryd.func29, Tryd.ntmps29
    go_upto_region 2 with (fail)
    rw [← hw1.out]
    go_wp2_with (go_at_call 47; refine (kT _).mono ?_; clear kT; rintro e w3 ⟨⟨pb, rfl, h1, h2, h3⟩, hB3⟩)
    go_ret
    rw [hv.out.1, hv.out.2]
    exact ⟨⟨pb, rfl, by omega, h2, h3⟩, hB.trans (hB3.mono hB.size)⟩
  have f110 : (z == 110) = false := beq_eq_false_iff_ne.2 (by rw [hz]; intro h; exact c110 (UInt8.toNat_inj.1 (by show c.toNat = 110; omega)))
  by_cases c111 : c = 111
  · obtain rfl : z = 111 := by rw [hz, c111]; rfl
    have hv : Hid (fnOf c = 48 ∧ offOf c = 2) := Lib.hid (by subst c111; exact ⟨rfl, rfl⟩)
    clear hz c111 c110
    go_enter Tryd.func29, Tryd.ntmps29
    go_upto_region 2 with (fail)
    rw [← hw1.out]
    go_wp2_with (go_at_call 47; refine (kT _).mono ?_; clear kT; rintro e w3 ⟨⟨pb, rfl, h1, h2, h3⟩, hB3⟩)
    go_ret
    rw [hv.out.1, hv.out.2]
    exact ⟨⟨pb, rfl, by omega, h2, h3⟩, hB.trans (hB3.mono hB.size)⟩
  have f111 : (z == 111) = false := beq_eq_false_iff_ne.2 (by rw [hz]; intro h; exact c111 (UInt8.toNat_inj.1 (by show c.toNat = 111; omega)))
  by_cases c100 : c = 100
  · obtain rfl : z = 100 := by rw [hz, c100]; rfl
    have hv : Hid (fnOf c = 48 ∧ offOf c = 3) := Lib.hid (by subst c100; exact ⟨rfl, rfl⟩)
    clear hz c100 c110 c111
    go_enter Tryd.func29, Tryd.ntmps29
    go_upto_region 2 with (fail)
    rw [← hw1.out]
    go_wp2_with (go_at_call 47; refine (kT _).mono ?_; clear kT; rintro e w3 ⟨⟨pb, rfl, h1, h2, h3⟩, hB3⟩)
    go_ret
    rw [hv.out.1, hv.out.2]
    exact ⟨⟨pb, rfl, by omega, h2, h3⟩, hB.trans (hB3.mono hB.size)⟩
  have f100 : (z == 100) = false := beq_eq_false_iff_ne.2 (by rw [hz]; intro h; exact c100 (UInt8.toNat_inj.1 (by show c.toNat = 100; omega)))
  clear kT
  have hob : offOf c = 0 := by unfold offOf; rw [if_neg c110, if_neg c111, if_neg c100]
  have hn3 : ¬ (c = 110 ∨ c = 111 ∨ c = 100) := fun h => h.elim c110 fun h => h.elim c111 c100
  by_cases c121 : c = 121
  · obtain rfl : z = 121 := by rw [hz, c121]; rfl
    have hv : Hid (fnOf c = 49 ∧ offOf c = 0) := Lib.hid ⟨by unfold fnOf; rw [if_neg hn3, if_pos c121], hob⟩
    clear hz c110 c111 c100 c121 hn3 hob
    go_enter Tryd.func29, Tryd.ntmps29
    go_upto_region 2 with (fail)
    rw [← hw1.out]
    go_wp2_with (fail)
    go_ret
    rw [hv.out.1, hv.out.2]
    exact ⟨⟨w.heap.size, rfl, Nat.le_refl _, hbl, _, hb, by decide⟩, hB⟩
  have f121 : (z == 121) = false := beq_eq_false_iff_ne.2 (by rw [hz]; intro h; exact c121 (UInt8.toNat_inj.1 (by show c.toNat = 121; omega)))
  by_cases c107 : c = 107
  · obtain rfl : z = 107 := by rw [hz, c107]; rfl
    have hv : Hid (fnOf c = 50 ∧ offOf c = 0) := Lib.hid ⟨by unfold fnOf; rw [if_neg hn3, if_neg c121, if_pos c107], hob⟩
    clear hz c110 c111 c100 c121 c107 hn3 hob
    go_enter Tryd.func29, Tryd.ntmps29
    go_upto_region 2 with (fail)
    rw [← hw1.out]
    go_wp2_with (fail)
    go_ret
    rw [hv.out.1, hv.out.2]
    exact ⟨⟨w.heap.size, rfl, Nat.le_refl _, hbl, _, hb, by decide⟩, hB⟩
  have f107 : (z == 107) = false := beq_eq_false_iff_ne.2 (by rw [hz]; intro h; exact c107 (UInt8.toNat_inj.1 (by show c.toNat = 107; omega)))
  have hv : Hid (fnOf c = 52 ∧ offOf c = 0) := Lib.hid ⟨by unfold fnOf; rw [if_neg hn3, if_neg c121, if_neg c107], hob⟩
  clear hz c110 c111 c100 c121 c107 hn3 hob
  go_enter Tryd.func29, Tryd.ntmps29
  go_upto_region 2 with (fail)
  rw [← hw1.out]
  go_wp2_with (fail)
  go_ret
  rw [hv.out.1, hv.out.2]
  exact ⟨⟨w.heap.size, rfl, Nat.le_refl _, hbl, _, hb, by decide⟩, hB⟩
theorem enter_take (args : Array Value) (w : World) : (callFunc 29 args).run Tryd.prog w = .ok (.enter 29 args) w := by kernel_rfl
end Go.Proofs.YtjplgcmfifoefaaDoor
