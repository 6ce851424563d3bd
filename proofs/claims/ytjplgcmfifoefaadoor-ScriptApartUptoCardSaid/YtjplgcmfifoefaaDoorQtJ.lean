/- The walk of script's Print. No condition beyond those named in each lemma. -/
import Derived.Test.YtjplgcmfifoefaaDoorQtI
import Derived.Test.YtjplgcmfifoefaaDoorPrA
namespace Go.Proofs.YtjplgcmfifoefaaDoor
open Go.RowKit Go.Maps
set_option linter.unusedVariables false
set_option linter.unusedSimpArgs false
attribute [local go_sem] Oper.semAt_some

section
variable {α : Type} {enc : α → Array Value} {size base g n : Nat} {e : TypeId} {W W' : World} {v : Value} {ys : List α} {cs : Array Value}
theorem own_made (hs : ∀ y, (enc y).size = size) (hb : Blk W g e cs) (hcs : cs.toList = flat enc ys) (hn : n = ys.length) (hg : base ≤ g) (hm : n ≤ maxLen) : Own W base e size enc (.slice (some ⟨g, 0, none⟩) n n) ys := by
  subst hn
  refine ⟨flat_length hs ys, .inr ⟨g, _, cs, rfl, hg, hb, Nat.le_refl _, hm, ?_, ?_⟩⟩
  · rw [← Array.length_toList, hcs, flat_length hs]
  · rw [hcs, ← flat_length hs ys, List.take_length]
theorem own_one (hs : ∀ y, (enc y).size = size) {y : α} (hb : Blk W g e (enc y)) (hg : base ≤ g) : Own W base e size enc (.slice (some ⟨g, 0, none⟩) 1 1) [y] :=
  own_made (ys := [y]) hs hb (by simp [flat]) rfl hg (by unfold maxLen; omega)
theorem own_not_iter {k p : Nat} {s : ByteArray} (ho : Own W base e size enc v ys) (hk : W.heap[k]? = some (.stringIter s p)) : v.ownBlock ≠ some k := by
  intro h
  rcases ho.2 with ⟨rfl, _⟩ | ⟨g, cap, cur, rfl, _, hg, _⟩
  · cases h
  · simp [Value.ownBlock] at h
    subst h
    rw [hk] at hg
    cases hg
theorem iter_grown {k p : Nat} {s : ByteArray} (ho : Own W base e size enc v ys) (hk : W.heap[k]? = some (.stringIter s p)) (hg : W.grownBy W' v.ownBlock) : W'.heap[k]? = some (.stringIter s p) :=
  (hg.block k (Array.getElem?_eq_some_iff.1 hk).1 (fun h => own_not_iter ho hk h.symm)).trans hk
theorem own_iterAt {k p : Nat} {s : ByteArray} (ho : Own W base e size enc v ys) (hk : W.heap[k]? = some (.stringIter s p)) (p' : Nat) : Own (W.iterAt k s p') base e size enc v ys := by
  refine ⟨ho.1, ?_⟩
  rcases ho.2 with h | ⟨g, cap, cur, hv, hbg, hg, rest⟩
  · exact .inl h
  · refine .inr ⟨g, cap, cur, hv, hbg, (Lib.iterAt_other W k g s p' ?_).trans hg, rest⟩
    intro h
    subst h
    rw [hk] at hg
    cases hg
end
theorem blk_then' {W W' : World} {g lo : Nat} {t : TypeId} {cs : Array Value} (h : Blk W g t cs) (hb : Below lo W W') (hl : g < lo) : Blk W' g t cs := (hb.block g hl).trans h
theorem join_any (ps : List ByteArray) (hne : ps ≠ []) (A : Option Addr) (c base : Nat) (w : World) (ho : Own w base 9 1 encQ (.slice A ps.length c) ps) (hps : ps.length ≤ 1099511627776) (hlen : (joinW (ps.map tl)).length ≤ 1099511627776) :
    Calls Tryd.prog 15 #[.slice A ps.length c, .string ⟨#[32]⟩] w fun e w' => e = .returned (strV (joinW (ps.map tl))) ∧ Below w.heap.size w w' := by
  have hpos : 0 < ps.length := List.length_pos_iff.2 hne
  have hs := ho.slice_all encQ_size
  obtain ⟨b, off, rfl, hb, hrow⟩ := hs.at_ hpos
  have hcap : ps.length ≤ c := by
    rcases ho.2 with ⟨h, _⟩ | ⟨g, cap, cur, hv, _, _, hc, _⟩
    · cases h
    · injection hv with _ _ h3
      omega
  have h := Tryd.strings_Join b off c ps ⟨#[32]⟩ w (fun j x hx => by
    obtain ⟨hj, rfl⟩ := List.getElem?_eq_some_iff.1 hx
    have h9 := hrow j hj 0 _ rfl
    simp only [Nat.mul_one, Nat.add_zero] at h9
    exact h9) hb (by omega) hcap (by
    rw [show (⟨#[32]⟩ : ByteArray).data.toList = [32] from rfl, join_eq]
    have : (joinW (ps.map (·.data.toList))).length ≤ 1099511627776 := hlen
    omega)
  rw [show (⟨#[32]⟩ : ByteArray).data.toList = [32] from rfl, join_eq] at h
  exact h
theorem rows_at : ∀ k, k < 13 → rowsC[2 * k]? = some (strV (firsts.getD k [])) ∧ rowsC[2 * k + 1]? = some (strV (letters.getD k [])) := by
  intro k hk
  rcases (by omega : k = 0 ∨ k = 1 ∨ k = 2 ∨ k = 3 ∨ k = 4 ∨ k = 5 ∨ k = 6 ∨ k = 7 ∨ k = 8 ∨ k = 9 ∨ k = 10 ∨ k = 11 ∨ k = 12) with rfl | rfl | rfl | rfl | rfl | rfl | rfl | rfl | rfl | rfl | rfl | rfl | rfl <;> exact ⟨rfl, rfl⟩
theorem letters_ascii : ∀ k, k < 13 → (∀ b ∈ letters.getD k [], b.toNat < 128) ∧ (letters.getD k []).length ≤ 2 := by decide
theorem info_ev : (Tryd.prog.info? 24).map (·.size) = some 7 := by kernel_rfl
def printL (e : Ev) : Bs := if kindOk e.kind then joinW ((textsE e).map quo) else []
def printE (e : Ev) : Int := if kindOk e.kind then 0 else 260
theorem toldL_len (c : UInt8) (e : Ev) : (toldL c e).length ≤ 1 + e.keep.length := by
  unfold toldL tellC
  repeat' split
  all_goals simp <;> omega
set_option maxRecDepth 100000 in
set_option maxHeartbeats 4000000 in
theorem print_any (x : EvV) (ks : List Int) (w : World) (hx : EvOk w x ks) (hS : SOk w) :
    Calls Tryd.prog 7 #[.agg x.C] w fun e w' => e = .returned (.tuple #[strV (printL (x.ev ks)), .int .i64 (printE (x.ev ks))]) ∧ Below w.heap.size w w' := by
  have h7 := hS.size
  replace hS := Lib.hid hS
  replace hx := Lib.hid hx
  go_enter Tryd.func7, Tryd.ntmps7
  go_upto_region 1 with (fail)
  have hb : Blk (w.alloc (.cells x.C 24)) w.heap.size 24 x.C := Blk.new w _ _
  have hB1 := below_alloc (Below.refl w.heap.size w) (.cells x.C 24)
  obtain ⟨w1, hw1⟩ : ∃ y, y = w.alloc (.cells x.C 24) := ⟨_, rfl⟩
  rw [← hw1] at hb hB1 ⊢
  clear hw1
  obtain ⟨g, hg⟩ : ∃ y, y = w.heap.size := ⟨_, rfl⟩
  rw [← hg] at hb hB1 h7 ⊢
  replace hg := Lib.hid hg
  have hgl := hb.lt
  have cK : w1.cell? ⟨g, 0, none⟩ = some (.int .i64 x.kind) := hb.cellv rfl
  by_cases hk : kindOk x.kind
  · obtain ⟨k, hk1⟩ : ∃ k : Nat, x.kind = k := ⟨x.kind.toNat, by unfold kindOk at hk; omega⟩
    have hk2 : 1 ≤ k ∧ k ≤ 12 := by unfold kindOk at hk; omega
    obtain ⟨r1, r2⟩ := rows_at k (by omega)
    have q1 := (hS.out.then_ h7 hB1).rows _ _ r1
    have q2 := (hS.out.then_ h7 hB1).rows _ _ r2
    rw [Nat.zero_add] at q1 q2
    have hv : Hid (printL (x.ev ks) = joinW ((textsE (x.ev ks)).map quo) ∧ printE (x.ev ks) = 0) := Lib.hid ⟨by unfold printL; exact if_pos hk, by unfold printE; exact if_pos hk⟩
    have hT : Hid ((textsE (x.ev ks)).map qB = qB (firsts.getD k []) :: (letters.getD k []).flatMap (toldL · (x.ev ks))) := Lib.hid (by
      unfold textsE
      have : (x.ev ks).kind.toNat = k := by show x.kind.toNat = k; omega
      rw [this, List.map_cons, List.map_flatMap]
      rfl)
    have hpl := print_len (x.ev ks) hk ⟨hx.out.ints.1, hx.out.ints.2⟩
    have hPL := Lib.hid hpl
    clear hpl r1 r2
    rw [hk1] at cK
    have f1 : ¬ ((k : Nat) : Int) < 1 := by omega
    have f2 : ¬ (13 : Int) ≤ ((k : Nat) : Int) := by omega
    have f3 : ((k : Nat) : Int) < 13 := by omega
    have f4 : ¬ ((k : Nat) : Int) < 0 := by omega
    clear hk1 hk
    obtain ⟨F, hF⟩ : ∃ F : ByteArray, ⟨(firsts.getD k []).toArray⟩ = F := ⟨_, rfl⟩
    obtain ⟨L, hL⟩ : ∃ L, letters.getD k [] = L := ⟨_, rfl⟩
    obtain ⟨LS, hLS⟩ : ∃ LS : ByteArray, ⟨L.toArray⟩ = LS := ⟨_, rfl⟩
    have hla := letters_ascii k (by omega)
    rw [hL] at q2 hT hla
    unfold strV at q1 q2
    rw [hF] at q1
    rw [hLS] at q2
    have hFq : qB (firsts.getD k []) = F := by unfold qB; rw [quo_pl (firsts_pl k (by omega) (by omega)), hF]
    rw [hFq] at hT
    have hLl : tl LS = L := by rw [← hLS]
    have hLz : LS.size = L.length := by rw [← hLS]; simp [ByteArray.size]
    have q1a : w1.cell? ⟨0, k * 2, none⟩ = some (.string F) := by rw [Nat.mul_comm]; exact q1
    clear q1 hF hLS hFq hL
    have hLS := Lib.hid (And.intro hLl (And.intro hLz hla))
    clear hLl hLz hla
    have hgz : g ≤ w1.heap.size := Nat.le_of_lt hgl
    go_upto_region 4 with (refine wl_bsS rfl _ rfl F rfl ?_)
    have ho1 : Own (w1.alloc (.cells (encQ F) 9)) w1.heap.size 9 1 encQ (.slice (some ⟨w1.heap.size, 0, none⟩) 1 1) [F] := own_one encQ_size (Blk.new _ _ _) (Nat.le_refl _)
    have hB2 := hB1.alloc hgz (.cells (encQ F) 9)
    have hb2 := blk_then hb (below_alloc (Below.refl w1.heap.size w1) (.cells (encQ F) 9))
    have q2a : (w1.alloc (.cells (encQ F) 9)).cell? ⟨0, k * 2 + 1, none⟩ = some (.string LS) := cell_keep (by rw [Nat.mul_comm]; exact q2) (lo := g) (by simp only; omega) ((Below.refl g w1).alloc hgz _)
    have cK2 : (w1.alloc (.cells (encQ F) 9)).cell? ⟨g, 0, none⟩ = some (.int .i64 (k : Nat)) := cell_keep cK (lo := w1.heap.size) hgl (below_alloc (Below.refl w1.heap.size w1) _)
    obtain ⟨b1, hb1⟩ : ∃ y, y = w1.heap.size := ⟨_, rfl⟩
    obtain ⟨w2, hw2⟩ : ∃ y, y = w1.alloc (.cells (encQ F) 9) := ⟨_, rfl⟩
    have hz2 : b1 + 1 = w2.heap.size := by rw [hw2, hb1, World.size_alloc]
    rw [← hw2] at ho1 hB2 hb2 q2a cK2 ⊢
    rw [← hb1] at ho1 hgl ⊢
    replace hz2 := Lib.hid hz2
    clear hw2 hb1 q2 q1a cK hb hB1 hgz
    have hgw2 : g ≤ w2.heap.size := by have := hz2.out; omega
    have hbw2 : b1 ≤ w2.heap.size := by have := hz2.out; omega
    go_wp2_with (fail)
    clear cK2
    obtain ⟨it, hit0⟩ : ∃ y, y = w2.heap.size := ⟨_, rfl⟩
    have hiter : (w2.alloc (.stringIter LS 0)).heap[it]? = some (.stringIter LS 0) := by
      have := World.iter_heap w2 LS 0
      rw [hit0]
      exact this
    have hgi : g < it := by rw [hit0]; have := hz2.out; omega
    rw [← hit0]
    replace hit0 := Lib.hid hit0
    clear q2a
    go_loopw [4] (fun lv wr => ∃ (pos : Nat) (A : Option Addr) (c : Nat) (acc : List ByteArray), lv = .slice A acc.length c ∧ Own wr b1 9 1 encQ (.slice A acc.length c) acc ∧ wr.heap[it]? = some (.stringIter LS pos) ∧ Below g w wr ∧ Blk wr g 24 x.C ∧ pos ≤ L.length ∧ Hid (acc = F :: (L.take pos).flatMap (toldL · (x.ev ks))) ∧ acc.length ≤ 1 + pos * 1048577 ∧ b1 ≤ wr.heap.size) (fun _ wr => L.length - wr.iterPos it)
    case atStart =>
      exact ⟨0, _, 1, [F], rfl, ho1.alloc _, hiter, hB2.alloc hgw2 _, blk_then hb2 (below_alloc (Below.refl w2.heap.size w2) _), by omega, Lib.hid (by simp), by simp, by show b1 ≤ (w2.alloc (.stringIter LS 0)).heap.size; rw [World.size_alloc]; omega⟩
    case round =>
      clear ho1 hiter hB2 hb2 hgw2 hbw2
      obtain ⟨pos, A, c, acc, rfl, ho, hit, hB, hb, hpl, hacc, hal, hbz⟩ := hrel
      obtain ⟨hLl, hLz, hla, hL2⟩ := hLS.out
      have hiw : it < wr.heap.size := (Array.getElem?_eq_some_iff.1 hit).1
      have hip : wr.iterPos it = pos := by simp [World.iterPos, hit]
      by_cases hp : pos < L.length
      · have hpS : pos < LS.size := by rw [hLz]; exact hp
        obtain ⟨b, hbb⟩ : ∃ b, L[pos] = b := ⟨_, rfl⟩
        have hLS2 : LS[pos] = b := by
          rw [← hbb]
          have : LS[pos] = (tl LS)[pos]'(by rw [hLl]; exact hp) := rfl
          rw [this]
          simp [hLl]
        have hba : b.toNat < 128 := hla b (by rw [← hbb]; exact List.getElem_mem _)
        have hnx : ∀ ty, (Instr.next (.pointer (some ⟨it, 0, none⟩)) true ty).run Tryd.prog wr = .ok (.tuple #[.bool true, .int .i64 pos, .int .i32 (b.toNat : Nat)]) (wr.iterAt it LS (pos + 1)) := fun ty => by
          have h9 := Lib.run_next_ascii_at (P := Tryd.prog) wr it LS pos ty hit hpS (by rw [hLS2]; exact hba)
          rw [hLS2] at h9
          exact h9
        have ho3 := own_iterAt ho hit (pos + 1)
        have hit3 := Lib.iterAt_heap wr it LS pos (pos + 1) hit
        have hB3 := Lib.below_iterAt hB (k := it) (by omega) LS (pos + 1)
        have hb3 : Blk (wr.iterAt it LS (pos + 1)) g 24 x.C := (Lib.iterAt_other wr it g LS (pos + 1) (by omega)).trans hb
        have hz3 : (wr.iterAt it LS (pos + 1)).heap.size = wr.heap.size := Lib.iterAt_size _ _ _ _
        obtain ⟨w3, hw3⟩ : ∃ y, y = wr.iterAt it LS (pos + 1) := ⟨_, rfl⟩
        rw [← hw3] at hnx ho3 hit3 hB3 hb3 hz3
        replace hz3 := Lib.hid hz3
        have hi3 : it < w3.heap.size := by rw [hz3.out]; exact hiw
        have hb3z : b1 ≤ w3.heap.size := by rw [hz3.out]; exact hbz
        clear hw3
        have kT := told_any b (b.toNat : Int) rfl x ks w3 (hx.out.then_ (by rw [← hg.out]; exact hB3)) (hS.out.then_ h7 hB3)
        obtain ⟨ys, hys⟩ : ∃ ys, toldL b (x.ev ks) = ys := ⟨_, rfl⟩
        have hyl : ys.length ≤ 1048577 := by
          rw [← hys]
          have h9 := toldL_len b (x.ev ks)
          have h8 := hx.out.few
          have h7 := hx.out.len
          have h6 : (x.ev ks).keep = ks := rfl
          rw [h6] at h9
          omega
        rw [hys] at kT
        have hac2 : Hid (acc ++ ys = F :: (L.take (pos + 1)).flatMap (toldL · (x.ev ks))) := Lib.hid (by
          rw [hacc.out, List.take_add_one, List.getElem?_eq_getElem hp, hbb, ← hys]
          simp)
        clear hys hbb hLl hLz hla hLS2 hba hacc hpS ho hit hb hB
        go_wp2_with (first
          | (refine wpList_load_row rfl _ _ rfl g rfl _ _ _ _ hb3 Tryd.underlying24 rfl (info_ev.trans rfl) ?_)
          | (go_at_call 14; refine kT.mono ?_; clear kT; rintro e w4 ⟨⟨A', c', rfl, hsl⟩, hB4⟩)
          | (refine wl_appS rfl _ _ rfl b1 acc ys rfl rfl rfl hsl (ho3.then_ hB4) rfl (by omega) (Nat.le_trans hb3z hB4.size) ?_; intro A8 c8 w8 ho8 hg8))
        have hrow : ∀ j, (Value.slice A acc.length c).ownBlock = some j → b1 ≤ j := fun j e => (ho3.lt j e).1
        have ho4 := ho3.then_ hB4
        have hit4 : w4.heap[it]? = some (.stringIter LS (pos + 1)) := (hB4.block it hi3).trans hit3
        have hit8 := iter_grown ho4 hit4 hg8
        have hB48 : Below b1 w4 w8 := (Below.refl b1 w4).grown hg8 (Nat.le_trans hb3z hB4.size) hrow
        have hb8 := blk_then' (blk_then hb3 hB4) hB48 hgl
        have hB8 : Below g w w8 := (hB3.trans (hB4.mono (by omega))).trans (hB48.mono (by omega))
        have e9 : (acc ++ ys).length = acc.length + ys.length := List.length_append
        have hip8 : w8.iterPos it = pos + 1 := by simp [World.iterPos, hit8]
        refine ⟨⟨pos + 1, A8, c8, acc ++ ys, by rw [e9], by rw [e9]; exact ho8, hit8, hB8, hb8, by omega, hac2, by rw [e9]; omega, Nat.le_trans hb3z (Nat.le_trans hB4.size hB48.size)⟩, ?_⟩
        rw [hip8, hip]
        omega
      · have hpS : ¬ pos < LS.size := by rw [hLz]; exact hp
        have hnx : ∀ ty, (Instr.next (.pointer (some ⟨it, 0, none⟩)) true ty).run Tryd.prog wr = .ok (.tuple #[.bool false]) wr := fun ty => Lib.run_next_end_at (P := Tryd.prog) wr it LS pos ty hit hpS
        have hfin : acc = (textsE (x.ev ks)).map qB := by rw [hacc.out, hT.out, List.take_of_length_le (by omega)]
        have hmap : acc.map tl = (textsE (x.ev ks)).map quo := by
          rw [hfin, List.map_map]
          exact List.map_congr_left fun l _ => tl_qB l
        have hne : acc ≠ [] := by rw [hacc.out]; simp
        have hbound : (joinW (acc.map tl)).length ≤ 1099511627776 := by
          rw [hmap]
          have h1 := hPL.out
          have h2 := hx.out.n1
          have h3 := hx.out.n2
          have h4 := hx.out.n3
          have h5 := hx.out.few
          have h6 := hx.out.len
          have e1 : (x.ev ks).name.length = x.name.size := by show x.name.data.toList.length = _; simp
          have e2 : (x.ev ks).other.length = x.other.size := by show x.other.data.toList.length = _; simp
          have e3 : (x.ev ks).data.length = x.data.size := by show x.data.data.toList.length = _; simp
          have e4 : (x.ev ks).keep = ks := rfl
          rw [e1, e2, e3, e4] at h1
          omega
        have kJ := join_any acc hne A c b1 wr ho (by omega) hbound
        rw [hmap] at kJ
        clear hfin hmap hne hbound hacc hLl hLz hla hip ho hit hb hpl
        go_wp2_with (go_at_call 15; refine kJ.mono ?_; clear kJ; rintro e w9 ⟨rfl, hB9⟩)
        go_ret2
        rw [hv.out.1, hv.out.2]
        exact ⟨rfl, by rw [← hg.out]; exact hB.trans (hB9.mono (by omega))⟩
  · have hv : Hid (printL (x.ev ks) = [] ∧ printE (x.ev ks) = 260) := Lib.hid ⟨by unfold printL; exact if_neg hk, by unfold printE; exact if_neg hk⟩
    by_cases h1 : x.kind < 1
    · clear hk
      go_wp2_with (fail)
      go_ret2
      rw [hv.out.1, hv.out.2]
      exact ⟨rfl, by rw [← hg.out]; exact hB1⟩
    · have h2 : 13 ≤ x.kind := by unfold kindOk at hk; omega
      clear hk
      go_wp2_with (fail)
      go_ret2
      rw [hv.out.1, hv.out.2]
      exact ⟨rfl, by rw [← hg.out]; exact hB1⟩
theorem enter_print (args : Array Value) (w : World) : (callFunc 7 args).run Tryd.prog w = .ok (.enter 7 args) w := by kernel_rfl
end Go.Proofs.YtjplgcmfifoefaaDoor
