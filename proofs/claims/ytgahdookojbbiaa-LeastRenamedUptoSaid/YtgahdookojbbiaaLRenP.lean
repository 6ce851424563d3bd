/- A table with its states twice and renamed, its classes one a byte: it fits and goes alike. No condition beyond those named in each lemma. -/
import Derived.Test.YtgahdookojbbiaaLTellR
namespace Go.Proofs.Ytgahdookojbbiaa
open Go.RowKit Go.Maps
set_option linter.unusedVariables false
set_option linter.unusedSimpArgs false

def oldN (n i : Nat) : Nat := if i < n then (n - i) % n else i - n
def nowN (n s p : Nat) : Nat := if p = 0 then (n - s) % n else n + s
theorem oldN_lt {n i : Nat} (h : i < 2 * n) : oldN n i < n := by
  unfold oldN
  split
  · exact Nat.mod_lt _ (by omega)
  · omega
theorem nowN_lt {n s p : Nat} (h : s < n) : nowN n s p < 2 * n := by
  unfold nowN
  split
  · have := Nat.mod_lt (n - s) (show 0 < n by omega)
    omega
  · omega
theorem old_now {n s p : Nat} (h : s < n) : oldN n (nowN n s p) = s := by
  unfold nowN
  split
  · have h1 := Nat.mod_lt (n - s) (show 0 < n by omega)
    unfold oldN
    rw [if_pos h1]
    rcases Nat.eq_zero_or_pos s with rfl | hs
    · simp
    · rw [Nat.mod_eq_of_lt (show n - s < n by omega), Nat.mod_eq_of_lt (by omega)]
      omega
  · unfold oldN
    rw [if_neg (by omega)]
    omega
theorem old_zero {n : Nat} (h : 0 < n) : oldN n 0 = 0 := by
  unfold oldN
  rw [if_pos h, Nat.sub_zero, Nat.mod_self]
/-- where the state numbered i goes by byte b -/
def renTo (T : Tb) (i b : Nat) : Nat := nowN T.nx.length (T.au.go (oldN T.nx.length i) b) ((i + b) % 2)
def renRow (T : Tb) (i : Nat) : List Int := (List.range 256).map fun k => ((renTo T i (255 - k) : Nat) : Int)
def renT (T : Tb) : Tb where
  cls b := 255 - (b : Int)
  nx := (List.range (2 * T.nx.length)).map (renRow T)
  fo := (List.range (2 * T.nx.length)).map fun i => T.fo.getD (oldN T.nx.length i) 0
  en := (List.range (2 * T.nx.length)).map fun i => T.en.getD (oldN T.nx.length i) 0
theorem getD_map_range {α : Type} (f : Nat → α) (d : α) {n i : Nat} (h : i < n) : ((List.range n).map f).getD i d = f i := by
  rw [getD_at _ _ (by simpa using h), List.getElem_map, List.getElem_range]
theorem ren_len (T : Tb) : (renT T).nx.length = 2 * T.nx.length := by show (List.map _ _).length = _; simp
theorem ren_row {T : Tb} {i : Nat} (h : i < 2 * T.nx.length) : (renT T).nx.getD i [] = renRow T i := getD_map_range _ _ h
theorem ren_fo {T : Tb} {i : Nat} (h : i < 2 * T.nx.length) : (renT T).fo.getD i 0 = T.fo.getD (oldN T.nx.length i) 0 := getD_map_range _ _ h
theorem ren_en {T : Tb} {i : Nat} (h : i < 2 * T.nx.length) : (renT T).en.getD i 0 = T.en.getD (oldN T.nx.length i) 0 := getD_map_range _ _ h
theorem ren_nxt {T : Tb} {i c : Nat} (h : i < 2 * T.nx.length) (hc : c < 256) : (renT T).nxt i (c : Nat) = ((renTo T i (255 - c) : Nat) : Int) := by
  show ((renT T).nx.getD i []).getD ((c : Int)).toNat 0 = _
  rw [ren_row h, Int.toNat_natCast]
  exact getD_map_range _ _ hc
theorem ren_go {T : Tb} {i b : Nat} (h : i < 2 * T.nx.length) (hb : b < 256) : (renT T).au.go i b = renTo T i b := by
  show ((renT T).nxt i (255 - (b : Int))).toNat = _
  have e : (255 : Int) - b = ((255 - b : Nat) : Int) := by omega
  rw [e, ren_nxt h (by omega), Int.toNat_natCast]
  congr 1
  omega
theorem renTo_lt {T : Tb} (h : Fits T) {i b : Nat} (hi : i < 2 * T.nx.length) (hb : b < 256) : renTo T i b < 2 * T.nx.length := nowN_lt (h.ok.lt _ _ (oldN_lt hi) hb)
theorem ren_many {T : Tb} (h : Fits T) : (renT T).many = 256 := by
  have := h.n1
  show ((renT T).nx.getD 0 []).length = _
  rw [ren_row (by omega)]
  simp [renRow]
theorem ren_fits {T : Tb} (h : Fits T) (hn : T.nx.length ≤ 60) : Fits (renT T) := by
  have h1 := h.n1
  have hl := ren_len T
  have hm := ren_many h
  refine ⟨by omega, by omega, by rw [hl]; show (List.map _ _).length = _; simp, by rw [hl]; show (List.map _ _).length = _; simp, by omega, by omega, fun b hb => ?_, fun s hs => ?_, fun s hs => ?_, fun s c hs hc => ?_⟩
  · rw [hm]
    show 0 ≤ 255 - (b : Int) ∧ 255 - (b : Int) < (256 : Nat)
    omega
  · rw [hm, ren_row (by omega)]
    simp [renRow]
  · rw [ren_fo (by omega), ren_en (by omega)]
    exact h.fe _ (oldN_lt (by omega))
  · rw [hl] at hs
    rw [hm] at hc
    have hto := renTo_lt h hs (show 255 - c < 256 by omega)
    have hold := oldN_lt hs
    rw [ren_nxt hs hc, Int.toNat_natCast, hl]
    refine ⟨by omega, by omega, ?_⟩
    rw [ren_fo hs, ren_fo hto]
    unfold renTo
    rw [old_now (n := T.nx.length) (h.ok.lt _ _ hold (by omega))]
    obtain ⟨c0, c1⟩ := h.cl (255 - c) (by omega)
    have := (h.tr _ (T.cls (255 - c)).toNat hold (by omega)).2.2
    rw [Int.toNat_of_nonneg c0] at this
    exact this
theorem ren_like {T : Tb} (h : Fits T) : Alk T.au 0 (renT T).au 0 := by
  have h1 := h.n1
  refine alk_of (fun s i => i < 2 * T.nx.length ∧ s = oldN T.nx.length i) ?_ ⟨by omega, (old_zero (by omega)).symm⟩
  rintro s i ⟨hi, rfl⟩
  refine ⟨?_, fun b hb => ?_⟩
  · show (T.fo.getD _ 0, T.en.getD _ 0) = ((renT T).fo.getD i 0, (renT T).en.getD i 0)
    rw [ren_fo hi, ren_en hi]
  · rw [ren_go hi hb]
    refine ⟨renTo_lt h hi hb, ?_⟩
    unfold renTo
    exact (old_now (n := T.nx.length) (h.ok.lt _ _ (oldN_lt hi) hb)).symm
/-- the row as it is filled: b bytes gone through -/
def renU (T : Tb) (i b k : Nat) : Int := if 255 - k < b then ((renTo T i (255 - k) : Nat) : Int) else 0
theorem renU_put {T : Tb} {i b : Nat} (hb : b < 256) : ∀ k, k < 256 → upd (renU T i b) (255 - b) ((renTo T i b : Nat) : Int) k = renU T i (b + 1) k := by
  intro k hk
  unfold upd renU
  by_cases e : k = 255 - b
  · subst e
    rw [if_pos rfl, if_pos (by omega)]
    congr 2
    omega
  · rw [if_neg e]
    by_cases h : 255 - k < b
    · rw [if_pos h, if_pos (by omega)]
    · rw [if_neg h, if_neg (by omega)]
theorem renU_all (T : Tb) (i : Nat) : (List.range 256).map (renU T i 256) = renRow T i := by
  unfold renRow
  apply List.map_congr_left
  intro k hk
  have := List.mem_range.1 hk
  unfold renU
  rw [if_pos (by omega)]
end Go.Proofs.Ytgahdookojbbiaa
