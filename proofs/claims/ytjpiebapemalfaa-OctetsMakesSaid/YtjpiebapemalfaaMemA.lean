/- The walk of heronref03.member, name by name. -/
import Derived.Test.YtjpiebapemalfaaMem0
namespace Go.Proofs.Ytjpiebapemalfaa
open Go.RowKit
set_option linter.unusedVariables false
set_option linter.unusedSimpArgs false

def mp_alpha (b : Nat) : Bool := inB 65 90 b || inB 97 122 b
set_option maxRecDepth 100000 in
set_option maxHeartbeats 2000000 in
theorem mem_alpha (s : ByteArray) (b : Nat) (hb : b < 256) (w : World) (hs : Hid (s.toList = [97, 108, 112, 104, 97])) : Calls Try.prog 47 #[.string s, .int .i64 b] w fun e w' => e = .returned (.int .i64 (bitI (mp_alpha b))) ∧ w' = w := by
  have q_alpha : (s.toList == [97, 108, 112, 104, 97]) = true := by rw [hs.out]; decide
  go_enter Try.func47, Try.ntmps47
  go_upto_region 8 with (go_at_call 48; refine (in_any _ _ _ _).mono ?_; rintro e w1 ⟨rfl, hw⟩; subst hw)
  cases h0 : inB 65 90 b <;> cases h1 : inB 97 122 b
  all_goals
    go_wp2_with (go_at_call 48; refine (in_any _ _ _ _).mono ?_; rintro e w1 ⟨rfl, hw⟩; subst hw)
    go_ret
    refine ⟨?_, rfl⟩
    simp [mp_alpha, bitI, h0, h1]

def mp_digit (b : Nat) : Bool := inB 48 57 b
set_option maxRecDepth 100000 in
set_option maxHeartbeats 2000000 in
theorem mem_digit (s : ByteArray) (b : Nat) (hb : b < 256) (w : World) (hs : Hid (s.toList = [100, 105, 103, 105, 116])) : Calls Try.prog 47 #[.string s, .int .i64 b] w fun e w' => e = .returned (.int .i64 (bitI (mp_digit b))) ∧ w' = w := by
  have q_alpha : (s.toList == [97, 108, 112, 104, 97]) = false := by rw [hs.out]; decide
  have q_digit : (s.toList == [100, 105, 103, 105, 116]) = true := by rw [hs.out]; decide
  go_enter Try.func47, Try.ntmps47
  go_upto_region 10 with (go_at_call 48; refine (in_any _ _ _ _).mono ?_; rintro e w1 ⟨rfl, hw⟩; subst hw)
  cases h0 : inB 48 57 b
  all_goals
    go_wp2_with (go_at_call 48; refine (in_any _ _ _ _).mono ?_; rintro e w1 ⟨rfl, hw⟩; subst hw)
    go_ret
    refine ⟨?_, rfl⟩
    simp [mp_digit, bitI, h0]

def mp_alnum (b : Nat) : Bool := inB 65 90 b || inB 97 122 b || inB 48 57 b
set_option maxRecDepth 100000 in
set_option maxHeartbeats 2000000 in
theorem mem_alnum (s : ByteArray) (b : Nat) (hb : b < 256) (w : World) (hs : Hid (s.toList = [97, 108, 110, 117, 109])) : Calls Try.prog 47 #[.string s, .int .i64 b] w fun e w' => e = .returned (.int .i64 (bitI (mp_alnum b))) ∧ w' = w := by
  have q_alpha : (s.toList == [97, 108, 112, 104, 97]) = false := by rw [hs.out]; decide
  have q_digit : (s.toList == [100, 105, 103, 105, 116]) = false := by rw [hs.out]; decide
  have q_alnum : (s.toList == [97, 108, 110, 117, 109]) = true := by rw [hs.out]; decide
  go_enter Try.func47, Try.ntmps47
  go_upto_region 12 with (go_at_call 48; refine (in_any _ _ _ _).mono ?_; rintro e w1 ⟨rfl, hw⟩; subst hw)
  cases h0 : inB 65 90 b <;> cases h1 : inB 97 122 b <;> cases h2 : inB 48 57 b
  all_goals
    go_wp2_with (go_at_call 48; refine (in_any _ _ _ _).mono ?_; rintro e w1 ⟨rfl, hw⟩; subst hw)
    go_ret
    refine ⟨?_, rfl⟩
    simp [mp_alnum, bitI, h0, h1, h2]

def mp_upper (b : Nat) : Bool := inB 65 90 b
set_option maxRecDepth 100000 in
set_option maxHeartbeats 2000000 in
theorem mem_upper (s : ByteArray) (b : Nat) (hb : b < 256) (w : World) (hs : Hid (s.toList = [117, 112, 112, 101, 114])) : Calls Try.prog 47 #[.string s, .int .i64 b] w fun e w' => e = .returned (.int .i64 (bitI (mp_upper b))) ∧ w' = w := by
  have q_alpha : (s.toList == [97, 108, 112, 104, 97]) = false := by rw [hs.out]; decide
  have q_digit : (s.toList == [100, 105, 103, 105, 116]) = false := by rw [hs.out]; decide
  have q_alnum : (s.toList == [97, 108, 110, 117, 109]) = false := by rw [hs.out]; decide
  have q_upper : (s.toList == [117, 112, 112, 101, 114]) = true := by rw [hs.out]; decide
  go_enter Try.func47, Try.ntmps47
  go_upto_region 14 with (go_at_call 48; refine (in_any _ _ _ _).mono ?_; rintro e w1 ⟨rfl, hw⟩; subst hw)
  cases h0 : inB 65 90 b
  all_goals
    go_wp2_with (go_at_call 48; refine (in_any _ _ _ _).mono ?_; rintro e w1 ⟨rfl, hw⟩; subst hw)
    go_ret
    refine ⟨?_, rfl⟩
    simp [mp_upper, bitI, h0]

end Go.Proofs.Ytjpiebapemalfaa
