/- The walk of heronref03.member, name by name. -/
import Derived.Test.YtjpiebapemalfaaMem0
namespace Go.Proofs.Ytjpiebapemalfaa
open Go.RowKit
set_option linter.unusedVariables false
set_option linter.unusedSimpArgs false

def mp_lower (b : Nat) : Bool := inB 97 122 b
set_option maxRecDepth 100000 in
set_option maxHeartbeats 2000000 in
theorem mem_lower (s : ByteArray) (b : Nat) (hb : b < 256) (w : World) (hs : Hid (s.toList = [108, 111, 119, 101, 114])) : Calls Try.prog 47 #[.string s, .int .i64 b] w fun e w' => e = .returned (.int .i64 (bitI (mp_lower b))) ∧ w' = w := by
  have q_alpha : (s.toList == [97, 108, 112, 104, 97]) = false := by rw [hs.out]; decide
  have q_digit : (s.toList == [100, 105, 103, 105, 116]) = false := by rw [hs.out]; decide
  have q_alnum : (s.toList == [97, 108, 110, 117, 109]) = false := by rw [hs.out]; decide
  have q_upper : (s.toList == [117, 112, 112, 101, 114]) = false := by rw [hs.out]; decide
  have q_lower : (s.toList == [108, 111, 119, 101, 114]) = true := by rw [hs.out]; decide
  go_enter Try.func47, Try.ntmps47
  go_upto_region 16 with (go_at_call 48; refine (in_any _ _ _ _).mono ?_; rintro e w1 ⟨rfl, hw⟩; subst hw)
  cases h0 : inB 97 122 b
  all_goals
    go_wp2_with (go_at_call 48; refine (in_any _ _ _ _).mono ?_; rintro e w1 ⟨rfl, hw⟩; subst hw)
    go_ret
    refine ⟨?_, rfl⟩
    simp [mp_lower, bitI, h0]

def mp_xdigit (b : Nat) : Bool := inB 48 57 b || inB 65 70 b || inB 97 102 b
set_option maxRecDepth 100000 in
set_option maxHeartbeats 2000000 in
theorem mem_xdigit (s : ByteArray) (b : Nat) (hb : b < 256) (w : World) (hs : Hid (s.toList = [120, 100, 105, 103, 105, 116])) : Calls Try.prog 47 #[.string s, .int .i64 b] w fun e w' => e = .returned (.int .i64 (bitI (mp_xdigit b))) ∧ w' = w := by
  have q_alpha : (s.toList == [97, 108, 112, 104, 97]) = false := by rw [hs.out]; decide
  have q_digit : (s.toList == [100, 105, 103, 105, 116]) = false := by rw [hs.out]; decide
  have q_alnum : (s.toList == [97, 108, 110, 117, 109]) = false := by rw [hs.out]; decide
  have q_upper : (s.toList == [117, 112, 112, 101, 114]) = false := by rw [hs.out]; decide
  have q_lower : (s.toList == [108, 111, 119, 101, 114]) = false := by rw [hs.out]; decide
  have q_xdigit : (s.toList == [120, 100, 105, 103, 105, 116]) = true := by rw [hs.out]; decide
  go_enter Try.func47, Try.ntmps47
  go_upto_region 18 with (go_at_call 48; refine (in_any _ _ _ _).mono ?_; rintro e w1 ⟨rfl, hw⟩; subst hw)
  cases h0 : inB 48 57 b <;> cases h1 : inB 65 70 b <;> cases h2 : inB 97 102 b
  all_goals
    go_wp2_with (go_at_call 48; refine (in_any _ _ _ _).mono ?_; rintro e w1 ⟨rfl, hw⟩; subst hw)
    go_ret
    refine ⟨?_, rfl⟩
    simp [mp_xdigit, bitI, h0, h1, h2]

def mp_blank (b : Nat) : Bool := ((b : Int) == 9) || ((b : Int) == 32)
set_option maxRecDepth 100000 in
set_option maxHeartbeats 2000000 in
theorem mem_blank (s : ByteArray) (b : Nat) (hb : b < 256) (w : World) (hs : Hid (s.toList = [98, 108, 97, 110, 107])) : Calls Try.prog 47 #[.string s, .int .i64 b] w fun e w' => e = .returned (.int .i64 (bitI (mp_blank b))) ∧ w' = w := by
  have q_alpha : (s.toList == [97, 108, 112, 104, 97]) = false := by rw [hs.out]; decide
  have q_digit : (s.toList == [100, 105, 103, 105, 116]) = false := by rw [hs.out]; decide
  have q_alnum : (s.toList == [97, 108, 110, 117, 109]) = false := by rw [hs.out]; decide
  have q_upper : (s.toList == [117, 112, 112, 101, 114]) = false := by rw [hs.out]; decide
  have q_lower : (s.toList == [108, 111, 119, 101, 114]) = false := by rw [hs.out]; decide
  have q_xdigit : (s.toList == [120, 100, 105, 103, 105, 116]) = false := by rw [hs.out]; decide
  have q_blank : (s.toList == [98, 108, 97, 110, 107]) = true := by rw [hs.out]; decide
  go_enter Try.func47, Try.ntmps47
  go_upto_region 20 with (go_at_call 48; refine (in_any _ _ _ _).mono ?_; rintro e w1 ⟨rfl, hw⟩; subst hw)
  cases h0 : ((b : Int) == 9) <;> cases h1 : ((b : Int) == 32)
  all_goals
    go_wp2_with (go_at_call 48; refine (in_any _ _ _ _).mono ?_; rintro e w1 ⟨rfl, hw⟩; subst hw)
    go_ret
    refine ⟨?_, rfl⟩
    simp [mp_blank, bitI, h0, h1]

def mp_space (b : Nat) : Bool := inB 9 13 b || ((b : Int) == 32)
set_option maxRecDepth 100000 in
set_option maxHeartbeats 2000000 in
theorem mem_space (s : ByteArray) (b : Nat) (hb : b < 256) (w : World) (hs : Hid (s.toList = [115, 112, 97, 99, 101])) : Calls Try.prog 47 #[.string s, .int .i64 b] w fun e w' => e = .returned (.int .i64 (bitI (mp_space b))) ∧ w' = w := by
  have q_alpha : (s.toList == [97, 108, 112, 104, 97]) = false := by rw [hs.out]; decide
  have q_digit : (s.toList == [100, 105, 103, 105, 116]) = false := by rw [hs.out]; decide
  have q_alnum : (s.toList == [97, 108, 110, 117, 109]) = false := by rw [hs.out]; decide
  have q_upper : (s.toList == [117, 112, 112, 101, 114]) = false := by rw [hs.out]; decide
  have q_lower : (s.toList == [108, 111, 119, 101, 114]) = false := by rw [hs.out]; decide
  have q_xdigit : (s.toList == [120, 100, 105, 103, 105, 116]) = false := by rw [hs.out]; decide
  have q_blank : (s.toList == [98, 108, 97, 110, 107]) = false := by rw [hs.out]; decide
  have q_space : (s.toList == [115, 112, 97, 99, 101]) = true := by rw [hs.out]; decide
  go_enter Try.func47, Try.ntmps47
  go_upto_region 22 with (go_at_call 48; refine (in_any _ _ _ _).mono ?_; rintro e w1 ⟨rfl, hw⟩; subst hw)
  cases h0 : inB 9 13 b <;> cases h1 : ((b : Int) == 32)
  all_goals
    go_wp2_with (go_at_call 48; refine (in_any _ _ _ _).mono ?_; rintro e w1 ⟨rfl, hw⟩; subst hw)
    go_ret
    refine ⟨?_, rfl⟩
    simp [mp_space, bitI, h0, h1]

end Go.Proofs.Ytjpiebapemalfaa
