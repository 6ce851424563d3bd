/- The walk of heronref03.member, name by name. -/
import Derived.Test.YtjpiebapemalfaaMem0
namespace Go.Proofs.Ytjpiebapemalfaa
open Go.RowKit
set_option linter.unusedVariables false
set_option linter.unusedSimpArgs false

def mp_cntrl (b : Nat) : Bool := decide ((b : Int) < 32) || ((b : Int) == 127)
set_option maxRecDepth 100000 in
set_option maxHeartbeats 2000000 in
theorem mem_cntrl (s : ByteArray) (b : Nat) (hb : b < 256) (w : World) (hs : Hid (s.toList = [99, 110, 116, 114, 108])) : Calls Try.prog 47 #[.string s, .int .i64 b] w fun e w' => e = .returned (.int .i64 (bitI (mp_cntrl b))) ∧ w' = w := by
  have q_alpha : (s.toList == [97, 108, 112, 104, 97]) = false := by rw [hs.out]; decide
  have q_digit : (s.toList == [100, 105, 103, 105, 116]) = false := by rw [hs.out]; decide
  have q_alnum : (s.toList == [97, 108, 110, 117, 109]) = false := by rw [hs.out]; decide
  have q_upper : (s.toList == [117, 112, 112, 101, 114]) = false := by rw [hs.out]; decide
  have q_lower : (s.toList == [108, 111, 119, 101, 114]) = false := by rw [hs.out]; decide
  have q_xdigit : (s.toList == [120, 100, 105, 103, 105, 116]) = false := by rw [hs.out]; decide
  have q_blank : (s.toList == [98, 108, 97, 110, 107]) = false := by rw [hs.out]; decide
  have q_space : (s.toList == [115, 112, 97, 99, 101]) = false := by rw [hs.out]; decide
  have q_cntrl : (s.toList == [99, 110, 116, 114, 108]) = true := by rw [hs.out]; decide
  go_enter Try.func47, Try.ntmps47
  go_upto_region 24 with (go_at_call 48; refine (in_any _ _ _ _).mono ?_; rintro e w1 ⟨rfl, hw⟩; subst hw)
  cases h0 : decide ((b : Int) < 32) <;> cases h1 : ((b : Int) == 127)
  all_goals
    go_wp2_with (go_at_call 48; refine (in_any _ _ _ _).mono ?_; rintro e w1 ⟨rfl, hw⟩; subst hw)
    go_ret
    refine ⟨?_, rfl⟩
    simp [mp_cntrl, bitI, h0, h1]

def mp_graph (b : Nat) : Bool := inB 33 126 b
set_option maxRecDepth 100000 in
set_option maxHeartbeats 2000000 in
theorem mem_graph (s : ByteArray) (b : Nat) (hb : b < 256) (w : World) (hs : Hid (s.toList = [103, 114, 97, 112, 104])) : Calls Try.prog 47 #[.string s, .int .i64 b] w fun e w' => e = .returned (.int .i64 (bitI (mp_graph b))) ∧ w' = w := by
  have q_alpha : (s.toList == [97, 108, 112, 104, 97]) = false := by rw [hs.out]; decide
  have q_digit : (s.toList == [100, 105, 103, 105, 116]) = false := by rw [hs.out]; decide
  have q_alnum : (s.toList == [97, 108, 110, 117, 109]) = false := by rw [hs.out]; decide
  have q_upper : (s.toList == [117, 112, 112, 101, 114]) = false := by rw [hs.out]; decide
  have q_lower : (s.toList == [108, 111, 119, 101, 114]) = false := by rw [hs.out]; decide
  have q_xdigit : (s.toList == [120, 100, 105, 103, 105, 116]) = false := by rw [hs.out]; decide
  have q_blank : (s.toList == [98, 108, 97, 110, 107]) = false := by rw [hs.out]; decide
  have q_space : (s.toList == [115, 112, 97, 99, 101]) = false := by rw [hs.out]; decide
  have q_cntrl : (s.toList == [99, 110, 116, 114, 108]) = false := by rw [hs.out]; decide
  have q_graph : (s.toList == [103, 114, 97, 112, 104]) = true := by rw [hs.out]; decide
  go_enter Try.func47, Try.ntmps47
  go_upto_region 26 with (go_at_call 48; refine (in_any _ _ _ _).mono ?_; rintro e w1 ⟨rfl, hw⟩; subst hw)
  cases h0 : inB 33 126 b
  all_goals
    go_wp2_with (go_at_call 48; refine (in_any _ _ _ _).mono ?_; rintro e w1 ⟨rfl, hw⟩; subst hw)
    go_ret
    refine ⟨?_, rfl⟩
    simp [mp_graph, bitI, h0]

def mp_print (b : Nat) : Bool := inB 32 126 b
set_option maxRecDepth 100000 in
set_option maxHeartbeats 2000000 in
theorem mem_print (s : ByteArray) (b : Nat) (hb : b < 256) (w : World) (hs : Hid (s.toList = [112, 114, 105, 110, 116])) : Calls Try.prog 47 #[.string s, .int .i64 b] w fun e w' => e = .returned (.int .i64 (bitI (mp_print b))) ∧ w' = w := by
  have q_alpha : (s.toList == [97, 108, 112, 104, 97]) = false := by rw [hs.out]; decide
  have q_digit : (s.toList == [100, 105, 103, 105, 116]) = false := by rw [hs.out]; decide
  have q_alnum : (s.toList == [97, 108, 110, 117, 109]) = false := by rw [hs.out]; decide
  have q_upper : (s.toList == [117, 112, 112, 101, 114]) = false := by rw [hs.out]; decide
  have q_lower : (s.toList == [108, 111, 119, 101, 114]) = false := by rw [hs.out]; decide
  have q_xdigit : (s.toList == [120, 100, 105, 103, 105, 116]) = false := by rw [hs.out]; decide
  have q_blank : (s.toList == [98, 108, 97, 110, 107]) = false := by rw [hs.out]; decide
  have q_space : (s.toList == [115, 112, 97, 99, 101]) = false := by rw [hs.out]; decide
  have q_cntrl : (s.toList == [99, 110, 116, 114, 108]) = false := by rw [hs.out]; decide
  have q_graph : (s.toList == [103, 114, 97, 112, 104]) = false := by rw [hs.out]; decide
  have q_print : (s.toList == [112, 114, 105, 110, 116]) = true := by rw [hs.out]; decide
  go_enter Try.func47, Try.ntmps47
  go_upto_region 28 with (go_at_call 48; refine (in_any _ _ _ _).mono ?_; rintro e w1 ⟨rfl, hw⟩; subst hw)
  cases h0 : inB 32 126 b
  all_goals
    go_wp2_with (go_at_call 48; refine (in_any _ _ _ _).mono ?_; rintro e w1 ⟨rfl, hw⟩; subst hw)
    go_ret
    refine ⟨?_, rfl⟩
    simp [mp_print, bitI, h0]

def mp_punct (b : Nat) : Bool := inB 33 126 b && !inB 65 90 b && !inB 97 122 b && !inB 48 57 b
set_option maxRecDepth 100000 in
set_option maxHeartbeats 2000000 in
theorem mem_punct (s : ByteArray) (b : Nat) (hb : b < 256) (w : World) (hs : Hid (s.toList = [112, 117, 110, 99, 116])) : Calls Try.prog 47 #[.string s, .int .i64 b] w fun e w' => e = .returned (.int .i64 (bitI (mp_punct b))) ∧ w' = w := by
  have q_alpha : (s.toList == [97, 108, 112, 104, 97]) = false := by rw [hs.out]; decide
  have q_digit : (s.toList == [100, 105, 103, 105, 116]) = false := by rw [hs.out]; decide
  have q_alnum : (s.toList == [97, 108, 110, 117, 109]) = false := by rw [hs.out]; decide
  have q_upper : (s.toList == [117, 112, 112, 101, 114]) = false := by rw [hs.out]; decide
  have q_lower : (s.toList == [108, 111, 119, 101, 114]) = false := by rw [hs.out]; decide
  have q_xdigit : (s.toList == [120, 100, 105, 103, 105, 116]) = false := by rw [hs.out]; decide
  have q_blank : (s.toList == [98, 108, 97, 110, 107]) = false := by rw [hs.out]; decide
  have q_space : (s.toList == [115, 112, 97, 99, 101]) = false := by rw [hs.out]; decide
  have q_cntrl : (s.toList == [99, 110, 116, 114, 108]) = false := by rw [hs.out]; decide
  have q_graph : (s.toList == [103, 114, 97, 112, 104]) = false := by rw [hs.out]; decide
  have q_print : (s.toList == [112, 114, 105, 110, 116]) = false := by rw [hs.out]; decide
  have q_punct : (s.toList == [112, 117, 110, 99, 116]) = true := by rw [hs.out]; decide
  go_enter Try.func47, Try.ntmps47
  go_upto_region 30 with (go_at_call 48; refine (in_any _ _ _ _).mono ?_; rintro e w1 ⟨rfl, hw⟩; subst hw)
  cases h0 : inB 33 126 b <;> cases h1 : inB 65 90 b <;> cases h2 : inB 97 122 b <;> cases h3 : inB 48 57 b
  all_goals
    go_wp2_with (go_at_call 48; refine (in_any _ _ _ _).mono ?_; rintro e w1 ⟨rfl, hw⟩; subst hw)
    go_ret
    refine ⟨?_, rfl⟩
    simp [mp_punct, bitI, h0, h1, h2, h3]

end Go.Proofs.Ytjpiebapemalfaa
