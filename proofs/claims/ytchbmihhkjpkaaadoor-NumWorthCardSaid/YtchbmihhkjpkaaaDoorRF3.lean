/-
  Floats of 64 bits: the bits without a sign, and with one. Plain Lean.
-/
import Derived.Test.YtchbmihhkjpkaaaDoorRF1
namespace Go.Proofs.YtchbmihhkjpkaaaDoor.M
open Ieee
set_option linter.unusedVariables false
set_option linter.unusedSimpArgs false

theorem sgn_abs (b : Nat) : sgn (b % 9223372036854775808) = false := by
  unfold sgn
  rw [Nat.div_eq_of_lt (Nat.mod_lt _ (by decide))]; rfl
theorem read_abs (b : Nat) : F64.read (b % 9223372036854775808) = match F64.read b with | .number _ m i => .number false m i | .infinity _ => .infinity false | .nan _ t => .nan false t := by
  have h1 := sgn_abs b
  unfold sgn at h1
  unfold Format.read
  rw [lp, sw, bn, ir]
  dsimp only
  rw [Nat.mod_mod, h1]
  obtain ⟨r, hr⟩ : ∃ r, b % 9223372036854775808 = r := ⟨_, rfl⟩
  rw [hr]
  by_cases c1 : r < 4503599627370496
  · rw [if_pos c1, if_pos c1]
  rw [if_neg c1, if_neg c1]
  by_cases c2 : r < 9218868437227405312
  · rw [if_pos c2, if_pos c2]
  rw [if_neg c2, if_neg c2]
  by_cases c3 : r = 9218868437227405312
  · rw [if_pos c3, if_pos c3]
  · rw [if_neg c3, if_neg c3]
theorem sort_abs (b : Nat) : sortF (b % 9223372036854775808) = sortF b := by unfold sortF; rw [read_abs]; cases F64.read b <;> rfl
theorem bv_nat {b : Nat} (h : b < 18446744073709551616) : (BitVec.ofInt 64 (b : Int)).toNat = b := by
  rw [BitVec.toNat_ofInt]; omega
theorem abs_bits {b : Nat} (h : b < 18446744073709551616) : (BitVec.ofInt 64 (b : Int) &&& ~~~BitVec.ofInt 64 9223372036854775808).toNat = b % 9223372036854775808 := by
  rw [BitVec.toNat_and, BitVec.toNat_not, bv_nat h, show (BitVec.ofInt 64 9223372036854775808).toNat = 9223372036854775808 from rfl, show 2 ^ 64 - 1 - 9223372036854775808 = 2 ^ 63 - 1 from rfl, Nat.and_two_pow_sub_one_eq_mod]
theorem sign_bits : (BitVec.ofInt 64 13830554455654793216 &&& BitVec.ofInt 64 9223372036854775808).toNat = 9223372036854775808 := by decide
theorem or_bits {x : Nat} (h : x < 9223372036854775808) : (BitVec.ofInt 64 (x : Int) ||| BitVec.ofInt 64 9223372036854775808).toNat = x + 9223372036854775808 := by
  rw [BitVec.toNat_or, bv_nat (by omega), show (BitVec.ofInt 64 9223372036854775808).toNat = 2 ^ 63 from rfl, Nat.or_comm]
  have := Nat.two_pow_add_eq_or_of_lt (i := 63) (b := x) (by omega) 1
  rw [Nat.mul_one] at this
  rw [← this]; omega
theorem flip_good {x : Nat} (h : x < 9223372036854775808) : flip x = x + 9223372036854775808 := by
  have h1 := flip_mod x
  have h2 := flip_div x
  rw [Nat.div_eq_of_lt h, show (0 : Nat) ^^^ 1 = 1 from rfl] at h2
  rw [Nat.mod_eq_of_lt h] at h1
  omega
end Go.Proofs.YtchbmihhkjpkaaaDoor.M
