/-
  Flags as numbers: what &^ and & come to.
-/
import Derived.Test.YtndkbhlfbeiniaaSpT
import Derived.Test.YtndkbhlfbeiniaaHpE
namespace Go.Sp
open Go Go.Hp
set_option linter.unusedVariables false

def andNot64 (a b : Int) : Int := bitAndNot .i64 a b
def and64 (a b : Int) : Int := bitAnd .i64 a b
theorem wrap_zero {n : Nat} (h : n < 18446744073709551616) : IntKind.i64.wrap (n : Int) = 0 ↔ n = 0 := by
  constructor
  · intro e
    by_cases h2 : n < 9223372036854775808
    · rw [wrap_i64] at e <;> omega
    · have : IntKind.i64.wrap ((n : Int)) = (n : Int) - 18446744073709551616 := by
        unfold IntKind.wrap
        simp only [IntKind.signed, IntKind.bits]
        simp
        omega
      omega
  · rintro rfl; rfl
theorem andNot_zero {x : Int} (h1 : -9223372036854775808 ≤ x) (h2 : x ≤ 9223372036854775807) : andNot64 x 255 = 0 ↔ 0 ≤ x ∧ x < 256 := by
  unfold andNot64 bitAndNot
  show IntKind.i64.wrap ((BitVec.ofInt 64 x &&& ~~~ BitVec.ofInt 64 255).toNat : Int) = 0 ↔ _
  rw [wrap_zero (BitVec.isLt _)]
  have ht : (BitVec.ofInt 64 x).toNat = (x % 18446744073709551616).toNat := by
    rw [BitVec.toNat_ofInt]; rfl
  have key : (BitVec.ofInt 64 x &&& ~~~ BitVec.ofInt 64 255).toNat = 0 ↔ (BitVec.ofInt 64 x).toNat < 2 ^ 8 := by
    constructor
    · intro h
      have hz : BitVec.ofInt 64 x &&& ~~~ BitVec.ofInt 64 255 = 0#64 := BitVec.eq_of_toNat_eq h
      apply Nat.lt_pow_two_of_testBit
      intro i hi
      by_cases h64 : i < 64
      · have := congrArg (fun y => BitVec.getLsbD y i) hz
        simp only [BitVec.getLsbD_and, BitVec.getLsbD_not, BitVec.getLsbD_zero] at this
        have h255 : (BitVec.ofInt 64 255).getLsbD i = false := by
          show Nat.testBit (BitVec.ofInt 64 255).toNat i = false
          exact Nat.testBit_lt_two_pow (Nat.lt_of_lt_of_le (show (BitVec.ofInt 64 255).toNat < 2 ^ 8 by decide) (Nat.pow_le_pow_right (by decide) hi))
        rw [h255] at this
        simp only [h64, decide_true, Bool.not_false, Bool.and_true] at this
        exact this
      · exact Nat.testBit_lt_two_pow (Nat.lt_of_lt_of_le (BitVec.isLt _) (Nat.pow_le_pow_right (by decide) (by omega)))
    · intro h
      have : BitVec.ofInt 64 x &&& ~~~ BitVec.ofInt 64 255 = 0#64 := by
        apply BitVec.eq_of_getLsbD_eq
        intro i hi
        simp only [BitVec.getLsbD_and, BitVec.getLsbD_not, BitVec.getLsbD_zero]
        by_cases h8 : i < 8
        · have h255 : (BitVec.ofInt 64 255).getLsbD i = true := by
            show Nat.testBit (BitVec.ofInt 64 255).toNat i = true
            have e : (BitVec.ofInt 64 255).toNat = 2 ^ 8 - 1 := by decide
            rw [e, Nat.testBit_two_pow_sub_one]; simp [h8]
          rw [h255]; simp
        · have : (BitVec.ofInt 64 x).getLsbD i = false := Nat.testBit_lt_two_pow (Nat.lt_of_lt_of_le h (Nat.pow_le_pow_right (by decide) (by omega)))
          rw [this]; simp
      rw [this]; rfl
  rw [key, ht]
  constructor
  · intro h
    have : x % 18446744073709551616 < 256 := by omega
    omega
  · rintro ⟨h3, h4⟩
    rw [Int.emod_eq_of_lt h3 (by omega)]
    omega
theorem and64_nat {a b : Nat} (ha : a < 256) (hb : b < 256) : and64 (a : Int) (b : Int) = ((a &&& b : Nat) : Int) := by
  have h : a &&& b < 2 ^ 8 := Nat.and_lt_two_pow (n := 8) a hb
  have e1 : ∀ n : Nat, n < 256 → (BitVec.ofInt IntKind.i64.bits (n : Int)).toNat = n := fun n hn => by
    show (BitVec.ofInt 64 (n : Int)).toNat = n
    rw [BitVec.toNat_ofInt]
    omega
  unfold and64 bitAnd
  rw [BitVec.toNat_and, e1 a ha, e1 b hb, wrap_i64] <;> omega
end Go.Sp
