/-
  Bits of powers, words masked, bits as a sum: plain facts and contracts.
-/
import Derived.Test.YthanbjbcpljcoaaBB

set_option linter.unusedVariables false

set_option linter.unusedSimpArgs false

namespace Go.Proofs.Ythanbjbcpljcoaa

open Go.RowKit

theorem and_i64 (n : Int) (k : Nat) (hk : k ≤ 62) : ∃ N : Nat, N < 2 ^ k ∧ bits .and .i64 n ((2 ^ k - 1 : Nat) : Int) = (N : Int) := by
  have hp : 2 ^ k ≤ 2 ^ 62 := Nat.pow_le_pow_right (by omega) hk
  have hp2 : (2 : Nat) ^ 62 = 4611686018427387904 := rfl
  have hp0 : 0 < 2 ^ k := Nat.two_pow_pos k
  refine ⟨(BitVec.ofInt 64 n).toNat % 2 ^ k, Nat.mod_lt _ hp0, ?_⟩
  have h2 : (BitVec.ofInt 64 ((2 ^ k - 1 : Nat) : Int)).toNat = 2 ^ k - 1 := by
    rw [BitVec.ofInt_natCast, BitVec.toNat_ofNat]; exact Nat.mod_eq_of_lt (by omega)
  show IntKind.i64.wrap ((BitVec.ofInt 64 n &&& BitVec.ofInt 64 ((2 ^ k - 1 : Nat) : Int)).toNat : Int) = _
  rw [BitVec.toNat_and, h2, Nat.and_two_pow_sub_one_eq_mod, IntKind.wrap_i64]
  have := Nat.mod_lt (BitVec.ofInt 64 n).toNat hp0
  omega

theorem bit_pow (N i : Nat) : (1 * 2 ^ N).testBit i = decide (N = i) := by rw [Nat.one_mul]; exact Nat.testBit_two_pow
theorem bl_pow (N : Nat) : bl (1 * 2 ^ N) = N + 1 := by
  rw [Nat.one_mul]
  exact bl_unique (by omega) (by rw [Nat.add_sub_cancel]; exact Nat.le_refl _) (Nat.pow_lt_pow_right (by omega) (by omega))
theorem bit_top {x : Nat} (h : 0 < x) : x.testBit (bl x - 1) = true := by
  obtain ⟨b1, b2, b3⟩ := bl_bounds h
  rw [Nat.testBit_eq_decide_div_mod_eq]
  have h1 : x / 2 ^ (bl x - 1) = 1 := by
    refine Nat.div_eq_of_lt_le (by omega) ?_
    rw [← Nat.pow_succ']
    rw [show (bl x - 1).succ = bl x by omega]
    exact b3
  rw [h1]
  rfl
theorem bit_over {x i : Nat} (h : bl x ≤ i) : x.testBit i = false := by
  refine Nat.testBit_lt_two_pow (Nat.lt_of_lt_of_le bl_lt (Nat.pow_le_pow_right (by omega) h))
theorem sum_next (x i : Nat) : x % 2 ^ (i + 1) = x % 2 ^ i + (if x.testBit i = true then 2 ^ i else 0) := by
  rw [Nat.mod_pow_succ]
  congr 1
  rw [Nat.testBit_eq_decide_div_mod_eq]
  rcases Nat.mod_two_eq_zero_or_one (x / 2 ^ i) with h | h
  · rw [h]; simp
  · rw [h]; simp
end Go.Proofs.Ythanbjbcpljcoaa
