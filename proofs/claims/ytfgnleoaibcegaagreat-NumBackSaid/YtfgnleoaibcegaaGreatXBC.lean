/-
  Walks and plain laws.
-/
import Derived.Test.YtfgnleoaibcegaaGreatXBB
set_option linter.unusedVariables false
set_option linter.unusedSimpArgs false
namespace Go.Proofs.YtfgnleoaibcegaaGreat

open Go.RowKit

theorem and_i64 (n : Int) (k : Nat) (hk : k ≤ 62) : ∃ N : Nat, N < 2 ^ k ∧ bits .and .i64 n ((2 ^ k - 1 : Nat) : Int) = (N : Int) := by
  have hp : 2 ^ k ≤ 2 ^ 62 := Nat.pow_le_pow_right (by omega) hk
  have hp2 : (2 : Nat) ^ 62 = 4611686018427387904 := rfl
  have hp0 : 0 < 2 ^ k := Nat.two_pow_pos k
  refine ⟨(BitVec.ofInt 64 n).toNat % 2 ^ k, Nat.mod_lt _ hp0, ?_⟩
  have h2 : (BitVec.ofInt 64 ((2 ^ k - 1 : Nat) : Int)).toNat = 2 ^ k - 1 := by
    rw [BitVec.ofInt_natCast, BitVec.toNat_ofNat]; exact Nat.mod_eq_of_lt (by omega)
  show IntKind.i64.wrap ((BitVec.ofInt 64 n &&& BitVec.ofInt 64 ((2 ^ k - 1 : Nat) : Int)).toNat : Int) = _
  rw [BitVec.toNat_and, h2, Nat.and_two_pow_sub_one_eq_mod, IntKind.wrap_i64]
  have := Nat.mod_lt (BitVec.ofInt 64 n).toNat hp0
  omega

end Go.Proofs.YtfgnleoaibcegaaGreat
