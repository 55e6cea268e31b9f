/-
  Walks and plain laws.
-/
import Derived.Test.YtfgnleoaibcegaaGreatXAD
import Derived.Laws.Bits64b
set_option linter.unusedVariables false
set_option linter.unusedSimpArgs false
namespace Go.Proofs.YtfgnleoaibcegaaGreat

open Go.RowKit

theorem w64 {n : Nat} (h : n < B64) {z : Int} (e : z = (n : Int)) : IntKind.u64.wrap z = (n : Int) := by rw [e]; exact wrap_nat h
theorem and_low {Y : Nat} (h : Y < B64) : bits .and .u64 (Y : Int) 4294967295 = ((Y % B32 : Nat) : Int) := by
  rw [B64_eq] at h
  have := bits_and_u64_nat Y 4294967295 h (by omega)
  rw [show (4294967295 : Nat) = 2 ^ 32 - 1 from rfl, Nat.and_two_pow_sub_one_eq_mod] at this
  exact this
theorem shl_full {w s : Nat} : IntKind.u64.wrap ((w : Int) * 2 ^ s) = ((w * 2 ^ s % B64 : Nat) : Int) := by
  rw [IntKind.wrap_u64, B64_eq]; simp
theorem or_two {hi lo s : Nat} (hs : s < 64) (hl : lo < B64) (hh : hi * 2 ^ s < B64) : bits .or .u64 (IntKind.u64.wrap ((hi : Int) * 2 ^ s)) ((lo : Int) / 2 ^ (64 - s)) = ((hi * 2 ^ s + lo * 2 ^ s / B64 : Nat) : Int) := by
  rw [shl_full, Nat.mod_eq_of_lt hh]
  have e1 : (lo : Int) / 2 ^ (64 - s) = ((lo / 2 ^ (64 - s) : Nat) : Int) := by simp
  have h1 : lo / 2 ^ (64 - s) < 2 ^ s := by
    rw [Nat.div_lt_iff_lt_mul (Nat.two_pow_pos _), ← Nat.pow_add, show s + (64 - s) = 64 by omega, ← B64_pow]; exact hl
  have h2 : lo / 2 ^ (64 - s) ≤ lo := Nat.div_le_self ..
  rw [e1, ← shr_part hs, Nat.mul_comm hi, Nat.two_pow_add_eq_or_of_lt h1]
  rw [Nat.mul_comm] at hh
  rw [B64_eq] at *
  exact u64_or_nat _ _ hh (by omega)
theorem tdiv_nat {U a : Nat} (h : U < B64) : IntKind.u64.wrap ((U : Int) / (a : Int)) = ((U / a : Nat) : Int) := by
  have : U / a ≤ U := Nat.div_le_self ..
  refine w64 (by omega) ?_
  simp
theorem sub_low {U q a r : Nat} (h : q * a + r = U) (hU : U < B64) : IntKind.u64.wrap ((U : Int) - IntKind.u64.wrap ((q : Int) * (a : Int))) = (r : Int) := by
  rw [w64 (z := (q : Int) * (a : Int)) (n := q * a) (by omega) (by simp)]
  refine w64 (by omega) ?_
  have := congrArg (Nat.cast (R := Int)) h
  simp only [Int.natCast_add] at this
  omega

structure Words (hi lo y s Y U Z : Nat) : Prop where
  s64 : s < 64
  y_eq : y * 2 ^ s = Y
  y_lt : Y < B64
  y_ge : 9223372036854775808 ≤ Y
  u_eq : hi * 2 ^ s + lo * 2 ^ s / B64 = U
  z_eq : lo * 2 ^ s % B64 = Z
  u_lt : U < Y
  h_lt : hi * 2 ^ s < B64
  eq : (hi * B64 + lo) * 2 ^ s = U * B64 + Z
theorem words {hi lo y : Nat} (hy : y < B64) (hh : hi < y) (hl : lo < B64) : Words hi lo y (64 - bl y) (y * 2 ^ (64 - bl y)) (hi * 2 ^ (64 - bl y) + lo * 2 ^ (64 - bl y) / B64) (lo * 2 ^ (64 - bl y) % B64) := by
  obtain ⟨b1, b2, b3⟩ := bl_bounds (x := y) (by omega)
  have b4 : bl y ≤ 64 := bl_le (by rw [← B64_pow]; exact hy)
  have h1 : y * 2 ^ (64 - bl y) < B64 := by
    rw [B64_pow, show 64 = bl y + (64 - bl y) by omega, Nat.pow_add, show bl y + (64 - bl y) - bl y = 64 - bl y by omega]
    exact Nat.mul_lt_mul_of_pos_right b3 (Nat.two_pow_pos _)
  have h2 : 9223372036854775808 ≤ y * 2 ^ (64 - bl y) := by
    rw [show 9223372036854775808 = 2 ^ (bl y - 1) * 2 ^ (64 - bl y) by rw [← Nat.pow_add, show bl y - 1 + (64 - bl y) = 63 by omega]]
    exact Nat.mul_le_mul_right _ b2
  have h3 : (hi + 1) * 2 ^ (64 - bl y) ≤ y * 2 ^ (64 - bl y) := Nat.mul_le_mul_right _ hh
  have h4 : lo * 2 ^ (64 - bl y) / B64 < 2 ^ (64 - bl y) := by
    rw [Nat.div_lt_iff_lt_mul (by decide), Nat.mul_comm]
    exact Nat.mul_lt_mul_of_pos_left hl (Nat.two_pow_pos _)
  have h5 := Nat.div_add_mod (lo * 2 ^ (64 - bl y)) B64
  rw [Nat.add_mul] at h3
  refine ⟨by omega, rfl, h1, h2, rfl, rfl, by omega, by omega, ?_⟩
  have e1 : (hi * B64 + lo) * 2 ^ (64 - bl y) = hi * 2 ^ (64 - bl y) * B64 + lo * 2 ^ (64 - bl y) := by rw [Nat.add_mul, Nat.mul_right_comm]
  have e2 : ∀ c d : Nat, (hi * 2 ^ (64 - bl y) + c) * B64 + d = hi * 2 ^ (64 - bl y) * B64 + (B64 * c + d) := by intro c d; rw [Nat.add_mul, Nat.mul_comm c]; omega
  rw [e1, e2, h5]

theorem wrap_tail {U u1 q Y h R : Nat} (e : q * Y + R = U * h + u1) (hR : R < B64) :
    IntKind.u64.wrap (IntKind.u64.wrap (IntKind.u64.wrap ((U : Int) * (h : Int)) + (u1 : Int)) - IntKind.u64.wrap ((q : Int) * (Y : Int))) = (R : Int) := by
  have e2 : (R : Int) = (U : Int) * (h : Int) + (u1 : Int) - (q : Int) * (Y : Int) := by
    have := congrArg (Nat.cast (R := Int)) e
    simp only [Int.natCast_add, Int.natCast_mul] at this
    omega
  rw [B64_eq] at hR
  simp only [IntKind.wrap_u64]
  rw [Int.emod_add_emod, ← Int.sub_emod, ← e2]
  omega
end Go.Proofs.YtfgnleoaibcegaaGreat
