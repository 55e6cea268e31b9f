/-
  Walks and plain laws.
-/
import Derived.Test.YtfgnleoaibcegaaGreatXAC
set_option linter.unusedVariables false
set_option linter.unusedSimpArgs false
namespace Go.Proofs.YtfgnleoaibcegaaGreat

open Go.RowKit

structure Half (h a b U u1 q r : Nat) : Prop where
  eq : q * a + r = U
  lt : U * h + u1 < (q + 1) * (a * h + b)
theorem half_sum {h a b U u1 q r : Nat} (H : q * a + r = U) : q * (a * h + b) + h * r = U * h + q * b := by
  subst H
  rw [Nat.mul_add, Nat.add_mul, Nat.mul_assoc, Nat.mul_comm h r]; omega
theorem half_start {h a b U u1 : Nat} (ha : 0 < a) (hu : u1 < h) : Half h a b U u1 (U / a) (U % a) := by
  refine ⟨Nat.div_add_mod' U a, ?_⟩
  have h1 : U + 1 ≤ (U / a + 1) * a := by
    have := Nat.div_add_mod' U a
    have := Nat.mod_lt U ha
    rw [Nat.add_mul, Nat.one_mul]; omega
  have h2 := Nat.mul_le_mul_right h h1
  rw [Nat.add_mul, Nat.one_mul] at h2
  have h3 : (U / a + 1) * (a * h + b) = (U / a + 1) * a * h + (U / a + 1) * b := by rw [Nat.mul_add, Nat.mul_assoc]
  omega
theorem half_pos {h a b U u1 q r : Nat} (H : Half h a b U u1 q r) (hlt : U * h + u1 < q * (a * h + b)) : 0 < q := by
  rcases Nat.eq_zero_or_pos q with rfl | h0
  · simp at hlt
  · exact h0
theorem half_down {h a b U u1 q r : Nat} (H : Half h a b U u1 q r) (hU : U < a * h + b) (hu : u1 < h) (hc : h ≤ q ∨ h * r + u1 < q * b) :
    0 < q ∧ Half h a b U u1 (q - 1) (r + a) := by
  have hlt : U * h + u1 < q * (a * h + b) := by
    rcases hc with hc | hc
    · have h1 : (U + 1) * h ≤ (a * h + b) * h := Nat.mul_le_mul_right h hU
      have h2 : (a * h + b) * h ≤ (a * h + b) * q := Nat.mul_le_mul_left _ hc
      have h3 : (U + 1) * h = U * h + h := by rw [Nat.add_mul, Nat.one_mul]
      rw [Nat.mul_comm q]
      exact Nat.lt_of_lt_of_le (by omega) (Nat.le_trans h1 h2)
    · have := half_sum (h := h) (b := b) (u1 := u1) H.eq
      omega
  have h0 := half_pos H hlt
  refine ⟨h0, ?_, by rwa [Nat.sub_add_cancel h0]⟩
  have := H.eq
  obtain ⟨k, rfl⟩ : ∃ k, q = k + 1 := ⟨q - 1, by omega⟩
  rw [Nat.add_mul] at this
  simp; omega
theorem half_end {h a b U u1 q r : Nat} (H : Half h a b U u1 q r) (hc : q * b ≤ h * r + u1) : (U * h + u1) / (a * h + b) = q ∧ q * (a * h + b) ≤ U * h + u1 := by
  have h1 := half_sum (h := h) (b := b) (u1 := u1) H.eq
  have h2 : q * (a * h + b) ≤ U * h + u1 := by omega
  exact ⟨Nat.div_eq_of_lt_le h2 H.lt, h2⟩
theorem half_out {h a b U u1 q r : Nat} (H : Half h a b U u1 q r) (hU : U < a * h + b) (hb : b < h) (hr : h ≤ r) : q < h ∧ q * b ≤ h * r + u1 := by
  have h1 := H.eq
  have h2 : q * a < h * a := by rw [Nat.mul_comm h a]; omega
  have h3 : q < h := Nat.lt_of_mul_lt_mul_right h2
  have h4 : q * b ≤ h * b := Nat.mul_le_mul_right b (Nat.le_of_lt h3)
  have h5 : h * b ≤ h * r := Nat.mul_le_mul_left h (by omega)
  exact ⟨h3, by omega⟩

theorem two_rounds {h Y U u1 u0 : Nat} (hY : 0 < Y) :
    (U * h * h + u1 * h + u0) / Y = (U * h + u1) / Y * h + ((U * h + u1) % Y * h + u0) / Y ∧
    (U * h * h + u1 * h + u0) % Y = ((U * h + u1) % Y * h + u0) % Y := by
  have e : U * h * h + u1 * h + u0 = (U * h + u1) * h + u0 := by rw [Nat.add_mul]
  have e2 := Nat.div_add_mod (U * h + u1) Y
  have e3 : (U * h + u1) * h + u0 = Y * ((U * h + u1) / Y * h) + ((U * h + u1) % Y * h + u0) := by
    conv => lhs; rw [← e2, Nat.add_mul, Nat.mul_assoc]
    omega
  rw [e, e3]
  refine ⟨?_, Nat.mul_add_mod ..⟩
  conv => lhs; rw [Nat.mul_add_div hY]
theorem moved_div {N y p : Nat} (hp : 0 < p) : N * p / (y * p) = N / y ∧ N * p % (y * p) / p = N % y := by
  refine ⟨Nat.mul_div_mul_right _ _ hp, ?_⟩
  rw [Nat.mul_mod_mul_right, Nat.mul_div_cancel _ hp]

end Go.Proofs.YtfgnleoaibcegaaGreat
