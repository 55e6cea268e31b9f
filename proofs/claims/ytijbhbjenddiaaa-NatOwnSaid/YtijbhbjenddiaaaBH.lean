/-
  Great numbers: the bits of 2^a + 1, their sum, difference and product. No program in sight.
-/
import Derived.Test.YtijbhbjenddiaaaBG
set_option linter.unusedVariables false
set_option linter.unusedSimpArgs false
namespace Go.Proofs.Ytijbhbjenddiaaa
open Go.RowKit

theorem pow_lt {i j : Nat} (h : i < j) : 2 * 2 ^ i ≤ 2 ^ j := by
  rw [← Nat.pow_succ']
  exact Nat.pow_le_pow_right (by omega) h
theorem pow_pos2 (i : Nat) : 0 < 2 ^ i := Nat.two_pow_pos i
theorem two_le_pow {i : Nat} (h : 1 ≤ i) : 2 ≤ 2 ^ i := by
  have := Nat.pow_le_pow_right (n := 2) (by omega) h
  simpa using this
theorem four_le_pow {i : Nat} (h : 2 ≤ i) : 4 ≤ 2 ^ i := Nat.pow_le_pow_right (n := 2) (by omega) h

/-- Rising lists. -/
def rising : List Nat → Prop
  | [] => True
  | d :: l => (∀ e ∈ l, d < e) ∧ rising l
theorem sumPow_dvd {k : Nat} : ∀ (l : List Nat), (∀ e ∈ l, k ≤ e) → ∃ m, sumPow l = 2 ^ k * m
  | [], _ => ⟨0, rfl⟩
  | d :: l, h => by
    obtain ⟨m, hm⟩ := sumPow_dvd l (fun e he => h e (List.mem_cons_of_mem _ he))
    have hd := h d List.mem_cons_self
    refine ⟨2 ^ (d - k) + m, ?_⟩
    rw [sumPow, hm, Nat.mul_add, ← Nat.pow_add, show k + (d - k) = d by omega]
theorem sumPow_bit : ∀ (l : List Nat), rising l → ∀ d ∈ l, (sumPow l).testBit d = true
  | d :: l, h, e, he => by
    obtain ⟨m, hm⟩ := sumPow_dvd (k := d + 1) l (fun e he => h.1 e he)
    have hlt : 2 ^ d < 2 ^ (d + 1) := Nat.pow_lt_pow_right (by omega) (by omega)
    rw [sumPow, hm, Nat.add_comm]
    rw [Nat.testBit_two_pow_mul_add m hlt e]
    rcases List.mem_cons.1 he with rfl | he
    · rw [if_pos (by omega)]
      rw [Nat.testBit_two_pow]; simp
    · have hde := h.1 e he
      rw [if_neg (by omega)]
      have h2 := sumPow_bit l h.2 e he
      have h3 := Nat.testBit_two_pow_mul_add m (Nat.two_pow_pos (d + 1)) e
      rw [Nat.add_zero, if_neg (by omega), ← hm] at h3
      rw [← h3]
      exact h2

theorem gr_le {a c x y : Nat} (hc : 2 ≤ c) (ha : c + 2 ≤ a) (hx : x = 1 * 2 ^ a + 1) (hy : y = 1 * 2 ^ c + 1) : y ≤ x := by
  have h1 := pow_lt (show c < a by omega)
  omega
theorem gr_pos {a c x y : Nat} (hc : 2 ≤ c) (ha : c + 2 ≤ a) (hx : x = 1 * 2 ^ a + 1) (hy : y = 1 * 2 ^ c + 1) : 5 < x := by
  have h1 := Nat.pow_le_pow_right (n := 2) (by omega) (show 4 ≤ a by omega)
  omega
theorem gr_sub {a c x y : Nat} (hc : 2 ≤ c) (ha : c + 2 ≤ a) (hx : x = 1 * 2 ^ a + 1) (hy : y = 1 * 2 ^ c + 1) : x - y = (2 ^ (a - c) - 1) * 2 ^ c := by
  rw [Nat.sub_mul, ← Nat.pow_add, show a - c + c = a by omega]
  omega
theorem gr_sub_len {a c x y : Nat} (hc : 2 ≤ c) (ha : c + 2 ≤ a) (hx : x = 1 * 2 ^ a + 1) (hy : y = 1 * 2 ^ c + 1) : bl (x - y) = a := by
  have h1 := pow_lt (show c < a - 1 by omega)
  have h2 : 2 ^ a = 2 * 2 ^ (a - 1) := by rw [← Nat.pow_succ', show (a - 1).succ = a by omega]
  have h3 := pow_pos2 c
  exact bl_unique (by omega) (by omega) (by omega)
theorem gr_sub_at {a c x y : Nat} (hc : 2 ≤ c) (ha : c + 2 ≤ a) (hx : x = 1 * 2 ^ a + 1) (hy : y = 1 * 2 ^ c + 1) : (x - y).testBit c = true := by
  rw [gr_sub hc ha hx hy, Nat.testBit_mul_two_pow, decide_eq_true (Nat.le_refl _), Nat.sub_self, Bool.true_and]
  have h2 : 2 ^ (a - c) = 2 * 2 ^ (a - c - 1) := by rw [← Nat.pow_succ', show (a - c - 1).succ = a - c by omega]
  have h3 := pow_pos2 (a - c - 1)
  rw [Nat.testBit_zero]
  simp
  omega
theorem gr_sub_below {a c x y : Nat} (hc : 2 ≤ c) (ha : c + 2 ≤ a) (hx : x = 1 * 2 ^ a + 1) (hy : y = 1 * 2 ^ c + 1) : (x - y).testBit (c - 1) = false := by
  rw [gr_sub hc ha hx hy, Nat.testBit_mul_two_pow, decide_eq_false (by omega), Bool.false_and]
theorem gr_add {a c x y : Nat} (hc : 2 ≤ c) (ha : c + 2 ≤ a) (hx : x = 1 * 2 ^ a + 1) (hy : y = 1 * 2 ^ c + 1) : sumPow [1, c, a] = x + y := by
  simp only [sumPow]
  omega
theorem gr_add_len {a c x y : Nat} (hc : 2 ≤ c) (ha : c + 2 ≤ a) (hx : x = 1 * 2 ^ a + 1) (hy : y = 1 * 2 ^ c + 1) : bl (x + y) = a + 1 := by
  have h1 := pow_lt (show c < a by omega)
  have h2 : 2 ^ (a + 1) = 2 * 2 ^ a := Nat.pow_succ'
  have h3 := four_le_pow hc
  have h4 := pow_lt (show c < a - 1 by omega)
  have h5 : 2 ^ a = 2 * 2 ^ (a - 1) := by rw [← Nat.pow_succ', show (a - 1).succ = a by omega]
  exact bl_unique (by omega) (by rw [Nat.add_sub_cancel]; omega) (by omega)
theorem gr_add_bit {a c x y : Nat} (hc : 2 ≤ c) (ha : c + 2 ≤ a) (hx : x = 1 * 2 ^ a + 1) (hy : y = 1 * 2 ^ c + 1) : ∀ d ∈ [1, c, a], (x + y).testBit d = true := by
  rw [← gr_add hc ha hx hy]
  exact sumPow_bit _ ⟨by intro e he; simp at he; omega, by intro e he; simp at he; omega, by simp, trivial⟩
theorem gr_mul {a c x y : Nat} (hc : 2 ≤ c) (ha : c + 2 ≤ a) (hx : x = 1 * 2 ^ a + 1) (hy : y = 1 * 2 ^ c + 1) : sumPow [0, c, a, a + c] = x * y := by
  simp only [sumPow]
  rw [hx, hy, Nat.one_mul, Nat.one_mul, Nat.add_mul, Nat.mul_add, ← Nat.pow_add]
  omega
theorem gr_mul_len {a c x y : Nat} (hc : 2 ≤ c) (ha : c + 2 ≤ a) (hx : x = 1 * 2 ^ a + 1) (hy : y = 1 * 2 ^ c + 1) : bl (x * y) = a + c + 1 := by
  rw [← gr_mul hc ha hx hy]
  simp only [sumPow]
  have h1 := pow_lt (show a < a + c by omega)
  have h2 : 2 ^ (a + c + 1) = 2 * 2 ^ (a + c) := Nat.pow_succ'
  have h3 := pow_lt (show c < a by omega)
  have h4 := four_le_pow hc
  have h5 := pow_lt (show a < a + c - 1 by omega)
  have h6 : 2 ^ (a + c) = 2 * 2 ^ (a + c - 1) := by rw [← Nat.pow_succ', show (a + c - 1).succ = a + c by omega]
  exact bl_unique (by omega) (by rw [Nat.add_sub_cancel]; omega) (by omega)
theorem gr_mul_bit {a c x y : Nat} (hc : 2 ≤ c) (ha : c + 2 ≤ a) (hx : x = 1 * 2 ^ a + 1) (hy : y = 1 * 2 ^ c + 1) : ∀ d ∈ [0, c, a, a + c], (x * y).testBit d = true := by
  rw [← gr_mul hc ha hx hy]
  exact sumPow_bit _ ⟨by intro e he; simp at he; omega, by intro e he; simp at he; omega, by intro e he; simp at he; omega, by simp, trivial⟩
theorem gr_div {a c x y : Nat} (hc : 2 ≤ c) (ha : c + 2 ≤ a) (hx : x = 1 * 2 ^ a + 1) (hy : y = 1 * 2 ^ c + 1) : (x * y + 5) / x = y ∧ (x * y + 5) % x = 5 := by
  have h := gr_pos hc ha hx hy
  rw [Nat.mul_add_div (by omega), Nat.mul_add_mod, Nat.div_eq_of_lt h, Nat.mod_eq_of_lt h]
  exact ⟨rfl, rfl⟩
theorem gr_len {a c x y : Nat} (hc : 2 ≤ c) (ha : c + 2 ≤ a) (hx : x = 1 * 2 ^ a + 1) (hy : y = 1 * 2 ^ c + 1) : bl x = a + 1 := by
  have h2 : 2 ^ (a + 1) = 2 * 2 ^ a := Nat.pow_succ'
  have h3 := pow_lt (show 0 < a by omega)
  exact bl_unique (by omega) (by rw [Nat.add_sub_cancel]; omega) (by omega)
theorem gr_odd {a c x y : Nat} (hc : 2 ≤ c) (ha : c + 2 ≤ a) (hx : x = 1 * 2 ^ a + 1) (hy : y = 1 * 2 ^ c + 1) : x.testBit 0 = true := by
  have h2 : 2 ^ a = 2 * 2 ^ (a - 1) := by rw [← Nat.pow_succ', show (a - 1).succ = a by omega]
  rw [Nat.testBit_zero]
  simp
  omega
theorem gr_left {a c x y : Nat} (hc : 2 ≤ c) (ha : c + 2 ≤ a) (hx : x = 1 * 2 ^ a + 1) (hy : y = 1 * 2 ^ c + 1) (f : Nat) : bl (x * 2 ^ f) = a + 1 + f ∧ (x * 2 ^ f).testBit f = true ∧ (0 < f → (x * 2 ^ f).testBit (f - 1) = false) ∧ x * 2 ^ f / 2 ^ f = x := by
  refine ⟨?_, ?_, fun h => ?_, Nat.mul_div_cancel _ (pow_pos2 f)⟩
  · rw [bl_mul_pow (by have := gr_pos hc ha hx hy; omega), gr_len hc ha hx hy]
  · rw [Nat.testBit_mul_two_pow, decide_eq_true (Nat.le_refl _), Nat.sub_self, Bool.true_and]; exact gr_odd hc ha hx hy
  · rw [Nat.testBit_mul_two_pow, decide_eq_false (by omega), Bool.false_and]
theorem gr_gcd {a c x y : Nat} (hc : 2 ≤ c) (ha : c + 2 ≤ a) (hx : x = 1 * 2 ^ a + 1) (hy : y = 1 * 2 ^ c + 1) : Nat.gcd (x * y) x = x := Nat.gcd_eq_right (Nat.dvd_mul_right x y)
end Go.Proofs.Ytijbhbjenddiaaa
