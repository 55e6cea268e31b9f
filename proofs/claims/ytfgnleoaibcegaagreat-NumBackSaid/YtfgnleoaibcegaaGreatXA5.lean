/-
  Walks and plain laws.
-/
import Derived.Test.YtfgnleoaibcegaaGreatXA4
import Derived.Test.YtfgnleoaibcegaaGreatXSh
import Derived.Lib.ItoaNum
set_option linter.unusedVariables false
set_option linter.unusedSimpArgs false
namespace Go.Proofs.YtfgnleoaibcegaaGreat

open Go.RowKit

def bl (x : Nat) : Nat := if x = 0 then 0 else x.log2 + 1
theorem bl_zero : bl 0 = 0 := rfl
theorem bl_bounds {x : Nat} (h : 0 < x) : 1 ≤ bl x ∧ 2 ^ (bl x - 1) ≤ x ∧ x < 2 ^ bl x := by
  unfold bl
  rw [if_neg (by omega)]
  exact ⟨by omega, by simpa using Nat.log2_self_le (by omega), Nat.lt_log2_self⟩
theorem bl_unique {x k : Nat} (hk : 1 ≤ k) (h1 : 2 ^ (k - 1) ≤ x) (h2 : x < 2 ^ k) : bl x = k := by
  have hp : 0 < 2 ^ (k - 1) := Nat.two_pow_pos _
  obtain ⟨b1, b2, b3⟩ := bl_bounds (x := x) (by omega)
  have e1 : ¬ k ≤ bl x - 1 := fun h => by
    have := Nat.pow_le_pow_right (show 0 < 2 by omega) h
    omega
  have e2 : ¬ bl x ≤ k - 1 := fun h => by
    have := Nat.pow_le_pow_right (show 0 < 2 by omega) h
    omega
  omega
theorem bl_lt {x : Nat} : x < 2 ^ bl x := by
  rcases Nat.eq_zero_or_pos x with rfl | h
  · decide
  · exact (bl_bounds h).2.2
theorem bl_le {x k : Nat} (h : x < 2 ^ k) : bl x ≤ k := by
  rcases Nat.eq_zero_or_pos x with rfl | h0
  · rw [bl_zero]; omega
  · obtain ⟨b1, b2, b3⟩ := bl_bounds h0
    rcases Nat.lt_or_ge k (bl x) with h1 | h1
    · have := Nat.pow_le_pow_right (show 0 < 2 by omega) (show k ≤ bl x - 1 by omega)
      omega
    · exact h1
theorem bl_pos {x : Nat} : 0 < bl x ↔ 0 < x := by
  constructor
  · intro h
    rcases Nat.eq_zero_or_pos x with rfl | h0
    · rw [bl_zero] at h; omega
    · exact h0
  · intro h; exact (bl_bounds h).1
theorem bl_mul_pow {x k : Nat} (h : 0 < x) : bl (x * 2 ^ k) = bl x + k := by
  obtain ⟨b1, b2, b3⟩ := bl_bounds h
  refine bl_unique (by omega) ?_ ?_
  · rw [show bl x + k - 1 = (bl x - 1) + k by omega, Nat.pow_add]
    exact Nat.mul_le_mul_right _ b2
  · rw [Nat.pow_add]
    exact Nat.mul_lt_mul_of_pos_right b3 (Nat.two_pow_pos _)

theorem B64_pow : B64 = 2 ^ 64 := by decide
theorem lib_bitLen {d : Nat} (h : d < B64) : Lib.bitLen d = bl d := by
  rcases Nat.eq_zero_or_pos d with rfl | h0
  · rfl
  · obtain ⟨b1, b2, b3⟩ := Lib.bitLenAux_bounds 64 d (by rw [B64_pow] at h; exact h) (by omega)
    have e : Lib.bitLen d = Lib.bitLenAux 64 d := rfl
    rw [e]
    exact (bl_unique b1 b2 b3).symm

theorem len64_any (d : Nat) (hd : d < B64) (w : World) : Calls Tryz.prog 91 #[.int .u64 (d : Int)] w fun e w' => e = .returned (.int .i64 ((bl d : Nat) : Int)) ∧ w = w' := by
  have h1 : (d : Int) ≤ 18446744073709551615 := by rw [B64_eq] at hd; omega
  refine (Tryz.bits_Len64 d w (by omega) h1).mono ?_
  rintro e w' ⟨rfl, rfl⟩
  rw [Int.toNat_natCast, lib_bitLen hd]
  exact ⟨rfl, rfl⟩
theorem lz64_any (d : Nat) (hd : d < B64) (w : World) : Calls Tryz.prog 96 #[.int .u64 (d : Int)] w fun e w' => e = .returned (.int .i64 (64 - ((bl d : Nat) : Int))) ∧ w = w' := by
  have h1 : (d : Int) ≤ 18446744073709551615 := by rw [B64_eq] at hd; omega
  refine (Tryz.bits_LeadingZeros64 d w (by omega) h1).mono ?_
  rintro e w' ⟨rfl, rfl⟩
  rw [Int.toNat_natCast, lib_bitLen hd]
  exact ⟨rfl, rfl⟩
theorem mul64_any (x y : Nat) (hx : x < B64) (hy : y < B64) (w : World) : Calls Tryz.prog 92 #[.int .u64 (x : Int), .int .u64 (y : Int)] w fun e w' => e = .returned (.tuple #[.int .u64 ((hi64 (x * y) : Nat) : Int), .int .u64 ((lo64 (x * y) : Nat) : Int)]) ∧ w = w' := by
  rw [B64_eq] at hx hy
  refine (Tryz.bits_Mul64 x y hx hy w).mono ?_
  rintro e w' ⟨rfl, rfl⟩
  exact ⟨rfl, rfl⟩

theorem at_int (A : Option Addr) (n c x : Nat) (i : Int) (h0 : 0 ≤ i) (w : World) (h : DAt B64 w A n c x) :
    Calls Tryz.prog 98 #[.agg #[.slice A n c], .int .i64 i] w fun e w' => e = .returned (.int .u64 ((x / B64 ^ i.toNat % B64 : Nat) : Int)) ∧ Below w.heap.size w w' := by
  obtain ⟨k, rfl⟩ := Int.eq_ofNat_of_zero_le h0
  rw [Int.toNat_natCast]
  exact at_any A n c x k w h

theorem top_digit {x n : Nat} (hn : 0 < n) (h1 : x < B64 ^ n) (h2 : B64 ^ (n - 1) ≤ x) : x / B64 ^ (n - 1) % B64 = x / B64 ^ (n - 1) ∧ 0 < x / B64 ^ (n - 1) := by
  have hp : 0 < B64 ^ (n - 1) := Nat.pow_pos (by decide)
  constructor
  · apply Nat.mod_eq_of_lt
    rw [Nat.div_lt_iff_lt_mul hp, Nat.mul_comm, ← Nat.pow_succ, show (n - 1).succ = n by omega]
    exact h1
  · exact Nat.div_pos h2 hp
theorem bl_div {x K : Nat} (h : 2 ^ K ≤ x) : bl x = K + bl (x / 2 ^ K) := by
  have hp : 0 < 2 ^ K := Nat.two_pow_pos _
  have t2 : 0 < x / 2 ^ K := Nat.div_pos h hp
  obtain ⟨b1, b2, b3⟩ := bl_bounds t2
  refine bl_unique (by omega) ?_ ?_
  · rw [show K + bl (x / 2 ^ K) - 1 = (bl (x / 2 ^ K) - 1) + K by omega, Nat.pow_add]
    exact (Nat.le_div_iff_mul_le hp).1 b2
  · rw [Nat.add_comm, Nat.pow_add]
    exact (Nat.div_lt_iff_lt_mul hp).1 b3
theorem B64_pow_two (k : Nat) : B64 ^ k = 2 ^ (64 * k) := by rw [B64_pow, ← Nat.pow_mul]
theorem bl_digits {x n : Nat} (h2 : B64 ^ (n - 1) ≤ x) : bl x = 64 * (n - 1) + bl (x / B64 ^ (n - 1)) := by
  rw [B64_pow_two] at *
  exact bl_div h2

set_option maxHeartbeats 400000 in
theorem len_any (A : Option Addr) (n c x : Nat) (w : World) (h : DAt B64 w A n c x) (hn : n ≤ 1099511627776) :
    Calls Tryz.prog 42 #[.agg #[.slice A n c]] w fun e w' => e = .returned (.int .i64 ((bl x : Nat) : Int)) ∧ Below w.heap.size w w' := by
  rcases Nat.eq_zero_or_pos n with h0 | h0
  · have hx : x = 0 := (h.zero_len two_le_B64).1 h0
    subst hx
    have hz : ((n : Int) == 0) = true := by simp; omega
    clear h h0
    go_enter Tryz.func42, Tryz.ntmps42
    go_wp2
    go_ret
    exact ⟨rfl, (Below.refl _ _).alloc (Nat.le_refl _) _⟩
  · have hx0 : 0 < x := by
      rcases Nat.eq_zero_or_pos x with h1 | h1
      · have := (h.zero_len two_le_B64).2 h1; omega
      · exact h1
    have e := bl_digits (h.ge two_le_B64 hx0)
    obtain ⟨t1, t2⟩ := top_digit h0 (h.lt two_le_B64) (h.ge two_le_B64 hx0)
    obtain ⟨g, off, rfl, hg, hc⟩ := h.flat two_le_B64 h0
    have hc1 := hc (n - 1) (by omega)
    have hlt : x / B64 ^ (n - 1) < B64 := by rw [← t1]; exact Nat.mod_lt _ (by decide)
    rw [t1] at hc1
    rw [e]
    generalize x / B64 ^ (n - 1) = d at *
    have hz : ((n : Int) == 0) = false := by simp; omega
    have hbl : bl d ≤ 64 := bl_le (by rw [← B64_pow]; exact hlt)
    have hn1 : (0 : Int) ≤ (n : Int) - 1 := by omega
    clear h e t1 t2 hc
    go_enter Tryz.func42, Tryz.ntmps42
    go_wp2_with (go_at_call 91; refine (len64_any d hlt _).mono ?_; rintro e w1 ⟨rfl, rfl⟩)
    go_ret
    refine ⟨?_, (Below.refl _ _).alloc (Nat.le_refl _) _⟩
    apply congrArg
    show Value.int .i64 _ = Value.int .i64 _
    congr 1
    omega

def uintOf (x : Nat) : Nat := if x < B64 then x else 0
def fitsU (x : Nat) : Bool := decide (x < B64)
theorem uint_small {x : Nat} (h : x < B64) : uintOf x = x := if_pos h
theorem uint_great {x : Nat} (h : ¬ x < B64) : uintOf x = 0 := if_neg h
theorem fits_small {x : Nat} (h : x < B64) : fitsU x = true := decide_eq_true h
theorem fits_great {x : Nat} (h : ¬ x < B64) : fitsU x = false := decide_eq_false h

set_option maxHeartbeats 400000 in
theorem uint_any (A : Option Addr) (n c x : Nat) (w : World) (h : DAt B64 w A n c x) (hn : n ≤ 1099511627776) :
    Calls Tryz.prog 101 #[.agg #[.slice A n c]] w fun e w' => e = .returned (.tuple #[.int .u64 ((uintOf x : Nat) : Int), .bool (fitsU x)]) ∧ Below w.heap.size w w' := by
  by_cases hx : x < B64
  · have hn1 : n ≤ 1 := h.le two_le_B64 (by simpa using hx)
    have H1 := Lib.hid (uint_small hx)
    have H2 := Lib.hid (fits_small hx)
    have e0 : x / B64 ^ 0 % B64 = x := by simp; exact Nat.mod_eq_of_lt hx
    have E0 := Lib.hid e0
    have h' := h.below ((Below.refl _ _).alloc (Nat.le_refl _) (.cells #[.slice A n c] 26))
    clear hx e0
    go_enter Tryz.func101, Tryz.ntmps101
    go_wp2_with (go_at_call 98; refine (at_int A n c x 0 (by omega) _ h').mono ?_; rw [show (0 : Int).toNat = 0 from rfl, E0.out]; rintro e w1 ⟨rfl, hb1⟩)
    go_ret2
    refine ⟨by rw [H1.out, H2.out]; rfl, ?_⟩
    exact ((Below.refl _ _).alloc (Nat.le_refl _) _).trans (hb1.mono (by simp))
  · have hn1 : 1 < n := by
      rcases Nat.lt_or_ge 1 n with h1 | h1
      · exact h1
      · have h2 := h.lt two_le_B64
        have h3 : B64 ^ n ≤ B64 ^ 1 := Nat.pow_le_pow_right (by decide) h1
        rw [Nat.pow_one] at h3
        exact absurd (Nat.lt_of_lt_of_le h2 h3) hx
    have H1 := Lib.hid (uint_great hx)
    have H2 := Lib.hid (fits_great hx)
    clear hx h
    go_enter Tryz.func101, Tryz.ntmps101
    go_wp2
    go_ret2
    exact ⟨by rw [H1.out, H2.out]; rfl, (Below.refl _ _).alloc (Nat.le_refl _) _⟩
end Go.Proofs.YtfgnleoaibcegaaGreat
