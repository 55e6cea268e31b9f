/-
  Walks and plain laws.
-/
import Derived.Test.YthanbjbcpljcoaaXA2
set_option linter.unusedVariables false
set_option linter.unusedSimpArgs false
namespace Go.Proofs.Ythanbjbcpljcoaa

open Go.RowKit

theorem run_sub64' (x y c : Nat) (hc : c ≤ 1) (w : World) :
    (callFunc 96 #[.int .u64 (x : Int), .int .u64 (y : Int), .int .u64 (c : Int)]).run Try.prog w = .ok (.value (.tuple #[.int .u64 ((sub64 x y c : Nat) : Int), .int .u64 ((brw64 x y c : Nat) : Int)])) w := by
  rw [run_callFunc_extern Try.func96 (by kernel_rfl) (by kernel_rfl) (by kernel_rfl) (e := sub64Entry) (by kernel_rfl), run_sub64_ x y c hc]
  simp only [Result.andThen, sub64, brw64, B64]

/-- How far a difference is. -/
structure DiffIs (x y k cy : Nat) (D : List Nat) : Prop where
  len : D.length = k
  dig : ∀ d ∈ D, d < B64
  eq : val B64 D + y % B64 ^ k = x % B64 ^ k + B64 ^ k * cy
theorem DiffIs.start (x y : Nat) : DiffIs x y 0 0 [] := ⟨rfl, by simp, by simp [val, Nat.mod_one]⟩
theorem DiffIs.next {x y k cy : Nat} {D : List Nat} (h : DiffIs x y k cy D) (hcy : cy ≤ 1) : DiffIs x y (k + 1) (brw64 (x / B64 ^ k % B64) (y / B64 ^ k % B64) cy) (D ++ [sub64 (x / B64 ^ k % B64) (y / B64 ^ k % B64) cy]) := by
  refine ⟨by simp [h.len], fun d hd => ?_, ?_⟩
  · rcases List.mem_append.1 hd with hd | hd
    · exact h.dig d hd
    · simp at hd; rw [hd]; exact sub_lt _ _ _
  · have h1 := sub_brw (x := x / B64 ^ k % B64) (y := y / B64 ^ k % B64) (Nat.mod_lt _ (by decide)) (Nat.mod_lt _ (by decide)) hcy
    have h2 := h.eq
    rw [val_snoc, h.len, low_succ, low_succ, Nat.pow_succ]
    generalize x / B64 ^ k % B64 = p at *
    generalize y / B64 ^ k % B64 = q at *
    generalize sub64 p q cy = s at *
    generalize brw64 p q cy = t at *
    have h3 : B64 ^ k * s + B64 ^ k * q + B64 ^ k * cy = B64 ^ k * p + B64 ^ k * B64 * t := by
      rw [Nat.mul_assoc, ← Nat.mul_add, ← Nat.mul_add, h1, Nat.mul_add]
    omega
theorem diff_fits {Q x y v cy : Nat} (hx : x < Q) (hv : v < Q) (e : v + y = x + Q * cy) (hcy : cy ≤ 1) : (y ≤ x → cy = 0 ∧ v = x - y) ∧ (x < y → cy = 1) := by
  have hc : cy = 0 ∨ cy = 1 := by omega
  rcases hc with rfl | rfl
  · simp only [Nat.mul_zero] at e
    exact ⟨fun h => ⟨rfl, by omega⟩, fun h => by omega⟩
  · simp only [Nat.mul_one] at e
    exact ⟨fun h => by omega, fun h => rfl⟩
theorem DiffIs.done {x y N cy n n' : Nat} {D : List Nat} (h : DiffIs x y N cy D) (hcy : cy ≤ 1) (hx : x < B64 ^ n) (hy : y < B64 ^ n') (hn : n ≤ N) (hn' : n' ≤ N) : (y ≤ x → cy = 0 ∧ val B64 D = x - y) ∧ (x < y → cy = 1) := by
  have e := h.eq
  have hv := val_lt two_le_B64 D h.dig
  rw [h.len] at hv
  have p0 : (0 : Nat) < B64 := by decide
  have p1 : B64 ^ n ≤ B64 ^ N := Nat.pow_le_pow_right p0 hn
  have p2 : B64 ^ n' ≤ B64 ^ N := Nat.pow_le_pow_right p0 hn'
  rw [Nat.mod_eq_of_lt (Nat.lt_of_lt_of_le hx p1), Nat.mod_eq_of_lt (Nat.lt_of_lt_of_le hy p2)] at e
  exact diff_fits (Nat.lt_of_lt_of_le hx p1) hv e hcy

end Go.Proofs.Ythanbjbcpljcoaa
