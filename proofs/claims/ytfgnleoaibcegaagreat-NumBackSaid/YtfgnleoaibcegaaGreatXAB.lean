/-
  Walks and plain laws.
-/
import Derived.Test.YtfgnleoaibcegaaGreatXAA
set_option linter.unusedVariables false
set_option linter.unusedSimpArgs false
namespace Go.Proofs.YtfgnleoaibcegaaGreat

open Go.RowKit

def leftOk (x : Nat) (n : Int) : Bool := decide (x = 0) || decide (n ≤ 16777216)
def leftV (x : Nat) (n : Int) : Nat := if n < 0 then x / 2 ^ (-n).toNat else if leftOk x n = true then x * 2 ^ n.toNat else 0

structure LfIs (x n q s i : Nat) (D : List Nat) : Prop where
  len : D.length = q + n + 1
  dig : ∀ d ∈ D, d < B64
  top : ∀ j, q + i + 1 ≤ j → D.getD j 0 = 0
  eq : val B64 D = (x % B64 ^ i) * 2 ^ (64 * q + s)
theorem LfIs.start (x n q s : Nat) : LfIs x n q s 0 (List.replicate (q + n + 1) 0) :=
  ⟨by simp, fun d hd => by rw [List.eq_of_mem_replicate hd]; decide, fun j _ => by simp [List.getD_eq_getElem?_getD, List.getElem?_replicate]; split <;> rfl, by rw [val_replicate]; simp [Nat.mod_one]⟩

theorem shl_or {d w s : Nat} (hs : s < 64) (hd : d < 2 ^ s) : d ||| (w * 2 ^ s % B64) = d + w * 2 ^ s % B64 := by
  rw [B64_pow, show 64 = s + (64 - s) by omega, Nat.pow_add, Nat.mul_comm w, Nat.mul_mod_mul_left, Nat.or_comm, ← Nat.two_pow_add_eq_or_of_lt hd]
  omega
theorem shr_part {w s : Nat} (hs : s < 64) : w / 2 ^ (64 - s) = w * 2 ^ s / B64 := by
  rw [B64_pow, show (2 : Nat) ^ 64 = 2 ^ (64 - s) * 2 ^ s by rw [← Nat.pow_add]; congr 1; omega, Nat.mul_div_mul_right _ _ (Nat.two_pow_pos _)]
theorem or_shl {d w s : Nat} (hs : s < 64) (hd : d < 2 ^ s) (hdB : d < B64) (hw : w < B64) : bits .or .u64 (d : Int) (IntKind.u64.wrap ((w : Int) * 2 ^ s)) = ((d + w * 2 ^ s % B64 : Nat) : Int) := by
  have e2 : IntKind.u64.wrap ((w : Int) * 2 ^ s) = ((w * 2 ^ s % B64 : Nat) : Int) := by
    rw [IntKind.wrap_u64, B64_eq]; simp
  have h2 : w * 2 ^ s % B64 < B64 := Nat.mod_lt _ (by decide)
  rw [e2, ← shl_or hs hd]
  rw [B64_eq] at *
  exact u64_or_nat _ _ hdB h2
theorem or_shr {w s : Nat} (hs : s < 64) (hw : w < B64) : bits .or .u64 0 ((w : Int) / 2 ^ (64 - s)) = ((w * 2 ^ s / B64 : Nat) : Int) := by
  rw [← shr_part hs]
  have e1 : (w : Int) / 2 ^ (64 - s) = ((w / 2 ^ (64 - s) : Nat) : Int) := by simp
  have h1 : w / 2 ^ (64 - s) ≤ w := Nat.div_le_self ..
  rw [e1]
  rw [B64_eq] at hw
  have := u64_or_nat 0 (w / 2 ^ (64 - s)) (by omega) (by omega)
  rw [Nat.zero_or] at this
  exact this

theorem LfIs.next {x n q s i : Nat} {D : List Nat} (h : LfIs x n q s i D) (hs : s < 64) (hi : i < n) :
    D.getD (q + i) 0 < 2 ^ s ∧ D.getD (q + i + 1) 0 = 0 ∧
    LfIs x n q s (i + 1) ((D.set (q + i) (D.getD (q + i) 0 + x / B64 ^ i % B64 * 2 ^ s % B64)).set (q + i + 1) (x / B64 ^ i % B64 * 2 ^ s / B64)) := by
  have hw : x / B64 ^ i % B64 < B64 := Nat.mod_lt _ (by decide)
  have hp : 0 < B64 ^ (q + i) := Nat.pow_pos (by decide)
  have hvl : val B64 D < B64 ^ (q + i) * 2 ^ s := by
    rw [h.eq]
    have h1 : x % B64 ^ i < B64 ^ i := Nat.mod_lt _ (Nat.pow_pos (by decide))
    have h2 : B64 ^ (q + i) * 2 ^ s = B64 ^ i * 2 ^ (64 * q + s) := by
      rw [B64_pow_two, B64_pow_two, ← Nat.pow_add, ← Nat.pow_add]; congr 1; omega
    rw [h2]
    exact Nat.mul_lt_mul_of_pos_right h1 (Nat.two_pow_pos _)
  have hd : D.getD (q + i) 0 < 2 ^ s := by
    rw [val_getD two_le_B64 D h.dig]
    exact Nat.lt_of_le_of_lt (Nat.mod_le _ _) ((Nat.div_lt_iff_lt_mul hp).2 (by rw [Nat.mul_comm]; exact hvl))
  have ht := h.top (q + i + 1) (by omega)
  refine ⟨hd, ht, ?_⟩
  have e1 := val_set (b := B64) D (q + i) (D.getD (q + i) 0 + x / B64 ^ i % B64 * 2 ^ s % B64) (by rw [h.len]; omega)
  have e2 := val_set (b := B64) (D.set (q + i) (D.getD (q + i) 0 + x / B64 ^ i % B64 * 2 ^ s % B64)) (q + i + 1) (x / B64 ^ i % B64 * 2 ^ s / B64) (by rw [List.length_set, h.len]; omega)
  rw [getD_set_ne (by omega), ht] at e2
  have hb1 : D.getD (q + i) 0 + x / B64 ^ i % B64 * 2 ^ s % B64 < B64 := by
    rw [← shl_or hs hd]
    rw [B64_pow]
    refine Nat.or_lt_two_pow ?_ (Nat.mod_lt _ (Nat.two_pow_pos _))
    exact Nat.lt_of_lt_of_le hd (Nat.pow_le_pow_right (by omega) (by omega))
  have hb2 : x / B64 ^ i % B64 * 2 ^ s / B64 < B64 := by
    rw [← shr_part hs]
    exact Nat.lt_of_le_of_lt (Nat.div_le_self ..) hw
  refine ⟨by simp [h.len], set_dig (set_dig h.dig hb1) hb2, fun j hj => ?_, ?_⟩
  · rw [getD_set_ne (by omega), getD_set_ne (by omega)]; exact h.top j (by omega)
  · have he := h.eq
    rw [low_succ B64 x i, Nat.add_mul, ← he]
    have e3 := Nat.mod_add_div (x / B64 ^ i % B64 * 2 ^ s) B64
    have e4 : B64 ^ i * (x / B64 ^ i % B64) * 2 ^ (64 * q + s) = B64 ^ (q + i) * (x / B64 ^ i % B64 * 2 ^ s) := by
      rw [Nat.pow_add 2, ← B64_pow_two, Nat.pow_add B64]
      simp only [Nat.mul_assoc, Nat.mul_comm, Nat.mul_left_comm]
    rw [e4]
    generalize x / B64 ^ i % B64 * 2 ^ s = W at *
    generalize D.getD (q + i) 0 = d at *
    have e5 : B64 ^ (q + i) * W = B64 ^ (q + i) * (W % B64) + B64 ^ (q + i + 1) * (W / B64) := by
      rw [Nat.pow_succ, Nat.mul_assoc, ← Nat.mul_add, e3]
    rw [Nat.mul_add] at e1
    omega
theorem LfIs.done {x n q s : Nat} {D : List Nat} (h : LfIs x n q s n D) (hx : x < B64 ^ n) : val B64 D = x * 2 ^ (64 * q + s) := by
  rw [h.eq, Nat.mod_eq_of_lt hx]
end Go.Proofs.YtfgnleoaibcegaaGreat
