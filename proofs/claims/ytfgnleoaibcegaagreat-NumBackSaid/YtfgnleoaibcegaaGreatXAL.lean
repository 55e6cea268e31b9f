/-
  Walks and plain laws.
-/
import Derived.Test.YtfgnleoaibcegaaGreatXAK
set_option linter.unusedVariables false
set_option linter.unusedSimpArgs false
namespace Go.Proofs.YtfgnleoaibcegaaGreat

open Go.RowKit

theorem top_step {X m : Nat} : X / B64 ^ (m + 1) * B64 + X / B64 ^ m % B64 = X / B64 ^ m := by
  rw [Nat.pow_succ, ← Nat.div_div_eq_div_mul]; exact Nat.div_add_mod' _ _
theorem top_one {X m : Nat} (h : X < B64 ^ (m + 1)) : X / B64 ^ m % B64 = X / B64 ^ m := by
  refine Nat.mod_eq_of_lt ?_
  rw [Nat.div_lt_iff_lt_mul (Nat.pow_pos (by decide)), ← Nat.pow_succ']
  exact h
theorem top_zero {L : List Nat} {m : Nat} (hd : ∀ d ∈ L, d < B64) (hz : ∀ k, m ≤ k → L.getD k 0 = 0) : val B64 L < B64 ^ m := by
  have h1 := val_take two_le_B64 L hd m
  rcases Nat.lt_or_ge L.length m with h | h
  · exact Nat.lt_of_lt_of_le (val_lt two_le_B64 L hd) (Nat.pow_le_pow_right (by decide) (by omega))
  · have h2 : ∀ k, m + k ≤ L.length → val B64 (L.take (m + k)) = val B64 (L.take m) := by
      intro k
      induction k with
      | zero => intro _; rfl
      | succ k ih =>
        intro hl
        rw [← Nat.add_assoc, take_succ_val (by omega), hz (m + k) (by omega), ih (by omega)]; simp
    have h3 := h2 (L.length - m) (by omega)
    rw [Nat.add_sub_cancel' h] at h3
    rw [List.take_length, h1] at h3
    rw [h3]
    exact Nat.mod_lt _ (Nat.pow_pos (by decide))

theorem step_le {X V j n : Nat} (hn : 2 ≤ n) (hX : X < V * B64 ^ (j + 1)) : X / B64 ^ (j + (n - 1)) ≤ V / B64 ^ (n - 2) := by
  have h1 : X / B64 ^ (j + 1) < V := (Nat.div_lt_iff_lt_mul (Nat.pow_pos (by decide))).2 hX
  have h2 : X / B64 ^ (j + (n - 1)) = X / B64 ^ (j + 1) / B64 ^ (n - 2) := by
    rw [Nat.div_div_eq_div_mul, ← Nat.pow_add, show j + 1 + (n - 2) = j + (n - 1) by omega]
  rw [h2]
  exact Nat.div_le_div_right (Nat.le_of_lt h1)
theorem step_q {X V j n k : Nat} (hn : 2 ≤ n) (hV : 0 < V) (h : X / B64 ^ (j + (n - 2)) < k * (V / B64 ^ (n - 2))) : X / (V * B64 ^ j) < k := by
  have hP : ∀ m : Nat, 0 < B64 ^ m := fun m => Nat.pow_pos (by decide)
  rw [Nat.div_lt_iff_lt_mul (hP _)] at h
  rw [Nat.div_lt_iff_lt_mul (Nat.mul_pos hV (hP _))]
  have h1 : V / B64 ^ (n - 2) * B64 ^ (n - 2) ≤ V := Nat.div_mul_le_self ..
  have h2 : k * (V / B64 ^ (n - 2)) * B64 ^ (j + (n - 2)) = k * ((V / B64 ^ (n - 2) * B64 ^ (n - 2)) * B64 ^ j) := by
    rw [Nat.add_comm j, Nat.pow_add, Nat.mul_assoc, Nat.mul_assoc]
  rw [h2] at h
  exact Nat.lt_of_lt_of_le h (Nat.mul_le_mul_left k (Nat.mul_le_mul_right _ h1))
theorem step_near {X V j n q : Nat} (hn : 2 ≤ n) (hV1 : B64 ^ (n - 1) ≤ V) (hq : q < B64) (h : q * (V / B64 ^ (n - 2)) ≤ X / B64 ^ (j + (n - 2))) : q ≤ X / (V * B64 ^ j) + 1 := by
  have hP : ∀ m : Nat, 0 < B64 ^ m := fun m => Nat.pow_pos (by decide)
  have hV : 0 < V := Nat.lt_of_lt_of_le (hP _) hV1
  generalize hY : V / B64 ^ (n - 2) = Y at h
  rcases Nat.lt_or_ge (X / (V * B64 ^ j) + 1) q with hc | hc
  · exfalso
    have hq0 : 0 < q := Nat.lt_of_le_of_lt (Nat.zero_le _) hc
    obtain ⟨k, rfl⟩ : ∃ k, q = k + 1 := ⟨q - 1, by omega⟩
    have h1 : X < k * (V * B64 ^ j) := (Nat.div_lt_iff_lt_mul (Nat.mul_pos hV (hP _))).1 (Nat.lt_of_succ_lt_succ hc)
    have h2 : (k + 1) * Y * B64 ^ (j + (n - 2)) ≤ X := (Nat.le_div_iff_mul_le (hP _)).1 h
    rw [Nat.add_comm j, Nat.pow_add, ← Nat.mul_assoc] at h2
    rw [← Nat.mul_assoc] at h1
    have h3 : (k + 1) * Y * B64 ^ (n - 2) < k * V := Nat.lt_of_mul_lt_mul_right (Nat.lt_of_le_of_lt h2 h1)
    have h4 : V < (Y + 1) * B64 ^ (n - 2) := by
      rw [← hY]
      have h5 := Nat.div_add_mod' V (B64 ^ (n - 2))
      have h6 := Nat.mod_lt V (hP (n - 2))
      rw [Nat.add_mul, Nat.one_mul]; omega
    have h5 : (k + 1) * V ≤ (k + 1) * ((Y + 1) * B64 ^ (n - 2)) := Nat.mul_le_mul_left _ (Nat.le_of_lt h4)
    have h6 : (k + 1) * ((Y + 1) * B64 ^ (n - 2)) = (k + 1) * Y * B64 ^ (n - 2) + (k + 1) * B64 ^ (n - 2) := by
      rw [Nat.add_mul Y, Nat.one_mul, Nat.mul_add, Nat.mul_assoc]
    have h7 : (k + 1) * V = k * V + V := by rw [Nat.add_mul, Nat.one_mul]
    have h8 : (k + 1) * B64 ^ (n - 2) ≤ B64 * B64 ^ (n - 2) := Nat.mul_le_mul_right _ (by omega)
    have h9 : B64 * B64 ^ (n - 2) = B64 ^ (n - 1) := by rw [← Nat.pow_succ']; congr 1; omega
    omega
  · exact hc

theorem step_b0 {X V j q E v : Nat} (hV : 0 < V) (hQ : X / (V * B64 ^ j) ≤ q) (h : v + B64 ^ j * (q * V) = X) : q = X / (V * B64 ^ j) ∧ v = X % (V * B64 ^ j) := by
  have hP : 0 < V * B64 ^ j := Nat.mul_pos hV (Nat.pow_pos (by decide))
  have e : B64 ^ j * (q * V) = q * (V * B64 ^ j) := by rw [Nat.mul_comm, Nat.mul_assoc]
  rw [e] at h
  have h1 : q ≤ X / (V * B64 ^ j) := (Nat.le_div_iff_mul_le hP).2 (by omega)
  have h2 : q = X / (V * B64 ^ j) := by omega
  refine ⟨h2, ?_⟩
  have h3 := Nat.div_add_mod' X (V * B64 ^ j)
  rw [← h2] at h3
  omega
theorem step_b1 {X V j q E v : Nat} (hV : 0 < V) (hQ : X / (V * B64 ^ j) ≤ q) (hq : q ≤ X / (V * B64 ^ j) + 1) (hv : v < E) (h : v + B64 ^ j * (q * V) = X + E) :
    q = X / (V * B64 ^ j) + 1 ∧ v + B64 ^ j * V = X % (V * B64 ^ j) + E := by
  have hP : 0 < V * B64 ^ j := Nat.mul_pos hV (Nat.pow_pos (by decide))
  have e : B64 ^ j * (q * V) = q * (V * B64 ^ j) := by rw [Nat.mul_comm, Nat.mul_assoc]
  rw [e] at h
  have h3 := Nat.div_add_mod' X (V * B64 ^ j)
  have h4 : B64 ^ j * V = V * B64 ^ j := Nat.mul_comm ..
  have h5 : q = X / (V * B64 ^ j) + 1 := by
    rcases Nat.lt_or_ge (X / (V * B64 ^ j)) q with h5 | h5
    · omega
    · have h6 : q = X / (V * B64 ^ j) := by omega
      rw [← h6] at h3
      omega
  refine ⟨h5, ?_⟩
  rw [h5, Nat.add_mul, Nat.one_mul] at h
  omega

structure AbIs (j V i c : Nat) (L1 L : List Nat) : Prop where
  len : L.length = L1.length
  dig : ∀ d ∈ L, d < B64
  cl : c ≤ 1
  hi : ∀ k, j + i ≤ k → L.getD k 0 = L1.getD k 0
  eq : val B64 L + B64 ^ (j + i) * c = val B64 L1 + B64 ^ j * (V % B64 ^ i)
theorem AbIs.start {j V : Nat} {L : List Nat} (hd : ∀ d ∈ L, d < B64) : AbIs j V 0 0 L L :=
  ⟨rfl, hd, by omega, fun _ _ => rfl, by simp [Nat.mod_one]⟩
theorem AbIs.next {j V i c : Nat} {L1 L : List Nat} (h : AbIs j V i c L1 L) (hi : j + i < L1.length) :
    AbIs j V (i + 1) (hi64 (L.getD (j + i) 0 + V / B64 ^ i % B64 + c)) L1 (L.set (j + i) (lo64 (L.getD (j + i) 0 + V / B64 ^ i % B64 + c))) := by
  have hvl : V / B64 ^ i % B64 < B64 := Nat.mod_lt _ (by decide)
  have hu := getD_lt two_le_B64 h.dig (j + i)
  have hset := val_set (b := B64) L (j + i) (lo64 (L.getD (j + i) 0 + V / B64 ^ i % B64 + c)) (by rw [h.len]; exact hi)
  have he := h.eq
  have hlow := low_succ B64 V i
  generalize V / B64 ^ i % B64 = v at *
  refine ⟨by rw [List.length_set]; exact h.len, set_dig h.dig (lo_lt _), hi_le hu hvl h.cl, fun k hk => by rw [getD_set_ne (by omega)]; exact h.hi k (by omega), ?_⟩
  rw [hlow, ← Nat.add_assoc, Nat.pow_succ]
  generalize L.getD (j + i) 0 = u at *
  have hlh := lo_hi (u + v + c)
  generalize lo64 (u + v + c) = lo at *
  generalize hi64 (u + v + c) = o at *
  have e1 : B64 ^ j * (V % B64 ^ i + B64 ^ i * v) = B64 ^ j * (V % B64 ^ i) + B64 ^ (j + i) * v := by rw [Nat.mul_add, Nat.pow_add, Nat.mul_assoc]
  have e4 : B64 ^ (j + i) * lo + B64 ^ (j + i) * (B64 * o) = B64 ^ (j + i) * u + B64 ^ (j + i) * v + B64 ^ (j + i) * c := by
    rw [← Nat.mul_add, hlh, Nat.mul_add, Nat.mul_add]
  rw [e1, Nat.mul_assoc]
  omega
theorem AbIs.done {j V n c R : Nat} {L1 L : List Nat} (h : AbIs j V n c L1 L) (hV : V < B64 ^ n) (hi : j + n < L1.length) (hz : ∀ k, j + n + 1 ≤ k → L1.getD k 0 = 0) (hR : R < B64 ^ (j + n + 1)) (hv : val B64 L1 + B64 ^ j * V = R + B64 ^ (j + n + 1)) :
    (∀ d ∈ L.set (j + n) (lo64 (L.getD (j + n) 0 + c)), d < B64) ∧ (L.set (j + n) (lo64 (L.getD (j + n) 0 + c))).length = L1.length ∧ (∀ k, j + n + 1 ≤ k → (L.set (j + n) (lo64 (L.getD (j + n) 0 + c))).getD k 0 = 0) ∧
    val B64 (L.set (j + n) (lo64 (L.getD (j + n) 0 + c))) = R := by
  have hu := getD_lt two_le_B64 h.dig (j + n)
  have hset := val_set (b := B64) L (j + n) (lo64 (L.getD (j + n) 0 + c)) (by rw [h.len]; exact hi)
  have hlh := lo_hi (L.getD (j + n) 0 + c)
  have he := h.eq
  rw [Nat.mod_eq_of_lt hV] at he
  have hd1 : ∀ d ∈ L.set (j + n) (lo64 (L.getD (j + n) 0 + c)), d < B64 := set_dig h.dig (lo_lt _)
  have hz1 : ∀ k, j + n + 1 ≤ k → (L.set (j + n) (lo64 (L.getD (j + n) 0 + c))).getD k 0 = 0 := fun k hk => by rw [getD_set_ne (by omega), h.hi k (by omega), hz k hk]
  have htop := top_zero hd1 hz1
  have ho : hi64 (L.getD (j + n) 0 + c) ≤ 1 := hi_le (y := 0) hu (by decide) h.cl
  refine ⟨hd1, by rw [List.length_set]; exact h.len, hz1, ?_⟩
  generalize L.getD (j + n) 0 = u at *
  generalize lo64 (u + c) = lo at *
  generalize hi64 (u + c) = o at *
  have e4 : B64 ^ (j + n) * lo + B64 ^ (j + n) * (B64 * o) = B64 ^ (j + n) * u + B64 ^ (j + n) * c := by rw [← Nat.mul_add, hlh, Nat.mul_add]
  rw [← Nat.mul_assoc, ← Nat.pow_succ] at e4
  generalize val B64 (L.set (j + n) lo) = vv at *
  have ho2 : o = 0 ∨ o = 1 := by omega
  simp only [Nat.succ_eq_add_one] at e4
  generalize B64 ^ (j + n + 1) = E at *
  rcases ho2 with rfl | rfl
  · simp only [Nat.mul_zero] at e4; omega
  · simp only [Nat.mul_one] at e4; omega
end Go.Proofs.YtfgnleoaibcegaaGreat
