/-
  Walks and plain laws.
-/
import Derived.Test.YtfgnleoaibcegaaGreatXA5
set_option linter.unusedVariables false
set_option linter.unusedSimpArgs false
namespace Go.Proofs.YtfgnleoaibcegaaGreat

open Go.RowKit

theorem set_dig {b : Nat} {l : List Nat} (hl : ∀ d ∈ l, d < b) {j d : Nat} (hd : d < b) : ∀ e ∈ l.set j d, e < b := by
  intro e he
  rcases List.mem_or_eq_of_mem_set he with h | rfl
  · exact hl e h
  · exact hd
theorem val_set {b : Nat} : ∀ (l : List Nat) (j d : Nat), j < l.length → val b (l.set j d) + b ^ j * l.getD j 0 = val b l + b ^ j * d
  | [], j, d, h => by simp at h
  | e :: l, 0, d, _ => by simp [val]; omega
  | e :: l, j + 1, d, h => by
    have ih := val_set (b := b) l j d (by simpa using h)
    simp only [List.set_cons_succ, val, List.getD_cons_succ]
    have e1 := congrArg (b * ·) ih
    simp only [Nat.mul_add] at e1
    rw [Nat.pow_succ, Nat.mul_comm (b ^ j) b, Nat.mul_assoc, Nat.mul_assoc]
    omega
theorem getD_set_ne {l : List Nat} {i j d : Nat} (h : i ≠ j) : (l.set i d).getD j 0 = l.getD j 0 := by
  rw [List.getD_eq_getElem?_getD, List.getElem?_set_ne h, ← List.getD_eq_getElem?_getD]

structure MulIn (x y i n' k c : Nat) (L : List Nat) : Prop where
  dig : ∀ d ∈ L, d < B64
  cl : c < B64
  top : ∀ j, i + n' ≤ j → L.getD j 0 = 0
  eq : val B64 L + B64 ^ (i + k) * c = (x % B64 ^ i) * y + B64 ^ i * ((x / B64 ^ i % B64) * (y % B64 ^ k))
structure MulOut (x y i n' : Nat) (L : List Nat) : Prop where
  dig : ∀ d ∈ L, d < B64
  top : ∀ j, i + n' ≤ j → L.getD j 0 = 0
  eq : val B64 L = (x % B64 ^ i) * y

theorem MulOut.start (x y n' m : Nat) : MulOut x y 0 n' (List.replicate m 0) :=
  ⟨fun d hd => by rw [List.eq_of_mem_replicate hd]; decide, fun j _ => by simp [List.getD_eq_getElem?_getD, List.getElem?_replicate]; split <;> rfl, by rw [val_replicate]; simp [Nat.mod_one]⟩
theorem MulOut.into {x y i n' : Nat} {L : List Nat} (h : MulOut x y i n' L) : MulIn x y i n' 0 0 L :=
  ⟨h.dig, by decide, h.top, by rw [h.eq]; simp [Nat.mod_one]⟩

def mulLo (a b d c : Nat) : Nat := lo64 (lo64 (lo64 (a * b) + d) + c)
def mulHi (a b d c : Nat) : Nat := hi64 (a * b) + hi64 (lo64 (a * b) + d) + hi64 (lo64 (lo64 (a * b) + d) + c)
theorem mul_step (a b d c : Nat) : mulLo a b d c + B64 * mulHi a b d c = a * b + d + c := by
  unfold mulLo mulHi
  have h1 := lo_hi (a * b)
  have h2 := lo_hi (lo64 (a * b) + d)
  have h3 := lo_hi (lo64 (lo64 (a * b) + d) + c)
  rw [Nat.mul_add, Nat.mul_add]
  omega
theorem mul_bound {a b d c : Nat} (ha : a < B64) (hb : b < B64) (hd : d < B64) (hc : c < B64) : mulHi a b d c < B64 ∧ hi64 (a * b) + hi64 (lo64 (a * b) + d) < B64 := by
  have h1 := mul_step a b d c
  have h2 : a * b ≤ (B64 - 1) * (B64 - 1) := Nat.mul_le_mul (by omega) (by omega)
  have h3 : mulHi a b d c < B64 := by
    rcases Nat.lt_or_ge (mulHi a b d c) B64 with h | h
    · exact h
    · have h4 := Nat.mul_le_mul_left B64 h
      have h5 : (B64 - 1) * (B64 - 1) + 2 * (B64 - 1) + 1 = B64 * B64 := by decide
      omega
  refine ⟨h3, ?_⟩
  unfold mulHi at h3
  omega

theorem MulIn.next {x y i n' k c : Nat} {L : List Nat} (h : MulIn x y i n' k c L) (hk : k < n') (hL : i + n' < L.length) :
    MulIn x y i n' (k + 1) (mulHi (x / B64 ^ i % B64) (y / B64 ^ k % B64) (L.getD (i + k) 0) c) (L.set (i + k) (mulLo (x / B64 ^ i % B64) (y / B64 ^ k % B64) (L.getD (i + k) 0) c)) := by
  have hd := getD_lt two_le_B64 h.dig (i + k)
  have hs := mul_step (x / B64 ^ i % B64) (y / B64 ^ k % B64) (L.getD (i + k) 0) c
  have hb := (mul_bound (a := x / B64 ^ i % B64) (b := y / B64 ^ k % B64) (Nat.mod_lt _ (by decide)) (Nat.mod_lt _ (by decide)) hd h.cl).1
  have hv := val_set (b := B64) L (i + k) (mulLo (x / B64 ^ i % B64) (y / B64 ^ k % B64) (L.getD (i + k) 0) c) (by omega)
  refine ⟨set_dig h.dig (lo_lt _), hb, fun j hj => by rw [getD_set_ne (by omega)]; exact h.top j hj, ?_⟩
  have he := h.eq
  rw [low_succ B64 y k, ← Nat.add_assoc, Nat.pow_succ]
  generalize x / B64 ^ i % B64 = a at *
  generalize y / B64 ^ k % B64 = b at *
  generalize L.getD (i + k) 0 = d at *
  generalize mulLo a b d c = lo at *
  generalize mulHi a b d c = hi at *
  have e1 := congrArg (B64 ^ (i + k) * ·) hs
  simp only [Nat.mul_add] at e1 ⊢
  have e2 : B64 ^ i * (a * (B64 ^ k * b)) = B64 ^ (i + k) * (a * b) := by
    rw [Nat.pow_add, Nat.mul_assoc, Nat.mul_left_comm a]
  have e3 : B64 ^ (i + k) * B64 * hi = B64 ^ (i + k) * (B64 * hi) := Nat.mul_assoc ..
  rw [e2, e3]
  omega

theorem MulIn.done {x y i n' c : Nat} {L : List Nat} (h : MulIn x y i n' n' c L) (hy : y < B64 ^ n') (hL : i + n' < L.length) : MulOut x y (i + 1) n' (L.set (i + n') c) := by
  have hv := val_set (b := B64) L (i + n') c hL
  rw [h.top (i + n') (Nat.le_refl _)] at hv
  refine ⟨set_dig h.dig h.cl, fun j hj => by rw [getD_set_ne (by omega)]; exact h.top j (by omega), ?_⟩
  have he := h.eq
  rw [Nat.mod_eq_of_lt hy] at he
  rw [low_succ B64 x i, Nat.add_mul, Nat.mul_assoc]
  omega
end Go.Proofs.YtfgnleoaibcegaaGreat
