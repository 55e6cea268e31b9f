/-
  Walks and plain laws.
-/
import Derived.Test.YtfgnleoaibcegaaGreatXAI
set_option linter.unusedVariables false
set_option linter.unusedSimpArgs false
namespace Go.Proofs.YtfgnleoaibcegaaGreat

open Go.RowKit

theorem grown_set {w w' : World} {g : Nat} (h : w.grownBy w' (some g)) (i : Nat) (u : Value) : w.grownBy (w'.setCell ⟨g, i, none⟩ u) (some g) :=
  ⟨h.os, h.tape, h.output, by simpa [World.setCell] using h.size, fun k hk hne => (Below.heap_setCell _ _ _ _ (by intro e; exact hne (by rw [e]))).trans (h.block k hk hne)⟩
theorem grown_cell {w w' : World} {g gv i : Nat} (h : w.grownBy w' (some g)) (h1 : gv < w.heap.size) (h2 : gv ≠ g) : w'.cell? ⟨gv, i, none⟩ = w.cell? ⟨gv, i, none⟩ :=
  World.cell?_of_block (h.block gv h1 (by intro e; injection e with e; exact h2 e))
theorem grown_drewN {w : World} {g m : Nat} : w.grownBy (w.drewN m) (some g) := ⟨rfl, rfl, rfl, Nat.le_refl _, fun _ _ _ => rfl⟩

structure TkIs (j V q i c b : Nat) (L0 L : List Nat) : Prop where
  len : L.length = L0.length
  dig : ∀ d ∈ L, d < B64
  cl : c < B64
  bl : b ≤ 1
  hi : ∀ k, j + i ≤ k → L.getD k 0 = L0.getD k 0
  eq : val B64 L + B64 ^ j * (q * (V % B64 ^ i)) = val B64 L0 + B64 ^ (j + i) * (c + b)
theorem TkIs.start {j V q : Nat} {L : List Nat} (hd : ∀ d ∈ L, d < B64) : TkIs j V q 0 0 0 L L :=
  ⟨rfl, hd, by decide, by omega, fun _ _ => rfl, by simp [Nat.mod_one]⟩

def tkLo (q v c : Nat) : Nat := lo64 (lo64 (q * v) + c)
def tkHi (q v c : Nat) : Nat := hi64 (q * v) + hi64 (lo64 (q * v) + c)
theorem tk_words {q v c : Nat} (hq : q < B64) (hv : v < B64) (hc : c < B64) : tkLo q v c + B64 * tkHi q v c = q * v + c ∧ tkHi q v c < B64 := by
  have h1 := lo_hi (q * v)
  have h2 := lo_hi (lo64 (q * v) + c)
  have h3 : tkLo q v c + B64 * tkHi q v c = q * v + c := by unfold tkLo tkHi; rw [Nat.mul_add]; omega
  refine ⟨h3, ?_⟩
  have h4 : q * v ≤ (B64 - 1) * (B64 - 1) := Nat.mul_le_mul (by omega) (by omega)
  rcases Nat.lt_or_ge (tkHi q v c) B64 with h | h
  · exact h
  · have h5 := Nat.mul_le_mul_left B64 h
    have h6 : (B64 - 1) * (B64 - 1) + (B64 - 1) < B64 * B64 := by decide
    omega

theorem TkIs.next {j V q i c b : Nat} {L0 L : List Nat} (h : TkIs j V q i c b L0 L) (hq : q < B64) (hi : j + i < L0.length) :
    TkIs j V q (i + 1) (tkHi q (V / B64 ^ i % B64) c) (brw64 (L.getD (j + i) 0) (tkLo q (V / B64 ^ i % B64) c) b) L0 (L.set (j + i) (sub64 (L.getD (j + i) 0) (tkLo q (V / B64 ^ i % B64) c) b)) := by
  have hvl : V / B64 ^ i % B64 < B64 := Nat.mod_lt _ (by decide)
  have hu := getD_lt two_le_B64 h.dig (j + i)
  have hset := val_set (b := B64) L (j + i) (sub64 (L.getD (j + i) 0) (tkLo q (V / B64 ^ i % B64) c) b) (by rw [h.len]; exact hi)
  have he := h.eq
  have hlow := low_succ B64 V i
  generalize V / B64 ^ i % B64 = v at *
  obtain ⟨hw1, hw2⟩ := tk_words hq hvl h.cl
  have hlo : tkLo q v c < B64 := lo_lt _
  have hsb := sub_brw hu hlo h.bl
  refine ⟨by rw [List.length_set]; exact h.len, set_dig h.dig (sub_lt _ _ _), hw2, brw_le _ _ _, fun k hk => by rw [getD_set_ne (by omega)]; exact h.hi k (by omega), ?_⟩
  rw [hlow, ← Nat.add_assoc, Nat.pow_succ]
  generalize L.getD (j + i) 0 = u at *
  generalize sub64 u (tkLo q v c) b = u' at *
  generalize brw64 u (tkLo q v c) b = b' at *
  generalize tkLo q v c = lo at *
  generalize tkHi q v c = c' at *
  have e1 : B64 ^ j * (q * (V % B64 ^ i + B64 ^ i * v)) = B64 ^ j * (q * (V % B64 ^ i)) + B64 ^ (j + i) * (q * v) := by
    rw [Nat.mul_add, Nat.mul_add, Nat.pow_add]
    congr 1
    rw [Nat.mul_left_comm q, Nat.mul_assoc]
  have e2 : B64 ^ (j + i) * B64 * (c' + b') = B64 ^ (j + i) * (B64 * c' + B64 * b') := by rw [Nat.mul_assoc, Nat.mul_add]
  have e3 : u' + (c + b) + q * v = u + (B64 * c' + B64 * b') := by omega
  have e4 : B64 ^ (j + i) * u' + B64 ^ (j + i) * (c + b) + B64 ^ (j + i) * (q * v) = B64 ^ (j + i) * u + B64 ^ (j + i) * (B64 * c' + B64 * b') := by
    rw [← Nat.mul_add, ← Nat.mul_add, e3, Nat.mul_add]
  rw [e1, e2]
  generalize B64 ^ (j + i) * (c + b) = t1 at *
  generalize B64 ^ (j + i) * (q * v) = t2 at *
  generalize B64 ^ (j + i) * (B64 * c' + B64 * b') = t3 at *
  omega

theorem TkIs.done {j V q n c b : Nat} {L0 L : List Nat} (h : TkIs j V q n c b L0 L) (hV : V < B64 ^ n) (hi : j + n < L0.length) :
    (∀ d ∈ L.set (j + n) (sub64 (L.getD (j + n) 0) c b), d < B64) ∧ (L.set (j + n) (sub64 (L.getD (j + n) 0) c b)).length = L0.length ∧ (∀ k, j + n + 1 ≤ k → (L.set (j + n) (sub64 (L.getD (j + n) 0) c b)).getD k 0 = L0.getD k 0) ∧
    val B64 (L.set (j + n) (sub64 (L.getD (j + n) 0) c b)) + B64 ^ j * (q * V) = val B64 L0 + B64 ^ (j + n + 1) * brw64 (L.getD (j + n) 0) c b := by
  have hu := getD_lt two_le_B64 h.dig (j + n)
  have hset := val_set (b := B64) L (j + n) (sub64 (L.getD (j + n) 0) c b) (by rw [h.len]; exact hi)
  have hsb := sub_brw hu h.cl h.bl
  have he := h.eq
  rw [Nat.mod_eq_of_lt hV] at he
  refine ⟨set_dig h.dig (sub_lt _ _ _), by rw [List.length_set]; exact h.len, fun k hk => by rw [getD_set_ne (by omega)]; exact h.hi k (by omega), ?_⟩
  rw [Nat.pow_succ]
  generalize L.getD (j + n) 0 = u at *
  generalize sub64 u c b = u' at *
  generalize brw64 u c b = b' at *
  have e4 := congrArg (B64 ^ (j + n) * ·) hsb
  simp only [Nat.mul_add] at e4 he
  rw [Nat.mul_assoc]
  omega
end Go.Proofs.YtfgnleoaibcegaaGreat
