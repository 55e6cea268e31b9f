/-
  A cell beside the numbers; a sum of powers.
-/
import Derived.Test.YtijbhbjenddiaaaBE
set_option linter.unusedVariables false
set_option linter.unusedSimpArgs false
namespace Go.Proofs.Ytijbhbjenddiaaa
open Go.RowKit

structure Cx (w : World) (p i : Nat) (v : Value) : Prop where
  cell : w.cell? ⟨p, i, none⟩ = some v
  lt : p < w.heap.size
section
variable {w w' : World} {p i : Nat} {v : Value}
theorem Cx.below (h : Cx w p i v) (hb : Below w.heap.size w w') : Cx w' p i v := ⟨(hb.cell (by simpa using h.lt)).trans h.cell, Nat.lt_of_lt_of_le h.lt hb.size⟩
theorem Cx.drew (h : Cx w p i v) : Cx w.drew p i v := ⟨h.cell, h.lt⟩
theorem Cx.al (h : Cx w p i v) (o : Obj) : Cx (w.alloc o) p i v := h.below ((Below.refl _ _).alloc (Nat.le_refl _) _)
theorem Cx.far {q : Nat} {A0 : Option Addr} {n0 c0 y : Nat} (h : Cx w p i v) (hq : Bx w q A0 n0 c0 y) (hne : p ≠ q) (u : Value) : Cx (w.setCell ⟨q, 0, none⟩ u) p i v :=
  ⟨by rw [World.cell?_setCell_other _ _ _ _ (by intro e; injection e; omega)]; exact h.cell, by simpa [World.setCell] using h.lt⟩
end

/-- The sum of the powers of 2 at some places. -/
def sumPow : List Nat → Nat
  | [] => 0
  | d :: l => 2 ^ d + sumPow l
theorem sumPow_append (l m : List Nat) : sumPow (l ++ m) = sumPow l + sumPow m := by
  induction l with
  | nil => simp [sumPow]
  | cons d l ih => rw [List.cons_append, sumPow, sumPow, ih, Nat.add_assoc]
theorem sumPow_next {l : List Nat} {i : Nat} (hi : i < l.length) : sumPow (l.take (i + 1)) = sumPow (l.take i) + 1 * 2 ^ l.getD i 0 := by
  rw [List.take_succ_eq_append_getElem hi, sumPow_append, List.getD_eq_getElem?_getD, List.getElem?_eq_getElem hi]
  simp [sumPow]
theorem sumPow_take_le (l : List Nat) (i : Nat) : sumPow (l.take i) ≤ sumPow l := by
  conv => rhs; rw [← List.take_append_drop i l]
  rw [sumPow_append]
  exact Nat.le_add_right _ _
end Go.Proofs.Ytijbhbjenddiaaa
