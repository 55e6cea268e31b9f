/-
  Bytes and texts there and back: plain facts and contracts.
-/
import Derived.Test.YtojpiiboikomfaaBA

set_option linter.unusedVariables false

set_option linter.unusedSimpArgs false

namespace Go.Proofs.Ytojpiiboikomfaa

open Go.RowKit

theorem bev_bytesOf (x : Nat) : bev (bytesOf x) = x := by
  unfold bev bytesOf
  rw [List.reverse_reverse]
  exact val_digs two_le_256 x
theorem bytesOf_lt (x : Nat) : ∀ d ∈ bytesOf x, d < 256 := fun d hd => digs_lt two_le_256 x d (List.mem_reverse.1 hd)
theorem bytesOf_inj {x y : Nat} (h : bytesOf x = bytesOf y) : x = y := by rw [← bev_bytesOf x, ← bev_bytesOf y, h]
theorem bytesOf_le {x k : Nat} (h : x < 256 ^ k) : (bytesOf x).length ≤ k := by
  unfold bytesOf
  rw [List.length_reverse]
  exact digs_length_le two_le_256 h
theorem bytesOf_head {x : Nat} (h : 0 < (bytesOf x).length) : (bytesOf x).getD 0 0 ≠ 0 := by
  unfold bytesOf at h ⊢
  rw [List.length_reverse] at h
  have hne : digs 256 x ≠ [] := by intro e; rw [e] at h; simp at h
  have h1 := digs_getLast two_le_256 x hne
  rw [List.getD_eq_getElem?_getD, List.getElem?_reverse h, Nat.sub_zero, List.getElem?_eq_getElem (by omega)]
  rw [List.getLast_eq_getElem] at h1
  exact h1
theorem bytesOf_pos {x : Nat} : 0 < (bytesOf x).length ↔ 0 < x := by
  unfold bytesOf
  rw [List.length_reverse]
  have := digs_length_zero two_le_256 x
  omega
theorem txt_lt (x : Nat) : ∀ d ∈ txt x, d < 256 := fun d hd => by have := txt_byte x d hd; omega
theorem txt_bytesL (x : Nat) : bytesL (strB (txt x)) = txt x := bytesL_strB _ (txt_lt x)
theorem txt_beq (x y : Nat) : ((strB (txt x)).toList == (strB (txt y)).toList) = decide (x = y) := by
  rw [strB_beq (txt_lt x) (txt_lt y)]
  by_cases h : x = y
  · subst h; simp
  · rw [decide_eq_false h, decide_eq_false (fun e => h (txt_inj e))]
theorem bytes_beq (x y : Nat) : ((strB (bytesOf x)).toList == (strB (bytesOf y)).toList) = decide (x = y) := by
  rw [strB_beq (bytesOf_lt x) (bytesOf_lt y)]
  by_cases h : x = y
  · subst h; simp
  · rw [decide_eq_false h, decide_eq_false (fun e => h (bytesOf_inj e))]
theorem cmp_is (x y : Nat) : (cmpI x y == 0) = decide (x = y) := by
  unfold cmpI
  by_cases h1 : x < y
  · rw [if_pos h1, decide_eq_false (by omega)]; rfl
  · rw [if_neg h1]
    by_cases h2 : x = y
    · subst h2; simp
    · rw [decide_eq_false h2, if_pos (by omega)]; rfl
theorem cmp_turn (x y : Nat) : cmpI x y = - cmpI y x := by
  unfold cmpI
  repeat' split
  all_goals omega
end Go.Proofs.Ytojpiiboikomfaa
