/-
  Walks and plain laws.
-/
import Derived.Test.YthanbjbcpljcoaaXBA
set_option linter.unusedVariables false
set_option linter.unusedSimpArgs false
namespace Go.Proofs.Ythanbjbcpljcoaa

open Go.RowKit

theorem bev_bytesOf (x : Nat) : bev (bytesOf x) = x := by
  unfold bev bytesOf
  rw [List.reverse_reverse]
  exact val_digs two_le_256 x
theorem bytesOf_lt (x : Nat) : ∀ d ∈ bytesOf x, d < 256 := fun d hd => digs_lt two_le_256 x d (List.mem_reverse.1 hd)
theorem bytesOf_inj {x y : Nat} (h : bytesOf x = bytesOf y) : x = y := by rw [← bev_bytesOf x, ← bev_bytesOf y, h]
theorem bytes_beq (x y : Nat) : ((strB (bytesOf x)).toList == (strB (bytesOf y)).toList) = decide (x = y) := by
  rw [strB_beq (bytesOf_lt x) (bytesOf_lt y)]
  by_cases h : x = y
  · subst h; simp
  · rw [decide_eq_false h, decide_eq_false (fun e => h (bytesOf_inj e))]
end Go.Proofs.Ythanbjbcpljcoaa
