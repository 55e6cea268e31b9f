/-
  Walks and plain laws.
-/
import Derived.Test.YtfgnleoaibcegaaGreatXBA
set_option linter.unusedVariables false
set_option linter.unusedSimpArgs false
namespace Go.Proofs.YtfgnleoaibcegaaGreat

open Go.RowKit

theorem bev_bytesOf (x : Nat) : bev (bytesOf x) = x := by
  unfold bev bytesOf
  rw [List.reverse_reverse]
  exact val_digs two_le_256 x
theorem bytesOf_lt (x : Nat) : ∀ d ∈ bytesOf x, d < 256 := fun d hd => digs_lt two_le_256 x d (List.mem_reverse.1 hd)
end Go.Proofs.YtfgnleoaibcegaaGreat
