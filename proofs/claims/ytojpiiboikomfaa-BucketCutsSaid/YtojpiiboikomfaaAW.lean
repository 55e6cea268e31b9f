/-
  Contracts: a number out of a text: the walk.
-/
import Derived.Test.YtojpiiboikomfaaAV

set_option linter.unusedVariables false

set_option linter.unusedSimpArgs false

namespace Go.Proofs.Ytojpiiboikomfaa

open Go.RowKit

theorem le400 {w : World} {A : Option Addr} {n c x i : Nat} (h : DAt B64 w A n c x) (hx : x < 10 ^ i) (hi : i ≤ 400) : n ≤ 400 := by
  refine Nat.le_trans (h.le two_le_B64 (Nat.lt_of_lt_of_le hx ?_)) hi
  exact Nat.pow_le_pow_left (by decide) i

end Go.Proofs.Ytojpiiboikomfaa
