/-
  Walks and plain laws.
-/
import Derived.Test.YtfgnleoaibcegaaGreatXBA
set_option linter.unusedVariables false
set_option linter.unusedSimpArgs false
namespace Go.Proofs.YtfgnleoaibcegaaGreat

open Go.RowKit
end Go.Proofs.YtfgnleoaibcegaaGreat
