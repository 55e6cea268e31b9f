/-
  Walks and plain laws.
-/
import Derived.Test.YtfgnleoaibcegaaXBA
set_option linter.unusedVariables false
set_option linter.unusedSimpArgs false
namespace Go.Proofs.Ytfgnleoaibcegaa

open Go.RowKit
end Go.Proofs.Ytfgnleoaibcegaa
