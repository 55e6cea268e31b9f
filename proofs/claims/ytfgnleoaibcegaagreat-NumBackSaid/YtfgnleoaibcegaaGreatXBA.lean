/-
  Walks and plain laws.
-/
import Derived.Test.YtfgnleoaibcegaaGreatXAZ
import Derived.BigQuiet
set_option linter.unusedVariables false
set_option linter.unusedSimpArgs false
namespace Go.Proofs.YtfgnleoaibcegaaGreat

open Go.RowKit
end Go.Proofs.YtfgnleoaibcegaaGreat
