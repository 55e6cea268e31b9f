/-
  Walks and plain laws.
-/
import Derived.Test.YtojpiiboikomfaaXAX
set_option linter.unusedVariables false
set_option linter.unusedSimpArgs false
namespace Go.Proofs.Ytojpiiboikomfaa

open Go.RowKit
end Go.Proofs.Ytojpiiboikomfaa
