/-
  Walks and plain laws.
-/
import Derived.Test.YthanbjbcpljcoaaXAX
set_option linter.unusedVariables false
set_option linter.unusedSimpArgs false
namespace Go.Proofs.Ythanbjbcpljcoaa

open Go.RowKit
end Go.Proofs.Ythanbjbcpljcoaa
