/-
  Walks and plain laws, put together: VL VM.
-/
import Derived.Test.YtfgnleoaibcegaaGreatQj
set_option linter.unusedVariables false
set_option linter.unusedSimpArgs false
namespace Go.Proofs.YtfgnleoaibcegaaGreat.Rg

open Go.RowKit
section

variable {L : List Nat} {i : Nat}
end
end Go.Proofs.YtfgnleoaibcegaaGreat.Rg

namespace Go.Proofs.YtfgnleoaibcegaaGreat.Rg

open Go.RowKit
section

variable {L : List Nat} {W P : Nat}
variable {D : List Nat} {pl i : Nat} {n : Int}
variable {w : World}
end
end Go.Proofs.YtfgnleoaibcegaaGreat.Rg
