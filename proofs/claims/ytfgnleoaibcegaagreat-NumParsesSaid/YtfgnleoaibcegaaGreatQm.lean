/-
  Walks and plain laws, put together: VOH VO VT VU VWH VR.
-/
import Derived.Test.YtfgnleoaibcegaaGreatQl
import Derived.Test.YtfgnleoaibcegaaGreatQj
import Derived.Test.YtfgnleoaibcegaaGreatFr
set_option linter.unusedVariables false
set_option linter.unusedSimpArgs false
namespace Go.Proofs.YtfgnleoaibcegaaGreat.Rg

open Go.RowKit
/-- How what is left stands to a half. -/
def hf (p q : Nat) : Int := if p % q = 0 then -2 else cmpI (p % q * 2 ^ 1) q
section

variable {p q s : Nat} {e : Int}
end

end Go.Proofs.YtfgnleoaibcegaaGreat.Rg

namespace Go.Proofs.YtfgnleoaibcegaaGreat.Rg

open Go.RowKit

section

variable {l x q : Nat} {v v1 v2 : Value} {w : World}
variable {p : Nat} {e : Int}
end
end Go.Proofs.YtfgnleoaibcegaaGreat.Rg

namespace Go.Proofs.YtfgnleoaibcegaaGreat.Rg

open Go.RowKit
section

variable {a q N n k : Nat} {X : List Nat}
end
section

variable {l p q : Nat} {x : Rat} {v : Value} {w : World} {z : Int}
end

end Go.Proofs.YtfgnleoaibcegaaGreat.Rg

namespace Go.Proofs.YtfgnleoaibcegaaGreat.Rg

open Go.RowKit
end Go.Proofs.YtfgnleoaibcegaaGreat.Rg

namespace Go.Proofs.YtfgnleoaibcegaaGreat.Rg

open Go.RowKit
section

variable {P : Program} {ops : Array Oper} {Q : Exit → Act → World → Prop} {a0 : Act} {M : List Nat} {W : World} {rels : List Rel} {i : Nat} {o : Oper} {T : Ty} {N d : Nat} {x y : Operand}
end

section

variable {a : Act} {γ : Nat → Nat} {w : World} {t N : Nat} {l : List Oper} {rels : List Rel} {M : List Nat} {W : World} {T : Ty}
end
section

variable {l p q : Nat} {x : Rat} {v : Value} {w : World} {z : Int}
end
theorem bytesL_byte (s : ByteArray) : ∀ d ∈ bytesL s, d < 256 := by
  intro d hd
  unfold bytesL at hd
  obtain ⟨x, _, rfl⟩ := List.mem_map.1 hd
  exact x.toNat_lt
end Go.Proofs.YtfgnleoaibcegaaGreat.Rg

namespace Go.Proofs.YtfgnleoaibcegaaGreat.Rg

open Go.RowKit Go.ChangeShapes Go.WideShapes Go.ChangeAt Go.Deep

theorem ret_out3 {P : Program} {f : FuncId} {args : Array Value} {w : World} {v : Value} (h : Calls P f args w (Ret (tV v) w)) : Calls P f args w fun e w' => e = .returned v ∧ Below w.heap.size w w' := by
  refine h.mono ?_
  rintro e w' ⟨u, rfl, h1, h2⟩
  have h1 : u = v := h1
  exact ⟨by rw [h1], h2⟩
end Go.Proofs.YtfgnleoaibcegaaGreat.Rg
