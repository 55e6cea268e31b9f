/-
  No cell of these rows narrows 'for every input' (looked for: loops, veiled, ifaces, maps, wideKeys, modest, calm, conditions, laid).
  DERIVED. THE GIVEN ROWS OF THIS SEAT. 4 by the template 'for every input the law returns true; each argument reads behind the call as it read before'; 0 by the template 'total and deterministic' (their statements: YtfgnleoaibcegaaGreatTotals.lean).
  GIVEN WITH THE SEED: the statements are not yours to turn. If you find one false, say at which input.
  Laid BY PROGRAM, IN A SANDBOX (cutbox-rows.mjs): the forced cells as the released guide's own fill.sh prints them over the translation 98f9926ac7307fe8… (all of the seat's roots in one cut). By AI agents, Wed Nov 11 2026. No macro, syntax, notation, axiom, sorry.
-/
import Derived.Test.YtfgnleoaibcegaaGreatChecked
import GoSem.Claim
import GoSem.ClaimJoined
import GoSem.ClaimMapViews
import Derived.JoinedTies
import Derived.KernelRfl
namespace Go.Proofs.YtfgnleoaibcegaaGreat
/- THE CELL 'sum', in the pinned program and in every row, IS THE sha256 OF THE DUMP (.gsa) THAT YtfgnleoaibcegaaGreatProg.lean LOADS. Nothing in Lean hashes anything: it is a label: what it is worth is what the hold of that sum in a sandbox is worth. -/
noncomputable def Tryz.pinned : Pinned := { name := "ytfgnleoaibcegaagreat", sum := "98f9926ac7307fe819a4e6a00ce44d5e1d5683781214d2d24f31092a494e991e", checked := Tryz.checked }
namespace Rows
def none {H : Type} : Left H := { results := [], args := [] }

/-- 'millracelaw3.NumNears': WHATEVER THE INPUT: true; the input reads as it did. -/
def numNearsSpec : ChangeSpec := { name := "numNears", fn := fun _ => fun
  | [d1, d2, d3, d4, d5] => { results := [.lit (.bool true)], args := [d1, d2, d3, d4, d5] }
  | _ => none }
def numNearsRow : OpenClaim := { program := "ytfgnleoaibcegaagreat", sum := "98f9926ac7307fe819a4e6a00ce44d5e1d5683781214d2d24f31092a494e991e", func := "millrace/millracelaw3.NumNears", spec := "numNears", inPlace := ["math/bits.Add64", "math/bits.Sub64", "math.Float64frombits", "math.Float64bits", "internal/abi.NoEscape", "internal/bytealg.MakeNoZero"], unfollowed := true, recurses := true, named := ["math/bits.divideError", "math/bits.overflowError"], apart := false }
def NumNearsSaid : Prop := numNearsRow.holds Tryz.pinned (OpenSpec.ofChange numNearsSpec)

/-- ITS FALSE NEIGHBOUR: 'it returns false'. Refute it at one input. -/
def numNearsWrong : ChangeSpec := { name := "numNears", fn := fun _ => fun
  | [d1, d2, d3, d4, d5] => { results := [.lit (.bool false)], args := [d1, d2, d3, d4, d5] }
  | _ => none }
def NumNearsWrongFalsely : Prop := numNearsRow.holds Tryz.pinned (OpenSpec.ofChange numNearsWrong)

/-- 'millracelaw3.NumParses': WHATEVER THE INPUT: true; the input reads as it did. -/
def numParsesSpec : ChangeSpec := { name := "numParses", fn := fun _ => fun
  | [d] => { results := [.lit (.bool true)], args := [d] }
  | _ => none }
def numParsesRow : OpenClaim := { program := "ytfgnleoaibcegaagreat", sum := "98f9926ac7307fe819a4e6a00ce44d5e1d5683781214d2d24f31092a494e991e", func := "millrace/millracelaw3.NumParses", spec := "numParses", inPlace := ["math/bits.Add64", "math/bits.Sub64", "math.Float64bits", "math.Float64frombits", "internal/abi.NoEscape", "internal/bytealg.MakeNoZero"], unfollowed := true, recurses := true, named := ["math/bits.divideError", "math/bits.overflowError"], apart := false }
def NumParsesSaid : Prop := numParsesRow.holds Tryz.pinned (OpenSpec.ofChange numParsesSpec)

/-- ITS FALSE NEIGHBOUR: 'it returns false'. Refute it at one input. -/
def numParsesWrong : ChangeSpec := { name := "numParses", fn := fun _ => fun
  | [d] => { results := [.lit (.bool false)], args := [d] }
  | _ => none }
def NumParsesWrongFalsely : Prop := numParsesRow.holds Tryz.pinned (OpenSpec.ofChange numParsesWrong)

/-- 'millracelaw3.NumTexts': WHATEVER THE INPUT: true; the input reads as it did. -/
def numTextsSpec : ChangeSpec := { name := "numTexts", fn := fun _ => fun
  | [d1, d2, d3, d4] => { results := [.lit (.bool true)], args := [d1, d2, d3, d4] }
  | _ => none }
def numTextsRow : OpenClaim := { program := "ytfgnleoaibcegaagreat", sum := "98f9926ac7307fe819a4e6a00ce44d5e1d5683781214d2d24f31092a494e991e", func := "millrace/millracelaw3.NumTexts", spec := "numTexts", inPlace := ["math/bits.Add64", "math/bits.Sub64", "internal/abi.NoEscape", "internal/bytealg.MakeNoZero", "math.Float64bits", "math.Float64frombits"], unfollowed := true, recurses := true, named := ["math/bits.divideError", "math/bits.overflowError"], apart := false }
def NumTextsSaid : Prop := numTextsRow.holds Tryz.pinned (OpenSpec.ofChange numTextsSpec)

/-- ITS FALSE NEIGHBOUR: 'it returns false'. Refute it at one input. -/
def numTextsWrong : ChangeSpec := { name := "numTexts", fn := fun _ => fun
  | [d1, d2, d3, d4] => { results := [.lit (.bool false)], args := [d1, d2, d3, d4] }
  | _ => none }
def NumTextsWrongFalsely : Prop := numTextsRow.holds Tryz.pinned (OpenSpec.ofChange numTextsWrong)

/-- 'millracelaw3.NumBack': WHATEVER THE INPUT: true; the input reads as it did. -/
def numBackSpec : ChangeSpec := { name := "numBack", fn := fun _ => fun
  | [d1, d2, d3, d4] => { results := [.lit (.bool true)], args := [d1, d2, d3, d4] }
  | _ => none }
def numBackRow : OpenClaim := { program := "ytfgnleoaibcegaagreat", sum := "98f9926ac7307fe819a4e6a00ce44d5e1d5683781214d2d24f31092a494e991e", func := "millrace/millracelaw3.NumBack", spec := "numBack", inPlace := ["math.Float64frombits", "math.Float64bits", "math/bits.Add64", "math/bits.Sub64", "internal/abi.NoEscape", "internal/bytealg.MakeNoZero"], unfollowed := true, recurses := true, named := ["math/bits.divideError", "math/bits.overflowError"], apart := false }
def NumBackSaid : Prop := numBackRow.holds Tryz.pinned (OpenSpec.ofChange numBackSpec)

/-- ITS FALSE NEIGHBOUR: 'it returns false'. Refute it at one input. -/
def numBackWrong : ChangeSpec := { name := "numBack", fn := fun _ => fun
  | [d1, d2, d3, d4] => { results := [.lit (.bool false)], args := [d1, d2, d3, d4] }
  | _ => none }
def NumBackWrongFalsely : Prop := numBackRow.holds Tryz.pinned (OpenSpec.ofChange numBackWrong)

/- THE SECOND FORM. 'bulk': how many values and letters a reading holds, each counted each time it is reached (what is shared counts as often as it is met; a slice's spare places count too). A statement '..UptoSaid' is the law's where the arguments, and the package variables that the reading takes, are together of bulk at most 1048576: NARROWER than '..Said'. Prove '..Said' where nothing that the law and all that it calls make is longer than what came in: it says more and counts as full. Else prove '..UptoSaid'. A law counts once. -/
mutual
def uptoBulk {H : Type} : DataW H → Nat
  | .lit (.string bytes) => bytes.length + 1
  | .lit _ => 1
  | .nil => 1
  | .ptr d => uptoBulk d + 1
  | .slice elems spare => uptoBulkAll elems + uptoBulkAll spare + 1
  | .agg parts => uptoBulkAll parts + 1
  | .iface _ d => uptoBulk d + 1
  | .map entries => uptoBulkEntries entries + 1
  | .held _ => 1
def uptoBulkAll {H : Type} : List (DataW H) → Nat
  | [] => 0
  | d :: r => uptoBulk d + uptoBulkAll r
def uptoBulkEntries {H : Type} : List (Lit × DataW H) → Nat
  | [] => 0
  | x :: r => uptoBulkEntry x + uptoBulkEntries r
def uptoBulkEntry {H : Type} : Lit × DataW H → Nat
  | (.string bytes, d) => bytes.length + uptoBulk d + 1
  | (_, d) => uptoBulk d + 1
 end
def uptoSmall : (H : Type) → List (DataW H) → Bool := fun _ ds => decide (uptoBulkAll ds ≤ 1048576)
def OpenSpec.upto (s : _root_.Go.ChangeSpec) : _root_.Go.OpenSpec := { _root_.Go.OpenSpec.ofChange s with cond := some uptoSmall }

/-- 'millracelaw3.NumNears', WHERE WHAT IT READS IS OF BULK AT MOST 1048576: true; the input reads as it did. -/
def numNearsUptoRow : OpenClaim := { program := "ytfgnleoaibcegaagreat", sum := "98f9926ac7307fe819a4e6a00ce44d5e1d5683781214d2d24f31092a494e991e", func := "millrace/millracelaw3.NumNears", spec := "numNears", inPlace := ["math/bits.Add64", "math/bits.Sub64", "math.Float64frombits", "math.Float64bits", "internal/abi.NoEscape", "internal/bytealg.MakeNoZero"], unfollowed := true, recurses := true, named := ["math/bits.divideError", "math/bits.overflowError"], apart := false, narrowed := true }
def NumNearsUptoSaid : Prop := numNearsUptoRow.holds Tryz.pinned (OpenSpec.upto numNearsSpec)

/-- 'millracelaw3.NumParses', WHERE WHAT IT READS IS OF BULK AT MOST 1048576: true; the input reads as it did. -/
def numParsesUptoRow : OpenClaim := { program := "ytfgnleoaibcegaagreat", sum := "98f9926ac7307fe819a4e6a00ce44d5e1d5683781214d2d24f31092a494e991e", func := "millrace/millracelaw3.NumParses", spec := "numParses", inPlace := ["math/bits.Add64", "math/bits.Sub64", "math.Float64bits", "math.Float64frombits", "internal/abi.NoEscape", "internal/bytealg.MakeNoZero"], unfollowed := true, recurses := true, named := ["math/bits.divideError", "math/bits.overflowError"], apart := false, narrowed := true }
def NumParsesUptoSaid : Prop := numParsesUptoRow.holds Tryz.pinned (OpenSpec.upto numParsesSpec)

/-- 'millracelaw3.NumTexts', WHERE WHAT IT READS IS OF BULK AT MOST 1048576: true; the input reads as it did. -/
def numTextsUptoRow : OpenClaim := { program := "ytfgnleoaibcegaagreat", sum := "98f9926ac7307fe819a4e6a00ce44d5e1d5683781214d2d24f31092a494e991e", func := "millrace/millracelaw3.NumTexts", spec := "numTexts", inPlace := ["math/bits.Add64", "math/bits.Sub64", "internal/abi.NoEscape", "internal/bytealg.MakeNoZero", "math.Float64bits", "math.Float64frombits"], unfollowed := true, recurses := true, named := ["math/bits.divideError", "math/bits.overflowError"], apart := false, narrowed := true }
def NumTextsUptoSaid : Prop := numTextsUptoRow.holds Tryz.pinned (OpenSpec.upto numTextsSpec)

/-- 'millracelaw3.NumBack', WHERE WHAT IT READS IS OF BULK AT MOST 1048576: true; the input reads as it did. -/
def numBackUptoRow : OpenClaim := { program := "ytfgnleoaibcegaagreat", sum := "98f9926ac7307fe819a4e6a00ce44d5e1d5683781214d2d24f31092a494e991e", func := "millrace/millracelaw3.NumBack", spec := "numBack", inPlace := ["math.Float64frombits", "math.Float64bits", "math/bits.Add64", "math/bits.Sub64", "internal/abi.NoEscape", "internal/bytealg.MakeNoZero"], unfollowed := true, recurses := true, named := ["math/bits.divideError", "math/bits.overflowError"], apart := false, narrowed := true }
def NumBackUptoSaid : Prop := numBackUptoRow.holds Tryz.pinned (OpenSpec.upto numBackSpec)

end Rows
end Go.Proofs.YtfgnleoaibcegaaGreat
