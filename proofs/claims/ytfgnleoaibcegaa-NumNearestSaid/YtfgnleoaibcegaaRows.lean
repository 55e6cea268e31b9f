/-
  No cell of these rows narrows 'for every input' (looked for: loops, veiled, ifaces, maps, wideKeys, modest, calm, conditions, laid).
  DERIVED. THE GIVEN ROWS OF THIS SEAT. 3 by the template 'for every input the law returns true; each argument reads behind the call as it read before'; 0 by the template 'total and deterministic' (their statements: YtfgnleoaibcegaaTotals.lean).
  GIVEN WITH THE SEED: the statements are not yours to turn. If you find one false, say at which input.
  Laid BY PROGRAM, IN A SANDBOX (cutbox-rows.mjs): the forced cells as the released guide's own fill.sh prints them over the translation 751e1243e49f958b… (all of the seat's roots in one cut). By AI agents, Wed Nov 11 2026. No macro, syntax, notation, axiom, sorry.
-/
import Derived.Test.YtfgnleoaibcegaaChecked
import GoSem.Claim
import GoSem.ClaimJoined
import GoSem.ClaimMapViews
import Derived.JoinedTies
import Derived.KernelRfl
namespace Go.Proofs.Ytfgnleoaibcegaa
/- THE CELL 'sum', in the pinned program and in every row, IS THE sha256 OF THE DUMP (.gsa) THAT YtfgnleoaibcegaaProg.lean LOADS. Nothing in Lean hashes anything: it is a label: what it is worth is what the hold of that sum in a sandbox is worth. -/
noncomputable def Try.pinned : Pinned := { name := "ytfgnleoaibcegaa", sum := "751e1243e49f958b40f9a5dc4cf2baebcc6b233c38bb9a007e6aa564fccaee37", checked := Try.checked }
namespace Rows
def none {H : Type} : Left H := { results := [], args := [] }

/-- 'millracelaw3.NumFloats': WHATEVER THE INPUT: true; the input reads as it did. -/
def numFloatsSpec : ChangeSpec := { name := "numFloats", fn := fun _ => fun
  | [d] => { results := [.lit (.bool true)], args := [d] }
  | _ => none }
def numFloatsRow : OpenClaim := { program := "ytfgnleoaibcegaa", sum := "751e1243e49f958b40f9a5dc4cf2baebcc6b233c38bb9a007e6aa564fccaee37", func := "millrace/millracelaw3.NumFloats", spec := "numFloats", inPlace := ["math.Float64frombits", "math.Float64bits", "math/bits.Add64", "math/bits.Sub64", "internal/abi.NoEscape", "internal/bytealg.MakeNoZero"], unfollowed := true, recurses := true, named := ["math/bits.divideError", "math/bits.overflowError"], apart := false }
def NumFloatsSaid : Prop := numFloatsRow.holds Try.pinned (OpenSpec.ofChange numFloatsSpec)

/-- ITS FALSE NEIGHBOUR: 'it returns false'. Refute it at one input. -/
def numFloatsWrong : ChangeSpec := { name := "numFloats", fn := fun _ => fun
  | [d] => { results := [.lit (.bool false)], args := [d] }
  | _ => none }
def NumFloatsWrongFalsely : Prop := numFloatsRow.holds Try.pinned (OpenSpec.ofChange numFloatsWrong)

/-- 'millracelaw3.NumRises': WHATEVER THE INPUT: true; the input reads as it did. -/
def numRisesSpec : ChangeSpec := { name := "numRises", fn := fun _ => fun
  | [d1, d2, d3, d4] => { results := [.lit (.bool true)], args := [d1, d2, d3, d4] }
  | _ => none }
def numRisesRow : OpenClaim := { program := "ytfgnleoaibcegaa", sum := "751e1243e49f958b40f9a5dc4cf2baebcc6b233c38bb9a007e6aa564fccaee37", func := "millrace/millracelaw3.NumRises", spec := "numRises", inPlace := ["math/bits.Add64", "math/bits.Sub64", "math.Float64frombits", "math.Float64bits", "internal/abi.NoEscape", "internal/bytealg.MakeNoZero"], unfollowed := true, recurses := true, named := ["math/bits.divideError", "math/bits.overflowError"], apart := false }
def NumRisesSaid : Prop := numRisesRow.holds Try.pinned (OpenSpec.ofChange numRisesSpec)

/-- ITS FALSE NEIGHBOUR: 'it returns false'. Refute it at one input. -/
def numRisesWrong : ChangeSpec := { name := "numRises", fn := fun _ => fun
  | [d1, d2, d3, d4] => { results := [.lit (.bool false)], args := [d1, d2, d3, d4] }
  | _ => none }
def NumRisesWrongFalsely : Prop := numRisesRow.holds Try.pinned (OpenSpec.ofChange numRisesWrong)

/-- 'millracelaw3.NumNearest': WHATEVER THE INPUT: true; the input reads as it did. -/
def numNearestSpec : ChangeSpec := { name := "numNearest", fn := fun _ => fun
  | [d1, d2] => { results := [.lit (.bool true)], args := [d1, d2] }
  | _ => none }
def numNearestRow : OpenClaim := { program := "ytfgnleoaibcegaa", sum := "751e1243e49f958b40f9a5dc4cf2baebcc6b233c38bb9a007e6aa564fccaee37", func := "millrace/millracelaw3.NumNearest", spec := "numNearest", inPlace := ["math/bits.Add64", "math/bits.Sub64", "math.Float64frombits", "math.Float64bits", "internal/abi.NoEscape", "internal/bytealg.MakeNoZero"], unfollowed := true, recurses := true, named := ["math/bits.divideError", "math/bits.overflowError"], apart := false }
def NumNearestSaid : Prop := numNearestRow.holds Try.pinned (OpenSpec.ofChange numNearestSpec)

/-- ITS FALSE NEIGHBOUR: 'it returns false'. Refute it at one input. -/
def numNearestWrong : ChangeSpec := { name := "numNearest", fn := fun _ => fun
  | [d1, d2] => { results := [.lit (.bool false)], args := [d1, d2] }
  | _ => none }
def NumNearestWrongFalsely : Prop := numNearestRow.holds Try.pinned (OpenSpec.ofChange numNearestWrong)

/- THE SECOND FORM. 'bulk': how many values and letters a reading holds, each counted each time it is reached (what is shared counts as often as it is met; a slice's spare places count too). A statement '..UptoSaid' is the law's where the arguments, and the package variables that the reading takes, are together of bulk at most 1048576: NARROWER than '..Said'. Prove '..Said' where nothing that the law and all that it calls make is longer than what came in: it says more and counts as full. Else prove '..UptoSaid'. A law counts once. -/
mutual
def uptoBulk {H : Type} : DataW H → Nat
  | .lit (.string bytes) => bytes.length + 1
  | .lit _ => 1
  | .nil => 1
  | .ptr d => uptoBulk d + 1
  | .slice elems spare => uptoBulkAll elems + uptoBulkAll spare + 1
  | .agg parts => uptoBulkAll parts + 1
  | .iface _ d => uptoBulk d + 1
  | .map entries => uptoBulkEntries entries + 1
  | .held _ => 1
def uptoBulkAll {H : Type} : List (DataW H) → Nat
  | [] => 0
  | d :: r => uptoBulk d + uptoBulkAll r
def uptoBulkEntries {H : Type} : List (Lit × DataW H) → Nat
  | [] => 0
  | x :: r => uptoBulkEntry x + uptoBulkEntries r
def uptoBulkEntry {H : Type} : Lit × DataW H → Nat
  | (.string bytes, d) => bytes.length + uptoBulk d + 1
  | (_, d) => uptoBulk d + 1
 end
def uptoSmall : (H : Type) → List (DataW H) → Bool := fun _ ds => decide (uptoBulkAll ds ≤ 1048576)
def OpenSpec.upto (s : _root_.Go.ChangeSpec) : _root_.Go.OpenSpec := { _root_.Go.OpenSpec.ofChange s with cond := some uptoSmall }

/-- 'millracelaw3.NumFloats', WHERE WHAT IT READS IS OF BULK AT MOST 1048576: true; the input reads as it did. -/
def numFloatsUptoRow : OpenClaim := { program := "ytfgnleoaibcegaa", sum := "751e1243e49f958b40f9a5dc4cf2baebcc6b233c38bb9a007e6aa564fccaee37", func := "millrace/millracelaw3.NumFloats", spec := "numFloats", inPlace := ["math.Float64frombits", "math.Float64bits", "math/bits.Add64", "math/bits.Sub64", "internal/abi.NoEscape", "internal/bytealg.MakeNoZero"], unfollowed := true, recurses := true, named := ["math/bits.divideError", "math/bits.overflowError"], apart := false, narrowed := true }
def NumFloatsUptoSaid : Prop := numFloatsUptoRow.holds Try.pinned (OpenSpec.upto numFloatsSpec)

/-- 'millracelaw3.NumRises', WHERE WHAT IT READS IS OF BULK AT MOST 1048576: true; the input reads as it did. -/
def numRisesUptoRow : OpenClaim := { program := "ytfgnleoaibcegaa", sum := "751e1243e49f958b40f9a5dc4cf2baebcc6b233c38bb9a007e6aa564fccaee37", func := "millrace/millracelaw3.NumRises", spec := "numRises", inPlace := ["math/bits.Add64", "math/bits.Sub64", "math.Float64frombits", "math.Float64bits", "internal/abi.NoEscape", "internal/bytealg.MakeNoZero"], unfollowed := true, recurses := true, named := ["math/bits.divideError", "math/bits.overflowError"], apart := false, narrowed := true }
def NumRisesUptoSaid : Prop := numRisesUptoRow.holds Try.pinned (OpenSpec.upto numRisesSpec)

/-- 'millracelaw3.NumNearest', WHERE WHAT IT READS IS OF BULK AT MOST 1048576: true; the input reads as it did. -/
def numNearestUptoRow : OpenClaim := { program := "ytfgnleoaibcegaa", sum := "751e1243e49f958b40f9a5dc4cf2baebcc6b233c38bb9a007e6aa564fccaee37", func := "millrace/millracelaw3.NumNearest", spec := "numNearest", inPlace := ["math/bits.Add64", "math/bits.Sub64", "math.Float64frombits", "math.Float64bits", "internal/abi.NoEscape", "internal/bytealg.MakeNoZero"], unfollowed := true, recurses := true, named := ["math/bits.divideError", "math/bits.overflowError"], apart := false, narrowed := true }
def NumNearestUptoSaid : Prop := numNearestUptoRow.holds Try.pinned (OpenSpec.upto numNearestSpec)

end Rows
end Go.Proofs.Ytfgnleoaibcegaa
