/-
  No cell of these rows narrows 'for every input' (looked for: loops, veiled, ifaces, maps, wideKeys, modest, calm, conditions, laid).
  DERIVED. THE GIVEN ROWS OF THIS SEAT. 6 by the template 'for every input the law returns true; each argument reads behind the call as it read before'; 0 by the template 'total and deterministic' (their statements: YthanbjbcpljcoaaTotals.lean).
  GIVEN WITH THE SEED: the statements are not yours to turn. If you find one false, say at which input.
  Laid BY PROGRAM, IN A SANDBOX (cutbox-rows.mjs): the forced cells as the released guide's own fill.sh prints them over the translation f2df9bad12b0787c… (all of the seat's roots in one cut). By AI agents, Wed Nov 11 2026. No macro, syntax, notation, axiom, sorry.
-/
import Derived.Test.YthanbjbcpljcoaaChecked
import GoSem.Claim
import GoSem.ClaimJoined
import GoSem.ClaimMapViews
import Derived.JoinedTies
import Derived.KernelRfl
namespace Go.Proofs.Ythanbjbcpljcoaa
/- THE CELL 'sum', in the pinned program and in every row, IS THE sha256 OF THE DUMP (.gsa) THAT YthanbjbcpljcoaaProg.lean LOADS. Nothing in Lean hashes anything: it is a label: what it is worth is what the hold of that sum in a sandbox is worth. -/
noncomputable def Try.pinned : Pinned := { name := "ythanbjbcpljcoaa", sum := "f2df9bad12b0787ca22c261765d7243f2c23cfe0e8d11540cfc79e2d005e3289", checked := Try.checked }
namespace Rows
def none {H : Type} : Left H := { results := [], args := [] }

/-- 'millracelaw2.RatKept': WHATEVER THE INPUT: true; the input reads as it did. -/
def ratKeptSpec : ChangeSpec := { name := "ratKept", fn := fun _ => fun
  | [d1, d2] => { results := [.lit (.bool true)], args := [d1, d2] }
  | _ => none }
def ratKeptRow : OpenClaim := { program := "ythanbjbcpljcoaa", sum := "f2df9bad12b0787ca22c261765d7243f2c23cfe0e8d11540cfc79e2d005e3289", func := "millrace/millracelaw2.RatKept", spec := "ratKept", inPlace := ["math/bits.Add64", "math/bits.Sub64"], named := ["math/bits.divideError", "math/bits.overflowError"], apart := false }
def RatKeptSaid : Prop := ratKeptRow.holds Try.pinned (OpenSpec.ofChange ratKeptSpec)

/-- ITS FALSE NEIGHBOUR: 'it returns false'. Refute it at one input. -/
def ratKeptWrong : ChangeSpec := { name := "ratKept", fn := fun _ => fun
  | [d1, d2] => { results := [.lit (.bool false)], args := [d1, d2] }
  | _ => none }
def RatKeptWrongFalsely : Prop := ratKeptRow.holds Try.pinned (OpenSpec.ofChange ratKeptWrong)

/-- 'millracelaw2.RatForm': WHATEVER THE INPUT: true; the input reads as it did. -/
def ratFormSpec : ChangeSpec := { name := "ratForm", fn := fun _ => fun
  | [d] => { results := [.lit (.bool true)], args := [d] }
  | _ => none }
def ratFormRow : OpenClaim := { program := "ythanbjbcpljcoaa", sum := "f2df9bad12b0787ca22c261765d7243f2c23cfe0e8d11540cfc79e2d005e3289", func := "millrace/millracelaw2.RatForm", spec := "ratForm", inPlace := ["math/bits.Add64", "math/bits.Sub64"], named := ["math/bits.divideError", "math/bits.overflowError"], apart := false }
def RatFormSaid : Prop := ratFormRow.holds Try.pinned (OpenSpec.ofChange ratFormSpec)

/-- ITS FALSE NEIGHBOUR: 'it returns false'. Refute it at one input. -/
def ratFormWrong : ChangeSpec := { name := "ratForm", fn := fun _ => fun
  | [d] => { results := [.lit (.bool false)], args := [d] }
  | _ => none }
def RatFormWrongFalsely : Prop := ratFormRow.holds Try.pinned (OpenSpec.ofChange ratFormWrong)

/-- 'millracelaw2.RatMakes': WHATEVER THE INPUT: true; the input reads as it did. -/
def ratMakesSpec : ChangeSpec := { name := "ratMakes", fn := fun _ => fun
  | [d1, d2, d3] => { results := [.lit (.bool true)], args := [d1, d2, d3] }
  | _ => none }
def ratMakesRow : OpenClaim := { program := "ythanbjbcpljcoaa", sum := "f2df9bad12b0787ca22c261765d7243f2c23cfe0e8d11540cfc79e2d005e3289", func := "millrace/millracelaw2.RatMakes", spec := "ratMakes", inPlace := ["math/bits.Add64", "math/bits.Sub64"], named := ["math/bits.divideError", "math/bits.overflowError"], apart := false }
def RatMakesSaid : Prop := ratMakesRow.holds Try.pinned (OpenSpec.ofChange ratMakesSpec)

/-- ITS FALSE NEIGHBOUR: 'it returns false'. Refute it at one input. -/
def ratMakesWrong : ChangeSpec := { name := "ratMakes", fn := fun _ => fun
  | [d1, d2, d3] => { results := [.lit (.bool false)], args := [d1, d2, d3] }
  | _ => none }
def RatMakesWrongFalsely : Prop := ratMakesRow.holds Try.pinned (OpenSpec.ofChange ratMakesWrong)

/-- 'millracelaw2.RatLaws': WHATEVER THE INPUT: true; the input reads as it did. -/
def ratLawsSpec : ChangeSpec := { name := "ratLaws", fn := fun _ => fun
  | [d1, d2, d3] => { results := [.lit (.bool true)], args := [d1, d2, d3] }
  | _ => none }
def ratLawsRow : OpenClaim := { program := "ythanbjbcpljcoaa", sum := "f2df9bad12b0787ca22c261765d7243f2c23cfe0e8d11540cfc79e2d005e3289", func := "millrace/millracelaw2.RatLaws", spec := "ratLaws", inPlace := ["math/bits.Add64", "math/bits.Sub64"], named := ["math/bits.divideError", "math/bits.overflowError"], apart := false }
def RatLawsSaid : Prop := ratLawsRow.holds Try.pinned (OpenSpec.ofChange ratLawsSpec)

/-- ITS FALSE NEIGHBOUR: 'it returns false'. Refute it at one input. -/
def ratLawsWrong : ChangeSpec := { name := "ratLaws", fn := fun _ => fun
  | [d1, d2, d3] => { results := [.lit (.bool false)], args := [d1, d2, d3] }
  | _ => none }
def RatLawsWrongFalsely : Prop := ratLawsRow.holds Try.pinned (OpenSpec.ofChange ratLawsWrong)

/-- 'millracelaw2.RatBetween': WHATEVER THE INPUT: true; the input reads as it did. -/
def ratBetweenSpec : ChangeSpec := { name := "ratBetween", fn := fun _ => fun
  | [d1, d2, d3, d4] => { results := [.lit (.bool true)], args := [d1, d2, d3, d4] }
  | _ => none }
def ratBetweenRow : OpenClaim := { program := "ythanbjbcpljcoaa", sum := "f2df9bad12b0787ca22c261765d7243f2c23cfe0e8d11540cfc79e2d005e3289", func := "millrace/millracelaw2.RatBetween", spec := "ratBetween", inPlace := ["math/bits.Add64", "math/bits.Sub64"], unfollowed := true, recurses := true, named := ["math/bits.divideError", "math/bits.overflowError"], apart := false }
def RatBetweenSaid : Prop := ratBetweenRow.holds Try.pinned (OpenSpec.ofChange ratBetweenSpec)

/-- ITS FALSE NEIGHBOUR: 'it returns false'. Refute it at one input. -/
def ratBetweenWrong : ChangeSpec := { name := "ratBetween", fn := fun _ => fun
  | [d1, d2, d3, d4] => { results := [.lit (.bool false)], args := [d1, d2, d3, d4] }
  | _ => none }
def RatBetweenWrongFalsely : Prop := ratBetweenRow.holds Try.pinned (OpenSpec.ofChange ratBetweenWrong)

/-- 'millracelaw2.RatPlays': WHATEVER THE INPUT: true; the input reads as it did. -/
def ratPlaysSpec : ChangeSpec := { name := "ratPlays", fn := fun _ => fun
  | [d1, d2] => { results := [.lit (.bool true)], args := [d1, d2] }
  | _ => none }
def ratPlaysRow : OpenClaim := { program := "ythanbjbcpljcoaa", sum := "f2df9bad12b0787ca22c261765d7243f2c23cfe0e8d11540cfc79e2d005e3289", func := "millrace/millracelaw2.RatPlays", spec := "ratPlays", inPlace := ["math/bits.Add64", "math/bits.Sub64"], unfollowed := true, recurses := true, named := ["math/bits.divideError", "math/bits.overflowError"], apart := false }
def RatPlaysSaid : Prop := ratPlaysRow.holds Try.pinned (OpenSpec.ofChange ratPlaysSpec)

/-- ITS FALSE NEIGHBOUR: 'it returns false'. Refute it at one input. -/
def ratPlaysWrong : ChangeSpec := { name := "ratPlays", fn := fun _ => fun
  | [d1, d2] => { results := [.lit (.bool false)], args := [d1, d2] }
  | _ => none }
def RatPlaysWrongFalsely : Prop := ratPlaysRow.holds Try.pinned (OpenSpec.ofChange ratPlaysWrong)

/- THE SECOND FORM. 'bulk': how many values and letters a reading holds, each counted each time it is reached (what is shared counts as often as it is met; a slice's spare places count too). A statement '..UptoSaid' is the law's where the arguments, and the package variables that the reading takes, are together of bulk at most 1048576: NARROWER than '..Said'. Prove '..Said' where nothing that the law and all that it calls make is longer than what came in: it says more and counts as full. Else prove '..UptoSaid'. A law counts once. -/
mutual
def uptoBulk {H : Type} : DataW H → Nat
  | .lit (.string bytes) => bytes.length + 1
  | .lit _ => 1
  | .nil => 1
  | .ptr d => uptoBulk d + 1
  | .slice elems spare => uptoBulkAll elems + uptoBulkAll spare + 1
  | .agg parts => uptoBulkAll parts + 1
  | .iface _ d => uptoBulk d + 1
  | .map entries => uptoBulkEntries entries + 1
  | .held _ => 1
def uptoBulkAll {H : Type} : List (DataW H) → Nat
  | [] => 0
  | d :: r => uptoBulk d + uptoBulkAll r
def uptoBulkEntries {H : Type} : List (Lit × DataW H) → Nat
  | [] => 0
  | x :: r => uptoBulkEntry x + uptoBulkEntries r
def uptoBulkEntry {H : Type} : Lit × DataW H → Nat
  | (.string bytes, d) => bytes.length + uptoBulk d + 1
  | (_, d) => uptoBulk d + 1
 end
def uptoSmall : (H : Type) → List (DataW H) → Bool := fun _ ds => decide (uptoBulkAll ds ≤ 1048576)
def OpenSpec.upto (s : _root_.Go.ChangeSpec) : _root_.Go.OpenSpec := { _root_.Go.OpenSpec.ofChange s with cond := some uptoSmall }

/-- 'millracelaw2.RatKept', WHERE WHAT IT READS IS OF BULK AT MOST 1048576: true; the input reads as it did. -/
def ratKeptUptoRow : OpenClaim := { program := "ythanbjbcpljcoaa", sum := "f2df9bad12b0787ca22c261765d7243f2c23cfe0e8d11540cfc79e2d005e3289", func := "millrace/millracelaw2.RatKept", spec := "ratKept", inPlace := ["math/bits.Add64", "math/bits.Sub64"], named := ["math/bits.divideError", "math/bits.overflowError"], apart := false, narrowed := true }
def RatKeptUptoSaid : Prop := ratKeptUptoRow.holds Try.pinned (OpenSpec.upto ratKeptSpec)

/-- 'millracelaw2.RatForm', WHERE WHAT IT READS IS OF BULK AT MOST 1048576: true; the input reads as it did. -/
def ratFormUptoRow : OpenClaim := { program := "ythanbjbcpljcoaa", sum := "f2df9bad12b0787ca22c261765d7243f2c23cfe0e8d11540cfc79e2d005e3289", func := "millrace/millracelaw2.RatForm", spec := "ratForm", inPlace := ["math/bits.Add64", "math/bits.Sub64"], named := ["math/bits.divideError", "math/bits.overflowError"], apart := false, narrowed := true }
def RatFormUptoSaid : Prop := ratFormUptoRow.holds Try.pinned (OpenSpec.upto ratFormSpec)

/-- 'millracelaw2.RatMakes', WHERE WHAT IT READS IS OF BULK AT MOST 1048576: true; the input reads as it did. -/
def ratMakesUptoRow : OpenClaim := { program := "ythanbjbcpljcoaa", sum := "f2df9bad12b0787ca22c261765d7243f2c23cfe0e8d11540cfc79e2d005e3289", func := "millrace/millracelaw2.RatMakes", spec := "ratMakes", inPlace := ["math/bits.Add64", "math/bits.Sub64"], named := ["math/bits.divideError", "math/bits.overflowError"], apart := false, narrowed := true }
def RatMakesUptoSaid : Prop := ratMakesUptoRow.holds Try.pinned (OpenSpec.upto ratMakesSpec)

/-- 'millracelaw2.RatLaws', WHERE WHAT IT READS IS OF BULK AT MOST 1048576: true; the input reads as it did. -/
def ratLawsUptoRow : OpenClaim := { program := "ythanbjbcpljcoaa", sum := "f2df9bad12b0787ca22c261765d7243f2c23cfe0e8d11540cfc79e2d005e3289", func := "millrace/millracelaw2.RatLaws", spec := "ratLaws", inPlace := ["math/bits.Add64", "math/bits.Sub64"], named := ["math/bits.divideError", "math/bits.overflowError"], apart := false, narrowed := true }
def RatLawsUptoSaid : Prop := ratLawsUptoRow.holds Try.pinned (OpenSpec.upto ratLawsSpec)

/-- 'millracelaw2.RatBetween', WHERE WHAT IT READS IS OF BULK AT MOST 1048576: true; the input reads as it did. -/
def ratBetweenUptoRow : OpenClaim := { program := "ythanbjbcpljcoaa", sum := "f2df9bad12b0787ca22c261765d7243f2c23cfe0e8d11540cfc79e2d005e3289", func := "millrace/millracelaw2.RatBetween", spec := "ratBetween", inPlace := ["math/bits.Add64", "math/bits.Sub64"], unfollowed := true, recurses := true, named := ["math/bits.divideError", "math/bits.overflowError"], apart := false, narrowed := true }
def RatBetweenUptoSaid : Prop := ratBetweenUptoRow.holds Try.pinned (OpenSpec.upto ratBetweenSpec)

/-- 'millracelaw2.RatPlays', WHERE WHAT IT READS IS OF BULK AT MOST 1048576: true; the input reads as it did. -/
def ratPlaysUptoRow : OpenClaim := { program := "ythanbjbcpljcoaa", sum := "f2df9bad12b0787ca22c261765d7243f2c23cfe0e8d11540cfc79e2d005e3289", func := "millrace/millracelaw2.RatPlays", spec := "ratPlays", inPlace := ["math/bits.Add64", "math/bits.Sub64"], unfollowed := true, recurses := true, named := ["math/bits.divideError", "math/bits.overflowError"], apart := false, narrowed := true }
def RatPlaysUptoSaid : Prop := ratPlaysUptoRow.holds Try.pinned (OpenSpec.upto ratPlaysSpec)

end Rows
end Go.Proofs.Ythanbjbcpljcoaa
