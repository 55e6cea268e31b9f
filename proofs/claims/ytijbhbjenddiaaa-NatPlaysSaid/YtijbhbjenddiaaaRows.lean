/-
  No cell of these rows narrows 'for every input' (looked for: loops, veiled, ifaces, maps, wideKeys, modest, calm, conditions, laid).
  DERIVED. THE GIVEN ROWS OF THIS SEAT. 10 by the template 'for every input the law returns true; each argument reads behind the call as it read before'; 0 by the template 'total and deterministic' (their statements: YtijbhbjenddiaaaTotals.lean).
  GIVEN WITH THE SEED: the statements are not yours to turn. If you find one false, say at which input.
  Laid BY PROGRAM, IN A SANDBOX (cutbox-rows.mjs): the forced cells as the released guide's own fill.sh prints them over the translation 9ffb4fc9d30c060a… (all of the seat's roots in one cut). By AI agents, Wed Nov 11 2026. No macro, syntax, notation, axiom, sorry.
-/
import Derived.Test.YtijbhbjenddiaaaChecked
import GoSem.Claim
import GoSem.ClaimJoined
import GoSem.ClaimMapViews
import Derived.JoinedTies
import Derived.KernelRfl
namespace Go.Proofs.Ytijbhbjenddiaaa
/- THE CELL 'sum', in the pinned program and in every row, IS THE sha256 OF THE DUMP (.gsa) THAT YtijbhbjenddiaaaProg.lean LOADS. Nothing in Lean hashes anything: it is a label: what it is worth is what the hold of that sum in a sandbox is worth. -/
noncomputable def Try.pinned : Pinned := { name := "ytijbhbjenddiaaa", sum := "9ffb4fc9d30c060ae0258a651be7c99d88090e6deb0d5807ae075b3c079610f3", checked := Try.checked }
namespace Rows
def none {H : Type} : Left H := { results := [], args := [] }

/-- 'millracelaw1.NatDivides': WHATEVER THE INPUT: true; the input reads as it did. -/
def natDividesSpec : ChangeSpec := { name := "natDivides", fn := fun _ => fun
  | [d1, d2, d3] => { results := [.lit (.bool true)], args := [d1, d2, d3] }
  | _ => none }
def natDividesRow : OpenClaim := { program := "ytijbhbjenddiaaa", sum := "9ffb4fc9d30c060ae0258a651be7c99d88090e6deb0d5807ae075b3c079610f3", func := "millrace/millracelaw1.NatDivides", spec := "natDivides", inPlace := ["math/bits.Add64", "math/bits.Sub64"], unfollowed := true, recurses := true, named := ["math/bits.divideError", "math/bits.overflowError"], apart := false }
def NatDividesSaid : Prop := natDividesRow.holds Try.pinned (OpenSpec.ofChange natDividesSpec)

/-- ITS FALSE NEIGHBOUR: 'it returns false'. Refute it at one input. -/
def natDividesWrong : ChangeSpec := { name := "natDivides", fn := fun _ => fun
  | [d1, d2, d3] => { results := [.lit (.bool false)], args := [d1, d2, d3] }
  | _ => none }
def NatDividesWrongFalsely : Prop := natDividesRow.holds Try.pinned (OpenSpec.ofChange natDividesWrong)

/-- 'millracelaw1.NatBack': WHATEVER THE INPUT: true; the input reads as it did. -/
def natBackSpec : ChangeSpec := { name := "natBack", fn := fun _ => fun
  | [d1, d2] => { results := [.lit (.bool true)], args := [d1, d2] }
  | _ => none }
def natBackRow : OpenClaim := { program := "ytijbhbjenddiaaa", sum := "9ffb4fc9d30c060ae0258a651be7c99d88090e6deb0d5807ae075b3c079610f3", func := "millrace/millracelaw1.NatBack", spec := "natBack", inPlace := ["math/bits.Add64", "math/bits.Sub64"], unfollowed := true, recurses := true, named := ["math/bits.divideError", "math/bits.overflowError"], apart := false }
def NatBackSaid : Prop := natBackRow.holds Try.pinned (OpenSpec.ofChange natBackSpec)

/-- ITS FALSE NEIGHBOUR: 'it returns false'. Refute it at one input. -/
def natBackWrong : ChangeSpec := { name := "natBack", fn := fun _ => fun
  | [d1, d2] => { results := [.lit (.bool false)], args := [d1, d2] }
  | _ => none }
def NatBackWrongFalsely : Prop := natBackRow.holds Try.pinned (OpenSpec.ofChange natBackWrong)

/-- 'millracelaw1.NatOwn': WHATEVER THE INPUT: true; the input reads as it did. -/
def natOwnSpec : ChangeSpec := { name := "natOwn", fn := fun _ => fun
  | [d] => { results := [.lit (.bool true)], args := [d] }
  | _ => none }
def natOwnRow : OpenClaim := { program := "ytijbhbjenddiaaa", sum := "9ffb4fc9d30c060ae0258a651be7c99d88090e6deb0d5807ae075b3c079610f3", func := "millrace/millracelaw1.NatOwn", spec := "natOwn", inPlace := ["math/bits.Add64", "math/bits.Sub64"], unfollowed := true, recurses := true, named := ["math/bits.divideError", "math/bits.overflowError"], apart := false }
def NatOwnSaid : Prop := natOwnRow.holds Try.pinned (OpenSpec.ofChange natOwnSpec)

/-- ITS FALSE NEIGHBOUR: 'it returns false'. Refute it at one input. -/
def natOwnWrong : ChangeSpec := { name := "natOwn", fn := fun _ => fun
  | [d] => { results := [.lit (.bool false)], args := [d] }
  | _ => none }
def NatOwnWrongFalsely : Prop := natOwnRow.holds Try.pinned (OpenSpec.ofChange natOwnWrong)

/-- 'millracelaw1.NatMakes': WHATEVER THE INPUT: true; the input reads as it did. -/
def natMakesSpec : ChangeSpec := { name := "natMakes", fn := fun _ => fun
  | [d1, d2, d3, d4] => { results := [.lit (.bool true)], args := [d1, d2, d3, d4] }
  | _ => none }
def natMakesRow : OpenClaim := { program := "ytijbhbjenddiaaa", sum := "9ffb4fc9d30c060ae0258a651be7c99d88090e6deb0d5807ae075b3c079610f3", func := "millrace/millracelaw1.NatMakes", spec := "natMakes", inPlace := ["math/bits.Add64", "math/bits.Sub64"], unfollowed := true, recurses := true, named := ["math/bits.divideError", "math/bits.overflowError"], apart := false }
def NatMakesSaid : Prop := natMakesRow.holds Try.pinned (OpenSpec.ofChange natMakesSpec)

/-- ITS FALSE NEIGHBOUR: 'it returns false'. Refute it at one input. -/
def natMakesWrong : ChangeSpec := { name := "natMakes", fn := fun _ => fun
  | [d1, d2, d3, d4] => { results := [.lit (.bool false)], args := [d1, d2, d3, d4] }
  | _ => none }
def NatMakesWrongFalsely : Prop := natMakesRow.holds Try.pinned (OpenSpec.ofChange natMakesWrong)

/-- 'millracelaw1.NatBits': WHATEVER THE INPUT: true; the input reads as it did. -/
def natBitsSpec : ChangeSpec := { name := "natBits", fn := fun _ => fun
  | [d1, d2] => { results := [.lit (.bool true)], args := [d1, d2] }
  | _ => none }
def natBitsRow : OpenClaim := { program := "ytijbhbjenddiaaa", sum := "9ffb4fc9d30c060ae0258a651be7c99d88090e6deb0d5807ae075b3c079610f3", func := "millrace/millracelaw1.NatBits", spec := "natBits", inPlace := ["math/bits.Add64", "math/bits.Sub64"], unfollowed := true, recurses := true, named := ["math/bits.divideError", "math/bits.overflowError"], apart := false }
def NatBitsSaid : Prop := natBitsRow.holds Try.pinned (OpenSpec.ofChange natBitsSpec)

/-- ITS FALSE NEIGHBOUR: 'it returns false'. Refute it at one input. -/
def natBitsWrong : ChangeSpec := { name := "natBits", fn := fun _ => fun
  | [d1, d2] => { results := [.lit (.bool false)], args := [d1, d2] }
  | _ => none }
def NatBitsWrongFalsely : Prop := natBitsRow.holds Try.pinned (OpenSpec.ofChange natBitsWrong)

/-- 'millracelaw1.NatGcds': WHATEVER THE INPUT: true; the input reads as it did. -/
def natGcdsSpec : ChangeSpec := { name := "natGcds", fn := fun _ => fun
  | [d1, d2, d3] => { results := [.lit (.bool true)], args := [d1, d2, d3] }
  | _ => none }
def natGcdsRow : OpenClaim := { program := "ytijbhbjenddiaaa", sum := "9ffb4fc9d30c060ae0258a651be7c99d88090e6deb0d5807ae075b3c079610f3", func := "millrace/millracelaw1.NatGcds", spec := "natGcds", inPlace := ["math/bits.Add64", "math/bits.Sub64"], unfollowed := true, recurses := true, named := ["math/bits.divideError", "math/bits.overflowError"], apart := false }
def NatGcdsSaid : Prop := natGcdsRow.holds Try.pinned (OpenSpec.ofChange natGcdsSpec)

/-- ITS FALSE NEIGHBOUR: 'it returns false'. Refute it at one input. -/
def natGcdsWrong : ChangeSpec := { name := "natGcds", fn := fun _ => fun
  | [d1, d2, d3] => { results := [.lit (.bool false)], args := [d1, d2, d3] }
  | _ => none }
def NatGcdsWrongFalsely : Prop := natGcdsRow.holds Try.pinned (OpenSpec.ofChange natGcdsWrong)

/-- 'millracelaw1.NatLaws': WHATEVER THE INPUT: true; the input reads as it did. -/
def natLawsSpec : ChangeSpec := { name := "natLaws", fn := fun _ => fun
  | [d1, d2, d3] => { results := [.lit (.bool true)], args := [d1, d2, d3] }
  | _ => none }
def natLawsRow : OpenClaim := { program := "ytijbhbjenddiaaa", sum := "9ffb4fc9d30c060ae0258a651be7c99d88090e6deb0d5807ae075b3c079610f3", func := "millrace/millracelaw1.NatLaws", spec := "natLaws", inPlace := ["math/bits.Add64", "math/bits.Sub64"], unfollowed := true, recurses := true, named := ["math/bits.divideError", "math/bits.overflowError"], apart := false }
def NatLawsSaid : Prop := natLawsRow.holds Try.pinned (OpenSpec.ofChange natLawsSpec)

/-- ITS FALSE NEIGHBOUR: 'it returns false'. Refute it at one input. -/
def natLawsWrong : ChangeSpec := { name := "natLaws", fn := fun _ => fun
  | [d1, d2, d3] => { results := [.lit (.bool false)], args := [d1, d2, d3] }
  | _ => none }
def NatLawsWrongFalsely : Prop := natLawsRow.holds Try.pinned (OpenSpec.ofChange natLawsWrong)

/-- 'millracelaw1.NatGreat': WHATEVER THE INPUT: true; the input reads as it did. -/
def natGreatSpec : ChangeSpec := { name := "natGreat", fn := fun _ => fun
  | [d1, d2, d3] => { results := [.lit (.bool true)], args := [d1, d2, d3] }
  | _ => none }
def natGreatRow : OpenClaim := { program := "ytijbhbjenddiaaa", sum := "9ffb4fc9d30c060ae0258a651be7c99d88090e6deb0d5807ae075b3c079610f3", func := "millrace/millracelaw1.NatGreat", spec := "natGreat", inPlace := ["math/bits.Add64", "math/bits.Sub64"], unfollowed := true, recurses := true, named := ["math/bits.divideError", "math/bits.overflowError"], apart := false }
def NatGreatSaid : Prop := natGreatRow.holds Try.pinned (OpenSpec.ofChange natGreatSpec)

/-- ITS FALSE NEIGHBOUR: 'it returns false'. Refute it at one input. -/
def natGreatWrong : ChangeSpec := { name := "natGreat", fn := fun _ => fun
  | [d1, d2, d3] => { results := [.lit (.bool false)], args := [d1, d2, d3] }
  | _ => none }
def NatGreatWrongFalsely : Prop := natGreatRow.holds Try.pinned (OpenSpec.ofChange natGreatWrong)

/-- 'millracelaw1.NatReckons': WHATEVER THE INPUT: true; the input reads as it did. -/
def natReckonsSpec : ChangeSpec := { name := "natReckons", fn := fun _ => fun
  | [d1, d2, d3, d4] => { results := [.lit (.bool true)], args := [d1, d2, d3, d4] }
  | _ => none }
def natReckonsRow : OpenClaim := { program := "ytijbhbjenddiaaa", sum := "9ffb4fc9d30c060ae0258a651be7c99d88090e6deb0d5807ae075b3c079610f3", func := "millrace/millracelaw1.NatReckons", spec := "natReckons", inPlace := ["math/bits.Add64", "math/bits.Sub64"], unfollowed := true, recurses := true, named := ["math/bits.divideError", "math/bits.overflowError"], apart := false }
def NatReckonsSaid : Prop := natReckonsRow.holds Try.pinned (OpenSpec.ofChange natReckonsSpec)

/-- ITS FALSE NEIGHBOUR: 'it returns false'. Refute it at one input. -/
def natReckonsWrong : ChangeSpec := { name := "natReckons", fn := fun _ => fun
  | [d1, d2, d3, d4] => { results := [.lit (.bool false)], args := [d1, d2, d3, d4] }
  | _ => none }
def NatReckonsWrongFalsely : Prop := natReckonsRow.holds Try.pinned (OpenSpec.ofChange natReckonsWrong)

/-- 'millracelaw1.NatPlays': WHATEVER THE INPUT: true; the input reads as it did. -/
def natPlaysSpec : ChangeSpec := { name := "natPlays", fn := fun _ => fun
  | [d1, d2] => { results := [.lit (.bool true)], args := [d1, d2] }
  | _ => none }
def natPlaysRow : OpenClaim := { program := "ytijbhbjenddiaaa", sum := "9ffb4fc9d30c060ae0258a651be7c99d88090e6deb0d5807ae075b3c079610f3", func := "millrace/millracelaw1.NatPlays", spec := "natPlays", inPlace := ["math/bits.Add64", "math/bits.Sub64"], unfollowed := true, recurses := true, named := ["math/bits.divideError", "math/bits.overflowError"], apart := false }
def NatPlaysSaid : Prop := natPlaysRow.holds Try.pinned (OpenSpec.ofChange natPlaysSpec)

/-- ITS FALSE NEIGHBOUR: 'it returns false'. Refute it at one input. -/
def natPlaysWrong : ChangeSpec := { name := "natPlays", fn := fun _ => fun
  | [d1, d2] => { results := [.lit (.bool false)], args := [d1, d2] }
  | _ => none }
def NatPlaysWrongFalsely : Prop := natPlaysRow.holds Try.pinned (OpenSpec.ofChange natPlaysWrong)

/- THE SECOND FORM. 'bulk': how many values and letters a reading holds, each counted each time it is reached (what is shared counts as often as it is met; a slice's spare places count too). A statement '..UptoSaid' is the law's where the arguments, and the package variables that the reading takes, are together of bulk at most 1048576: NARROWER than '..Said'. Prove '..Said' where nothing that the law and all that it calls make is longer than what came in: it says more and counts as full. Else prove '..UptoSaid'. A law counts once. -/
mutual
def uptoBulk {H : Type} : DataW H → Nat
  | .lit (.string bytes) => bytes.length + 1
  | .lit _ => 1
  | .nil => 1
  | .ptr d => uptoBulk d + 1
  | .slice elems spare => uptoBulkAll elems + uptoBulkAll spare + 1
  | .agg parts => uptoBulkAll parts + 1
  | .iface _ d => uptoBulk d + 1
  | .map entries => uptoBulkEntries entries + 1
  | .held _ => 1
def uptoBulkAll {H : Type} : List (DataW H) → Nat
  | [] => 0
  | d :: r => uptoBulk d + uptoBulkAll r
def uptoBulkEntries {H : Type} : List (Lit × DataW H) → Nat
  | [] => 0
  | x :: r => uptoBulkEntry x + uptoBulkEntries r
def uptoBulkEntry {H : Type} : Lit × DataW H → Nat
  | (.string bytes, d) => bytes.length + uptoBulk d + 1
  | (_, d) => uptoBulk d + 1
 end
def uptoSmall : (H : Type) → List (DataW H) → Bool := fun _ ds => decide (uptoBulkAll ds ≤ 1048576)
def OpenSpec.upto (s : _root_.Go.ChangeSpec) : _root_.Go.OpenSpec := { _root_.Go.OpenSpec.ofChange s with cond := some uptoSmall }

/-- 'millracelaw1.NatDivides', WHERE WHAT IT READS IS OF BULK AT MOST 1048576: true; the input reads as it did. -/
def natDividesUptoRow : OpenClaim := { program := "ytijbhbjenddiaaa", sum := "9ffb4fc9d30c060ae0258a651be7c99d88090e6deb0d5807ae075b3c079610f3", func := "millrace/millracelaw1.NatDivides", spec := "natDivides", inPlace := ["math/bits.Add64", "math/bits.Sub64"], unfollowed := true, recurses := true, named := ["math/bits.divideError", "math/bits.overflowError"], apart := false, narrowed := true }
def NatDividesUptoSaid : Prop := natDividesUptoRow.holds Try.pinned (OpenSpec.upto natDividesSpec)

/-- 'millracelaw1.NatBack', WHERE WHAT IT READS IS OF BULK AT MOST 1048576: true; the input reads as it did. -/
def natBackUptoRow : OpenClaim := { program := "ytijbhbjenddiaaa", sum := "9ffb4fc9d30c060ae0258a651be7c99d88090e6deb0d5807ae075b3c079610f3", func := "millrace/millracelaw1.NatBack", spec := "natBack", inPlace := ["math/bits.Add64", "math/bits.Sub64"], unfollowed := true, recurses := true, named := ["math/bits.divideError", "math/bits.overflowError"], apart := false, narrowed := true }
def NatBackUptoSaid : Prop := natBackUptoRow.holds Try.pinned (OpenSpec.upto natBackSpec)

/-- 'millracelaw1.NatOwn', WHERE WHAT IT READS IS OF BULK AT MOST 1048576: true; the input reads as it did. -/
def natOwnUptoRow : OpenClaim := { program := "ytijbhbjenddiaaa", sum := "9ffb4fc9d30c060ae0258a651be7c99d88090e6deb0d5807ae075b3c079610f3", func := "millrace/millracelaw1.NatOwn", spec := "natOwn", inPlace := ["math/bits.Add64", "math/bits.Sub64"], unfollowed := true, recurses := true, named := ["math/bits.divideError", "math/bits.overflowError"], apart := false, narrowed := true }
def NatOwnUptoSaid : Prop := natOwnUptoRow.holds Try.pinned (OpenSpec.upto natOwnSpec)

/-- 'millracelaw1.NatMakes', WHERE WHAT IT READS IS OF BULK AT MOST 1048576: true; the input reads as it did. -/
def natMakesUptoRow : OpenClaim := { program := "ytijbhbjenddiaaa", sum := "9ffb4fc9d30c060ae0258a651be7c99d88090e6deb0d5807ae075b3c079610f3", func := "millrace/millracelaw1.NatMakes", spec := "natMakes", inPlace := ["math/bits.Add64", "math/bits.Sub64"], unfollowed := true, recurses := true, named := ["math/bits.divideError", "math/bits.overflowError"], apart := false, narrowed := true }
def NatMakesUptoSaid : Prop := natMakesUptoRow.holds Try.pinned (OpenSpec.upto natMakesSpec)

/-- 'millracelaw1.NatBits', WHERE WHAT IT READS IS OF BULK AT MOST 1048576: true; the input reads as it did. -/
def natBitsUptoRow : OpenClaim := { program := "ytijbhbjenddiaaa", sum := "9ffb4fc9d30c060ae0258a651be7c99d88090e6deb0d5807ae075b3c079610f3", func := "millrace/millracelaw1.NatBits", spec := "natBits", inPlace := ["math/bits.Add64", "math/bits.Sub64"], unfollowed := true, recurses := true, named := ["math/bits.divideError", "math/bits.overflowError"], apart := false, narrowed := true }
def NatBitsUptoSaid : Prop := natBitsUptoRow.holds Try.pinned (OpenSpec.upto natBitsSpec)

/-- 'millracelaw1.NatGcds', WHERE WHAT IT READS IS OF BULK AT MOST 1048576: true; the input reads as it did. -/
def natGcdsUptoRow : OpenClaim := { program := "ytijbhbjenddiaaa", sum := "9ffb4fc9d30c060ae0258a651be7c99d88090e6deb0d5807ae075b3c079610f3", func := "millrace/millracelaw1.NatGcds", spec := "natGcds", inPlace := ["math/bits.Add64", "math/bits.Sub64"], unfollowed := true, recurses := true, named := ["math/bits.divideError", "math/bits.overflowError"], apart := false, narrowed := true }
def NatGcdsUptoSaid : Prop := natGcdsUptoRow.holds Try.pinned (OpenSpec.upto natGcdsSpec)

/-- 'millracelaw1.NatLaws', WHERE WHAT IT READS IS OF BULK AT MOST 1048576: true; the input reads as it did. -/
def natLawsUptoRow : OpenClaim := { program := "ytijbhbjenddiaaa", sum := "9ffb4fc9d30c060ae0258a651be7c99d88090e6deb0d5807ae075b3c079610f3", func := "millrace/millracelaw1.NatLaws", spec := "natLaws", inPlace := ["math/bits.Add64", "math/bits.Sub64"], unfollowed := true, recurses := true, named := ["math/bits.divideError", "math/bits.overflowError"], apart := false, narrowed := true }
def NatLawsUptoSaid : Prop := natLawsUptoRow.holds Try.pinned (OpenSpec.upto natLawsSpec)

/-- 'millracelaw1.NatGreat', WHERE WHAT IT READS IS OF BULK AT MOST 1048576: true; the input reads as it did. -/
def natGreatUptoRow : OpenClaim := { program := "ytijbhbjenddiaaa", sum := "9ffb4fc9d30c060ae0258a651be7c99d88090e6deb0d5807ae075b3c079610f3", func := "millrace/millracelaw1.NatGreat", spec := "natGreat", inPlace := ["math/bits.Add64", "math/bits.Sub64"], unfollowed := true, recurses := true, named := ["math/bits.divideError", "math/bits.overflowError"], apart := false, narrowed := true }
def NatGreatUptoSaid : Prop := natGreatUptoRow.holds Try.pinned (OpenSpec.upto natGreatSpec)

/-- 'millracelaw1.NatReckons', WHERE WHAT IT READS IS OF BULK AT MOST 1048576: true; the input reads as it did. -/
def natReckonsUptoRow : OpenClaim := { program := "ytijbhbjenddiaaa", sum := "9ffb4fc9d30c060ae0258a651be7c99d88090e6deb0d5807ae075b3c079610f3", func := "millrace/millracelaw1.NatReckons", spec := "natReckons", inPlace := ["math/bits.Add64", "math/bits.Sub64"], unfollowed := true, recurses := true, named := ["math/bits.divideError", "math/bits.overflowError"], apart := false, narrowed := true }
def NatReckonsUptoSaid : Prop := natReckonsUptoRow.holds Try.pinned (OpenSpec.upto natReckonsSpec)

/-- 'millracelaw1.NatPlays', WHERE WHAT IT READS IS OF BULK AT MOST 1048576: true; the input reads as it did. -/
def natPlaysUptoRow : OpenClaim := { program := "ytijbhbjenddiaaa", sum := "9ffb4fc9d30c060ae0258a651be7c99d88090e6deb0d5807ae075b3c079610f3", func := "millrace/millracelaw1.NatPlays", spec := "natPlays", inPlace := ["math/bits.Add64", "math/bits.Sub64"], unfollowed := true, recurses := true, named := ["math/bits.divideError", "math/bits.overflowError"], apart := false, narrowed := true }
def NatPlaysUptoSaid : Prop := natPlaysUptoRow.holds Try.pinned (OpenSpec.upto natPlaysSpec)

end Rows
end Go.Proofs.Ytijbhbjenddiaaa
