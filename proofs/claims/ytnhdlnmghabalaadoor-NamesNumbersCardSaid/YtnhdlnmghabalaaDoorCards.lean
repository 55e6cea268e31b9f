/-
  DERIVED. GIVEN WITH THE SEED: THE CARDS: each row of YtnhdlnmghabalaaDoorRows.lean that lists a variable, with what it lists TIED to the program's text (the seventh form; the later family's looks); each row that meets fmt, with fmt's text TOLD by the authors' own Lean function (tested against real Go, not proved from fmt's source: count such statements apart). THE CARD IS WHAT COUNTS. Prove the row's statement (the work); the ties are given (YtnhdlnmghabalaaDoorTie.lean); close each card by the builder's one call (the guide's Derived/Test/ToyasCard.lean, 'card_holds'). Laid BY PROGRAM, IN A SANDBOX (cutbox-door.mjs). By AI agents, Wed Nov 11 2026. No macro, syntax, notation, axiom, sorry.
-/
import Derived.Test.YtnhdlnmghabalaaDoorRows
import GoSem.ClaimSeven
namespace Go.Proofs.YtnhdlnmghabalaaDoor
namespace Rows

/-- THE TIED CARD OF 'millracelaw0.NamesNumbers'. -/
def namesNumbersCard : Claim7 := { stood := { row := namesNumbersRow, standIns := [], harness := (true, "15e0d5b2b89c5ff073a0a852d4d8127d9348b9521bdd6fe59da9eae2b4a34327"), looks := false }, kinds := [], alts := [], laidByText := true, laidKinds := [.data, .data, .data], laidTests := true, laidLooks := .later }
def NamesNumbersCardSaid : Prop := Claim7.holds Tryd.pinned (.plain (OpenSpec.ofChange namesNumbersSpec)) namesNumbersCard

/-- THE SECOND FORM's CARD OF 'millracelaw0.NamesNumbers'. -/
def namesNumbersUptoCard : Claim7 := { stood := { row := namesNumbersUptoRow, standIns := [], harness := (true, "15e0d5b2b89c5ff073a0a852d4d8127d9348b9521bdd6fe59da9eae2b4a34327"), looks := false }, kinds := [], alts := [], laidByText := true, laidKinds := [.data, .data, .data], laidTests := true, laidLooks := .later }
def NamesNumbersUptoCardSaid : Prop := Claim7.holds Tryd.pinned (.plain (OpenSpec.upto namesNumbersSpec)) namesNumbersUptoCard
end Rows
end Go.Proofs.YtnhdlnmghabalaaDoor
