/-
  No cell of these rows narrows 'for every input' (looked for: loops, veiled, ifaces, maps, wideKeys, modest, calm, conditions, laid).
  DERIVED. THE GIVEN ROWS OF THIS SEAT. 4 by the template 'for every input the law returns true; each argument reads behind the call as it read before'; 0 by the template 'total and deterministic' (their statements: YtnhdlnmghabalaaTotals.lean).
  GIVEN WITH THE SEED: the statements are not yours to turn. If you find one false, say at which input.
  Laid BY PROGRAM, IN A SANDBOX (cutbox-rows.mjs): the forced cells as the released guide's own fill.sh prints them over the translation 084ab047b7152fe9… (all of the seat's roots in one cut). By AI agents, Wed Nov 11 2026. No macro, syntax, notation, axiom, sorry.
-/
import Derived.Test.YtnhdlnmghabalaaChecked
import GoSem.Claim
import GoSem.ClaimJoined
import GoSem.ClaimMapViews
import Derived.JoinedTies
import Derived.KernelRfl
namespace Go.Proofs.Ytnhdlnmghabalaa
/- THE CELL 'sum', in the pinned program and in every row, IS THE sha256 OF THE DUMP (.gsa) THAT YtnhdlnmghabalaaProg.lean LOADS. Nothing in Lean hashes anything: it is a label: what it is worth is what the hold of that sum in a sandbox is worth. -/
noncomputable def Try.pinned : Pinned := { name := "ytnhdlnmghabalaa", sum := "084ab047b7152fe98bc171f8c1d4dfd67a86306f029ebf137132bcc948a7fed7", checked := Try.checked }
namespace Rows
def none {H : Type} : Left H := { results := [], args := [] }

/-- 'millracelaw7.ClockSteps': WHATEVER THE INPUT: true; the input reads as it did. -/
def clockStepsSpec : ChangeSpec := { name := "clockSteps", fn := fun _ => fun
  | [d1, d2] => { results := [.lit (.bool true)], args := [d1, d2] }
  | _ => none }
def clockStepsRow : OpenClaim := { program := "ytnhdlnmghabalaa", sum := "084ab047b7152fe98bc171f8c1d4dfd67a86306f029ebf137132bcc948a7fed7", func := "millrace/millracelaw7.ClockSteps", spec := "clockSteps", unfollowed := true, recurses := true, apart := false }
def ClockStepsSaid : Prop := clockStepsRow.holds Try.pinned (OpenSpec.ofChange clockStepsSpec)

/-- ITS FALSE NEIGHBOUR: 'it returns false'. Refute it at one input. -/
def clockStepsWrong : ChangeSpec := { name := "clockSteps", fn := fun _ => fun
  | [d1, d2] => { results := [.lit (.bool false)], args := [d1, d2] }
  | _ => none }
def ClockStepsWrongFalsely : Prop := clockStepsRow.holds Try.pinned (OpenSpec.ofChange clockStepsWrong)

/-- 'millracelaw7.ClockClamps': WHATEVER THE INPUT: true; the input reads as it did. -/
def clockClampsSpec : ChangeSpec := { name := "clockClamps", fn := fun _ => fun
  | [d] => { results := [.lit (.bool true)], args := [d] }
  | _ => none }
def clockClampsRow : OpenClaim := { program := "ytnhdlnmghabalaa", sum := "084ab047b7152fe98bc171f8c1d4dfd67a86306f029ebf137132bcc948a7fed7", func := "millrace/millracelaw7.ClockClamps", spec := "clockClamps", unfollowed := true, recurses := true, apart := false }
def ClockClampsSaid : Prop := clockClampsRow.holds Try.pinned (OpenSpec.ofChange clockClampsSpec)

/-- ITS FALSE NEIGHBOUR: 'it returns false'. Refute it at one input. -/
def clockClampsWrong : ChangeSpec := { name := "clockClamps", fn := fun _ => fun
  | [d] => { results := [.lit (.bool false)], args := [d] }
  | _ => none }
def ClockClampsWrongFalsely : Prop := clockClampsRow.holds Try.pinned (OpenSpec.ofChange clockClampsWrong)

/-- 'millracelaw7.ClockRises': WHATEVER THE INPUT: true; the input reads as it did. -/
def clockRisesSpec : ChangeSpec := { name := "clockRises", fn := fun _ => fun
  | [d] => { results := [.lit (.bool true)], args := [d] }
  | _ => none }
def clockRisesRow : OpenClaim := { program := "ytnhdlnmghabalaa", sum := "084ab047b7152fe98bc171f8c1d4dfd67a86306f029ebf137132bcc948a7fed7", func := "millrace/millracelaw7.ClockRises", spec := "clockRises", unfollowed := true, recurses := true, apart := false }
def ClockRisesSaid : Prop := clockRisesRow.holds Try.pinned (OpenSpec.ofChange clockRisesSpec)

/-- ITS FALSE NEIGHBOUR: 'it returns false'. Refute it at one input. -/
def clockRisesWrong : ChangeSpec := { name := "clockRises", fn := fun _ => fun
  | [d] => { results := [.lit (.bool false)], args := [d] }
  | _ => none }
def ClockRisesWrongFalsely : Prop := clockRisesRow.holds Try.pinned (OpenSpec.ofChange clockRisesWrong)

/-- 'millracelaw7.ClockFakes': WHATEVER THE INPUT: true; the input reads as it did. -/
def clockFakesSpec : ChangeSpec := { name := "clockFakes", fn := fun _ => fun
  | [d1, d2, d3] => { results := [.lit (.bool true)], args := [d1, d2, d3] }
  | _ => none }
def clockFakesRow : OpenClaim := { program := "ytnhdlnmghabalaa", sum := "084ab047b7152fe98bc171f8c1d4dfd67a86306f029ebf137132bcc948a7fed7", func := "millrace/millracelaw7.ClockFakes", spec := "clockFakes", unfollowed := true, recurses := true, apart := false }
def ClockFakesSaid : Prop := clockFakesRow.holds Try.pinned (OpenSpec.ofChange clockFakesSpec)

/-- ITS FALSE NEIGHBOUR: 'it returns false'. Refute it at one input. -/
def clockFakesWrong : ChangeSpec := { name := "clockFakes", fn := fun _ => fun
  | [d1, d2, d3] => { results := [.lit (.bool false)], args := [d1, d2, d3] }
  | _ => none }
def ClockFakesWrongFalsely : Prop := clockFakesRow.holds Try.pinned (OpenSpec.ofChange clockFakesWrong)

/- THE SECOND FORM. 'bulk': how many values and letters a reading holds, each counted each time it is reached (what is shared counts as often as it is met; a slice's spare places count too). A statement '..UptoSaid' is the law's where the arguments, and the package variables that the reading takes, are together of bulk at most 1048576: NARROWER than '..Said'. Prove '..Said' where nothing that the law and all that it calls make is longer than what came in: it says more and counts as full. Else prove '..UptoSaid'. A law counts once. -/
mutual
def uptoBulk {H : Type} : DataW H → Nat
  | .lit (.string bytes) => bytes.length + 1
  | .lit _ => 1
  | .nil => 1
  | .ptr d => uptoBulk d + 1
  | .slice elems spare => uptoBulkAll elems + uptoBulkAll spare + 1
  | .agg parts => uptoBulkAll parts + 1
  | .iface _ d => uptoBulk d + 1
  | .map entries => uptoBulkEntries entries + 1
  | .held _ => 1
def uptoBulkAll {H : Type} : List (DataW H) → Nat
  | [] => 0
  | d :: r => uptoBulk d + uptoBulkAll r
def uptoBulkEntries {H : Type} : List (Lit × DataW H) → Nat
  | [] => 0
  | x :: r => uptoBulkEntry x + uptoBulkEntries r
def uptoBulkEntry {H : Type} : Lit × DataW H → Nat
  | (.string bytes, d) => bytes.length + uptoBulk d + 1
  | (_, d) => uptoBulk d + 1
 end
def uptoSmall : (H : Type) → List (DataW H) → Bool := fun _ ds => decide (uptoBulkAll ds ≤ 1048576)
def OpenSpec.upto (s : _root_.Go.ChangeSpec) : _root_.Go.OpenSpec := { _root_.Go.OpenSpec.ofChange s with cond := some uptoSmall }

/-- 'millracelaw7.ClockSteps', WHERE WHAT IT READS IS OF BULK AT MOST 1048576: true; the input reads as it did. -/
def clockStepsUptoRow : OpenClaim := { program := "ytnhdlnmghabalaa", sum := "084ab047b7152fe98bc171f8c1d4dfd67a86306f029ebf137132bcc948a7fed7", func := "millrace/millracelaw7.ClockSteps", spec := "clockSteps", unfollowed := true, recurses := true, apart := false, narrowed := true }
def ClockStepsUptoSaid : Prop := clockStepsUptoRow.holds Try.pinned (OpenSpec.upto clockStepsSpec)

/-- 'millracelaw7.ClockClamps', WHERE WHAT IT READS IS OF BULK AT MOST 1048576: true; the input reads as it did. -/
def clockClampsUptoRow : OpenClaim := { program := "ytnhdlnmghabalaa", sum := "084ab047b7152fe98bc171f8c1d4dfd67a86306f029ebf137132bcc948a7fed7", func := "millrace/millracelaw7.ClockClamps", spec := "clockClamps", unfollowed := true, recurses := true, apart := false, narrowed := true }
def ClockClampsUptoSaid : Prop := clockClampsUptoRow.holds Try.pinned (OpenSpec.upto clockClampsSpec)

/-- 'millracelaw7.ClockRises', WHERE WHAT IT READS IS OF BULK AT MOST 1048576: true; the input reads as it did. -/
def clockRisesUptoRow : OpenClaim := { program := "ytnhdlnmghabalaa", sum := "084ab047b7152fe98bc171f8c1d4dfd67a86306f029ebf137132bcc948a7fed7", func := "millrace/millracelaw7.ClockRises", spec := "clockRises", unfollowed := true, recurses := true, apart := false, narrowed := true }
def ClockRisesUptoSaid : Prop := clockRisesUptoRow.holds Try.pinned (OpenSpec.upto clockRisesSpec)

/-- 'millracelaw7.ClockFakes', WHERE WHAT IT READS IS OF BULK AT MOST 1048576: true; the input reads as it did. -/
def clockFakesUptoRow : OpenClaim := { program := "ytnhdlnmghabalaa", sum := "084ab047b7152fe98bc171f8c1d4dfd67a86306f029ebf137132bcc948a7fed7", func := "millrace/millracelaw7.ClockFakes", spec := "clockFakes", unfollowed := true, recurses := true, apart := false, narrowed := true }
def ClockFakesUptoSaid : Prop := clockFakesUptoRow.holds Try.pinned (OpenSpec.upto clockFakesSpec)

end Rows
end Go.Proofs.Ytnhdlnmghabalaa
