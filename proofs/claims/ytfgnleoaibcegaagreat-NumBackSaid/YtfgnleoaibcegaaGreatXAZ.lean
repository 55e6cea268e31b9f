/-
  Walks and plain laws.
-/
import Derived.Test.YtfgnleoaibcegaaGreatXAX
set_option linter.unusedVariables false
set_option linter.unusedSimpArgs false
namespace Go.Proofs.YtfgnleoaibcegaaGreat

open Go.RowKit
theorem bat_in {w : World} {A : Option Addr} {n c : Nat} {l : List Int} (h : InI .u8 1 1 w A n c l) : BAt w A n c (l.map Int.toNat) := by
  have hx : ∀ x ∈ l, 0 ≤ x ∧ x ≤ 255 := fun x hx => by
    have := h.wf x hx
    simp only [Lit.wf, decide_eq_true_eq, Bool.and_eq_true] at this
    have e1 : IntKind.u8.min = 0 := by decide
    have e2 : IntKind.u8.max = 255 := by decide
    rw [e1, e2] at this
    exact this
  have e : bv (l.map Int.toNat) = l.map (.int .u8) := by
    unfold bv
    rw [List.map_map]
    refine List.map_congr_left fun x hm => ?_
    have := hx x hm
    simp
    omega
  refine ⟨by rw [e]; exact h.reads, fun d hd => ?_⟩
  obtain ⟨x, hm, rfl⟩ := List.mem_map.1 hd
  have := hx x hm
  omega
end Go.Proofs.YtfgnleoaibcegaaGreat
