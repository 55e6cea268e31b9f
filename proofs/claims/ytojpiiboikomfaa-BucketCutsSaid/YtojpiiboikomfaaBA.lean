/-
  The document's examples: texts, bytes, lengths of a few numbers.
-/
import Derived.Test.YtojpiiboikomfaaAZ

import Derived.BigQuiet

set_option linter.unusedVariables false

set_option linter.unusedSimpArgs false

namespace Go.Proofs.Ytojpiiboikomfaa

open Go.RowKit

theorem wp_region_quiet_at {P : Program} {id : Nat} {Q : Exit → Act → World → Prop} {a : Act} {w : World} {l : List Oper} {C : World → Prop} (hm : P.follows .mixedOrders = true) (hB : Region.lexB .any l.toArray = true) (hC : C w.drew)
    (h : wpQuiet P l.toArray C (fun a' => ∀ w', C w' → Q .normal a' w') l a) : (Code.region id l.toArray true).wp P Q a w :=
  wp_region_quiet (C := C) hm hB hC (by simpa using h)

theorem digs_great : digs 10 18446744073709551616 = [6, 1, 6, 1, 5, 5, 9, 0, 7, 3, 7, 0, 4, 4, 7, 6, 4, 4, 8, 1] :=
  digs_val two_le_ten [6, 1, 6, 1, 5, 5, 9, 0, 7, 3, 7, 0, 4, 4, 7, 6, 4, 4, 8, 1] (by decide) (by decide)
theorem digs_seven : digs 10 7 = [7] := digs_val two_le_ten [7] (by decide) (by decide)
theorem digs_256 : digs 256 256 = [0, 1] := digs_val two_le_256 [0, 1] (by decide) (by decide)
theorem txt_great : strB (txt (18446744073709551615 + 1)) = ⟨#[49, 56, 52, 52, 54, 55, 52, 52, 48, 55, 51, 55, 48, 57, 53, 53, 49, 54, 49, 54]⟩ := by
  have : txt (18446744073709551615 + 1) = [49, 56, 52, 52, 54, 55, 52, 52, 48, 55, 51, 55, 48, 57, 53, 53, 49, 54, 49, 54] := by
    unfold txt
    rw [decs_pos (by omega), digs_great]
    rfl
  rw [this]
  rfl
theorem txt_seven : strB (txt 7) = ⟨#[55]⟩ := by
  have : txt 7 = [55] := by
    unfold txt
    rw [decs_pos (by omega), digs_seven]
    rfl
  rw [this]
  rfl
theorem bytes_256 : bytesOf 256 = [1, 0] := by unfold bytesOf; rw [digs_256]; rfl
theorem str_256 : strB [1, 0] = ⟨#[1, 0]⟩ := rfl
theorem bl_great : bl (18446744073709551615 + 1) = 65 := bl_unique (by omega) (by decide) (by decide)
theorem bytes_007 : bytesL ⟨#[48, 48, 55]⟩ = [48, 48, 55] := rfl
theorem parse_007 : parseOk [48, 48, 55] = true ∧ parseV [48, 48, 55] = 7 := by decide

theorem uint_of (A : Option Addr) (n c x : Nat) (w : World) (h : DAt B64 w A n c x) (hn : n ≤ 1099511627776) (hx : x < B64) :
    Calls Try.prog 56 #[.agg #[.slice A n c]] w fun e w' => e = .returned (.tuple #[.int .u64 (x : Int), .bool true]) ∧ Below w.heap.size w w' := by
  have := uint_any A n c x w h hn
  rwa [uint_small hx, show fitsU x = true from decide_eq_true hx] at this
theorem len_of (A : Option Addr) (n c x k : Nat) (w : World) (h : DAt B64 w A n c x) (hn : n ≤ 1099511627776) (hk : bl x = k) :
    Calls Try.prog 85 #[.agg #[.slice A n c]] w fun e w' => e = .returned (.int .i64 (k : Int)) ∧ Below w.heap.size w w' := by
  have := len_any A n c x w h hn
  rwa [hk] at this
theorem left_far1 (A : Option Addr) (n c : Nat) (w : World) (h : DAt B64 w A n c 1) (hn : n ≤ 1099511627776) :
    Calls Try.prog 91 #[.agg #[.slice A n c], .int .i64 16777217] w fun e w' => ∃ A n c, e = .returned (.tuple #[.agg #[.slice A n c], .bool false]) ∧ DAt B64 w' A n c (leftV 1 16777217) ∧ Below w.heap.size w w' := by
  have := left_any A n c 1 16777217 w h hn (by omega) (by omega)
  rwa [show leftOk 1 16777217 = false from leftOk_far (by omega) (by omega)] at this
end Go.Proofs.Ytojpiiboikomfaa
