/-
  The laws' helpers: contracts with their guards decided; bytes that came in.
-/
import Derived.Test.YtojpiiboikomfaaAX

set_option linter.unusedVariables false

set_option linter.unusedSimpArgs false

namespace Go.Proofs.Ytojpiiboikomfaa

open Go.RowKit

theorem sub_ge (A : Option Addr) (n c x : Nat) (A' : Option Addr) (n' c' y : Nat) (w : World) (hx : DAt B64 w A n c x) (hy : DAt B64 w A' n' c' y) (hn : n ≤ 1099511627776) (hn' : n' ≤ 1099511627776) (hyx : y ≤ x) :
    Calls Try.prog 70 #[.agg #[.slice A n c], .agg #[.slice A' n' c']] w fun e w' => ∃ A3 n3 c3, e = .returned (.tuple #[.agg #[.slice A3 n3 c3], .bool true]) ∧ DAt B64 w' A3 n3 c3 (x - y) ∧ n3 ≤ n ∧ Below w.heap.size w w' := by
  have := sub_sz A n c x A' n' c' y w hx hy hn hn'
  rwa [decide_eq_true hyx] at this
theorem divmod_pos (A : Option Addr) (n c x : Nat) (A' : Option Addr) (n' c' y : Nat) (w : World) (hx : DAt B64 w A n c x) (hy : DAt B64 w A' n' c' y) (hn : n ≤ 1099511627776) (hn' : n' ≤ 1099511627776) (hy0 : 0 < y) :
    Calls Try.prog 86 #[.agg #[.slice A n c], .agg #[.slice A' n' c']] w fun e w' => ∃ A3 n3 c3 A4 n4 c4, e = .returned (.tuple #[.agg #[.slice A3 n3 c3], .agg #[.slice A4 n4 c4], .bool true]) ∧ DAt B64 w' A3 n3 c3 (x / y) ∧ DAt B64 w' A4 n4 c4 (x % y) ∧ n3 ≤ n ∧ n4 ≤ n ∧ Below w.heap.size w w' := by
  have := divmod_sz A n c x A' n' c' y w hx hy hn hn'
  rwa [nz_pos hy0, modOf_pos hy0] at this
theorem divmod_zero (A : Option Addr) (n c x : Nat) (A' : Option Addr) (n' c' y : Nat) (w : World) (hx : DAt B64 w A n c x) (hy : DAt B64 w A' n' c' y) (hn : n ≤ 1099511627776) (hn' : n' ≤ 1099511627776) (hy0 : y = 0) :
    Calls Try.prog 86 #[.agg #[.slice A n c], .agg #[.slice A' n' c']] w fun e w' => ∃ A3 n3 c3 A4 n4 c4, e = .returned (.tuple #[.agg #[.slice A3 n3 c3], .agg #[.slice A4 n4 c4], .bool false]) ∧ DAt B64 w' A3 n3 c3 0 ∧ DAt B64 w' A4 n4 c4 0 ∧ n3 ≤ n ∧ n4 ≤ n ∧ Below w.heap.size w w' := by
  subst hy0
  have := divmod_sz A n c x A' n' c' 0 w hx hy hn hn'
  rwa [nz_zero, modOf_zero, Nat.div_zero] at this
theorem bl_z : bl 0 = 0 := bl_zero
theorem len_zero (A : Option Addr) (n c x : Nat) (w : World) (h : DAt B64 w A n c x) (h0 : x = 0) :
    Calls Try.prog 85 #[.agg #[.slice A n c]] w fun e w' => e = .returned (.int .i64 0) ∧ Below w.heap.size w w' := by
  subst h0
  have hn : n = 0 := (h.zero_len two_le_B64).2 rfl
  have := len_any A n c 0 w h (by omega)
  rwa [bl_zero] at this
theorem cmp_less (A : Option Addr) (n c x : Nat) (A' : Option Addr) (n' c' y : Nat) (w : World) (hx : DAt B64 w A n c x) (hy : DAt B64 w A' n' c' y) (hn : n ≤ 1099511627776) (hn' : n' ≤ 1099511627776) (hlt : x < y) :
    Calls Try.prog 62 #[.agg #[.slice A n c], .agg #[.slice A' n' c']] w fun e w' => e = .returned (.int .i64 (-1)) ∧ Below w.heap.size w w' := by
  have := cmp_any A n c x A' n' c' y w hx hy hn hn'
  rwa [show cmpI x y = -1 by unfold cmpI; rw [if_pos hlt]] at this
theorem cmp_same (A : Option Addr) (n c x : Nat) (A' : Option Addr) (n' c' y : Nat) (w : World) (hx : DAt B64 w A n c x) (hy : DAt B64 w A' n' c' y) (hn : n ≤ 1099511627776) (hn' : n' ≤ 1099511627776) (h : x = y) :
    Calls Try.prog 62 #[.agg #[.slice A n c], .agg #[.slice A' n' c']] w fun e w' => e = .returned (.int .i64 0) ∧ Below w.heap.size w w' := by
  subst h
  have := cmp_any A n c x A' n' c' x w hx hy hn hn'
  rwa [cmpI_self] at this

/-- Bytes that came in. -/
theorem bat_in {w : World} {A : Option Addr} {n c : Nat} {l : List Int} (h : InI .u8 1 1 w A n c l) : BAt w A n c (l.map Int.toNat) := by
  have hx : ∀ x ∈ l, 0 ≤ x ∧ x ≤ 255 := fun x hx => by
    have := h.wf x hx
    simp only [Lit.wf, decide_eq_true_eq, Bool.and_eq_true] at this
    have e1 : IntKind.u8.min = 0 := by decide
    have e2 : IntKind.u8.max = 255 := by decide
    rw [e1, e2] at this
    exact this
  have e : bv (l.map Int.toNat) = l.map (.int .u8) := by
    unfold bv
    rw [List.map_map]
    refine List.map_congr_left fun x hm => ?_
    have := hx x hm
    simp
    omega
  refine ⟨by rw [e]; exact h.reads, fun d hd => ?_⟩
  obtain ⟨x, hm, rfl⟩ := List.mem_map.1 hd
  have := hx x hm
  omega
end Go.Proofs.Ytojpiiboikomfaa
