/-
  Walks and plain laws.
-/
import Derived.Test.YtfgnleoaibcegaaGreatXAF
set_option linter.unusedVariables false
set_option linter.unusedSimpArgs false
namespace Go.Proofs.YtfgnleoaibcegaaGreat

open Go.RowKit

set_option maxRecDepth 100000 in
set_option maxHeartbeats 2000000 in
theorem div64_any (hi lo y : Nat) (hy : y < B64) (hh : hi < y) (hl : lo < B64) (w : World) :
    Calls Tryz.prog 123 #[.int .u64 (hi : Int), .int .u64 (lo : Int), .int .u64 (y : Int)] w fun e w' => e = .returned (.tuple #[.int .u64 (((hi * B64 + lo) / y : Nat) : Int), .int .u64 (((hi * B64 + lo) % y : Nat) : Int)]) ∧ (w' = w ∨ w' = w.drew) := by
  rcases Nat.eq_zero_or_pos hi with rfl | hz
  · have h0 : ((y : Int) == 0) = false := by simp; omega
    have h1 : ¬ ((y : Int) ≤ 0) := by omega
    rw [Nat.zero_mul, Nat.zero_add]
    have hq : lo / y ≤ lo := Nat.div_le_self ..
    have hr : lo % y ≤ lo := Nat.mod_le ..
    have f1 : IntKind.u64.wrap ((lo : Int) / (y : Int)) = ((lo / y : Nat) : Int) := w64 (by omega) (by simp)
    have f2 : IntKind.u64.wrap ((lo : Int) % (y : Int)) = ((lo % y : Nat) : Int) := w64 (by omega) (by simp)
    have f3 : (lo : Int).tdiv (y : Int) = (lo : Int) / (y : Int) := Int.tdiv_eq_ediv_of_nonneg (by omega)
    have f4 : (lo : Int).tmod (y : Int) = (lo : Int) % (y : Int) := Int.tmod_eq_emod_of_nonneg (by omega)
    have f5 : (lo : Int) % (y : Int) = ((lo % y : Nat) : Int) := by simp
    have f6 : (lo : Int) / (y : Int) = ((lo / y : Nat) : Int) := by simp
    have f7 : IntKind.u64.wrap ((lo / y : Nat) : Int) = ((lo / y : Nat) : Int) := wrap_nat (by omega)
    generalize lo / y = q at *
    generalize lo % y = r at *
    go_enter Tryz.func123, Tryz.ntmps123
    go_wp2_with fail
    go_region
    go_wp2
    exact bodyPost_ret (v := .tuple #[.int .u64 (q : Int), .int .u64 (r : Int)]) (by simp [results, Tryz.results123, go_sem, f5, f6, f7]) rfl ⟨rfl, .inr rfl⟩
  · refine (div64_main hi lo y hy hh hl hz w).mono ?_
    rintro e w' ⟨rfl, rfl⟩
    exact ⟨rfl, .inl rfl⟩
end Go.Proofs.YtfgnleoaibcegaaGreat
