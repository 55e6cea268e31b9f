/-
  The document's clamp.
-/
import Derived.Test.YtnhdlnmghabalaaC5
set_option linter.unusedVariables false
set_option linter.unusedSimpArgs false
namespace Go.Proofs.Ytnhdlnmghabalaa
open Go.RowKit

set_option maxHeartbeats 400000 in
theorem rlast_any (t : Int) (over : Bool) (w : World) : Calls Try.prog 19 #[.agg #[.int .i64 t, .bool over]] w fun e w' => e = .returned (.tuple #[.int .i64 (ansT t over), .int .i64 (ansE over)]) ∧ Below w.heap.size w w' := by
  cases over
  · go_enter Try.func19, Try.ntmps19
    go_wp2
    go_ret2
    exact ⟨rfl, (Below.refl _ _).alloc (Nat.le_refl _) _⟩
  · go_enter Try.func19, Try.ntmps19
    go_wp2
    go_ret2
    exact ⟨rfl, (Below.refl _ _).alloc (Nat.le_refl _) _⟩

def AtAns (t0 : Int) (over : Bool) (t : Int) (w : World) (e : Ending) (w' : World) : Prop :=
  e = .returned (.tuple #[.agg #[.int .i64 (risen t0 over t), .bool (late over t)], .int .i64 (ansT (risen t0 over t) (late over t)), .int .i64 (ansE (late over t))]) ∧ Below w.heap.size w w'

set_option maxHeartbeats 400000 in
theorem rat_over (t0 t : Int) (w : World) : Calls Try.prog 16 #[.agg #[.int .i64 t0, .bool true], .int .i64 t] w (AtAns t0 true t w) := by
  go_enter Try.func16, Try.ntmps16
  go_wp2
  exact bodyPost_ret (v := .tuple #[.agg #[.int .i64 t0, .bool true], .int .i64 0, .int .i64 70]) (by simp [results, Try.results16, go_sem]) rfl ⟨rfl, ((Below.refl _ _).alloc (Nat.le_refl _) _).alloc (by simp) _⟩
set_option maxHeartbeats 400000 in
theorem rat_late (t0 t : Int) (w : World) (ht : 4611686018427387904 < t) : Calls Try.prog 16 #[.agg #[.int .i64 t0, .bool false], .int .i64 t] w (AtAns t0 false t w) := by
  have hl : late false t = true := by simpa [late] using ht
  have hd : decide (4611686018427387904 < t) = true := by simpa using ht
  go_enter Try.func16, Try.ntmps16
  go_wp2
  exact bodyPost_ret (v := .tuple #[.agg #[.int .i64 t0, .bool true], .int .i64 0, .int .i64 70]) (by simp [results, Try.results16, go_sem]) rfl ⟨by rw [risen, hl]; rfl, ((Below.refl _ _).alloc (Nat.le_refl _) _).alloc (by simp) _⟩
set_option maxHeartbeats 400000 in
theorem rat_ok (t0 t : Int) (w : World) (ht : t ≤ 4611686018427387904) : Calls Try.prog 16 #[.agg #[.int .i64 t0, .bool false], .int .i64 t] w (AtAns t0 false t w) := by
  have hl : late false t = false := by simpa [late] using ht
  have hd : decide (4611686018427387904 < t) = false := by simpa using ht
  go_enter Try.func16, Try.ntmps16
  go_wp2
  all_goals go_region
  all_goals go_wp2
  · exact bodyPost_ret (v := .tuple #[.agg #[.int .i64 t, .bool false], .int .i64 t, .int .i64 0]) (by simp [results, Try.results16, go_sem]) rfl ⟨by rw [risen, hl, if_neg (by decide), show max t0 t = t from by omega]; rfl, (((Below.refl _ _).alloc (Nat.le_refl _) _).alloc (by simp) _).drew⟩
  · exact bodyPost_ret (v := .tuple #[.agg #[.int .i64 t0, .bool false], .int .i64 t0, .int .i64 0]) (by simp [results, Try.results16, go_sem]) rfl ⟨by rw [risen, hl, if_neg (by decide), show max t0 t = t0 from by omega]; rfl, (((Below.refl _ _).alloc (Nat.le_refl _) _).alloc (by simp) _).drew⟩

theorem rat_any (t0 t : Int) (over : Bool) (w : World) : Calls Try.prog 16 #[.agg #[.int .i64 t0, .bool over], .int .i64 t] w fun e w' => e = .returned (.tuple #[.agg #[.int .i64 (risen t0 over t), .bool (late over t)], .int .i64 (ansT (risen t0 over t) (late over t)), .int .i64 (ansE (late over t))]) ∧ Below w.heap.size w w' := by
  cases over
  · by_cases ht : 4611686018427387904 < t
    · exact rat_late t0 t w ht
    · exact rat_ok t0 t w (by omega)
  · exact rat_over t0 t w
end Go.Proofs.Ytnhdlnmghabalaa
