import Derived.Test.YtnhdlnmghabalaaC1
set_option linter.unusedVariables false
set_option linter.unusedSimpArgs false
namespace Go.Proofs.Ytnhdlnmghabalaa
open Go.RowKit

set_option maxHeartbeats 400000 in
theorem at_over (b : Nat) (t0 t : Int) (w : World) (h1 : w.cell? ⟨b, 1, none⟩ = some (.int .i64 t0)) (h2 : w.cell? ⟨b, 2, none⟩ = some (.bool true)) (hf : w.frozen? ⟨b, 2, none⟩ = false) :
    Calls Try.prog 17 #[.pointer (some ⟨b, 0, none⟩), .int .i64 t] w fun e w' => e = .returned (.tuple #[.int .i64 0, .int .i64 70]) ∧ w.setCell ⟨b, 2, none⟩ (.bool true) = w' := by
  go_enter Try.func17, Try.ntmps17
  go_wp2
  go_ret2
  exact ⟨rfl, rfl⟩

set_option maxHeartbeats 400000 in
theorem at_late (b : Nat) (t0 t : Int) (w : World) (h1 : w.cell? ⟨b, 1, none⟩ = some (.int .i64 t0)) (h2 : w.cell? ⟨b, 2, none⟩ = some (.bool false)) (hf : w.frozen? ⟨b, 2, none⟩ = false) (ht : 4611686018427387904 < t) :
    Calls Try.prog 17 #[.pointer (some ⟨b, 0, none⟩), .int .i64 t] w fun e w' => e = .returned (.tuple #[.int .i64 0, .int .i64 70]) ∧ w.setCell ⟨b, 2, none⟩ (.bool true) = w' := by
  have hd : decide (4611686018427387904 < t) = true := by simpa using ht
  go_enter Try.func17, Try.ntmps17
  go_wp2
  go_ret2
  exact ⟨rfl, rfl⟩

set_option maxHeartbeats 400000 in
theorem at_ok (b : Nat) (t0 t : Int) (w : World) (h1 : w.cell? ⟨b, 1, none⟩ = some (.int .i64 t0)) (h2 : w.cell? ⟨b, 2, none⟩ = some (.bool false)) (hf : w.frozen? ⟨b, 2, none⟩ = false) (hf1 : w.frozen? ⟨b, 1, none⟩ = false) (ht : t ≤ 4611686018427387904) :
    Calls Try.prog 17 #[.pointer (some ⟨b, 0, none⟩), .int .i64 t] w fun e w' => e = .returned (.tuple #[.int .i64 (max t0 t), .int .i64 0]) ∧ (w.setCell ⟨b, 2, none⟩ (.bool false)).setCell ⟨b, 1, none⟩ (.int .i64 (max t0 t)) = w' := by
  have hd : decide (4611686018427387904 < t) = false := by simpa using ht
  go_enter Try.func17, Try.ntmps17
  go_wp2
  · have hm : max t0 t = t := by omega
    rw [hm]; clear hm
    go_ret2
    exact ⟨rfl, rfl⟩
  · have hm : max t0 t = t0 := by omega
    rw [hm]; clear hm
    go_ret2
    exact ⟨rfl, rfl⟩

/-- What a step by d makes of a time. -/
def stepped (t d : Int) : Int := if 0 < d ∧ 9223372036854775807 - d < t then 9223372036854775807 else if d < 0 ∧ t < -9223372036854775808 - d then -9223372036854775808 else t + d

theorem stepped_hi (t d : Int) (h0 : 0 < d) (h1 : 9223372036854775807 - d < t) : stepped t d = 9223372036854775807 := if_pos ⟨h0, h1⟩
theorem stepped_lo (t d : Int) (h0 : d < 0) (h1 : t < -9223372036854775808 - d) : stepped t d = -9223372036854775808 := by unfold stepped; rw [if_neg (by omega), if_pos ⟨h0, h1⟩]
theorem stepped_mid (t d : Int) (h0 : ¬ (0 < d ∧ 9223372036854775807 - d < t)) (h1 : ¬ (d < 0 ∧ t < -9223372036854775808 - d)) : stepped t d = t + d := by unfold stepped; rw [if_neg h0, if_neg h1]
theorem stepped_in (t d : Int) (ht : -9223372036854775808 ≤ t ∧ t ≤ 9223372036854775807) (hd : -9223372036854775808 ≤ d ∧ d ≤ 9223372036854775807) : -9223372036854775808 ≤ stepped t d ∧ stepped t d ≤ 9223372036854775807 := by
  unfold stepped; split
  · omega
  · split <;> omega

set_option maxHeartbeats 400000 in
theorem rstep_any (t d : Int) (w : World) (ht : -9223372036854775808 ≤ t ∧ t ≤ 9223372036854775807) (hd : -9223372036854775808 ≤ d ∧ d ≤ 9223372036854775807) :
    Calls Try.prog 23 #[.int .i64 t, .int .i64 d] w fun e w' => e = .returned (.int .i64 (stepped t d)) ∧ w = w' := by
  by_cases h0 : 0 < d
  · have hn : ¬ d < 0 := by omega
    by_cases h1 : 9223372036854775807 - d < t
    · rw [stepped_hi t d h0 h1]
      go_enter Try.func23, Try.ntmps23
      go_wp2
      go_ret
      exact ⟨rfl, rfl⟩
    · rw [stepped_mid t d (by omega) (by omega)]
      go_enter Try.func23, Try.ntmps23
      go_wp2
      go_ret
      exact ⟨rfl, rfl⟩
  · by_cases hn : d < 0
    · by_cases h1 : t < -9223372036854775808 - d
      · rw [stepped_lo t d hn h1]
        go_enter Try.func23, Try.ntmps23
        go_wp2
        go_ret
        exact ⟨rfl, rfl⟩
      · rw [stepped_mid t d (by omega) (by omega)]
        go_enter Try.func23, Try.ntmps23
        go_wp2
        go_ret
        exact ⟨rfl, rfl⟩
    · rw [stepped_mid t d (by omega) (by omega)]
      go_enter Try.func23, Try.ntmps23
      go_wp2
      go_ret
      exact ⟨rfl, rfl⟩

set_option maxHeartbeats 400000 in
theorem fstep_any (b : Nat) (t d : Int) (w : World) (hc : w.cell? ⟨b, 0, none⟩ = some (.int .i64 t)) (hf : w.frozen? ⟨b, 0, none⟩ = false) (ht : -9223372036854775808 ≤ t ∧ t ≤ 9223372036854775807) (hd : -9223372036854775808 ≤ d ∧ d ≤ 9223372036854775807) :
    Calls Try.prog 22 #[.pointer (some ⟨b, 0, none⟩), .int .i64 d] w fun e w' => e = .returned (.tuple #[]) ∧ w.setCell ⟨b, 0, none⟩ (.int .i64 (stepped t d)) = w' := by
  by_cases h0 : 0 < d
  · have hn : ¬ d < 0 := by omega
    by_cases h1 : 9223372036854775807 - d < t
    · rw [stepped_hi t d h0 h1]
      go_enter Try.func22, Try.ntmps22
      go_wp2
      go_end0
      exact ⟨rfl, rfl⟩
    · rw [stepped_mid t d (by omega) (by omega)]
      go_enter Try.func22, Try.ntmps22
      go_wp2
      go_end0
      exact ⟨rfl, rfl⟩
  · by_cases hn : d < 0
    · by_cases h1 : t < -9223372036854775808 - d
      · rw [stepped_lo t d hn h1]
        go_enter Try.func22, Try.ntmps22
        go_wp2
        go_end0
        exact ⟨rfl, rfl⟩
      · rw [stepped_mid t d (by omega) (by omega)]
        go_enter Try.func22, Try.ntmps22
        go_wp2
        go_end0
        exact ⟨rfl, rfl⟩
    · rw [stepped_mid t d (by omega) (by omega)]
      go_enter Try.func22, Try.ntmps22
      go_wp2
      go_end0
      exact ⟨rfl, rfl⟩

set_option maxHeartbeats 400000 in
theorem ticker_any (b : Nat) (t n : Int) (w : World) (hc : w.cell? ⟨b, 0, none⟩ = some (.int .i64 t)) (hn : w.cell? ⟨b, 1, none⟩ = some (.int .i64 n)) (hf : w.frozen? ⟨b, 1, none⟩ = false) (h0 : 0 ≤ n) (h1 : n ≤ 1000) :
    Calls Try.prog 10 #[.pointer (some ⟨b, 0, none⟩)] w fun e w' => e = .returned (.int .i64 t) ∧ w.setCell ⟨b, 1, none⟩ (.int .i64 (n + 1)) = w' := by
  go_enter Try.func10, Try.ntmps10
  go_wp2
  go_ret
  exact ⟨rfl, rfl⟩

set_option maxHeartbeats 400000 in
theorem newclamp_nil (w : World) : Calls Try.prog 13 #[.nilIface] w fun e w' => e = .returned (.tuple #[.pointer none, .int .i64 190]) ∧ w = w' := by
  go_enter Try.func13, Try.ntmps13
  go_wp2
  go_ret2
  exact ⟨rfl, rfl⟩

set_option maxHeartbeats 400000 in
theorem newclamp_any (T : TypeId) (v : Value) (w : World) : Calls Try.prog 13 #[.iface T v] w fun e w' => e = .returned (.tuple #[.pointer (some ⟨w.heap.size, 0, none⟩), .int .i64 0]) ∧ w.alloc (.cells #[.iface T v, .int .i64 0, .bool false] 66) = w' := by
  go_enter Try.func13, Try.ntmps13
  go_wp2
  go_ret2
  exact ⟨rfl, rfl⟩
end Go.Proofs.Ytnhdlnmghabalaa
