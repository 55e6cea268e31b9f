/-
  Walks and plain laws, put together: OM.
-/
import Derived.Test.YtojpiiboikomfaaPj
set_option linter.unusedVariables false
set_option linter.unusedSimpArgs false
namespace Go.Proofs.Ytojpiiboikomfaa.Rg

open Go.RowKit

theorem al_a2 : ∀ w : World, (Instr.alloc 72 true (.tuple #[])).run Try.prog w = .ok (.pointer (some ⟨w.heap.size, 0, none⟩)) (w.alloc (.cells (Value.agg #[.int .i64 0, .int .i64 0]).cells 72)) := by
  intro w; simp [go_sem, Value.cells]
theorem z_a2 : ∀ w, (tO [tV (.int .i64 0), tV (.int .i64 0)] [1, 1]).p (.agg #[.int .i64 0, .int .i64 0]) w := fun w => ⟨[.int .i64 0, .int .i64 0], rfl, ⟨rfl, rfl, trivial⟩, rfl⟩
theorem zIAo {P : Program} {ops : Array Oper} {Q : Exit → Act → World → Prop} {a0 : Act} {M : List Nat} {W : World} {rels : List Rel} {i : Nat} {o : Oper} {N d : Nat} {x y : Operand} {t : TypeId} {u : Value} {p off off' : Nat} (hz : a0.tmps.size = N) (hop : o.op = .indexAddr t x y) (hr : rels[i]? = some (rT (tV (.pointer (some ⟨p, off', none⟩))))) (sx : Src ops a0 M W rels i o x (tV (.pointer (some ⟨p, off, none⟩)))) (sy : Src ops a0 M W rels i o y (tV u)) (h : ∀ w, (Instr.indexAt t (.pointer (some ⟨p, off, none⟩)) u).run P w = .ok (.pointer (some ⟨p, off', none⟩)) w)
    (g : Gd ops a0 M W rels i o true := by exact Gd.none_ rfl) (ho : ops[i]? = some o := by rfl) (hd : o.dst = some d := by rfl) (hlt : decide (d < N) = true := by rfl) : StepOk P ops a0 M W Q rels i o :=
  sOp ho hr hd hz hlt g fun a γ w U => by
    have e : a.eval x = .pointer (some ⟨p, off, none⟩) := sx a γ w U
    have e2 : a.eval y = u := sy a γ w U
    refine ⟨_, ?_, rfl⟩
    unfold execOp; rw [hop]; simp only [e, e2, Sem.run_bind, h, Result.andThen, Sem.run_pure]
theorem run_dec {ox oy : Operand} {id : TypeId} {n : Int} (h0 : -9223372036854775807 ≤ n) (h : n < 9223372036854775808) (w : World) : (do eqGuard .sub id ox oy (.int .i64 n) (.int .i64 1); binOp .sub id (.int .i64 n) (.int .i64 1) : Sem Value).run Try.prog w = .ok (.int .i64 (n - 1)) w := by
  have e : IntKind.i64.wrap (n - 1) = n - 1 := by rw [IntKind.wrap_i64]; omega
  simp [go_sem, e]
theorem TT_of {t y : Int} (h0 : t ≤ y) (h1 : y ≤ 4611686018427387904) : TT t y = y := by
  unfold TT mnT; repeat' split
  all_goals omega
theorem TT2 {t : Int} (h0 : 0 ≤ t) (h1 : t ≤ 4611686018427387904) : TT (TT 0 t) t = t := by
  rw [TT_of h0 h1, TT_of (Int.le_refl _) h1]
section

variable {l : Nat} {T n : Int} {H B R : Rat}
theorem at_of {y : Int} (h0 : T ≤ y) (h1 : y ≤ 4611686018427387904) : atH T H B R y = minQ (H + R * ((y - T : Int) : Rat)) B := by
  unfold atH; rw [TT_of h0 h1]
theorem tk_lo {x : Rat} (hn1 : 1 ≤ n) (h : x < (n : Rat)) : tkE (minQ x B) n = 80 := by
  have h2 : ¬ (n : Rat) ≤ minQ x B := by unfold minQ; split <;> grind
  unfold tkE
  rw [if_neg (by omega), if_neg h2]
theorem tk_hi {x : Rat} (hn1 : 1 ≤ n) (hnB : (n : Rat) ≤ B) (h : (n : Rat) ≤ x) : tkE (minQ x B) n = 0 := by
  have h2 : (n : Rat) ≤ minQ x B := by unfold minQ; split <;> assumption
  unfold tkE
  rw [if_neg (by omega), if_pos h2]
theorem rate_lt (hR : 0 < R) {d : Int} (h : d < (((n : Rat) - H) / R).ceil) : H + R * (d : Rat) < (n : Rat) := by
  have h1 := Rat.lt_ceil_iff.1 h
  have h2 := (Rat.lt_div_iff hR).1 h1
  grind
theorem rate_le (hR : 0 < R) : (n : Rat) ≤ H + R * (((((n : Rat) - H) / R).ceil : Int) : Rat) := by
  by_cases h : (n : Rat) ≤ H + R * (((((n : Rat) - H) / R).ceil : Int) : Rat)
  · exact h
  · have h1 : ((((n : Rat) - H) / R).ceil : Rat) < ((n : Rat) - H) / R := (Rat.lt_div_iff hR).2 (by grind)
    have h2 : ((n : Rat) - H) / R ≤ ((((n : Rat) - H) / R).ceil : Rat) := Rat.le_ceil
    grind
theorem w_no (I : BInv l T H B R) (hn1 : 1 ≤ n) (hnB : (n : Rat) ≤ B) (h : (wait T H B R n).2 ≠ 0) : (wait T H B R n).2 = 80 ∧ (wait T H B R n).1 = 0 ∧ tkE (atH T H B R 4611686018427387904) n = 80 := by
  have hT := I.t1
  have hr := I.r0
  rw [at_of hT (Int.le_refl _)]
  unfold wait at h ⊢
  rw [if_neg (by omega)] at h ⊢
  by_cases h1 : (n : Rat) ≤ H
  · rw [if_pos h1] at h; exact absurd rfl h
  · rw [if_neg h1] at h ⊢
    by_cases h2 : R = 0 ∨ B < (n : Rat)
    · rw [if_pos h2]
      refine ⟨rfl, rfl, tk_lo hn1 ?_⟩
      rcases h2 with h2 | h2
      · rw [h2]; grind
      · grind
    · rw [if_neg h2] at h ⊢
      by_cases h3 : 4611686018427387904 < T + (((n : Rat) - H) / R).ceil
      · rw [if_pos h3]
        exact ⟨rfl, rfl, tk_lo hn1 (rate_lt (by grind) (by omega))⟩
      · rw [if_neg h3] at h; exact absurd rfl h
theorem w_ok (I : BInv l T H B R) (hn1 : 1 ≤ n) (hnB : (n : Rat) ≤ B) (h : ¬ (wait T H B R n).2 ≠ 0) : T ≤ (wait T H B R n).1 ∧ (wait T H B R n).1 ≤ 4611686018427387904 ∧ tkE (atH T H B R (wait T H B R n).1) n = 0 ∧ ((wait T H B R n).1 > T → tkE (atH T H B R ((wait T H B R n).1 - 1)) n = 80) := by
  have hT := I.t1
  have hr := I.r0
  unfold wait at h ⊢
  rw [if_neg (by omega)] at h ⊢
  by_cases h1 : (n : Rat) ≤ H
  · rw [if_pos h1]
    refine ⟨Int.le_refl _, hT, ?_, fun g => absurd g (by omega)⟩
    show tkE (atH T H B R T) n = 0
    rw [at_of (Int.le_refl _) hT]
    exact tk_hi hn1 hnB (by rw [Int.sub_self]; simp; rw [Rat.add_zero]; exact h1)
  · rw [if_neg h1] at h ⊢
    by_cases h2 : R = 0 ∨ B < (n : Rat)
    · rw [if_pos h2] at h; exact absurd (by decide) h
    · rw [if_neg h2] at h ⊢
      by_cases h3 : 4611686018427387904 < T + (((n : Rat) - H) / R).ceil
      · rw [if_pos h3] at h; exact absurd (by decide) h
      · rw [if_neg h3]
        have hR : 0 < R := by grind
        have hc : 0 ≤ (((n : Rat) - H) / R).ceil := wait_pos hr (by grind)
        refine ⟨by show T ≤ T + _; omega, by show T + _ ≤ _; omega, ?_, fun g => ?_⟩
        · show tkE (atH T H B R (T + (((n : Rat) - H) / R).ceil)) n = 0
          rw [at_of (by omega) (by omega), show T + (((n : Rat) - H) / R).ceil - T = (((n : Rat) - H) / R).ceil by omega]
          exact tk_hi hn1 hnB (rate_le hR)
        · have g : T + (((n : Rat) - H) / R).ceil > T := g
          show tkE (atH T H B R (T + (((n : Rat) - H) / R).ceil - 1)) n = 80
          rw [at_of (by omega) (by omega)]
          exact tk_lo hn1 (rate_lt hR (by omega))
end

end Go.Proofs.Ytojpiiboikomfaa.Rg
