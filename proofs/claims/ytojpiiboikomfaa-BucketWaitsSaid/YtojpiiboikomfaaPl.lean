/-
  Walks and plain laws, put together: OK OS.
-/
import Derived.Test.YtojpiiboikomfaaPj
set_option linter.unusedVariables false
set_option linter.unusedSimpArgs false
namespace Go.Proofs.Ytojpiiboikomfaa.Rg

open Go.RowKit

theorem al_a2 : ∀ w : World, (Instr.alloc 72 true (.tuple #[])).run Try.prog w = .ok (.pointer (some ⟨w.heap.size, 0, none⟩)) (w.alloc (.cells (Value.agg #[.int .i64 0, .int .i64 0]).cells 72)) := by
  intro w; simp [go_sem, Value.cells]
theorem z_a2 : ∀ w, (tO [tV (.int .i64 0), tV (.int .i64 0)] [1, 1]).p (.agg #[.int .i64 0, .int .i64 0]) w := fun w => ⟨[.int .i64 0, .int .i64 0], rfl, ⟨rfl, rfl, trivial⟩, rfl⟩
theorem zIAo {P : Program} {ops : Array Oper} {Q : Exit → Act → World → Prop} {a0 : Act} {M : List Nat} {W : World} {rels : List Rel} {i : Nat} {o : Oper} {N d : Nat} {x y : Operand} {t : TypeId} {u : Value} {p off off' : Nat} (hz : a0.tmps.size = N) (hop : o.op = .indexAddr t x y) (hr : rels[i]? = some (rT (tV (.pointer (some ⟨p, off', none⟩))))) (sx : Src ops a0 M W rels i o x (tV (.pointer (some ⟨p, off, none⟩)))) (sy : Src ops a0 M W rels i o y (tV u)) (h : ∀ w, (Instr.indexAt t (.pointer (some ⟨p, off, none⟩)) u).run P w = .ok (.pointer (some ⟨p, off', none⟩)) w)
    (g : Gd ops a0 M W rels i o true := by exact Gd.none_ rfl) (ho : ops[i]? = some o := by rfl) (hd : o.dst = some d := by rfl) (hlt : decide (d < N) = true := by rfl) : StepOk P ops a0 M W Q rels i o :=
  sOp ho hr hd hz hlt g fun a γ w U => by
    have e : a.eval x = .pointer (some ⟨p, off, none⟩) := sx a γ w U
    have e2 : a.eval y = u := sy a γ w U
    refine ⟨_, ?_, rfl⟩
    unfold execOp; rw [hop]; simp only [e, e2, Sem.run_bind, h, Result.andThen, Sem.run_pure]
theorem run_dec {ox oy : Operand} {id : TypeId} {n : Int} (h0 : -9223372036854775807 ≤ n) (h : n < 9223372036854775808) (w : World) : (do eqGuard .sub id ox oy (.int .i64 n) (.int .i64 1); binOp .sub id (.int .i64 n) (.int .i64 1) : Sem Value).run Try.prog w = .ok (.int .i64 (n - 1)) w := by
  have e : IntKind.i64.wrap (n - 1) = n - 1 := by rw [IntKind.wrap_i64]; omega
  simp [go_sem, e]
theorem TT_of {t y : Int} (h0 : t ≤ y) (h1 : y ≤ 4611686018427387904) : TT t y = y := by
  unfold TT mnT; repeat' split
  all_goals omega
theorem TT2 {t : Int} (h0 : 0 ≤ t) (h1 : t ≤ 4611686018427387904) : TT (TT 0 t) t = t := by
  rw [TT_of h0 h1, TT_of (Int.le_refl _) h1]
section

variable {l : Nat} {T n : Int} {H B R : Rat}
theorem at_of {y : Int} (h0 : T ≤ y) (h1 : y ≤ 4611686018427387904) : atH T H B R y = minQ (H + R * ((y - T : Int) : Rat)) B := by
  unfold atH; rw [TT_of h0 h1]
theorem tk_lo {x : Rat} (hn1 : 1 ≤ n) (h : x < (n : Rat)) : tkE (minQ x B) n = 80 := by
  have h2 : ¬ (n : Rat) ≤ minQ x B := by unfold minQ; split <;> grind
  unfold tkE
  rw [if_neg (by omega), if_neg h2]
theorem tk_hi {x : Rat} (hn1 : 1 ≤ n) (hnB : (n : Rat) ≤ B) (h : (n : Rat) ≤ x) : tkE (minQ x B) n = 0 := by
  have h2 : (n : Rat) ≤ minQ x B := by unfold minQ; split <;> assumption
  unfold tkE
  rw [if_neg (by omega), if_pos h2]
theorem rate_lt (hR : 0 < R) {d : Int} (h : d < (((n : Rat) - H) / R).ceil) : H + R * (d : Rat) < (n : Rat) := by
  have h1 := Rat.lt_ceil_iff.1 h
  have h2 := (Rat.lt_div_iff hR).1 h1
  grind
theorem rate_le (hR : 0 < R) : (n : Rat) ≤ H + R * (((((n : Rat) - H) / R).ceil : Int) : Rat) := by
  by_cases h : (n : Rat) ≤ H + R * (((((n : Rat) - H) / R).ceil : Int) : Rat)
  · exact h
  · have h1 : ((((n : Rat) - H) / R).ceil : Rat) < ((n : Rat) - H) / R := (Rat.lt_div_iff hR).2 (by grind)
    have h2 : ((n : Rat) - H) / R ≤ ((((n : Rat) - H) / R).ceil : Rat) := Rat.le_ceil
    grind
theorem w_no (I : BInv l T H B R) (hn1 : 1 ≤ n) (hnB : (n : Rat) ≤ B) (h : (wait T H B R n).2 ≠ 0) : (wait T H B R n).2 = 80 ∧ (wait T H B R n).1 = 0 ∧ tkE (atH T H B R 4611686018427387904) n = 80 := by
  have hT := I.t1
  have hr := I.r0
  rw [at_of hT (Int.le_refl _)]
  unfold wait at h ⊢
  rw [if_neg (by omega)] at h ⊢
  by_cases h1 : (n : Rat) ≤ H
  · rw [if_pos h1] at h; exact absurd rfl h
  · rw [if_neg h1] at h ⊢
    by_cases h2 : R = 0 ∨ B < (n : Rat)
    · rw [if_pos h2]
      refine ⟨rfl, rfl, tk_lo hn1 ?_⟩
      rcases h2 with h2 | h2
      · rw [h2]; grind
      · grind
    · rw [if_neg h2] at h ⊢
      by_cases h3 : 4611686018427387904 < T + (((n : Rat) - H) / R).ceil
      · rw [if_pos h3]
        exact ⟨rfl, rfl, tk_lo hn1 (rate_lt (by grind) (by omega))⟩
      · rw [if_neg h3] at h; exact absurd rfl h
theorem w_ok (I : BInv l T H B R) (hn1 : 1 ≤ n) (hnB : (n : Rat) ≤ B) (h : ¬ (wait T H B R n).2 ≠ 0) : T ≤ (wait T H B R n).1 ∧ (wait T H B R n).1 ≤ 4611686018427387904 ∧ tkE (atH T H B R (wait T H B R n).1) n = 0 ∧ ((wait T H B R n).1 > T → tkE (atH T H B R ((wait T H B R n).1 - 1)) n = 80) := by
  have hT := I.t1
  have hr := I.r0
  unfold wait at h ⊢
  rw [if_neg (by omega)] at h ⊢
  by_cases h1 : (n : Rat) ≤ H
  · rw [if_pos h1]
    refine ⟨Int.le_refl _, hT, ?_, fun g => absurd g (by omega)⟩
    show tkE (atH T H B R T) n = 0
    rw [at_of (Int.le_refl _) hT]
    exact tk_hi hn1 hnB (by rw [Int.sub_self]; simp; rw [Rat.add_zero]; exact h1)
  · rw [if_neg h1] at h ⊢
    by_cases h2 : R = 0 ∨ B < (n : Rat)
    · rw [if_pos h2] at h; exact absurd (by decide) h
    · rw [if_neg h2] at h ⊢
      by_cases h3 : 4611686018427387904 < T + (((n : Rat) - H) / R).ceil
      · rw [if_pos h3] at h; exact absurd (by decide) h
      · rw [if_neg h3]
        have hR : 0 < R := by grind
        have hc : 0 ≤ (((n : Rat) - H) / R).ceil := wait_pos hr (by grind)
        refine ⟨by show T ≤ T + _; omega, by show T + _ ≤ _; omega, ?_, fun g => ?_⟩
        · show tkE (atH T H B R (T + (((n : Rat) - H) / R).ceil)) n = 0
          rw [at_of (by omega) (by omega), show T + (((n : Rat) - H) / R).ceil - T = (((n : Rat) - H) / R).ceil by omega]
          exact tk_hi hn1 hnB (rate_le hR)
        · have g : T + (((n : Rat) - H) / R).ceil > T := g
          show tkE (atH T H B R (T + (((n : Rat) - H) / R).ceil - 1)) n = 80
          rw [at_of (by omega) (by omega)]
          exact tk_lo hn1 (rate_lt hR (by omega))
end
set_option maxRecDepth 10000 in
set_option maxHeartbeats 2000000 in
theorem bucketWaits_ret {l u : Nat} {b per t n us : Int} {w : World} (hl : 1100 ≤ l) (hl2 : l ≤ 9000) (hu : u < 18446744073709551616) (hb1 : -9223372036854775808 ≤ b) (hb2 : b < 9223372036854775808) (hper1 : -9223372036854775808 ≤ per) (hper2 : per < 9223372036854775808) (ht1 : -9223372036854775808 ≤ t) (ht2 : t < 9223372036854775808) (hn1 : -9223372036854775808 ≤ n) (hn2 : n < 9223372036854775808) (hus1 : -9223372036854775808 ≤ us) (hus2 : us < 9223372036854775808) :
    Calls Try.prog 7 #[.int .i64 b, .int .u64 (u : Int), .int .i64 per, .int .i64 t, .int .i64 n, .int .i64 us] w (Ret (tV (.bool true)) w) := by
  refine enter Try.func7 rfl Try.ntmps7 (by simp) ?_
  intro a hz hd ha
  have S0 := ha 0 _ rfl
  have S1 := ha 1 _ rfl
  have S2 := ha 2 _ rfl
  have S3 := ha 3 _ rfl
  have S4 := ha 4 _ rfl
  have S5 := ha 5 _ rfl
  clear ha
  have HB : Below w.heap.size w w := Below.refl _ _
  have hfb0 := few0 b (m := 1099511627775) (by decide)
  have hfb1 := few1 b (m := 1099511627775) (by decide)
  have hfp0 := few0 per (m := 1073741823) (by decide)
  have hfp1 := few1 per (m := 1073741823) (by decide)
  have hft0 := few0 t (m := 2305843009213693952) (by decide)
  have hft1 := few1 t (m := 2305843009213693952) (by decide)
  refine wp_seq ?_
  refine region_text (M := []) (
      rT (tV (.bool false)) ::
      []) hz hd (by kernel_rfl) ?_ ?_
  · refine ⟨?_, trivial⟩
    · exact zAs hz kc
  intro a' γ' W' hz' hd' hC hk hh
  replace S0 := kp hk S0
  replace S1 := kp hk S1
  replace S2 := kp hk S2
  replace S3 := kp hk S3
  replace S4 := kp hk S4
  replace S5 := kp hk S5
  have S12 := gotV hz' 0 hh rfl rfl rfl rfl
  replace HB := aft_call HB (RelC.below_nil hC)
  clear hC hk hh; replace hz := hz'; replace hd := hd'; clear hz' hd'
  refine wp_seq ?_
  refine region_text (M := []) (
      rT (tV (.int .i64 b)) ::
      rT (tV (.int .i64 (fewV b 1099511627775))) ::
      rT (tV (.int .i64 (fewV b 1099511627775 + 1))) ::
      rT (tV (.int .i64 (fewV b 1099511627775 + 1))) ::
      []) hz hd (by kernel_rfl) ?_ ?_
  · refine ⟨?_, ?_, ?_, ?_, trivial⟩
    · exact zMv hz (sv S0)
    · exact zC2 hz Try.func8 (sd 0 rfl) (kc (v := .int .i64 1099511627775)) (k11 (fun _ => l_few (n := b) (m := 1099511627775) (by omega) (by omega) (by decide) (by omega)))
    · exact sBin rfl rfl rfl hz rfl (Gd.none_ rfl) rfl (sd 1 rfl) kc (fun w => run_inc (by omega) (by omega) w)
    · exact zAs hz (sd 2 rfl)
  intro a' γ' W' hz' hd' hC hk hh
  clear S0
  replace S1 := kp hk S1
  replace S2 := kp hk S2
  replace S3 := kp hk S3
  replace S4 := kp hk S4
  replace S5 := kp hk S5
  replace S12 := kp hk S12
  have S0 := gotV hz' 3 hh rfl rfl rfl rfl
  replace HB := aft_call HB (RelC.below_nil hC)
  clear hC hk hh; replace hz := hz'; replace hd := hd'; clear hz' hd'
  refine wp_seq ?_
  obtain ⟨bn, e_bn⟩ : ∃ x : Int, x = fewV b 1099511627775 + 1 := ⟨_, rfl⟩
  rw [← e_bn] at S0
  have hb : 1 ≤ bn ∧ bn ≤ 1099511627776 := by omega
  refine region_text (M := []) (
      rT (tV (.int .i64 per)) ::
      rT (tV (.int .i64 (fewV per 1073741823))) ::
      rT (tV (.int .i64 (fewV per 1073741823 + 1))) ::
      rT (tV (.int .i64 (fewV per 1073741823 + 1))) ::
      []) hz hd (by kernel_rfl) ?_ ?_
  · refine ⟨?_, ?_, ?_, ?_, trivial⟩
    · exact zMv hz (sv S2)
    · exact zC2 hz Try.func8 (sd 0 rfl) (kc (v := .int .i64 1073741823)) (k11 (fun _ => l_few (n := per) (m := 1073741823) (by omega) (by omega) (by decide) (by omega)))
    · exact sBin rfl rfl rfl hz rfl (Gd.none_ rfl) rfl (sd 1 rfl) kc (fun w => run_inc (by omega) (by omega) w)
    · exact zAs hz (sd 2 rfl)
  intro a' γ' W' hz' hd' hC hk hh
  replace S1 := kp hk S1
  clear S2
  replace S3 := kp hk S3
  replace S4 := kp hk S4
  replace S5 := kp hk S5
  replace S12 := kp hk S12
  replace S0 := kp hk S0
  have S2 := gotV hz' 3 hh rfl rfl rfl rfl
  replace HB := aft_call HB (RelC.below_nil hC)
  clear hC hk hh; replace hz := hz'; replace hd := hd'; clear hz' hd'
  refine wp_seq ?_
  obtain ⟨per1, e_per1⟩ : ∃ x : Int, x = fewV per 1073741823 + 1 := ⟨_, rfl⟩
  rw [← e_per1] at S2
  have hpp : 1 ≤ per1 ∧ per1 ≤ 1073741824 := by omega
  refine region_text (M := []) (
      rT (tV (.int .i64 t)) ::
      rT (tV (.int .i64 (fewV t 2305843009213693952))) ::
      rT (tV (.int .i64 (fewV t 2305843009213693952))) ::
      []) hz hd (by kernel_rfl) ?_ ?_
  · refine ⟨?_, ?_, ?_, trivial⟩
    · exact zMv hz (sv S3)
    · exact zC2 hz Try.func8 (sd 0 rfl) (kc (v := .int .i64 2305843009213693952)) (k11 (fun _ => l_few (n := t) (m := 2305843009213693952) (by omega) (by omega) (by decide) (by omega)))
    · exact zAs hz (sd 1 rfl)
  intro a' γ' W' hz' hd' hC hk hh
  replace S1 := kp hk S1
  clear S3
  replace S4 := kp hk S4
  replace S5 := kp hk S5
  replace S12 := kp hk S12
  replace S0 := kp hk S0
  replace S2 := kp hk S2
  have S3 := gotV hz' 2 hh rfl rfl rfl rfl
  replace HB := aft_call HB (RelC.below_nil hC)
  clear hC hk hh; replace hz := hz'; replace hd := hd'; clear hz' hd'
  refine wp_seq ?_
  obtain ⟨tt, e_tt⟩ : ∃ x : Int, x = fewV t 2305843009213693952 := ⟨_, rfl⟩
  rw [← e_tt] at S3
  have htt : 0 ≤ tt ∧ tt ≤ 2305843009213693952 := by omega
  have hfn0 := few0 n (m := bn - 1) (by omega)
  have hfn1 := few1 n (m := bn - 1) (by omega)
  refine region_text (M := []) (
      rT (tV (.int .i64 n)) ::
      rT (tV (.int .i64 bn)) ::
      rT (tV (.int .i64 (bn - 1))) ::
      rT (tV (.int .i64 (fewV n (bn - 1)))) ::
      rT (tV (.int .i64 (fewV n (bn - 1) + 1))) ::
      rT (tV (.int .i64 (fewV n (bn - 1) + 1))) ::
      []) hz hd (by kernel_rfl) ?_ ?_
  · refine ⟨?_, ?_, ?_, ?_, ?_, ?_, trivial⟩
    · exact zMv hz (sv S4)
    · exact zMv hz (sv S0)
    · exact sBin rfl rfl rfl hz rfl (Gd.none_ rfl) rfl (sd 1 rfl) kc (fun w => run_dec (by omega) (by omega) w)
    · exact zC2 hz Try.func8 (sd 0 rfl) (sd 2 rfl) (k11 (fun _ => l_few (n := n) (m := (bn - 1)) (by omega) (by omega) (by omega) (by omega)))
    · exact sBin rfl rfl rfl hz rfl (Gd.none_ rfl) rfl (sd 3 rfl) kc (fun w => run_inc (by omega) (by omega) w)
    · exact zAs hz (sd 4 rfl)
  intro a' γ' W' hz' hd' hC hk hh
  replace S1 := kp hk S1
  clear S4
  replace S5 := kp hk S5
  replace S12 := kp hk S12
  replace S0 := kp hk S0
  replace S2 := kp hk S2
  replace S3 := kp hk S3
  have S4 := gotV hz' 5 hh rfl rfl rfl rfl
  replace HB := aft_call HB (RelC.below_nil hC)
  clear hC hk hh; replace hz := hz'; replace hd := hd'; clear hz' hd'
  refine wp_seq ?_
  obtain ⟨nn, e_nn⟩ : ∃ x : Int, x = fewV n (bn - 1) + 1 := ⟨_, rfl⟩
  rw [← e_nn] at S4
  have hnn : 1 ≤ nn ∧ nn ≤ bn := by omega
  have hnB : (nn : Rat) ≤ (bn : Rat) := Rat.intCast_le_intCast.2 hnn.2
  have hfu0 := few0 us (m := bn) (by omega)
  have hfu1 := few1 us (m := bn) (by omega)
  refine region_text (M := []) (
      rB 0 72 (tO [tV (.int .i64 0), tV (.int .i64 0)] [1, 1]) none 0 ::
      []) hz hd (by kernel_rfl) ?_ ?_
  · refine ⟨?_, trivial⟩
    · exact zNew hz z_a2 al_a2
  intro a' γ' W' hz' hd' hC hk hh
  replace S1 := kp hk S1
  replace S5 := kp hk S5
  replace S12 := kp hk S12
  replace S0 := kp hk S0
  replace S2 := kp hk S2
  replace S3 := kp hk S3
  replace S4 := kp hk S4
  obtain ⟨p1, S13, Cp1, lp1, gp1⟩ := gotB hz' 0 hC hh rfl rfl rfl rfl rfl rfl
  have bp1 : w.heap.size ≤ p1 := Nat.le_trans HB.size lp1
  clear lp1 gp1
  replace HB := aft_call HB (RelC.below_nil hC)
  clear hC hk hh; replace hz := hz'; replace hd := hd'; clear hz' hd'
  refine wp_seq ?_
  refine wp_seq ?_
  refine region_text (M := []) (
      rT (tV (.int .i64 0)) ::
      []) hz hd (by kernel_rfl) ?_ ?_
  · refine ⟨?_, trivial⟩
    · exact zAs hz kc
  intro a' γ' W' hz' hd' hC hk hh
  have tp1 := Cp1.lt
  replace Cp1 := kC hC Cp1
  replace S1 := kp hk S1
  replace S5 := kp hk S5
  replace S12 := kp hk S12
  replace S0 := kp hk S0
  replace S2 := kp hk S2
  replace S3 := kp hk S3
  replace S4 := kp hk S4
  replace S13 := kp hk S13
  have S14 := gotV hz' 0 hh rfl rfl rfl rfl
  clear tp1
  replace HB := aft_call HB (RelC.below_nil hC)
  clear hC hk hh; replace hz := hz'; replace hd := hd'; clear hz' hd'
  refine wp_block ?_
  refine wp_loop_rounds 4 ?_
  show Code.wp _ _ _ _ _
  refine wp_seq ?_
  refine wp_seq ?_
  refine region_text (M := []) (
      rT (tV (.int .i64 0)) ::
      rT (tV (.bool true)) ::
      []) hz hd (by kernel_rfl) ?_ ?_
  · refine ⟨?_, ?_, trivial⟩
    · exact zMv hz (sv S14)
    · exact sBin rfl rfl rfl hz rfl (Gd.none_ rfl) rfl (sd 0 rfl) kc (fun w => by simp [go_sem])
  intro a' γ' W' hz' hd' hC hk hh
  have tp1 := Cp1.lt
  replace Cp1 := kC hC Cp1
  replace S1 := kp hk S1
  replace S5 := kp hk S5
  replace S12 := kp hk S12
  replace S0 := kp hk S0
  replace S2 := kp hk S2
  replace S3 := kp hk S3
  replace S4 := kp hk S4
  replace S13 := kp hk S13
  replace S14 := kp hk S14
  have S33 := gotV hz' 1 hh rfl rfl rfl rfl
  clear tp1
  replace HB := aft_call HB (RelC.below_nil hC)
  clear hC hk hh; replace hz := hz'; replace hd := hd'; clear hz' hd'
  refine wp_cond_true S33.ev ?_
  refine wp_skip ?_
  refine wp_seq ?_
  refine wp_block ?_
  refine wp_seq ?_
  by_cases hc2 : newE bn u per1 0 = 0
  · refine region_text (M := []) (
        rT (tV (.int .i64 bn)) ::
        rT (tV (.int .u64 (u : Int))) ::
        rT (tV (.float .f64 u)) ::
        rT (tV (.int .i64 per1)) ::
        rN 4 80 (tO [tV (.int .i64 0), tQ B64 (l + 64 + 41) 0, tQ B64 42 (((bn : Int) : Rat)), tQ B64 (l + 64) (divI (flQ u) per1)] [1, 2, 2, 2]) (.int .i64 0) ::
        rN 4 80 (tO [tV (.int .i64 0), tQ B64 (l + 64 + 41) 0, tQ B64 42 (((bn : Int) : Rat)), tQ B64 (l + 64) (divI (flQ u) per1)] [1, 2, 2, 2]) (.int .i64 0) ::
        rB 4 80 (tO [tV (.int .i64 0), tQ B64 (l + 64 + 41) 0, tQ B64 42 (((bn : Int) : Rat)), tQ B64 (l + 64) (divI (flQ u) per1)] [1, 2, 2, 2]) none 0 ::
        rT (tV (.int .i64 0)) ::
        rB 4 80 (tO [tV (.int .i64 0), tQ B64 (l + 64 + 41) 0, tQ B64 42 (((bn : Int) : Rat)), tQ B64 (l + 64) (divI (flQ u) per1)] [1, 2, 2, 2]) none 0 ::
        rT (tV (.int .i64 0)) ::
        []) hz hd (by kernel_rfl) ?_ ?_
    · refine ⟨?_, ?_, ?_, ?_, ?_, ?_, ?_, ?_, ?_, ?_, trivial⟩
      · exact zMv hz (sv S0)
      · exact zMv hz (sv S1)
      · exact zC1 hz Try.func10 (sd 1 rfl) (k1 (fun _ => c_float))
      · exact zMv hz (sv S2)
      · exact zCN hz rfl Try.func9 (fun a γ w U => (by show Calls _ _ #[a.eval (.tmp 37), a.eval (.tmp 39), a.eval (.tmp 40), .int .i64 0] _ _; rw [show a.eval (.tmp 37) = .int .i64 bn from Src.at_ (sd 0 rfl) U, show a.eval (.tmp 39) = .float .f64 u from Src.at_ (sd 2 rfl) U, show a.eval (.tmp 40) = .int .i64 per1 from Src.at_ (sd 3 rfl) U]; exact c_new_ok (l := l) hl (by omega) hu (by omega) hc2))
      · exact zMvN 4 4 rfl rfl hz rfl ⟨_, rfl, rfl⟩
      · exact zExP 4 5 rfl rfl hz rfl ⟨_, rfl, rfl⟩
      · exact zExU 4 5 rfl hz rfl ⟨_, rfl, rfl⟩
      · exact zPP 4 6 rfl rfl hz (.inr rfl) ⟨_, rfl, rfl⟩
      · exact zAs hz (sd 7 rfl)
    intro a' γ' W' hz' hd' hC hk hh
    have ep1 := Cp1.lt
    have tp1 := Cp1.lt
    replace Cp1 := kC hC Cp1
    replace S1 := kp hk S1
    replace S5 := kp hk S5
    replace S12 := kp hk S12
    replace S0 := kp hk S0
    replace S2 := kp hk S2
    replace S3 := kp hk S3
    replace S4 := kp hk S4
    replace S13 := kp hk S13
    replace S14 := kp hk S14
    replace S33 := kp hk S33
    obtain ⟨p3, S15, Cp3, lp3, gp3⟩ := gotP hz' 8 hC hh rfl rfl rfl rfl rfl
    have S16 := gotV hz' 9 hh rfl rfl rfl rfl
    have n_p3_p1 : p3 ≠ p1 := by omega
    have n_p1_p3 : p1 ≠ p3 := by have := ep1; omega
    have bp3 : w.heap.size ≤ p3 := Nat.le_trans HB.size lp3
    clear lp3 gp3
    clear tp1
    clear ep1
    replace HB := aft_call HB (RelC.below_nil hC)
    clear hC hk hh; replace hz := hz'; replace hd := hd'; clear hz' hd'
    refine wp_seq ?_
    refine wp_seq ?_
    refine region_text (M := []) (
        rT (tV (.bool true)) ::
        rT (tV (.bool false)) ::
        rT (tV (.bool false)) ::
        rT (tV (.int .i64 0)) ::
        rT (tV (.bool true)) ::
        rT (tV (.pointer (some ⟨p3, 0, none⟩))) ::
        rT (tV (.bool true)) ::
        rT (tV (.bool false)) ::
        rT (tV (.bool false)) ::
        []) hz hd (by kernel_rfl) ?_ ?_
    · refine ⟨?_, ?_, ?_, ?_, ?_, ?_, ?_, ?_, ?_, trivial⟩
      · exact zC0 hz Try.func12 (fun _ => l_told8)
      · exact zNot hz (sd 0 rfl)
      · exact zMv hz (sd 1 rfl)
      · exact zMv hz (sv S16) (g := gT 2 rfl)
      · exact sBin rfl rfl rfl hz rfl (gT 2 rfl) rfl (sd 3 rfl) kc (fun w => by simp [go_sem])
      · exact zMv hz (sv S15) (g := gT 2 rfl)
      · exact sBin rfl rfl rfl hz rfl (gT 2 rfl) rfl (sd 5 rfl) kc (fun w => by simp [go_sem])
      · exact sBin rfl rfl rfl hz rfl (gT 2 rfl) rfl (sd 4 rfl) (sd 6 rfl) (fun w => by kernel_rfl)
      · exact zPF hz (sd 2 rfl) (sd 7 rfl)
    intro a' γ' W' hz' hd' hC hk hh
    have tp1 := Cp1.lt
    replace Cp1 := kC hC Cp1
    have tp3 := Cp3.lt
    replace Cp3 := kC hC Cp3
    replace S1 := kp hk S1
    replace S5 := kp hk S5
    replace S12 := kp hk S12
    replace S0 := kp hk S0
    replace S2 := kp hk S2
    replace S3 := kp hk S3
    replace S4 := kp hk S4
    replace S13 := kp hk S13
    replace S14 := kp hk S14
    replace S33 := kp hk S33
    replace S15 := kp hk S15
    replace S16 := kp hk S16
    have S52 := gotV hz' 8 hh rfl rfl rfl rfl
    clear tp1 tp3
    replace HB := aft_call HB (RelC.below_nil hC)
    clear hC hk hh; replace hz := hz'; replace hd := hd'; clear hz' hd'
    refine wp_cond_false S52.ev ?_
    refine wp_skip ?_
    refine wp_seq ?_
    refine wp_seq ?_
    refine region_text (M := []) (
        rT (tV (.pointer (some ⟨p3, 0, none⟩))) ::
        rT (tV (.bool false)) ::
        []) hz hd (by kernel_rfl) ?_ ?_
    · refine ⟨?_, ?_, trivial⟩
      · exact zMv hz (sv S15)
      · exact sBin rfl rfl rfl hz rfl (Gd.none_ rfl) rfl (sd 0 rfl) kc (fun w => by simp [go_sem])
    intro a' γ' W' hz' hd' hC hk hh
    have tp1 := Cp1.lt
    replace Cp1 := kC hC Cp1
    have tp3 := Cp3.lt
    replace Cp3 := kC hC Cp3
    replace S1 := kp hk S1
    replace S5 := kp hk S5
    replace S12 := kp hk S12
    replace S0 := kp hk S0
    replace S2 := kp hk S2
    replace S3 := kp hk S3
    replace S4 := kp hk S4
    replace S13 := kp hk S13
    replace S14 := kp hk S14
    replace S33 := kp hk S33
    replace S15 := kp hk S15
    replace S16 := kp hk S16
    replace S52 := kp hk S52
    have S54 := gotV hz' 1 hh rfl rfl rfl rfl
    clear tp1 tp3
    replace HB := aft_call HB (RelC.below_nil hC)
    clear hC hk hh; replace hz := hz'; replace hd := hd'; clear hz' hd'
    refine wp_cond_false S54.ev ?_
    refine wp_skip ?_
    refine wp_seq ?_
    refine region_text (M := [p3]) (
        rT (tV (.pointer (some ⟨p3, 0, none⟩))) ::
        rT (tV (.int .i64 tt)) ::
        rCM 0 (tQ B64 (l + 64 + 41) (atH 0 0 (((bn : Int) : Rat)) (divI (flQ u) per1) tt)) 80 (tO [tV (.int .i64 (TT 0 tt)), tQ B64 (l + 64 + 41) (atH 0 0 (((bn : Int) : Rat)) (divI (flQ u) per1) tt), tQ B64 42 (((bn : Int) : Rat)), tQ B64 (l + 64) (divI (flQ u) per1)] [1, 2, 2, 2]) p3 ::
        []) hz hd (by kernel_rfl) ?_ ?_
    · refine ⟨?_, ?_, ?_, trivial⟩
      · exact zMv hz (sv S15)
      · exact zMv hz (sv S3)
      · exact zCM (k := 0) (p := p3) (sid := 80) (T1 := tO [tV (.int .i64 0), tQ B64 (l + 64 + 41) 0, tQ B64 42 (((bn : Int) : Rat)), tQ B64 (l + 64) (divI (flQ u) per1)] [1, 2, 2, 2]) (T := tO [tV (.int .i64 (TT 0 tt)), tQ B64 (l + 64 + 41) (atH 0 0 (((bn : Int) : Rat)) (divI (flQ u) per1) tt), tQ B64 42 (((bn : Int) : Rat)), tQ B64 (l + 64) (divI (flQ u) per1)] [1, 2, 2, 2]) (T0 := tQ B64 (l + 64 + 41) (atH 0 0 (((bn : Int) : Rat)) (divI (flQ u) per1) tt)) hz rfl Try.func23 (by simp [tagOf]) Cp3.lt (clM (k := 0) Cp3 (by simp [tagOf])) (tO_nd (nd_c nd_int (nd_c nd_q (nd_c nd_q (nd_c nd_q nd_nil))))) (tO_nd (nd_c nd_int (nd_c nd_q (nd_c nd_q (nd_c nd_q nd_nil))))) (fun a γ w U hcell => (by show Calls _ _ #[a.eval (.tmp 55), a.eval (.tmp 56)] _ _; rw [show a.eval (.tmp 55) = .pointer (some ⟨p3, 0, none⟩) from Src.at_ (sd 0 rfl) U, show a.eval (.tmp 56) = .int .i64 tt from Src.at_ (sd 1 rfl) U]; exact c_at (n := tt) hcell (BInv.new (l := l) hl hc2) (by omega)))
    intro a' γ' W' hz' hd' hC hk hh
    have tp1 := Cp1.lt
    replace Cp1 := kC hC Cp1 (by simp [tagOf, n_p1_p3])
    replace Cp3 := gotM (T := tO [tV (.int .i64 (TT 0 tt)), tQ B64 (l + 64 + 41) (atH 0 0 (((bn : Int) : Rat)) (divI (flQ u) per1) tt), tQ B64 42 (((bn : Int) : Rat)), tQ B64 (l + 64) (divI (flQ u) per1)] [1, 2, 2, 2]) (T0 := tQ B64 (l + 64 + 41) (atH 0 0 (((bn : Int) : Rat)) (divI (flQ u) per1) tt)) (sid := 80) (k := 0) (p := p3) hz' 2 hh rfl rfl
    replace S1 := kp hk S1
    replace S5 := kp hk S5
    replace S12 := kp hk S12
    replace S0 := kp hk S0
    replace S2 := kp hk S2
    replace S3 := kp hk S3
    replace S4 := kp hk S4
    replace S13 := kp hk S13
    replace S14 := kp hk S14
    replace S33 := kp hk S33
    replace S15 := kp hk S15
    replace S16 := kp hk S16
    replace S52 := kp hk S52
    replace S54 := kp hk S54
    clear tp1
    replace HB := RelC.aftM HB hC (by intro m hm; simp at hm; rcases hm with rfl <;> assumption)
    clear hC hk hh; replace hz := hz'; replace hd := hd'; clear hz' hd'
    refine wp_seq ?_
    refine region_text (M := [p3]) (
        rT (tV (.pointer (some ⟨p3, 0, none⟩))) ::
        rT (tV (.int .i64 tt)) ::
        rT (tV (.int .i64 us)) ::
        rT (tV (.int .i64 bn)) ::
        rT (tV (.int .i64 (fewV us bn))) ::
        rCM 0 (tV (.int .i64 (tkE (atH (TT 0 tt) (atH 0 0 (((bn : Int) : Rat)) (divI (flQ u) per1) tt) (((bn : Int) : Rat)) (divI (flQ u) per1) tt) (fewV us bn)))) 80 (tO [tV (.int .i64 (TT (TT 0 tt) tt)), tQ B64 (l + 64 + 41) (tkH (atH (TT 0 tt) (atH 0 0 (((bn : Int) : Rat)) (divI (flQ u) per1) tt) (((bn : Int) : Rat)) (divI (flQ u) per1) tt) (fewV us bn)), tQ B64 42 (((bn : Int) : Rat)), tQ B64 (l + 64) (divI (flQ u) per1)] [1, 2, 2, 2]) p3 ::
        []) hz hd (by kernel_rfl) ?_ ?_
    · refine ⟨?_, ?_, ?_, ?_, ?_, ?_, trivial⟩
      · exact zMv hz (sv S15)
      · exact zMv hz (sv S3)
      · exact zMv hz (sv S5)
      · exact zMv hz (sv S0)
      · exact zC2 hz Try.func8 (sd 2 rfl) (sd 3 rfl) (k11 (fun _ => l_few (n := us) (m := bn) (by omega) (by omega) (by omega) (by omega)))
      · exact zCM (k := 0) (p := p3) (sid := 80) (T1 := tO [tV (.int .i64 (TT 0 tt)), tQ B64 (l + 64 + 41) (atH 0 0 (((bn : Int) : Rat)) (divI (flQ u) per1) tt), tQ B64 42 (((bn : Int) : Rat)), tQ B64 (l + 64) (divI (flQ u) per1)] [1, 2, 2, 2]) (T := tO [tV (.int .i64 (TT (TT 0 tt) tt)), tQ B64 (l + 64 + 41) (tkH (atH (TT 0 tt) (atH 0 0 (((bn : Int) : Rat)) (divI (flQ u) per1) tt) (((bn : Int) : Rat)) (divI (flQ u) per1) tt) (fewV us bn)), tQ B64 42 (((bn : Int) : Rat)), tQ B64 (l + 64) (divI (flQ u) per1)] [1, 2, 2, 2]) (T0 := tV (.int .i64 (tkE (atH (TT 0 tt) (atH 0 0 (((bn : Int) : Rat)) (divI (flQ u) per1) tt) (((bn : Int) : Rat)) (divI (flQ u) per1) tt) (fewV us bn)))) hz rfl Try.func14 (by simp [tagOf]) Cp3.lt (clM (k := 0) Cp3 (by simp [tagOf])) (tO_nd (nd_c nd_int (nd_c nd_q (nd_c nd_q (nd_c nd_q nd_nil))))) (tO_nd (nd_c nd_int (nd_c nd_q (nd_c nd_q (nd_c nd_q nd_nil))))) (fun a γ w U hcell => (by show Calls _ _ #[a.eval (.tmp 58), a.eval (.tmp 59), a.eval (.tmp 62)] _ _; rw [show a.eval (.tmp 58) = .pointer (some ⟨p3, 0, none⟩) from Src.at_ (sd 0 rfl) U, show a.eval (.tmp 59) = .int .i64 tt from Src.at_ (sd 1 rfl) U, show a.eval (.tmp 62) = .int .i64 (fewV us bn) from Src.at_ (sd 4 rfl) U]; exact c_take (n := tt) (m := (fewV us bn)) hcell (BInv.at_ (BInv.new (l := l) hl hc2) tt) (by omega) (by omega)))
    intro a' γ' W' hz' hd' hC hk hh
    have tp1 := Cp1.lt
    replace Cp1 := kC hC Cp1 (by simp [tagOf, n_p1_p3])
    replace Cp3 := gotM (T := tO [tV (.int .i64 (TT (TT 0 tt) tt)), tQ B64 (l + 64 + 41) (tkH (atH (TT 0 tt) (atH 0 0 (((bn : Int) : Rat)) (divI (flQ u) per1) tt) (((bn : Int) : Rat)) (divI (flQ u) per1) tt) (fewV us bn)), tQ B64 42 (((bn : Int) : Rat)), tQ B64 (l + 64) (divI (flQ u) per1)] [1, 2, 2, 2]) (T0 := tV (.int .i64 (tkE (atH (TT 0 tt) (atH 0 0 (((bn : Int) : Rat)) (divI (flQ u) per1) tt) (((bn : Int) : Rat)) (divI (flQ u) per1) tt) (fewV us bn)))) (sid := 80) (k := 0) (p := p3) hz' 5 hh rfl rfl
    replace S1 := kp hk S1
    replace S5 := kp hk S5
    replace S12 := kp hk S12
    replace S0 := kp hk S0
    replace S2 := kp hk S2
    replace S3 := kp hk S3
    replace S4 := kp hk S4
    replace S13 := kp hk S13
    replace S14 := kp hk S14
    replace S33 := kp hk S33
    replace S15 := kp hk S15
    replace S16 := kp hk S16
    replace S52 := kp hk S52
    replace S54 := kp hk S54
    clear tp1
    replace HB := RelC.aftM HB hC (by intro m hm; simp at hm; rcases hm with rfl <;> assumption)
    clear hC hk hh; replace hz := hz'; replace hd := hd'; clear hz' hd'
    refine wp_seq ?_
    obtain ⟨H, e_H⟩ : ∃ x : Rat, x = tkH (atH (TT 0 tt) (atH 0 0 (((bn : Int) : Rat)) (divI (flQ u) per1) tt) (((bn : Int) : Rat)) (divI (flQ u) per1) tt) (fewV us bn) := ⟨_, rfl⟩
    have I2 : BInv (l + 64) tt H (((bn : Int) : Rat)) (divI (flQ u) per1) := by have := (BInv.take (BInv.at_ (BInv.at_ (BInv.new (l := l) hl hc2) tt) tt) (fewV us bn)); rw [TT2 htt.1 (by omega), ← e_H] at this; exact this
    rw [TT2 htt.1 (by omega), ← e_H] at Cp3
    refine region_text (M := [p3]) (
        rT (tV (.pointer (some ⟨p3, 0, none⟩))) ::
        rT (tV (.int .i64 nn)) ::
        rCM 0 (tT [tV (.int .i64 (wait tt H (((bn : Int) : Rat)) (divI (flQ u) per1) nn).1), tV (.int .i64 (wait tt H (((bn : Int) : Rat)) (divI (flQ u) per1) nn).2)]) 80 (tO [tV (.int .i64 tt), tQ B64 (l + 64 + 41) H, tQ B64 42 (((bn : Int) : Rat)), tQ B64 (l + 64) (divI (flQ u) per1)] [1, 2, 2, 2]) p3 ::
        rT (tT [tV (.int .i64 (wait tt H (((bn : Int) : Rat)) (divI (flQ u) per1) nn).1), tV (.int .i64 (wait tt H (((bn : Int) : Rat)) (divI (flQ u) per1) nn).2)]) ::
        rT (tV (.int .i64 (wait tt H (((bn : Int) : Rat)) (divI (flQ u) per1) nn).1)) ::
        rT (tV (.int .i64 (wait tt H (((bn : Int) : Rat)) (divI (flQ u) per1) nn).2)) ::
        rT (tV (.int .i64 (wait tt H (((bn : Int) : Rat)) (divI (flQ u) per1) nn).1)) ::
        rT (tV (.int .i64 (wait tt H (((bn : Int) : Rat)) (divI (flQ u) per1) nn).2)) ::
        []) hz hd (by kernel_rfl) ?_ ?_
    · refine ⟨?_, ?_, ?_, ?_, ?_, ?_, ?_, ?_, trivial⟩
      · exact zMv hz (sv S15)
      · exact zMv hz (sv S4)
      · exact zCM (k := 0) (p := p3) (sid := 80) (T1 := tO [tV (.int .i64 tt), tQ B64 (l + 64 + 41) H, tQ B64 42 (((bn : Int) : Rat)), tQ B64 (l + 64) (divI (flQ u) per1)] [1, 2, 2, 2]) (T := tO [tV (.int .i64 tt), tQ B64 (l + 64 + 41) H, tQ B64 42 (((bn : Int) : Rat)), tQ B64 (l + 64) (divI (flQ u) per1)] [1, 2, 2, 2]) (T0 := tT [tV (.int .i64 (wait tt H (((bn : Int) : Rat)) (divI (flQ u) per1) nn).1), tV (.int .i64 (wait tt H (((bn : Int) : Rat)) (divI (flQ u) per1) nn).2)]) hz rfl Try.func28 (by simp [tagOf]) Cp3.lt (clM (k := 0) Cp3 (by simp [tagOf])) (tO_nd (nd_c nd_int (nd_c nd_q (nd_c nd_q (nd_c nd_q nd_nil))))) (tO_nd (nd_c nd_int (nd_c nd_q (nd_c nd_q (nd_c nd_q nd_nil))))) (fun a γ w U hcell => (by show Calls _ _ #[a.eval (.tmp 65), a.eval (.tmp 66)] _ _; rw [show a.eval (.tmp 65) = .pointer (some ⟨p3, 0, none⟩) from Src.at_ (sd 0 rfl) U, show a.eval (.tmp 66) = .int .i64 nn from Src.at_ (sd 1 rfl) U]; exact c_wait (n := nn) hcell I2 (by omega) (by omega)))
      · exact zMv hz (sdM 2 rfl)
      · exact zExt hz (sd 3 rfl)
      · exact zExt hz (sd 3 rfl)
      · exact zAs hz (sd 4 rfl)
      · exact zAs hz (sd 5 rfl)
    intro a' γ' W' hz' hd' hC hk hh
    have tp1 := Cp1.lt
    replace Cp1 := kC hC Cp1 (by simp [tagOf, n_p1_p3])
    replace Cp3 := gotM (T := tO [tV (.int .i64 tt), tQ B64 (l + 64 + 41) H, tQ B64 42 (((bn : Int) : Rat)), tQ B64 (l + 64) (divI (flQ u) per1)] [1, 2, 2, 2]) (T0 := tT [tV (.int .i64 (wait tt H (((bn : Int) : Rat)) (divI (flQ u) per1) nn).1), tV (.int .i64 (wait tt H (((bn : Int) : Rat)) (divI (flQ u) per1) nn).2)]) (sid := 80) (k := 0) (p := p3) hz' 2 hh rfl rfl
    replace S1 := kp hk S1
    replace S5 := kp hk S5
    replace S12 := kp hk S12
    replace S0 := kp hk S0
    replace S2 := kp hk S2
    replace S3 := kp hk S3
    replace S4 := kp hk S4
    replace S13 := kp hk S13
    replace S14 := kp hk S14
    replace S33 := kp hk S33
    replace S15 := kp hk S15
    replace S16 := kp hk S16
    replace S52 := kp hk S52
    replace S54 := kp hk S54
    have S17 := gotV hz' 6 hh rfl rfl rfl rfl
    have S18 := gotV hz' 7 hh rfl rfl rfl rfl
    clear tp1
    replace HB := RelC.aftM HB hC (by intro m hm; simp at hm; rcases hm with rfl <;> assumption)
    clear hC hk hh; replace hz := hz'; replace hd := hd'; clear hz' hd'
    refine wp_seq ?_
    refine wp_seq ?_
    refine region_text (M := []) (
        rT (tV (.int .i64 (wait tt H (((bn : Int) : Rat)) (divI (flQ u) per1) nn).2)) ::
        rT (tV (.bool (decide ((wait tt H (((bn : Int) : Rat)) (divI (flQ u) per1) nn).2 ≠ 0)))) ::
        []) hz hd (by kernel_rfl) ?_ ?_
    · refine ⟨?_, ?_, trivial⟩
      · exact zMv hz (sv S18)
      · exact sBin rfl rfl rfl hz rfl (Gd.none_ rfl) rfl (sd 0 rfl) kc (fun w => run_neqE)
    intro a' γ' W' hz' hd' hC hk hh
    have tp1 := Cp1.lt
    replace Cp1 := kC hC Cp1
    have tp3 := Cp3.lt
    replace Cp3 := kC hC Cp3
    replace S1 := kp hk S1
    replace S5 := kp hk S5
    replace S12 := kp hk S12
    replace S0 := kp hk S0
    replace S2 := kp hk S2
    replace S3 := kp hk S3
    replace S4 := kp hk S4
    replace S13 := kp hk S13
    replace S14 := kp hk S14
    replace S33 := kp hk S33
    replace S15 := kp hk S15
    replace S16 := kp hk S16
    replace S52 := kp hk S52
    replace S54 := kp hk S54
    replace S17 := kp hk S17
    replace S18 := kp hk S18
    have S71 := gotV hz' 1 hh rfl rfl rfl rfl
    clear tp1 tp3
    replace HB := aft_call HB (RelC.below_nil hC)
    clear hC hk hh; replace hz := hz'; replace hd := hd'; clear hz' hd'
    by_cases hc4 : (wait tt H (((bn : Int) : Rat)) (divI (flQ u) per1) nn).2 ≠ 0
    · rw [decide_eq_true hc4] at S71
      refine wp_cond_true S71.ev ?_
      refine wp_seq ?_
      have hc5 : (wait tt H (((bn : Int) : Rat)) (divI (flQ u) per1) nn).2 = 80 := (w_no I2 hnn.1 hnB hc4).1
      have hc6 : (wait tt H (((bn : Int) : Rat)) (divI (flQ u) per1) nn).1 = 0 := (w_no I2 hnn.1 hnB hc4).2.1
      refine region_text (M := [p3]) (
          rT (tV (.int .i64 (wait tt H (((bn : Int) : Rat)) (divI (flQ u) per1) nn).2)) ::
          rT (tV (.bool true)) ::
          rT (tV (.bool true)) ::
          rT (tV (.int .i64 (wait tt H (((bn : Int) : Rat)) (divI (flQ u) per1) nn).1)) ::
          rT (tV (.bool true)) ::
          rT (tV (.bool true)) ::
          rT (tV (.bool true)) ::
          rT (tV (.pointer (some ⟨p3, 0, none⟩))) ::
          rT (tV (.int .i64 nn)) ::
          rCM 0 (tV (.int .i64 (tkE (atH tt H (((bn : Int) : Rat)) (divI (flQ u) per1) 4611686018427387904) nn))) 80 (tO [tV (.int .i64 (TT tt 4611686018427387904)), tQ B64 (l + 64 + 41) (tkH (atH tt H (((bn : Int) : Rat)) (divI (flQ u) per1) 4611686018427387904) nn), tQ B64 42 (((bn : Int) : Rat)), tQ B64 (l + 64) (divI (flQ u) per1)] [1, 2, 2, 2]) p3 ::
          rT (tV (.bool (decide (tkE (atH tt H (((bn : Int) : Rat)) (divI (flQ u) per1) 4611686018427387904) nn = 80)))) ::
          rT (tV (.bool (decide (tkE (atH tt H (((bn : Int) : Rat)) (divI (flQ u) per1) 4611686018427387904) nn = 80)))) ::
          rT (tV (.bool (decide (tkE (atH tt H (((bn : Int) : Rat)) (divI (flQ u) per1) 4611686018427387904) nn = 80)))) ::
          []) hz hd (by kernel_rfl) ?_ ?_
      · refine ⟨?_, ?_, ?_, ?_, ?_, ?_, ?_, ?_, ?_, ?_, ?_, ?_, ?_, trivial⟩
        · exact zMv hz (sv S18)
        · exact sBin rfl rfl rfl hz rfl (Gd.none_ rfl) rfl (sd 0 rfl) kc (fun w => run_t (P := (wait tt H (((bn : Int) : Rat)) (divI (flQ u) per1) nn).2 = 80) ((fun w => run_eql) w) hc5)
        · exact zMv hz (sd 1 rfl)
        · exact zMv hz (sv S17) (g := gT 2 rfl)
        · exact sBin rfl rfl rfl hz rfl (gT 2 rfl) rfl (sd 3 rfl) kc (fun w => run_t (P := (wait tt H (((bn : Int) : Rat)) (divI (flQ u) per1) nn).1 = 0) ((fun w => run_eql) w) hc6)
        · exact zPT hz (sd 2 rfl) (sd 4 rfl)
        · exact zMv hz (sd 5 rfl)
        · exact zMv hz (sv S15) (g := gT 6 rfl)
        · exact zMv hz (sv S4) (g := gT 6 rfl)
        · exact zCM (k := 0) (p := p3) (sid := 80) (T1 := tO [tV (.int .i64 tt), tQ B64 (l + 64 + 41) H, tQ B64 42 (((bn : Int) : Rat)), tQ B64 (l + 64) (divI (flQ u) per1)] [1, 2, 2, 2]) (T := tO [tV (.int .i64 (TT tt 4611686018427387904)), tQ B64 (l + 64 + 41) (tkH (atH tt H (((bn : Int) : Rat)) (divI (flQ u) per1) 4611686018427387904) nn), tQ B64 42 (((bn : Int) : Rat)), tQ B64 (l + 64) (divI (flQ u) per1)] [1, 2, 2, 2]) (T0 := tV (.int .i64 (tkE (atH tt H (((bn : Int) : Rat)) (divI (flQ u) per1) 4611686018427387904) nn))) hz rfl Try.func14 (by simp [tagOf]) Cp3.lt (clM (k := 0) Cp3 (by simp [tagOf])) (tO_nd (nd_c nd_int (nd_c nd_q (nd_c nd_q (nd_c nd_q nd_nil))))) (tO_nd (nd_c nd_int (nd_c nd_q (nd_c nd_q (nd_c nd_q nd_nil))))) (fun a γ w U hcell => (by show Calls _ _ #[a.eval (.tmp 79), .int .i64 4611686018427387904, a.eval (.tmp 80)] _ _; rw [show a.eval (.tmp 79) = .pointer (some ⟨p3, 0, none⟩) from Src.at_ (sd 7 rfl) U, show a.eval (.tmp 80) = .int .i64 nn from Src.at_ (sd 8 rfl) U]; exact c_take (n := 4611686018427387904) (m := nn) hcell I2 (by omega) (by omega))) (g := gT 6 rfl)
        · exact sBin rfl rfl rfl hz rfl (gT 6 rfl) rfl (sdM 9 rfl) kc (fun w => run_eql)
        · exact zPT hz (sd 6 rfl) (sd 10 rfl)
        · exact zAs hz (sd 11 rfl)
      intro a' γ' W' hz' hd' hC hk hh
      have tp1 := Cp1.lt
      replace Cp1 := kC hC Cp1 (by simp [tagOf, n_p1_p3])
      replace Cp3 := gotM (T := tO [tV (.int .i64 (TT tt 4611686018427387904)), tQ B64 (l + 64 + 41) (tkH (atH tt H (((bn : Int) : Rat)) (divI (flQ u) per1) 4611686018427387904) nn), tQ B64 42 (((bn : Int) : Rat)), tQ B64 (l + 64) (divI (flQ u) per1)] [1, 2, 2, 2]) (T0 := tV (.int .i64 (tkE (atH tt H (((bn : Int) : Rat)) (divI (flQ u) per1) 4611686018427387904) nn))) (sid := 80) (k := 0) (p := p3) hz' 9 hh rfl rfl
      replace S1 := kp hk S1
      replace S5 := kp hk S5
      clear S12
      replace S0 := kp hk S0
      replace S2 := kp hk S2
      replace S3 := kp hk S3
      replace S4 := kp hk S4
      replace S13 := kp hk S13
      replace S14 := kp hk S14
      replace S33 := kp hk S33
      replace S15 := kp hk S15
      replace S16 := kp hk S16
      replace S52 := kp hk S52
      replace S54 := kp hk S54
      replace S17 := kp hk S17
      replace S18 := kp hk S18
      replace S71 := kp hk S71
      have S12 := gotV hz' 12 hh rfl rfl rfl rfl
      clear tp1
      replace HB := RelC.aftM HB hC (by intro m hm; simp at hm; rcases hm with rfl <;> assumption)
      clear hC hk hh; replace hz := hz'; replace hd := hd'; clear hz' hd'
      refine wp_ret ?_
      have hc7 : tkE (atH tt H (((bn : Int) : Rat)) (divI (flQ u) per1) 4611686018427387904) nn = 80 := (w_no I2 hnn.1 hnB hc4).2.2
      rw [decide_eq_true hc7] at S12
      exact ret1 (by kernel_rfl) S12 hd ⟨_, rfl, rfl, HB⟩
    · have hw := w_ok I2 hnn.1 hnB hc4
      have hw1 := hw.1
      have hw2 := hw.2.1
      rw [decide_eq_false hc4] at S71
      refine wp_cond_false S71.ev ?_
      refine wp_skip ?_
      refine wp_seq ?_
      refine region_text (M := [p1]) (
          rT (tV (.int .i64 0)) ::
          rT (tV (.int .i64 (wait tt H (((bn : Int) : Rat)) (divI (flQ u) per1) nn).1)) ::
          rT (tV (.pointer (some ⟨p1, 0, none⟩))) ::
          rE 0 72 (tO [tV (.int .i64 (wait tt H (((bn : Int) : Rat)) (divI (flQ u) per1) nn).1), tV (.int .i64 0)] [1, 1]) p1 ::
          []) hz hd (by kernel_rfl) ?_ ?_
      · refine ⟨?_, ?_, ?_, ?_, trivial⟩
        · exact zMv hz (sv S14)
        · exact zMv hz (sv S17)
        · exact zIAo hz rfl rfl (sv S13) (sd 0 rfl) (fun w => by simp [go_sem])
        · exact zStO 0 rfl (sd 2 rfl) (by simp [tagOf]) (clM (k := 0) Cp1 (by simp [tagOf])) Cp1.lt (sd 1 rfl) sto_int (nd_c nd_int (nd_c nd_int nd_nil))
      intro a' γ' W' hz' hd' hC hk hh
      replace Cp1 := gotE (T := tO [tV (.int .i64 (wait tt H (((bn : Int) : Rat)) (divI (flQ u) per1) nn).1), tV (.int .i64 0)] [1, 1]) (id := 72) (p := p1) 3 hh rfl rfl
      have tp3 := Cp3.lt
      replace Cp3 := kC hC Cp3 (by simp [tagOf, n_p3_p1])
      replace S1 := kp hk S1
      replace S5 := kp hk S5
      replace S12 := kp hk S12
      replace S0 := kp hk S0
      replace S2 := kp hk S2
      replace S3 := kp hk S3
      replace S4 := kp hk S4
      replace S13 := kp hk S13
      replace S14 := kp hk S14
      replace S33 := kp hk S33
      replace S15 := kp hk S15
      replace S16 := kp hk S16
      replace S52 := kp hk S52
      replace S54 := kp hk S54
      replace S17 := kp hk S17
      replace S18 := kp hk S18
      replace S71 := kp hk S71
      clear tp3
      replace HB := RelC.aftM HB hC (by intro m hm; simp at hm; rcases hm with rfl <;> assumption)
      clear hC hk hh; replace hz := hz'; replace hd := hd'; clear hz' hd'
      refine wp_seq ?_
      refine wp_seq ?_
      have hc8 : ¬ ((wait tt H (((bn : Int) : Rat)) (divI (flQ u) per1) nn).1 < tt) := by omega
      refine region_text (M := []) (
          rT (tV (.int .i64 (wait tt H (((bn : Int) : Rat)) (divI (flQ u) per1) nn).1)) ::
          rT (tV (.int .i64 tt)) ::
          rT (tV (.bool false)) ::
          rT (tV (.bool false)) ::
          rT (tV (.int .i64 (wait tt H (((bn : Int) : Rat)) (divI (flQ u) per1) nn).1)) ::
          rT (tV (.bool (decide ((wait tt H (((bn : Int) : Rat)) (divI (flQ u) per1) nn).1 > 4611686018427387904)))) ::
          rT (tV (.bool (decide ((wait tt H (((bn : Int) : Rat)) (divI (flQ u) per1) nn).1 > 4611686018427387904)))) ::
          []) hz hd (by kernel_rfl) ?_ ?_
      · refine ⟨?_, ?_, ?_, ?_, ?_, ?_, ?_, trivial⟩
        · exact zMv hz (sv S17)
        · exact zMv hz (sv S3)
        · exact sBin rfl rfl rfl hz rfl (Gd.none_ rfl) rfl (sd 0 rfl) (sd 1 rfl) (fun w => run_f (P := (wait tt H (((bn : Int) : Rat)) (divI (flQ u) per1) nn).1 < tt) ((fun w => run_lss) w) hc8)
        · exact zMv hz (sd 2 rfl)
        · exact zMv hz (sv S17) (g := gT 3 rfl)
        · exact sBin rfl rfl rfl hz rfl (gT 3 rfl) rfl (sd 4 rfl) kc (fun w => run_gtr)
        · exact zPF hz (sd 3 rfl) (sd 5 rfl)
      intro a' γ' W' hz' hd' hC hk hh
      have tp1 := Cp1.lt
      replace Cp1 := kC hC Cp1
      have tp3 := Cp3.lt
      replace Cp3 := kC hC Cp3
      replace S1 := kp hk S1
      replace S5 := kp hk S5
      replace S12 := kp hk S12
      replace S0 := kp hk S0
      replace S2 := kp hk S2
      replace S3 := kp hk S3
      replace S4 := kp hk S4
      replace S13 := kp hk S13
      replace S14 := kp hk S14
      replace S33 := kp hk S33
      replace S15 := kp hk S15
      replace S16 := kp hk S16
      replace S52 := kp hk S52
      replace S54 := kp hk S54
      replace S17 := kp hk S17
      replace S18 := kp hk S18
      replace S71 := kp hk S71
      have S93 := gotV hz' 6 hh rfl rfl rfl rfl
      clear tp1 tp3
      replace HB := aft_call HB (RelC.below_nil hC)
      clear hC hk hh; replace hz := hz'; replace hd := hd'; clear hz' hd'
      have hc9 : ¬ ((wait tt H (((bn : Int) : Rat)) (divI (flQ u) per1) nn).1 > 4611686018427387904) := by omega
      rw [decide_eq_false hc9] at S93
      refine wp_cond_false S93.ev ?_
      refine wp_skip ?_
      refine wp_seq ?_
      refine wp_seq ?_
      refine region_text (M := []) (
          rT (tV (.int .i64 0)) ::
          rT (tV (.bool false)) ::
          rT (tV (.bool false)) ::
          rT (tV undef) ::
          rT (tV undef) ::
          rT (tV undef) ::
          rT (tV (.bool false)) ::
          rT (tV (.bool false)) ::
          rT (tV undef) ::
          rT (tV undef) ::
          rT (tV undef) ::
          rT (tV undef) ::
          rT (tV undef) ::
          rT (tV undef) ::
          rT (tV (.bool false)) ::
          []) hz hd (by kernel_rfl) ?_ ?_
      · refine ⟨?_, ?_, ?_, ?_, ?_, ?_, ?_, ?_, ?_, ?_, ?_, ?_, ?_, ?_, ?_, trivial⟩
        · exact zMv hz (sv S14)
        · exact sBin rfl rfl rfl hz rfl (Gd.none_ rfl) rfl (sd 0 rfl) kc (fun w => by simp [go_sem])
        · exact zMv hz (sd 1 rfl)
        · exact zSkU hz (gN 2 rfl)
        · exact zSkU hz (gN 2 rfl)
        · exact zSkU hz (gN 2 rfl)
        · exact zPF hz (sd 2 rfl) kc
        · exact zMv hz (sd 6 rfl)
        · exact zSkU hz (gN 7 rfl)
        · exact zSkU hz (gN 7 rfl)
        · exact zSkU hz (gN 7 rfl)
        · exact zSkU hz (gN 7 rfl)
        · exact zSkU hz (gN 7 rfl)
        · exact zSkU hz (gN 7 rfl)
        · exact zPF hz (sd 7 rfl) kc
      intro a' γ' W' hz' hd' hC hk hh
      have tp1 := Cp1.lt
      replace Cp1 := kC hC Cp1
      have tp3 := Cp3.lt
      replace Cp3 := kC hC Cp3
      replace S1 := kp hk S1
      replace S5 := kp hk S5
      replace S12 := kp hk S12
      replace S0 := kp hk S0
      replace S2 := kp hk S2
      replace S3 := kp hk S3
      replace S4 := kp hk S4
      replace S13 := kp hk S13
      replace S14 := kp hk S14
      replace S33 := kp hk S33
      replace S15 := kp hk S15
      replace S16 := kp hk S16
      replace S52 := kp hk S52
      replace S54 := kp hk S54
      replace S17 := kp hk S17
      replace S18 := kp hk S18
      replace S71 := kp hk S71
      replace S93 := kp hk S93
      have S108 := gotV hz' 14 hh rfl rfl rfl rfl
      clear tp1 tp3
      replace HB := aft_call HB (RelC.below_nil hC)
      clear hC hk hh; replace hz := hz'; replace hd := hd'; clear hz' hd'
      refine wp_cond_false S108.ev ?_
      refine wp_skip ?_
      refine wp_seq ?_
      refine region_text (M := [p3]) (
          rT (tV (.int .i64 0)) ::
          rT (tV (.bool true)) ::
          rT (tV (.bool true)) ::
          rT (tV (.pointer (some ⟨p3, 0, none⟩))) ::
          rT (tV (.int .i64 (wait tt H (((bn : Int) : Rat)) (divI (flQ u) per1) nn).1)) ::
          rT (tV (.int .i64 nn)) ::
          rCM 0 (tV (.int .i64 (tkE (atH tt H (((bn : Int) : Rat)) (divI (flQ u) per1) ((wait tt H (((bn : Int) : Rat)) (divI (flQ u) per1) nn).1)) nn))) 80 (tO [tV (.int .i64 (TT tt ((wait tt H (((bn : Int) : Rat)) (divI (flQ u) per1) nn).1))), tQ B64 (l + 64 + 41) (tkH (atH tt H (((bn : Int) : Rat)) (divI (flQ u) per1) ((wait tt H (((bn : Int) : Rat)) (divI (flQ u) per1) nn).1)) nn), tQ B64 42 (((bn : Int) : Rat)), tQ B64 (l + 64) (divI (flQ u) per1)] [1, 2, 2, 2]) p3 ::
          rT (tV (.bool (decide (tkE (atH tt H (((bn : Int) : Rat)) (divI (flQ u) per1) ((wait tt H (((bn : Int) : Rat)) (divI (flQ u) per1) nn).1)) nn ≠ 0)))) ::
          rT (tV (.bool (decide (tkE (atH tt H (((bn : Int) : Rat)) (divI (flQ u) per1) ((wait tt H (((bn : Int) : Rat)) (divI (flQ u) per1) nn).1)) nn ≠ 0)))) ::
          []) hz hd (by kernel_rfl) ?_ ?_
      · refine ⟨?_, ?_, ?_, ?_, ?_, ?_, ?_, ?_, ?_, trivial⟩
        · exact zMv hz (sv S14)
        · exact sBin rfl rfl rfl hz rfl (Gd.none_ rfl) rfl (sd 0 rfl) kc (fun w => by simp [go_sem])
        · exact zMv hz (sd 1 rfl)
        · exact zMv hz (sv S15) (g := gT 2 rfl)
        · exact zMv hz (sv S17) (g := gT 2 rfl)
        · exact zMv hz (sv S4) (g := gT 2 rfl)
        · exact zCM (k := 0) (p := p3) (sid := 80) (T1 := tO [tV (.int .i64 tt), tQ B64 (l + 64 + 41) H, tQ B64 42 (((bn : Int) : Rat)), tQ B64 (l + 64) (divI (flQ u) per1)] [1, 2, 2, 2]) (T := tO [tV (.int .i64 (TT tt ((wait tt H (((bn : Int) : Rat)) (divI (flQ u) per1) nn).1))), tQ B64 (l + 64 + 41) (tkH (atH tt H (((bn : Int) : Rat)) (divI (flQ u) per1) ((wait tt H (((bn : Int) : Rat)) (divI (flQ u) per1) nn).1)) nn), tQ B64 42 (((bn : Int) : Rat)), tQ B64 (l + 64) (divI (flQ u) per1)] [1, 2, 2, 2]) (T0 := tV (.int .i64 (tkE (atH tt H (((bn : Int) : Rat)) (divI (flQ u) per1) ((wait tt H (((bn : Int) : Rat)) (divI (flQ u) per1) nn).1)) nn))) hz rfl Try.func14 (by simp [tagOf]) Cp3.lt (clM (k := 0) Cp3 (by simp [tagOf])) (tO_nd (nd_c nd_int (nd_c nd_q (nd_c nd_q (nd_c nd_q nd_nil))))) (tO_nd (nd_c nd_int (nd_c nd_q (nd_c nd_q (nd_c nd_q nd_nil))))) (fun a γ w U hcell => (by show Calls _ _ #[a.eval (.tmp 112), a.eval (.tmp 113), a.eval (.tmp 114)] _ _; rw [show a.eval (.tmp 112) = .pointer (some ⟨p3, 0, none⟩) from Src.at_ (sd 3 rfl) U, show a.eval (.tmp 113) = .int .i64 (wait tt H (((bn : Int) : Rat)) (divI (flQ u) per1) nn).1 from Src.at_ (sd 4 rfl) U, show a.eval (.tmp 114) = .int .i64 nn from Src.at_ (sd 5 rfl) U]; exact c_take (n := ((wait tt H (((bn : Int) : Rat)) (divI (flQ u) per1) nn).1)) (m := nn) hcell I2 (by omega) (by omega))) (g := gT 2 rfl)
        · exact sBin rfl rfl rfl hz rfl (gT 2 rfl) rfl (sdM 6 rfl) kc (fun w => run_neqE)
        · exact zPT hz (sd 2 rfl) (sd 7 rfl)
      intro a' γ' W' hz' hd' hC hk hh
      have tp1 := Cp1.lt
      replace Cp1 := kC hC Cp1 (by simp [tagOf, n_p1_p3])
      replace Cp3 := gotM (T := tO [tV (.int .i64 (TT tt ((wait tt H (((bn : Int) : Rat)) (divI (flQ u) per1) nn).1))), tQ B64 (l + 64 + 41) (tkH (atH tt H (((bn : Int) : Rat)) (divI (flQ u) per1) ((wait tt H (((bn : Int) : Rat)) (divI (flQ u) per1) nn).1)) nn), tQ B64 42 (((bn : Int) : Rat)), tQ B64 (l + 64) (divI (flQ u) per1)] [1, 2, 2, 2]) (T0 := tV (.int .i64 (tkE (atH tt H (((bn : Int) : Rat)) (divI (flQ u) per1) ((wait tt H (((bn : Int) : Rat)) (divI (flQ u) per1) nn).1)) nn))) (sid := 80) (k := 0) (p := p3) hz' 6 hh rfl rfl
      replace S1 := kp hk S1
      replace S5 := kp hk S5
      replace S12 := kp hk S12
      replace S0 := kp hk S0
      replace S2 := kp hk S2
      replace S3 := kp hk S3
      replace S4 := kp hk S4
      replace S13 := kp hk S13
      replace S14 := kp hk S14
      replace S33 := kp hk S33
      replace S15 := kp hk S15
      replace S16 := kp hk S16
      replace S52 := kp hk S52
      replace S54 := kp hk S54
      replace S17 := kp hk S17
      replace S18 := kp hk S18
      replace S71 := kp hk S71
      replace S93 := kp hk S93
      replace S108 := kp hk S108
      have S117 := gotV hz' 8 hh rfl rfl rfl rfl
      clear tp1
      replace HB := RelC.aftM HB hC (by intro m hm; simp at hm; rcases hm with rfl <;> assumption)
      clear hC hk hh; replace hz := hz'; replace hd := hd'; clear hz' hd'
      have hc10 : ¬ (tkE (atH tt H (((bn : Int) : Rat)) (divI (flQ u) per1) ((wait tt H (((bn : Int) : Rat)) (divI (flQ u) per1) nn).1)) nn ≠ 0) := fun g => g hw.2.2.1
      rw [decide_eq_false hc10] at S117
      refine wp_cond_false S117.ev ?_
      refine wp_skip ?_
      refine region_text (M := []) (
          rT (tV (.int .i64 0)) ::
          rT (tV (.int .i64 1)) ::
          rT (tV (.int .i64 1)) ::
          []) hz hd (by kernel_rfl) ?_ ?_
      · refine ⟨?_, ?_, ?_, trivial⟩
        · exact zMv hz (sv S14)
        · exact sBin rfl rfl rfl hz rfl (Gd.none_ rfl) rfl (sd 0 rfl) kc (fun w => by kernel_rfl)
        · exact zAs hz (sd 1 rfl)
      intro a' γ' W' hz' hd' hC hk hh
      have tp1 := Cp1.lt
      replace Cp1 := kC hC Cp1
      have tp3 := Cp3.lt
      replace Cp3 := kC hC Cp3
      replace S1 := kp hk S1
      replace S5 := kp hk S5
      replace S12 := kp hk S12
      replace S0 := kp hk S0
      replace S2 := kp hk S2
      replace S3 := kp hk S3
      replace S4 := kp hk S4
      replace S13 := kp hk S13
      clear S14
      replace S33 := kp hk S33
      replace S15 := kp hk S15
      replace S16 := kp hk S16
      replace S52 := kp hk S52
      replace S54 := kp hk S54
      replace S17 := kp hk S17
      replace S18 := kp hk S18
      replace S71 := kp hk S71
      replace S93 := kp hk S93
      replace S108 := kp hk S108
      replace S117 := kp hk S117
      have S14 := gotV hz' 2 hh rfl rfl rfl rfl
      clear tp1 tp3
      replace HB := aft_call HB (RelC.below_nil hC)
      clear hC hk hh; replace hz := hz'; replace hd := hd'; clear hz' hd'
      show Code.wp _ _ _ _ _
      refine wp_seq ?_
      refine wp_seq ?_
      refine region_text (M := []) (
          rT (tV (.int .i64 1)) ::
          rT (tV (.bool true)) ::
          []) hz hd (by kernel_rfl) ?_ ?_
      · refine ⟨?_, ?_, trivial⟩
        · exact zMv hz (sv S14)
        · exact sBin rfl rfl rfl hz rfl (Gd.none_ rfl) rfl (sd 0 rfl) kc (fun w => by simp [go_sem])
      intro a' γ' W' hz' hd' hC hk hh
      have tp1 := Cp1.lt
      replace Cp1 := kC hC Cp1
      have tp3 := Cp3.lt
      replace Cp3 := kC hC Cp3
      replace S1 := kp hk S1
      replace S5 := kp hk S5
      replace S12 := kp hk S12
      replace S0 := kp hk S0
      replace S2 := kp hk S2
      replace S3 := kp hk S3
      replace S4 := kp hk S4
      replace S13 := kp hk S13
      clear S33
      replace S15 := kp hk S15
      replace S16 := kp hk S16
      replace S52 := kp hk S52
      replace S54 := kp hk S54
      replace S17 := kp hk S17
      replace S18 := kp hk S18
      replace S71 := kp hk S71
      replace S93 := kp hk S93
      replace S108 := kp hk S108
      replace S117 := kp hk S117
      replace S14 := kp hk S14
      have S33 := gotV hz' 1 hh rfl rfl rfl rfl
      clear tp1 tp3
      replace HB := aft_call HB (RelC.below_nil hC)
      clear hC hk hh; replace hz := hz'; replace hd := hd'; clear hz' hd'
      refine wp_cond_true S33.ev ?_
      refine wp_skip ?_
      refine wp_seq ?_
      refine wp_block ?_
      refine wp_seq ?_
      refine region_text (M := []) (
          rT (tV (.int .i64 bn)) ::
          rT (tV (.int .u64 (u : Int))) ::
          rT (tV (.float .f64 u)) ::
          rT (tV (.int .i64 per1)) ::
          rN 4 80 (tO [tV (.int .i64 0), tQ B64 (l + 64 + 41) 0, tQ B64 42 (((bn : Int) : Rat)), tQ B64 (l + 64) (divI (flQ u) per1)] [1, 2, 2, 2]) (.int .i64 0) ::
          rN 4 80 (tO [tV (.int .i64 0), tQ B64 (l + 64 + 41) 0, tQ B64 42 (((bn : Int) : Rat)), tQ B64 (l + 64) (divI (flQ u) per1)] [1, 2, 2, 2]) (.int .i64 0) ::
          rB 4 80 (tO [tV (.int .i64 0), tQ B64 (l + 64 + 41) 0, tQ B64 42 (((bn : Int) : Rat)), tQ B64 (l + 64) (divI (flQ u) per1)] [1, 2, 2, 2]) none 0 ::
          rT (tV (.int .i64 0)) ::
          rB 4 80 (tO [tV (.int .i64 0), tQ B64 (l + 64 + 41) 0, tQ B64 42 (((bn : Int) : Rat)), tQ B64 (l + 64) (divI (flQ u) per1)] [1, 2, 2, 2]) none 0 ::
          rT (tV (.int .i64 0)) ::
          []) hz hd (by kernel_rfl) ?_ ?_
      · refine ⟨?_, ?_, ?_, ?_, ?_, ?_, ?_, ?_, ?_, ?_, trivial⟩
        · exact zMv hz (sv S0)
        · exact zMv hz (sv S1)
        · exact zC1 hz Try.func10 (sd 1 rfl) (k1 (fun _ => c_float))
        · exact zMv hz (sv S2)
        · exact zCN hz rfl Try.func9 (fun a γ w U => (by show Calls _ _ #[a.eval (.tmp 37), a.eval (.tmp 39), a.eval (.tmp 40), .int .i64 0] _ _; rw [show a.eval (.tmp 37) = .int .i64 bn from Src.at_ (sd 0 rfl) U, show a.eval (.tmp 39) = .float .f64 u from Src.at_ (sd 2 rfl) U, show a.eval (.tmp 40) = .int .i64 per1 from Src.at_ (sd 3 rfl) U]; exact c_new_ok (l := l) hl (by omega) hu (by omega) hc2))
        · exact zMvN 4 4 rfl rfl hz rfl ⟨_, rfl, rfl⟩
        · exact zExP 4 5 rfl rfl hz rfl ⟨_, rfl, rfl⟩
        · exact zExU 4 5 rfl hz rfl ⟨_, rfl, rfl⟩
        · exact zPP 4 6 rfl rfl hz (.inr rfl) ⟨_, rfl, rfl⟩
        · exact zAs hz (sd 7 rfl)
      intro a' γ' W' hz' hd' hC hk hh
      have ep1 := Cp1.lt
      have ep3 := Cp3.lt
      have tp1 := Cp1.lt
      replace Cp1 := kC hC Cp1
      have tp3 := Cp3.lt
      replace Cp3 := kC hC Cp3
      replace S1 := kp hk S1
      replace S5 := kp hk S5
      replace S12 := kp hk S12
      replace S0 := kp hk S0
      replace S2 := kp hk S2
      replace S3 := kp hk S3
      replace S4 := kp hk S4
      replace S13 := kp hk S13
      clear S15
      clear S16
      replace S52 := kp hk S52
      replace S54 := kp hk S54
      replace S17 := kp hk S17
      replace S18 := kp hk S18
      replace S71 := kp hk S71
      replace S93 := kp hk S93
      replace S108 := kp hk S108
      replace S117 := kp hk S117
      replace S14 := kp hk S14
      replace S33 := kp hk S33
      obtain ⟨p11, S15, Cp11, lp11, gp11⟩ := gotP hz' 8 hC hh rfl rfl rfl rfl rfl
      have S16 := gotV hz' 9 hh rfl rfl rfl rfl
      have n_p11_p1 : p11 ≠ p1 := by omega
      have n_p11_p3 : p11 ≠ p3 := by omega
      have n_p1_p11 : p1 ≠ p11 := by have := ep1; omega
      have n_p3_p11 : p3 ≠ p11 := by have := ep3; omega
      have bp11 : w.heap.size ≤ p11 := Nat.le_trans HB.size lp11
      clear lp11 gp11
      clear tp1 tp3
      clear ep1 ep3
      replace HB := aft_call HB (RelC.below_nil hC)
      clear hC hk hh; replace hz := hz'; replace hd := hd'; clear hz' hd'
      refine wp_seq ?_
      refine wp_seq ?_
      refine region_text (M := []) (
          rT (tV (.bool true)) ::
          rT (tV (.bool false)) ::
          rT (tV (.bool false)) ::
          rT (tV (.int .i64 0)) ::
          rT (tV (.bool true)) ::
          rT (tV (.pointer (some ⟨p11, 0, none⟩))) ::
          rT (tV (.bool true)) ::
          rT (tV (.bool false)) ::
          rT (tV (.bool false)) ::
          []) hz hd (by kernel_rfl) ?_ ?_
      · refine ⟨?_, ?_, ?_, ?_, ?_, ?_, ?_, ?_, ?_, trivial⟩
        · exact zC0 hz Try.func12 (fun _ => l_told8)
        · exact zNot hz (sd 0 rfl)
        · exact zMv hz (sd 1 rfl)
        · exact zMv hz (sv S16) (g := gT 2 rfl)
        · exact sBin rfl rfl rfl hz rfl (gT 2 rfl) rfl (sd 3 rfl) kc (fun w => by simp [go_sem])
        · exact zMv hz (sv S15) (g := gT 2 rfl)
        · exact sBin rfl rfl rfl hz rfl (gT 2 rfl) rfl (sd 5 rfl) kc (fun w => by simp [go_sem])
        · exact sBin rfl rfl rfl hz rfl (gT 2 rfl) rfl (sd 4 rfl) (sd 6 rfl) (fun w => by kernel_rfl)
        · exact zPF hz (sd 2 rfl) (sd 7 rfl)
      intro a' γ' W' hz' hd' hC hk hh
      have tp1 := Cp1.lt
      replace Cp1 := kC hC Cp1
      have tp3 := Cp3.lt
      clear Cp3
      have tp11 := Cp11.lt
      replace Cp11 := kC hC Cp11
      replace S1 := kp hk S1
      replace S5 := kp hk S5
      replace S12 := kp hk S12
      replace S0 := kp hk S0
      replace S2 := kp hk S2
      replace S3 := kp hk S3
      replace S4 := kp hk S4
      replace S13 := kp hk S13
      clear S52
      replace S54 := kp hk S54
      replace S17 := kp hk S17
      replace S18 := kp hk S18
      replace S71 := kp hk S71
      replace S93 := kp hk S93
      replace S108 := kp hk S108
      replace S117 := kp hk S117
      replace S14 := kp hk S14
      replace S33 := kp hk S33
      replace S15 := kp hk S15
      replace S16 := kp hk S16
      have S52 := gotV hz' 8 hh rfl rfl rfl rfl
      clear tp1 tp3 tp11
      replace HB := aft_call HB (RelC.below_nil hC)
      clear hC hk hh; replace hz := hz'; replace hd := hd'; clear hz' hd'
      refine wp_cond_false S52.ev ?_
      refine wp_skip ?_
      refine wp_seq ?_
      refine wp_seq ?_
      refine region_text (M := []) (
          rT (tV (.pointer (some ⟨p11, 0, none⟩))) ::
          rT (tV (.bool false)) ::
          []) hz hd (by kernel_rfl) ?_ ?_
      · refine ⟨?_, ?_, trivial⟩
        · exact zMv hz (sv S15)
        · exact sBin rfl rfl rfl hz rfl (Gd.none_ rfl) rfl (sd 0 rfl) kc (fun w => by simp [go_sem])
      intro a' γ' W' hz' hd' hC hk hh
      have tp1 := Cp1.lt
      replace Cp1 := kC hC Cp1
      have tp11 := Cp11.lt
      replace Cp11 := kC hC Cp11
      replace S1 := kp hk S1
      replace S5 := kp hk S5
      replace S12 := kp hk S12
      replace S0 := kp hk S0
      replace S2 := kp hk S2
      replace S3 := kp hk S3
      replace S4 := kp hk S4
      replace S13 := kp hk S13
      clear S54
      replace S17 := kp hk S17
      replace S18 := kp hk S18
      replace S71 := kp hk S71
      replace S93 := kp hk S93
      replace S108 := kp hk S108
      replace S117 := kp hk S117
      replace S14 := kp hk S14
      replace S33 := kp hk S33
      replace S15 := kp hk S15
      replace S16 := kp hk S16
      replace S52 := kp hk S52
      have S54 := gotV hz' 1 hh rfl rfl rfl rfl
      clear tp1 tp11
      replace HB := aft_call HB (RelC.below_nil hC)
      clear hC hk hh; replace hz := hz'; replace hd := hd'; clear hz' hd'
      refine wp_cond_false S54.ev ?_
      refine wp_skip ?_
      refine wp_seq ?_
      refine region_text (M := [p11]) (
          rT (tV (.pointer (some ⟨p11, 0, none⟩))) ::
          rT (tV (.int .i64 tt)) ::
          rCM 0 (tQ B64 (l + 64 + 41) (atH 0 0 (((bn : Int) : Rat)) (divI (flQ u) per1) tt)) 80 (tO [tV (.int .i64 (TT 0 tt)), tQ B64 (l + 64 + 41) (atH 0 0 (((bn : Int) : Rat)) (divI (flQ u) per1) tt), tQ B64 42 (((bn : Int) : Rat)), tQ B64 (l + 64) (divI (flQ u) per1)] [1, 2, 2, 2]) p11 ::
          []) hz hd (by kernel_rfl) ?_ ?_
      · refine ⟨?_, ?_, ?_, trivial⟩
        · exact zMv hz (sv S15)
        · exact zMv hz (sv S3)
        · exact zCM (k := 0) (p := p11) (sid := 80) (T1 := tO [tV (.int .i64 0), tQ B64 (l + 64 + 41) 0, tQ B64 42 (((bn : Int) : Rat)), tQ B64 (l + 64) (divI (flQ u) per1)] [1, 2, 2, 2]) (T := tO [tV (.int .i64 (TT 0 tt)), tQ B64 (l + 64 + 41) (atH 0 0 (((bn : Int) : Rat)) (divI (flQ u) per1) tt), tQ B64 42 (((bn : Int) : Rat)), tQ B64 (l + 64) (divI (flQ u) per1)] [1, 2, 2, 2]) (T0 := tQ B64 (l + 64 + 41) (atH 0 0 (((bn : Int) : Rat)) (divI (flQ u) per1) tt)) hz rfl Try.func23 (by simp [tagOf]) Cp11.lt (clM (k := 0) Cp11 (by simp [tagOf])) (tO_nd (nd_c nd_int (nd_c nd_q (nd_c nd_q (nd_c nd_q nd_nil))))) (tO_nd (nd_c nd_int (nd_c nd_q (nd_c nd_q (nd_c nd_q nd_nil))))) (fun a γ w U hcell => (by show Calls _ _ #[a.eval (.tmp 55), a.eval (.tmp 56)] _ _; rw [show a.eval (.tmp 55) = .pointer (some ⟨p11, 0, none⟩) from Src.at_ (sd 0 rfl) U, show a.eval (.tmp 56) = .int .i64 tt from Src.at_ (sd 1 rfl) U]; exact c_at (n := tt) hcell (BInv.new (l := l) hl hc2) (by omega)))
      intro a' γ' W' hz' hd' hC hk hh
      have tp1 := Cp1.lt
      replace Cp1 := kC hC Cp1 (by simp [tagOf, n_p1_p11])
      replace Cp11 := gotM (T := tO [tV (.int .i64 (TT 0 tt)), tQ B64 (l + 64 + 41) (atH 0 0 (((bn : Int) : Rat)) (divI (flQ u) per1) tt), tQ B64 42 (((bn : Int) : Rat)), tQ B64 (l + 64) (divI (flQ u) per1)] [1, 2, 2, 2]) (T0 := tQ B64 (l + 64 + 41) (atH 0 0 (((bn : Int) : Rat)) (divI (flQ u) per1) tt)) (sid := 80) (k := 0) (p := p11) hz' 2 hh rfl rfl
      replace S1 := kp hk S1
      replace S5 := kp hk S5
      replace S12 := kp hk S12
      replace S0 := kp hk S0
      replace S2 := kp hk S2
      replace S3 := kp hk S3
      replace S4 := kp hk S4
      replace S13 := kp hk S13
      replace S17 := kp hk S17
      replace S18 := kp hk S18
      replace S71 := kp hk S71
      replace S93 := kp hk S93
      replace S108 := kp hk S108
      replace S117 := kp hk S117
      replace S14 := kp hk S14
      replace S33 := kp hk S33
      replace S15 := kp hk S15
      replace S16 := kp hk S16
      replace S52 := kp hk S52
      replace S54 := kp hk S54
      clear tp1
      replace HB := RelC.aftM HB hC (by intro m hm; simp at hm; rcases hm with rfl <;> assumption)
      clear hC hk hh; replace hz := hz'; replace hd := hd'; clear hz' hd'
      refine wp_seq ?_
      refine region_text (M := [p11]) (
          rT (tV (.pointer (some ⟨p11, 0, none⟩))) ::
          rT (tV (.int .i64 tt)) ::
          rT (tV (.int .i64 us)) ::
          rT (tV (.int .i64 bn)) ::
          rT (tV (.int .i64 (fewV us bn))) ::
          rCM 0 (tV (.int .i64 (tkE (atH (TT 0 tt) (atH 0 0 (((bn : Int) : Rat)) (divI (flQ u) per1) tt) (((bn : Int) : Rat)) (divI (flQ u) per1) tt) (fewV us bn)))) 80 (tO [tV (.int .i64 (TT (TT 0 tt) tt)), tQ B64 (l + 64 + 41) (tkH (atH (TT 0 tt) (atH 0 0 (((bn : Int) : Rat)) (divI (flQ u) per1) tt) (((bn : Int) : Rat)) (divI (flQ u) per1) tt) (fewV us bn)), tQ B64 42 (((bn : Int) : Rat)), tQ B64 (l + 64) (divI (flQ u) per1)] [1, 2, 2, 2]) p11 ::
          []) hz hd (by kernel_rfl) ?_ ?_
      · refine ⟨?_, ?_, ?_, ?_, ?_, ?_, trivial⟩
        · exact zMv hz (sv S15)
        · exact zMv hz (sv S3)
        · exact zMv hz (sv S5)
        · exact zMv hz (sv S0)
        · exact zC2 hz Try.func8 (sd 2 rfl) (sd 3 rfl) (k11 (fun _ => l_few (n := us) (m := bn) (by omega) (by omega) (by omega) (by omega)))
        · exact zCM (k := 0) (p := p11) (sid := 80) (T1 := tO [tV (.int .i64 (TT 0 tt)), tQ B64 (l + 64 + 41) (atH 0 0 (((bn : Int) : Rat)) (divI (flQ u) per1) tt), tQ B64 42 (((bn : Int) : Rat)), tQ B64 (l + 64) (divI (flQ u) per1)] [1, 2, 2, 2]) (T := tO [tV (.int .i64 (TT (TT 0 tt) tt)), tQ B64 (l + 64 + 41) (tkH (atH (TT 0 tt) (atH 0 0 (((bn : Int) : Rat)) (divI (flQ u) per1) tt) (((bn : Int) : Rat)) (divI (flQ u) per1) tt) (fewV us bn)), tQ B64 42 (((bn : Int) : Rat)), tQ B64 (l + 64) (divI (flQ u) per1)] [1, 2, 2, 2]) (T0 := tV (.int .i64 (tkE (atH (TT 0 tt) (atH 0 0 (((bn : Int) : Rat)) (divI (flQ u) per1) tt) (((bn : Int) : Rat)) (divI (flQ u) per1) tt) (fewV us bn)))) hz rfl Try.func14 (by simp [tagOf]) Cp11.lt (clM (k := 0) Cp11 (by simp [tagOf])) (tO_nd (nd_c nd_int (nd_c nd_q (nd_c nd_q (nd_c nd_q nd_nil))))) (tO_nd (nd_c nd_int (nd_c nd_q (nd_c nd_q (nd_c nd_q nd_nil))))) (fun a γ w U hcell => (by show Calls _ _ #[a.eval (.tmp 58), a.eval (.tmp 59), a.eval (.tmp 62)] _ _; rw [show a.eval (.tmp 58) = .pointer (some ⟨p11, 0, none⟩) from Src.at_ (sd 0 rfl) U, show a.eval (.tmp 59) = .int .i64 tt from Src.at_ (sd 1 rfl) U, show a.eval (.tmp 62) = .int .i64 (fewV us bn) from Src.at_ (sd 4 rfl) U]; exact c_take (n := tt) (m := (fewV us bn)) hcell (BInv.at_ (BInv.new (l := l) hl hc2) tt) (by omega) (by omega)))
      intro a' γ' W' hz' hd' hC hk hh
      have tp1 := Cp1.lt
      replace Cp1 := kC hC Cp1 (by simp [tagOf, n_p1_p11])
      replace Cp11 := gotM (T := tO [tV (.int .i64 (TT (TT 0 tt) tt)), tQ B64 (l + 64 + 41) (tkH (atH (TT 0 tt) (atH 0 0 (((bn : Int) : Rat)) (divI (flQ u) per1) tt) (((bn : Int) : Rat)) (divI (flQ u) per1) tt) (fewV us bn)), tQ B64 42 (((bn : Int) : Rat)), tQ B64 (l + 64) (divI (flQ u) per1)] [1, 2, 2, 2]) (T0 := tV (.int .i64 (tkE (atH (TT 0 tt) (atH 0 0 (((bn : Int) : Rat)) (divI (flQ u) per1) tt) (((bn : Int) : Rat)) (divI (flQ u) per1) tt) (fewV us bn)))) (sid := 80) (k := 0) (p := p11) hz' 5 hh rfl rfl
      replace S1 := kp hk S1
      replace S5 := kp hk S5
      replace S12 := kp hk S12
      replace S0 := kp hk S0
      replace S2 := kp hk S2
      replace S3 := kp hk S3
      replace S4 := kp hk S4
      replace S13 := kp hk S13
      replace S17 := kp hk S17
      replace S18 := kp hk S18
      replace S71 := kp hk S71
      replace S93 := kp hk S93
      replace S108 := kp hk S108
      replace S117 := kp hk S117
      replace S14 := kp hk S14
      replace S33 := kp hk S33
      replace S15 := kp hk S15
      replace S16 := kp hk S16
      replace S52 := kp hk S52
      replace S54 := kp hk S54
      clear tp1
      replace HB := RelC.aftM HB hC (by intro m hm; simp at hm; rcases hm with rfl <;> assumption)
      clear hC hk hh; replace hz := hz'; replace hd := hd'; clear hz' hd'
      refine wp_seq ?_
      rw [TT2 htt.1 (by omega), ← e_H] at Cp11
      refine region_text (M := [p11]) (
          rT (tV (.pointer (some ⟨p11, 0, none⟩))) ::
          rT (tV (.int .i64 nn)) ::
          rCM 0 (tT [tV (.int .i64 (wait tt H (((bn : Int) : Rat)) (divI (flQ u) per1) nn).1), tV (.int .i64 (wait tt H (((bn : Int) : Rat)) (divI (flQ u) per1) nn).2)]) 80 (tO [tV (.int .i64 tt), tQ B64 (l + 64 + 41) H, tQ B64 42 (((bn : Int) : Rat)), tQ B64 (l + 64) (divI (flQ u) per1)] [1, 2, 2, 2]) p11 ::
          rT (tT [tV (.int .i64 (wait tt H (((bn : Int) : Rat)) (divI (flQ u) per1) nn).1), tV (.int .i64 (wait tt H (((bn : Int) : Rat)) (divI (flQ u) per1) nn).2)]) ::
          rT (tV (.int .i64 (wait tt H (((bn : Int) : Rat)) (divI (flQ u) per1) nn).1)) ::
          rT (tV (.int .i64 (wait tt H (((bn : Int) : Rat)) (divI (flQ u) per1) nn).2)) ::
          rT (tV (.int .i64 (wait tt H (((bn : Int) : Rat)) (divI (flQ u) per1) nn).1)) ::
          rT (tV (.int .i64 (wait tt H (((bn : Int) : Rat)) (divI (flQ u) per1) nn).2)) ::
          []) hz hd (by kernel_rfl) ?_ ?_
      · refine ⟨?_, ?_, ?_, ?_, ?_, ?_, ?_, ?_, trivial⟩
        · exact zMv hz (sv S15)
        · exact zMv hz (sv S4)
        · exact zCM (k := 0) (p := p11) (sid := 80) (T1 := tO [tV (.int .i64 tt), tQ B64 (l + 64 + 41) H, tQ B64 42 (((bn : Int) : Rat)), tQ B64 (l + 64) (divI (flQ u) per1)] [1, 2, 2, 2]) (T := tO [tV (.int .i64 tt), tQ B64 (l + 64 + 41) H, tQ B64 42 (((bn : Int) : Rat)), tQ B64 (l + 64) (divI (flQ u) per1)] [1, 2, 2, 2]) (T0 := tT [tV (.int .i64 (wait tt H (((bn : Int) : Rat)) (divI (flQ u) per1) nn).1), tV (.int .i64 (wait tt H (((bn : Int) : Rat)) (divI (flQ u) per1) nn).2)]) hz rfl Try.func28 (by simp [tagOf]) Cp11.lt (clM (k := 0) Cp11 (by simp [tagOf])) (tO_nd (nd_c nd_int (nd_c nd_q (nd_c nd_q (nd_c nd_q nd_nil))))) (tO_nd (nd_c nd_int (nd_c nd_q (nd_c nd_q (nd_c nd_q nd_nil))))) (fun a γ w U hcell => (by show Calls _ _ #[a.eval (.tmp 65), a.eval (.tmp 66)] _ _; rw [show a.eval (.tmp 65) = .pointer (some ⟨p11, 0, none⟩) from Src.at_ (sd 0 rfl) U, show a.eval (.tmp 66) = .int .i64 nn from Src.at_ (sd 1 rfl) U]; exact c_wait (n := nn) hcell I2 (by omega) (by omega)))
        · exact zMv hz (sdM 2 rfl)
        · exact zExt hz (sd 3 rfl)
        · exact zExt hz (sd 3 rfl)
        · exact zAs hz (sd 4 rfl)
        · exact zAs hz (sd 5 rfl)
      intro a' γ' W' hz' hd' hC hk hh
      have tp1 := Cp1.lt
      replace Cp1 := kC hC Cp1 (by simp [tagOf, n_p1_p11])
      replace Cp11 := gotM (T := tO [tV (.int .i64 tt), tQ B64 (l + 64 + 41) H, tQ B64 42 (((bn : Int) : Rat)), tQ B64 (l + 64) (divI (flQ u) per1)] [1, 2, 2, 2]) (T0 := tT [tV (.int .i64 (wait tt H (((bn : Int) : Rat)) (divI (flQ u) per1) nn).1), tV (.int .i64 (wait tt H (((bn : Int) : Rat)) (divI (flQ u) per1) nn).2)]) (sid := 80) (k := 0) (p := p11) hz' 2 hh rfl rfl
      replace S1 := kp hk S1
      replace S5 := kp hk S5
      replace S12 := kp hk S12
      replace S0 := kp hk S0
      replace S2 := kp hk S2
      replace S3 := kp hk S3
      replace S4 := kp hk S4
      replace S13 := kp hk S13
      clear S17
      clear S18
      replace S71 := kp hk S71
      replace S93 := kp hk S93
      replace S108 := kp hk S108
      replace S117 := kp hk S117
      replace S14 := kp hk S14
      replace S33 := kp hk S33
      replace S15 := kp hk S15
      replace S16 := kp hk S16
      replace S52 := kp hk S52
      replace S54 := kp hk S54
      have S17 := gotV hz' 6 hh rfl rfl rfl rfl
      have S18 := gotV hz' 7 hh rfl rfl rfl rfl
      clear tp1
      replace HB := RelC.aftM HB hC (by intro m hm; simp at hm; rcases hm with rfl <;> assumption)
      clear hC hk hh; replace hz := hz'; replace hd := hd'; clear hz' hd'
      refine wp_seq ?_
      refine wp_seq ?_
      refine region_text (M := []) (
          rT (tV (.int .i64 (wait tt H (((bn : Int) : Rat)) (divI (flQ u) per1) nn).2)) ::
          rT (tV (.bool false)) ::
          []) hz hd (by kernel_rfl) ?_ ?_
      · refine ⟨?_, ?_, trivial⟩
        · exact zMv hz (sv S18)
        · exact sBin rfl rfl rfl hz rfl (Gd.none_ rfl) rfl (sd 0 rfl) kc (fun w => run_f (P := (wait tt H (((bn : Int) : Rat)) (divI (flQ u) per1) nn).2 ≠ 0) ((fun w => run_neqE) w) hc4)
      intro a' γ' W' hz' hd' hC hk hh
      have tp1 := Cp1.lt
      replace Cp1 := kC hC Cp1
      have tp11 := Cp11.lt
      replace Cp11 := kC hC Cp11
      replace S1 := kp hk S1
      replace S5 := kp hk S5
      replace S12 := kp hk S12
      replace S0 := kp hk S0
      replace S2 := kp hk S2
      replace S3 := kp hk S3
      replace S4 := kp hk S4
      replace S13 := kp hk S13
      clear S71
      replace S93 := kp hk S93
      replace S108 := kp hk S108
      replace S117 := kp hk S117
      replace S14 := kp hk S14
      replace S33 := kp hk S33
      replace S15 := kp hk S15
      replace S16 := kp hk S16
      replace S52 := kp hk S52
      replace S54 := kp hk S54
      replace S17 := kp hk S17
      replace S18 := kp hk S18
      have S71 := gotV hz' 1 hh rfl rfl rfl rfl
      clear tp1 tp11
      replace HB := aft_call HB (RelC.below_nil hC)
      clear hC hk hh; replace hz := hz'; replace hd := hd'; clear hz' hd'
      refine wp_cond_false S71.ev ?_
      refine wp_skip ?_
      refine wp_seq ?_
      refine region_text (M := [p1]) (
          rT (tV (.int .i64 1)) ::
          rT (tV (.int .i64 (wait tt H (((bn : Int) : Rat)) (divI (flQ u) per1) nn).1)) ::
          rT (tV (.pointer (some ⟨p1, 1, none⟩))) ::
          rE 0 72 (tO [tV (.int .i64 (wait tt H (((bn : Int) : Rat)) (divI (flQ u) per1) nn).1), tV (.int .i64 (wait tt H (((bn : Int) : Rat)) (divI (flQ u) per1) nn).1)] [1, 1]) p1 ::
          []) hz hd (by kernel_rfl) ?_ ?_
      · refine ⟨?_, ?_, ?_, ?_, trivial⟩
        · exact zMv hz (sv S14)
        · exact zMv hz (sv S17)
        · exact zIAo hz rfl rfl (sv S13) (sd 0 rfl) (fun w => by simp [go_sem])
        · exact zStO 1 rfl (sd 2 rfl) (by simp [tagOf]) (clM (k := 0) Cp1 (by simp [tagOf])) Cp1.lt (sd 1 rfl) sto_int (nd_c nd_int (nd_c nd_int nd_nil))
      intro a' γ' W' hz' hd' hC hk hh
      replace Cp1 := gotE (T := tO [tV (.int .i64 (wait tt H (((bn : Int) : Rat)) (divI (flQ u) per1) nn).1), tV (.int .i64 (wait tt H (((bn : Int) : Rat)) (divI (flQ u) per1) nn).1)] [1, 1]) (id := 72) (p := p1) 3 hh rfl rfl
      have tp11 := Cp11.lt
      replace Cp11 := kC hC Cp11 (by simp [tagOf, n_p11_p1])
      replace S1 := kp hk S1
      replace S5 := kp hk S5
      replace S12 := kp hk S12
      replace S0 := kp hk S0
      replace S2 := kp hk S2
      replace S3 := kp hk S3
      replace S4 := kp hk S4
      replace S13 := kp hk S13
      replace S93 := kp hk S93
      replace S108 := kp hk S108
      replace S117 := kp hk S117
      replace S14 := kp hk S14
      replace S33 := kp hk S33
      replace S15 := kp hk S15
      replace S16 := kp hk S16
      replace S52 := kp hk S52
      replace S54 := kp hk S54
      replace S17 := kp hk S17
      replace S18 := kp hk S18
      replace S71 := kp hk S71
      clear tp11
      replace HB := RelC.aftM HB hC (by intro m hm; simp at hm; rcases hm with rfl <;> assumption)
      clear hC hk hh; replace hz := hz'; replace hd := hd'; clear hz' hd'
      refine wp_seq ?_
      refine wp_seq ?_
      refine region_text (M := []) (
          rT (tV (.int .i64 (wait tt H (((bn : Int) : Rat)) (divI (flQ u) per1) nn).1)) ::
          rT (tV (.int .i64 tt)) ::
          rT (tV (.bool false)) ::
          rT (tV (.bool false)) ::
          rT (tV (.int .i64 (wait tt H (((bn : Int) : Rat)) (divI (flQ u) per1) nn).1)) ::
          rT (tV (.bool false)) ::
          rT (tV (.bool false)) ::
          []) hz hd (by kernel_rfl) ?_ ?_
      · refine ⟨?_, ?_, ?_, ?_, ?_, ?_, ?_, trivial⟩
        · exact zMv hz (sv S17)
        · exact zMv hz (sv S3)
        · exact sBin rfl rfl rfl hz rfl (Gd.none_ rfl) rfl (sd 0 rfl) (sd 1 rfl) (fun w => run_f (P := (wait tt H (((bn : Int) : Rat)) (divI (flQ u) per1) nn).1 < tt) ((fun w => run_lss) w) hc8)
        · exact zMv hz (sd 2 rfl)
        · exact zMv hz (sv S17) (g := gT 3 rfl)
        · exact sBin rfl rfl rfl hz rfl (gT 3 rfl) rfl (sd 4 rfl) kc (fun w => run_f (P := (wait tt H (((bn : Int) : Rat)) (divI (flQ u) per1) nn).1 > 4611686018427387904) ((fun w => run_gtr) w) hc9)
        · exact zPF hz (sd 3 rfl) (sd 5 rfl)
      intro a' γ' W' hz' hd' hC hk hh
      have tp1 := Cp1.lt
      replace Cp1 := kC hC Cp1
      have tp11 := Cp11.lt
      replace Cp11 := kC hC Cp11
      replace S1 := kp hk S1
      replace S5 := kp hk S5
      replace S12 := kp hk S12
      replace S0 := kp hk S0
      replace S2 := kp hk S2
      replace S3 := kp hk S3
      replace S4 := kp hk S4
      replace S13 := kp hk S13
      clear S93
      replace S108 := kp hk S108
      replace S117 := kp hk S117
      replace S14 := kp hk S14
      replace S33 := kp hk S33
      replace S15 := kp hk S15
      replace S16 := kp hk S16
      replace S52 := kp hk S52
      replace S54 := kp hk S54
      replace S17 := kp hk S17
      replace S18 := kp hk S18
      replace S71 := kp hk S71
      have S93 := gotV hz' 6 hh rfl rfl rfl rfl
      clear tp1 tp11
      replace HB := aft_call HB (RelC.below_nil hC)
      clear hC hk hh; replace hz := hz'; replace hd := hd'; clear hz' hd'
      refine wp_cond_false S93.ev ?_
      refine wp_skip ?_
      refine wp_seq ?_
      refine wp_seq ?_
      by_cases hc12 : (wait tt H (((bn : Int) : Rat)) (divI (flQ u) per1) nn).1 > tt
      · refine region_text (M := [p11]) (
            rT (tV (.int .i64 1)) ::
            rT (tV (.bool true)) ::
            rT (tV (.bool true)) ::
            rT (tV (.int .i64 (wait tt H (((bn : Int) : Rat)) (divI (flQ u) per1) nn).1)) ::
            rT (tV (.int .i64 tt)) ::
            rT (tV (.bool true)) ::
            rT (tV (.bool true)) ::
            rT (tV (.bool true)) ::
            rT (tV (.pointer (some ⟨p11, 0, none⟩))) ::
            rT (tV (.int .i64 (wait tt H (((bn : Int) : Rat)) (divI (flQ u) per1) nn).1)) ::
            rT (tV (.int .i64 ((wait tt H (((bn : Int) : Rat)) (divI (flQ u) per1) nn).1 - 1))) ::
            rT (tV (.int .i64 nn)) ::
            rCM 0 (tV (.int .i64 (tkE (atH tt H (((bn : Int) : Rat)) (divI (flQ u) per1) ((wait tt H (((bn : Int) : Rat)) (divI (flQ u) per1) nn).1 - 1)) nn))) 80 (tO [tV (.int .i64 (TT tt ((wait tt H (((bn : Int) : Rat)) (divI (flQ u) per1) nn).1 - 1))), tQ B64 (l + 64 + 41) (tkH (atH tt H (((bn : Int) : Rat)) (divI (flQ u) per1) ((wait tt H (((bn : Int) : Rat)) (divI (flQ u) per1) nn).1 - 1)) nn), tQ B64 42 (((bn : Int) : Rat)), tQ B64 (l + 64) (divI (flQ u) per1)] [1, 2, 2, 2]) p11 ::
            rT (tV (.bool (decide (tkE (atH tt H (((bn : Int) : Rat)) (divI (flQ u) per1) ((wait tt H (((bn : Int) : Rat)) (divI (flQ u) per1) nn).1 - 1)) nn ≠ 80)))) ::
            rT (tV (.bool (decide (tkE (atH tt H (((bn : Int) : Rat)) (divI (flQ u) per1) ((wait tt H (((bn : Int) : Rat)) (divI (flQ u) per1) nn).1 - 1)) nn ≠ 80)))) ::
            []) hz hd (by kernel_rfl) ?_ ?_
        · refine ⟨?_, ?_, ?_, ?_, ?_, ?_, ?_, ?_, ?_, ?_, ?_, ?_, ?_, ?_, ?_, trivial⟩
          · exact zMv hz (sv S14)
          · exact sBin rfl rfl rfl hz rfl (Gd.none_ rfl) rfl (sd 0 rfl) kc (fun w => by simp [go_sem])
          · exact zMv hz (sd 1 rfl)
          · exact zMv hz (sv S17) (g := gT 2 rfl)
          · exact zMv hz (sv S3) (g := gT 2 rfl)
          · exact sBin rfl rfl rfl hz rfl (gT 2 rfl) rfl (sd 3 rfl) (sd 4 rfl) (fun w => run_t (P := (wait tt H (((bn : Int) : Rat)) (divI (flQ u) per1) nn).1 > tt) ((fun w => run_gtr) w) hc12)
          · exact zPT hz (sd 2 rfl) (sd 5 rfl)
          · exact zMv hz (sd 6 rfl)
          · exact zMv hz (sv S15) (g := gT 7 rfl)
          · exact zMv hz (sv S17) (g := gT 7 rfl)
          · exact sBin rfl rfl rfl hz rfl (gT 7 rfl) rfl (sd 9 rfl) kc (fun w => run_dec (by omega) (by omega) w)
          · exact zMv hz (sv S4) (g := gT 7 rfl)
          · exact zCM (k := 0) (p := p11) (sid := 80) (T1 := tO [tV (.int .i64 tt), tQ B64 (l + 64 + 41) H, tQ B64 42 (((bn : Int) : Rat)), tQ B64 (l + 64) (divI (flQ u) per1)] [1, 2, 2, 2]) (T := tO [tV (.int .i64 (TT tt ((wait tt H (((bn : Int) : Rat)) (divI (flQ u) per1) nn).1 - 1))), tQ B64 (l + 64 + 41) (tkH (atH tt H (((bn : Int) : Rat)) (divI (flQ u) per1) ((wait tt H (((bn : Int) : Rat)) (divI (flQ u) per1) nn).1 - 1)) nn), tQ B64 42 (((bn : Int) : Rat)), tQ B64 (l + 64) (divI (flQ u) per1)] [1, 2, 2, 2]) (T0 := tV (.int .i64 (tkE (atH tt H (((bn : Int) : Rat)) (divI (flQ u) per1) ((wait tt H (((bn : Int) : Rat)) (divI (flQ u) per1) nn).1 - 1)) nn))) hz rfl Try.func14 (by simp [tagOf]) Cp11.lt (clM (k := 0) Cp11 (by simp [tagOf])) (tO_nd (nd_c nd_int (nd_c nd_q (nd_c nd_q (nd_c nd_q nd_nil))))) (tO_nd (nd_c nd_int (nd_c nd_q (nd_c nd_q (nd_c nd_q nd_nil))))) (fun a γ w U hcell => (by show Calls _ _ #[a.eval (.tmp 102), a.eval (.tmp 104), a.eval (.tmp 105)] _ _; rw [show a.eval (.tmp 102) = .pointer (some ⟨p11, 0, none⟩) from Src.at_ (sd 8 rfl) U, show a.eval (.tmp 104) = .int .i64 ((wait tt H (((bn : Int) : Rat)) (divI (flQ u) per1) nn).1 - 1) from Src.at_ (sd 10 rfl) U, show a.eval (.tmp 105) = .int .i64 nn from Src.at_ (sd 11 rfl) U]; exact c_take (n := ((wait tt H (((bn : Int) : Rat)) (divI (flQ u) per1) nn).1 - 1)) (m := nn) hcell I2 (by omega) (by omega))) (g := gT 7 rfl)
          · exact sBin rfl rfl rfl hz rfl (gT 7 rfl) rfl (sdM 12 rfl) kc (fun w => run_neq)
          · exact zPT hz (sd 7 rfl) (sd 13 rfl)
        intro a' γ' W' hz' hd' hC hk hh
        have tp1 := Cp1.lt
        replace Cp1 := kC hC Cp1 (by simp [tagOf, n_p1_p11])
        replace Cp11 := gotM (T := tO [tV (.int .i64 (TT tt ((wait tt H (((bn : Int) : Rat)) (divI (flQ u) per1) nn).1 - 1))), tQ B64 (l + 64 + 41) (tkH (atH tt H (((bn : Int) : Rat)) (divI (flQ u) per1) ((wait tt H (((bn : Int) : Rat)) (divI (flQ u) per1) nn).1 - 1)) nn), tQ B64 42 (((bn : Int) : Rat)), tQ B64 (l + 64) (divI (flQ u) per1)] [1, 2, 2, 2]) (T0 := tV (.int .i64 (tkE (atH tt H (((bn : Int) : Rat)) (divI (flQ u) per1) ((wait tt H (((bn : Int) : Rat)) (divI (flQ u) per1) nn).1 - 1)) nn))) (sid := 80) (k := 0) (p := p11) hz' 12 hh rfl rfl
        replace S1 := kp hk S1
        replace S5 := kp hk S5
        replace S12 := kp hk S12
        replace S0 := kp hk S0
        replace S2 := kp hk S2
        replace S3 := kp hk S3
        replace S4 := kp hk S4
        replace S13 := kp hk S13
        clear S108
        replace S117 := kp hk S117
        replace S14 := kp hk S14
        replace S33 := kp hk S33
        replace S15 := kp hk S15
        replace S16 := kp hk S16
        replace S52 := kp hk S52
        replace S54 := kp hk S54
        replace S17 := kp hk S17
        replace S18 := kp hk S18
        replace S71 := kp hk S71
        replace S93 := kp hk S93
        have S108 := gotV hz' 14 hh rfl rfl rfl rfl
        clear tp1
        replace HB := RelC.aftM HB hC (by intro m hm; simp at hm; rcases hm with rfl <;> assumption)
        clear hC hk hh; replace hz := hz'; replace hd := hd'; clear hz' hd'
        have hc13 : ¬ (tkE (atH tt H (((bn : Int) : Rat)) (divI (flQ u) per1) ((wait tt H (((bn : Int) : Rat)) (divI (flQ u) per1) nn).1 - 1)) nn ≠ 80) := fun g => g (hw.2.2.2 hc12)
        rw [decide_eq_false hc13] at S108
        refine wp_cond_false S108.ev ?_
        refine wp_skip ?_
        refine wp_seq ?_
        refine region_text (M := []) (
            rT (tV (.int .i64 1)) ::
            rT (tV (.bool false)) ::
            rT (tV (.bool false)) ::
            rT (tV undef) ::
            rT (tV undef) ::
            rT (tV undef) ::
            rT (tV undef) ::
            rT (tV undef) ::
            rT (tV (.bool false)) ::
            []) hz hd (by kernel_rfl) ?_ ?_
        · refine ⟨?_, ?_, ?_, ?_, ?_, ?_, ?_, ?_, ?_, trivial⟩
          · exact zMv hz (sv S14)
          · exact sBin rfl rfl rfl hz rfl (Gd.none_ rfl) rfl (sd 0 rfl) kc (fun w => by simp [go_sem])
          · exact zMv hz (sd 1 rfl)
          · exact zSkU hz (gN 2 rfl)
          · exact zSkU hz (gN 2 rfl)
          · exact zSkU hz (gN 2 rfl)
          · exact zSkU hz (gN 2 rfl)
          · exact zSkU hz (gN 2 rfl)
          · exact zPF hz (sd 2 rfl) kc
        intro a' γ' W' hz' hd' hC hk hh
        have tp1 := Cp1.lt
        replace Cp1 := kC hC Cp1
        have tp11 := Cp11.lt
        replace Cp11 := kC hC Cp11
        replace S1 := kp hk S1
        replace S5 := kp hk S5
        replace S12 := kp hk S12
        replace S0 := kp hk S0
        replace S2 := kp hk S2
        replace S3 := kp hk S3
        replace S4 := kp hk S4
        replace S13 := kp hk S13
        clear S117
        replace S14 := kp hk S14
        replace S33 := kp hk S33
        replace S15 := kp hk S15
        replace S16 := kp hk S16
        replace S52 := kp hk S52
        replace S54 := kp hk S54
        replace S17 := kp hk S17
        replace S18 := kp hk S18
        replace S71 := kp hk S71
        replace S93 := kp hk S93
        replace S108 := kp hk S108
        have S117 := gotV hz' 8 hh rfl rfl rfl rfl
        clear tp1 tp11
        replace HB := aft_call HB (RelC.below_nil hC)
        clear hC hk hh; replace hz := hz'; replace hd := hd'; clear hz' hd'
        refine wp_cond_false S117.ev ?_
        refine wp_skip ?_
        refine region_text (M := []) (
            rT (tV (.int .i64 1)) ::
            rT (tV (.int .i64 2)) ::
            rT (tV (.int .i64 2)) ::
            []) hz hd (by kernel_rfl) ?_ ?_
        · refine ⟨?_, ?_, ?_, trivial⟩
          · exact zMv hz (sv S14)
          · exact sBin rfl rfl rfl hz rfl (Gd.none_ rfl) rfl (sd 0 rfl) kc (fun w => by kernel_rfl)
          · exact zAs hz (sd 1 rfl)
        intro a' γ' W' hz' hd' hC hk hh
        have tp1 := Cp1.lt
        replace Cp1 := kC hC Cp1
        have tp11 := Cp11.lt
        replace Cp11 := kC hC Cp11
        replace S1 := kp hk S1
        replace S5 := kp hk S5
        replace S12 := kp hk S12
        replace S0 := kp hk S0
        replace S2 := kp hk S2
        replace S3 := kp hk S3
        replace S4 := kp hk S4
        replace S13 := kp hk S13
        clear S14
        replace S33 := kp hk S33
        replace S15 := kp hk S15
        replace S16 := kp hk S16
        replace S52 := kp hk S52
        replace S54 := kp hk S54
        replace S17 := kp hk S17
        replace S18 := kp hk S18
        replace S71 := kp hk S71
        replace S93 := kp hk S93
        replace S108 := kp hk S108
        replace S117 := kp hk S117
        have S14 := gotV hz' 2 hh rfl rfl rfl rfl
        clear tp1 tp11
        replace HB := aft_call HB (RelC.below_nil hC)
        clear hC hk hh; replace hz := hz'; replace hd := hd'; clear hz' hd'
        show Code.wp _ _ _ _ _
        refine wp_seq ?_
        refine wp_seq ?_
        refine region_text (M := []) (
            rT (tV (.int .i64 2)) ::
            rT (tV (.bool false)) ::
            []) hz hd (by kernel_rfl) ?_ ?_
        · refine ⟨?_, ?_, trivial⟩
          · exact zMv hz (sv S14)
          · exact sBin rfl rfl rfl hz rfl (Gd.none_ rfl) rfl (sd 0 rfl) kc (fun w => by simp [go_sem])
        intro a' γ' W' hz' hd' hC hk hh
        have tp1 := Cp1.lt
        replace Cp1 := kC hC Cp1
        have tp11 := Cp11.lt
        replace Cp11 := kC hC Cp11
        replace S1 := kp hk S1
        replace S5 := kp hk S5
        replace S12 := kp hk S12
        replace S0 := kp hk S0
        replace S2 := kp hk S2
        replace S3 := kp hk S3
        replace S4 := kp hk S4
        replace S13 := kp hk S13
        clear S33
        replace S15 := kp hk S15
        replace S16 := kp hk S16
        replace S52 := kp hk S52
        replace S54 := kp hk S54
        replace S17 := kp hk S17
        replace S18 := kp hk S18
        replace S71 := kp hk S71
        replace S93 := kp hk S93
        replace S108 := kp hk S108
        replace S117 := kp hk S117
        replace S14 := kp hk S14
        have S33 := gotV hz' 1 hh rfl rfl rfl rfl
        clear tp1 tp11
        replace HB := aft_call HB (RelC.below_nil hC)
        clear hC hk hh; replace hz := hz'; replace hd := hd'; clear hz' hd'
        refine wp_cond_false S33.ev ?_
        refine wp_exit ?_
        refine wp_seq ?_
        refine region_text (M := []) (
            rT (tV (.pointer (some ⟨p1, 0, none⟩))) ::
            rT (tV (.int .i64 (wait tt H (((bn : Int) : Rat)) (divI (flQ u) per1) nn).1)) ::
            rT (tV (.pointer (some ⟨p1, 1, none⟩))) ::
            rT (tV (.int .i64 (wait tt H (((bn : Int) : Rat)) (divI (flQ u) per1) nn).1)) ::
            rT (tV (.bool true)) ::
            rT (tV (.bool true)) ::
            []) hz hd (by kernel_rfl) ?_ ?_
        · refine ⟨?_, ?_, ?_, ?_, ?_, ?_, trivial⟩
          · exact zIAo hz rfl rfl (sv S13) (kc (v := .int .i64 0)) (fun w => by simp [go_sem])
          · exact zLdO 0 hz (sd 0 rfl) (cl0 Cp1) ldo_int
          · exact zIAo hz rfl rfl (sv S13) (kc (v := .int .i64 1)) (fun w => by simp [go_sem])
          · exact zLdO 1 hz (sd 2 rfl) (cl0 Cp1) ldo_int
          · exact sBin rfl rfl rfl hz rfl (Gd.none_ rfl) rfl (sd 1 rfl) (sd 3 rfl) (fun w => by simp [go_sem])
          · exact zAs hz (sd 4 rfl)
        intro a' γ' W' hz' hd' hC hk hh
        have tp1 := Cp1.lt
        clear Cp1
        have tp11 := Cp11.lt
        clear Cp11
        clear S1
        clear S5
        clear S12
        clear S0
        clear S2
        clear S3
        clear S4
        clear S13
        clear S15
        clear S16
        clear S52
        clear S54
        clear S17
        clear S18
        clear S71
        clear S93
        clear S108
        clear S117
        clear S14
        clear S33
        have S12 := gotV hz' 5 hh rfl rfl rfl rfl
        clear tp1 tp11
        replace HB := aft_call HB (RelC.below_nil hC)
        clear hC hk hh; replace hz := hz'; replace hd := hd'; clear hz' hd'
        refine wp_ret ?_
        exact ret1 (by kernel_rfl) S12 hd ⟨_, rfl, rfl, HB⟩
      · refine region_text (M := []) (
            rT (tV (.int .i64 1)) ::
            rT (tV (.bool true)) ::
            rT (tV (.bool true)) ::
            rT (tV (.int .i64 (wait tt H (((bn : Int) : Rat)) (divI (flQ u) per1) nn).1)) ::
            rT (tV (.int .i64 tt)) ::
            rT (tV (.bool false)) ::
            rT (tV (.bool false)) ::
            rT (tV (.bool false)) ::
            rT (tV undef) ::
            rT (tV undef) ::
            rT (tV undef) ::
            rT (tV undef) ::
            rT (tV undef) ::
            rT (tV undef) ::
            rT (tV (.bool false)) ::
            []) hz hd (by kernel_rfl) ?_ ?_
        · refine ⟨?_, ?_, ?_, ?_, ?_, ?_, ?_, ?_, ?_, ?_, ?_, ?_, ?_, ?_, ?_, trivial⟩
          · exact zMv hz (sv S14)
          · exact sBin rfl rfl rfl hz rfl (Gd.none_ rfl) rfl (sd 0 rfl) kc (fun w => by simp [go_sem])
          · exact zMv hz (sd 1 rfl)
          · exact zMv hz (sv S17) (g := gT 2 rfl)
          · exact zMv hz (sv S3) (g := gT 2 rfl)
          · exact sBin rfl rfl rfl hz rfl (gT 2 rfl) rfl (sd 3 rfl) (sd 4 rfl) (fun w => run_f (P := (wait tt H (((bn : Int) : Rat)) (divI (flQ u) per1) nn).1 > tt) ((fun w => run_gtr) w) hc12)
          · exact zPT hz (sd 2 rfl) (sd 5 rfl)
          · exact zMv hz (sd 6 rfl)
          · exact zSkU hz (gN 7 rfl)
          · exact zSkU hz (gN 7 rfl)
          · exact zSkU hz (gN 7 rfl)
          · exact zSkU hz (gN 7 rfl)
          · exact zSkU hz (gN 7 rfl)
          · exact zSkU hz (gN 7 rfl)
          · exact zPF hz (sd 7 rfl) kc
        intro a' γ' W' hz' hd' hC hk hh
        have tp1 := Cp1.lt
        replace Cp1 := kC hC Cp1
        have tp11 := Cp11.lt
        replace Cp11 := kC hC Cp11
        replace S1 := kp hk S1
        replace S5 := kp hk S5
        replace S12 := kp hk S12
        replace S0 := kp hk S0
        replace S2 := kp hk S2
        replace S3 := kp hk S3
        replace S4 := kp hk S4
        replace S13 := kp hk S13
        clear S108
        replace S117 := kp hk S117
        replace S14 := kp hk S14
        replace S33 := kp hk S33
        replace S15 := kp hk S15
        replace S16 := kp hk S16
        replace S52 := kp hk S52
        replace S54 := kp hk S54
        replace S17 := kp hk S17
        replace S18 := kp hk S18
        replace S71 := kp hk S71
        replace S93 := kp hk S93
        have S108 := gotV hz' 14 hh rfl rfl rfl rfl
        clear tp1 tp11
        replace HB := aft_call HB (RelC.below_nil hC)
        clear hC hk hh; replace hz := hz'; replace hd := hd'; clear hz' hd'
        refine wp_cond_false S108.ev ?_
        refine wp_skip ?_
        refine wp_seq ?_
        refine region_text (M := []) (
            rT (tV (.int .i64 1)) ::
            rT (tV (.bool false)) ::
            rT (tV (.bool false)) ::
            rT (tV undef) ::
            rT (tV undef) ::
            rT (tV undef) ::
            rT (tV undef) ::
            rT (tV undef) ::
            rT (tV (.bool false)) ::
            []) hz hd (by kernel_rfl) ?_ ?_
        · refine ⟨?_, ?_, ?_, ?_, ?_, ?_, ?_, ?_, ?_, trivial⟩
          · exact zMv hz (sv S14)
          · exact sBin rfl rfl rfl hz rfl (Gd.none_ rfl) rfl (sd 0 rfl) kc (fun w => by simp [go_sem])
          · exact zMv hz (sd 1 rfl)
          · exact zSkU hz (gN 2 rfl)
          · exact zSkU hz (gN 2 rfl)
          · exact zSkU hz (gN 2 rfl)
          · exact zSkU hz (gN 2 rfl)
          · exact zSkU hz (gN 2 rfl)
          · exact zPF hz (sd 2 rfl) kc
        intro a' γ' W' hz' hd' hC hk hh
        have tp1 := Cp1.lt
        replace Cp1 := kC hC Cp1
        have tp11 := Cp11.lt
        replace Cp11 := kC hC Cp11
        replace S1 := kp hk S1
        replace S5 := kp hk S5
        replace S12 := kp hk S12
        replace S0 := kp hk S0
        replace S2 := kp hk S2
        replace S3 := kp hk S3
        replace S4 := kp hk S4
        replace S13 := kp hk S13
        clear S117
        replace S14 := kp hk S14
        replace S33 := kp hk S33
        replace S15 := kp hk S15
        replace S16 := kp hk S16
        replace S52 := kp hk S52
        replace S54 := kp hk S54
        replace S17 := kp hk S17
        replace S18 := kp hk S18
        replace S71 := kp hk S71
        replace S93 := kp hk S93
        replace S108 := kp hk S108
        have S117 := gotV hz' 8 hh rfl rfl rfl rfl
        clear tp1 tp11
        replace HB := aft_call HB (RelC.below_nil hC)
        clear hC hk hh; replace hz := hz'; replace hd := hd'; clear hz' hd'
        refine wp_cond_false S117.ev ?_
        refine wp_skip ?_
        refine region_text (M := []) (
            rT (tV (.int .i64 1)) ::
            rT (tV (.int .i64 2)) ::
            rT (tV (.int .i64 2)) ::
            []) hz hd (by kernel_rfl) ?_ ?_
        · refine ⟨?_, ?_, ?_, trivial⟩
          · exact zMv hz (sv S14)
          · exact sBin rfl rfl rfl hz rfl (Gd.none_ rfl) rfl (sd 0 rfl) kc (fun w => by kernel_rfl)
          · exact zAs hz (sd 1 rfl)
        intro a' γ' W' hz' hd' hC hk hh
        have tp1 := Cp1.lt
        replace Cp1 := kC hC Cp1
        have tp11 := Cp11.lt
        replace Cp11 := kC hC Cp11
        replace S1 := kp hk S1
        replace S5 := kp hk S5
        replace S12 := kp hk S12
        replace S0 := kp hk S0
        replace S2 := kp hk S2
        replace S3 := kp hk S3
        replace S4 := kp hk S4
        replace S13 := kp hk S13
        clear S14
        replace S33 := kp hk S33
        replace S15 := kp hk S15
        replace S16 := kp hk S16
        replace S52 := kp hk S52
        replace S54 := kp hk S54
        replace S17 := kp hk S17
        replace S18 := kp hk S18
        replace S71 := kp hk S71
        replace S93 := kp hk S93
        replace S108 := kp hk S108
        replace S117 := kp hk S117
        have S14 := gotV hz' 2 hh rfl rfl rfl rfl
        clear tp1 tp11
        replace HB := aft_call HB (RelC.below_nil hC)
        clear hC hk hh; replace hz := hz'; replace hd := hd'; clear hz' hd'
        show Code.wp _ _ _ _ _
        refine wp_seq ?_
        refine wp_seq ?_
        refine region_text (M := []) (
            rT (tV (.int .i64 2)) ::
            rT (tV (.bool false)) ::
            []) hz hd (by kernel_rfl) ?_ ?_
        · refine ⟨?_, ?_, trivial⟩
          · exact zMv hz (sv S14)
          · exact sBin rfl rfl rfl hz rfl (Gd.none_ rfl) rfl (sd 0 rfl) kc (fun w => by simp [go_sem])
        intro a' γ' W' hz' hd' hC hk hh
        have tp1 := Cp1.lt
        replace Cp1 := kC hC Cp1
        have tp11 := Cp11.lt
        replace Cp11 := kC hC Cp11
        replace S1 := kp hk S1
        replace S5 := kp hk S5
        replace S12 := kp hk S12
        replace S0 := kp hk S0
        replace S2 := kp hk S2
        replace S3 := kp hk S3
        replace S4 := kp hk S4
        replace S13 := kp hk S13
        clear S33
        replace S15 := kp hk S15
        replace S16 := kp hk S16
        replace S52 := kp hk S52
        replace S54 := kp hk S54
        replace S17 := kp hk S17
        replace S18 := kp hk S18
        replace S71 := kp hk S71
        replace S93 := kp hk S93
        replace S108 := kp hk S108
        replace S117 := kp hk S117
        replace S14 := kp hk S14
        have S33 := gotV hz' 1 hh rfl rfl rfl rfl
        clear tp1 tp11
        replace HB := aft_call HB (RelC.below_nil hC)
        clear hC hk hh; replace hz := hz'; replace hd := hd'; clear hz' hd'
        refine wp_cond_false S33.ev ?_
        refine wp_exit ?_
        refine wp_seq ?_
        refine region_text (M := []) (
            rT (tV (.pointer (some ⟨p1, 0, none⟩))) ::
            rT (tV (.int .i64 (wait tt H (((bn : Int) : Rat)) (divI (flQ u) per1) nn).1)) ::
            rT (tV (.pointer (some ⟨p1, 1, none⟩))) ::
            rT (tV (.int .i64 (wait tt H (((bn : Int) : Rat)) (divI (flQ u) per1) nn).1)) ::
            rT (tV (.bool true)) ::
            rT (tV (.bool true)) ::
            []) hz hd (by kernel_rfl) ?_ ?_
        · refine ⟨?_, ?_, ?_, ?_, ?_, ?_, trivial⟩
          · exact zIAo hz rfl rfl (sv S13) (kc (v := .int .i64 0)) (fun w => by simp [go_sem])
          · exact zLdO 0 hz (sd 0 rfl) (cl0 Cp1) ldo_int
          · exact zIAo hz rfl rfl (sv S13) (kc (v := .int .i64 1)) (fun w => by simp [go_sem])
          · exact zLdO 1 hz (sd 2 rfl) (cl0 Cp1) ldo_int
          · exact sBin rfl rfl rfl hz rfl (Gd.none_ rfl) rfl (sd 1 rfl) (sd 3 rfl) (fun w => by simp [go_sem])
          · exact zAs hz (sd 4 rfl)
        intro a' γ' W' hz' hd' hC hk hh
        have tp1 := Cp1.lt
        clear Cp1
        have tp11 := Cp11.lt
        clear Cp11
        clear S1
        clear S5
        clear S12
        clear S0
        clear S2
        clear S3
        clear S4
        clear S13
        clear S15
        clear S16
        clear S52
        clear S54
        clear S17
        clear S18
        clear S71
        clear S93
        clear S108
        clear S117
        clear S14
        clear S33
        have S12 := gotV hz' 5 hh rfl rfl rfl rfl
        clear tp1 tp11
        replace HB := aft_call HB (RelC.below_nil hC)
        clear hC hk hh; replace hz := hz'; replace hd := hd'; clear hz' hd'
        refine wp_ret ?_
        exact ret1 (by kernel_rfl) S12 hd ⟨_, rfl, rfl, HB⟩
  · refine region_text (M := []) (
        rT (tV (.int .i64 bn)) ::
        rT (tV (.int .u64 (u : Int))) ::
        rT (tV (.float .f64 u)) ::
        rT (tV (.int .i64 per1)) ::
        rT (tT [tV (.pointer none), tV (.int .i64 (newE bn u per1 0))]) ::
        rT (tT [tV (.pointer none), tV (.int .i64 (newE bn u per1 0))]) ::
        rT (tV (.pointer none)) ::
        rT (tV (.int .i64 (newE bn u per1 0))) ::
        rT (tV (.pointer none)) ::
        rT (tV (.int .i64 (newE bn u per1 0))) ::
        []) hz hd (by kernel_rfl) ?_ ?_
    · refine ⟨?_, ?_, ?_, ?_, ?_, ?_, ?_, ?_, ?_, ?_, trivial⟩
      · exact zMv hz (sv S0)
      · exact zMv hz (sv S1)
      · exact zC1 hz Try.func10 (sd 1 rfl) (k1 (fun _ => c_float))
      · exact zMv hz (sv S2)
      · exact sCall rfl rfl rfl hz rfl (Gd.none_ rfl) rfl Try.func9 (by kernel_rfl) (by kernel_rfl) fun a γ w U => (by show Calls _ _ #[a.eval (.tmp 37), a.eval (.tmp 39), a.eval (.tmp 40), .int .i64 0] _ _; rw [show a.eval (.tmp 37) = .int .i64 bn from Src.at_ (sd 0 rfl) U, show a.eval (.tmp 39) = .float .f64 u from Src.at_ (sd 2 rfl) U, show a.eval (.tmp 40) = .int .i64 per1 from Src.at_ (sd 3 rfl) U]; exact c_new_no (l := l) hl (by omega) hu (by omega) hc2)
      · exact zMv hz (sd 4 rfl)
      · exact zExt hz (sd 5 rfl)
      · exact zExt hz (sd 5 rfl)
      · exact zAs hz (sd 6 rfl)
      · exact zAs hz (sd 7 rfl)
    intro a' γ' W' hz' hd' hC hk hh
    have tp1 := Cp1.lt
    replace Cp1 := kC hC Cp1
    replace S1 := kp hk S1
    replace S5 := kp hk S5
    replace S12 := kp hk S12
    replace S0 := kp hk S0
    replace S2 := kp hk S2
    replace S3 := kp hk S3
    replace S4 := kp hk S4
    replace S13 := kp hk S13
    replace S14 := kp hk S14
    replace S33 := kp hk S33
    have S15 := gotV hz' 8 hh rfl rfl rfl rfl
    have S16 := gotV hz' 9 hh rfl rfl rfl rfl
    clear tp1
    replace HB := aft_call HB (RelC.below_nil hC)
    clear hC hk hh; replace hz := hz'; replace hd := hd'; clear hz' hd'
    refine wp_seq ?_
    refine wp_seq ?_
    refine region_text (M := []) (
        rT (tV (.bool true)) ::
        rT (tV (.bool false)) ::
        rT (tV (.bool false)) ::
        rT (tV (.int .i64 (newE bn u per1 0))) ::
        rT (tV (.bool false)) ::
        rT (tV (.pointer none)) ::
        rT (tV (.bool false)) ::
        rT (tV (.bool false)) ::
        rT (tV (.bool false)) ::
        []) hz hd (by kernel_rfl) ?_ ?_
    · refine ⟨?_, ?_, ?_, ?_, ?_, ?_, ?_, ?_, ?_, trivial⟩
      · exact zC0 hz Try.func12 (fun _ => l_told8)
      · exact zNot hz (sd 0 rfl)
      · exact zMv hz (sd 1 rfl)
      · exact zMv hz (sv S16) (g := gT 2 rfl)
      · exact sBin rfl rfl rfl hz rfl (gT 2 rfl) rfl (sd 3 rfl) kc (fun w => run_f (P := newE bn u per1 0 = 0) ((fun w => run_eqlE) w) hc2)
      · exact zMv hz (sv S15) (g := gT 2 rfl)
      · exact sBin rfl rfl rfl hz rfl (gT 2 rfl) rfl (sd 5 rfl) kc (fun w => by simp [go_sem])
      · exact sBin rfl rfl rfl hz rfl (gT 2 rfl) rfl (sd 4 rfl) (sd 6 rfl) (fun w => by kernel_rfl)
      · exact zPF hz (sd 2 rfl) (sd 7 rfl)
    intro a' γ' W' hz' hd' hC hk hh
    have tp1 := Cp1.lt
    replace Cp1 := kC hC Cp1
    replace S1 := kp hk S1
    replace S5 := kp hk S5
    replace S12 := kp hk S12
    replace S0 := kp hk S0
    replace S2 := kp hk S2
    replace S3 := kp hk S3
    replace S4 := kp hk S4
    replace S13 := kp hk S13
    replace S14 := kp hk S14
    replace S33 := kp hk S33
    replace S15 := kp hk S15
    replace S16 := kp hk S16
    have S52 := gotV hz' 8 hh rfl rfl rfl rfl
    clear tp1
    replace HB := aft_call HB (RelC.below_nil hC)
    clear hC hk hh; replace hz := hz'; replace hd := hd'; clear hz' hd'
    refine wp_cond_false S52.ev ?_
    refine wp_skip ?_
    refine wp_seq ?_
    refine wp_seq ?_
    refine region_text (M := []) (
        rT (tV (.pointer none)) ::
        rT (tV (.bool true)) ::
        []) hz hd (by kernel_rfl) ?_ ?_
    · refine ⟨?_, ?_, trivial⟩
      · exact zMv hz (sv S15)
      · exact sBin rfl rfl rfl hz rfl (Gd.none_ rfl) rfl (sd 0 rfl) kc (fun w => by simp [go_sem])
    intro a' γ' W' hz' hd' hC hk hh
    have tp1 := Cp1.lt
    replace Cp1 := kC hC Cp1
    replace S1 := kp hk S1
    replace S5 := kp hk S5
    replace S12 := kp hk S12
    replace S0 := kp hk S0
    replace S2 := kp hk S2
    replace S3 := kp hk S3
    replace S4 := kp hk S4
    replace S13 := kp hk S13
    replace S14 := kp hk S14
    replace S33 := kp hk S33
    replace S15 := kp hk S15
    replace S16 := kp hk S16
    replace S52 := kp hk S52
    have S54 := gotV hz' 1 hh rfl rfl rfl rfl
    clear tp1
    replace HB := aft_call HB (RelC.below_nil hC)
    clear hC hk hh; replace hz := hz'; replace hd := hd'; clear hz' hd'
    refine wp_cond_true S54.ev ?_
    refine wp_seq ?_
    refine region_text (M := []) (
        rT (tV (.bool true)) ::
        []) hz hd (by kernel_rfl) ?_ ?_
    · refine ⟨?_, trivial⟩
      · exact zAs hz kc
    intro a' γ' W' hz' hd' hC hk hh
    have tp1 := Cp1.lt
    replace Cp1 := kC hC Cp1
    replace S1 := kp hk S1
    replace S5 := kp hk S5
    clear S12
    replace S0 := kp hk S0
    replace S2 := kp hk S2
    replace S3 := kp hk S3
    replace S4 := kp hk S4
    replace S13 := kp hk S13
    replace S14 := kp hk S14
    replace S33 := kp hk S33
    replace S15 := kp hk S15
    replace S16 := kp hk S16
    replace S52 := kp hk S52
    replace S54 := kp hk S54
    have S12 := gotV hz' 0 hh rfl rfl rfl rfl
    clear tp1
    replace HB := aft_call HB (RelC.below_nil hC)
    clear hC hk hh; replace hz := hz'; replace hd := hd'; clear hz' hd'
    refine wp_ret ?_
    exact ret1 (by kernel_rfl) S12 hd ⟨_, rfl, rfl, HB⟩
end Go.Proofs.Ytojpiiboikomfaa.Rg

namespace Go.Proofs.Ytojpiiboikomfaa.Rg

open Go.RowKit Go.ChangeShapes Go.WideShapes Go.ChangeAt Go.Deep

theorem bucketWaits_walk (b u per t n us : Int) (w : World) (hb : (Lit.int .i64 b).wf = true) (hu : (Lit.int .u64 u).wf = true) (hp : (Lit.int .i64 per).wf = true) (ht : (Lit.int .i64 t).wf = true) (hn : (Lit.int .i64 n).wf = true) (hus : (Lit.int .i64 us).wf = true) : Calls Try.prog 7 #[.int .i64 b, .int .u64 u, .int .i64 per, .int .i64 t, .int .i64 n, .int .i64 us] w fun e w' => e = .returned (.bool true) ∧ Below w.heap.size w w' := by
  obtain ⟨u, rfl, hu2⟩ := u64_r hu
  obtain ⟨hb1, hb2⟩ := i64_r hb
  obtain ⟨hp1, hp2⟩ := i64_r hp
  obtain ⟨ht1, ht2⟩ := i64_r ht
  obtain ⟨hn1, hn2⟩ := i64_r hn
  obtain ⟨hs1, hs2⟩ := i64_r hus
  exact ret_out8 (bucketWaits_ret (l := 1100) (by omega) (by omega) hu2 hb1 hb2 hp1 hp2 ht1 ht2 hn1 hn2 hs1 hs2)
end Go.Proofs.Ytojpiiboikomfaa.Rg
