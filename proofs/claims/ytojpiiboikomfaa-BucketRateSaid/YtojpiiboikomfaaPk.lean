/-
  Walks and plain laws, put together: OU OJ OR.
-/
import Derived.Test.YtojpiiboikomfaaPj
set_option linter.unusedVariables false
set_option linter.unusedSimpArgs false
namespace Go.Proofs.Ytojpiiboikomfaa.Rg

open Go.RowKit

set_option maxRecDepth 10000 in
set_option maxHeartbeats 2000000 in
theorem d_rate {l u : Nat} {w : World}  (hu : u < 18446744073709551616) (hl : 1100 ≤ l) :
    Calls Try.prog 11 #[.int .u64 (u : Int)] w (Ret (tT [tQ B32 l (rtQ u), tV (.bool (decide (RtOk u)))]) w) := by
  refine enter Try.func11 rfl Try.ntmps11 (by simp) ?_
  intro a hz hd ha
  have S0 := ha 0 _ rfl
  clear ha
  have HB : Below w.heap.size w w := Below.refl _ _
  have hex := ex_lt u
  have hma := ma_lt u
  refine wp_seq ?_
  refine region_text (M := []) (
      rB 0 35 (tR B32 0 0 0 0) none 0 ::
      rT (tV (.bool false)) ::
      []) hz hd (by kernel_rfl) ?_ ?_
  · refine ⟨?_, ?_, trivial⟩
    · exact zNew hz tR_nl al_r32
    · exact zAs hz kc
  intro a' γ' W' hz' hd' hC hk hh
  replace S0 := kp hk S0
  obtain ⟨p1, S2, Cp1, lp1, gp1⟩ := gotB hz' 0 hC hh rfl rfl rfl rfl rfl rfl
  have S3 := gotV hz' 1 hh rfl rfl rfl rfl
  have bp1 : w.heap.size ≤ p1 := Nat.le_trans HB.size lp1
  clear lp1 gp1
  replace HB := aft_call HB (RelC.below_nil hC)
  clear hC hk hh; replace hz := hz'; replace hd := hd'; clear hz' hd'
  refine wp_seq ?_
  refine region_text (M := []) (
      rT (tV (.int .u64 (u : Int))) ::
      rT (tV (.int .u64 ((u / 4503599627370496 : Nat) : Int))) ::
      rT (tV (.int .u64 ((ex u : Nat) : Int))) ::
      rT (tV (.int .i64 ((ex u : Nat) : Int))) ::
      rT (tV (.int .i64 ((ex u : Nat) : Int))) ::
      []) hz hd (by kernel_rfl) ?_ ?_
  · refine ⟨?_, ?_, ?_, ?_, ?_, trivial⟩
    · exact zMv hz (sv S0)
    · exact sBin rfl rfl rfl hz rfl (Gd.none_ rfl) rfl (sd 0 rfl) kc (fun w => f_shr w)
    · exact sBin rfl rfl rfl hz rfl (Gd.none_ rfl) rfl (sd 1 rfl) kc (fun w => f_ex hu w)
    · exact sConv (T' := tV (.int .u64 ((ex u : Nat) : Int))) rfl rfl rfl hz rfl (Gd.none_ rfl) rfl (sd 2 rfl) (fun v_ w_ h_ => by have h_ : v_ = .int .u64 ((ex u : Nat) : Int) := h_; subst h_; exact ⟨_, by simp [go_sem, IntKind.wrap_i64]; omega, rfl⟩)
    · exact zAs hz (sd 3 rfl)
  intro a' γ' W' hz' hd' hC hk hh
  have tp1 := Cp1.lt
  replace Cp1 := kC hC Cp1
  replace S0 := kp hk S0
  replace S2 := kp hk S2
  replace S3 := kp hk S3
  have S4 := gotV hz' 4 hh rfl rfl rfl rfl
  clear tp1
  replace HB := aft_call HB (RelC.below_nil hC)
  clear hC hk hh; replace hz := hz'; replace hd := hd'; clear hz' hd'
  refine wp_seq ?_
  refine region_text (M := []) (
      rT (tV (.int .u64 (u : Int))) ::
      rT (tV (.int .u64 ((ma u : Nat) : Int))) ::
      rT (tV (.int .u64 ((ma u : Nat) : Int))) ::
      []) hz hd (by kernel_rfl) ?_ ?_
  · refine ⟨?_, ?_, ?_, trivial⟩
    · exact zMv hz (sv S0)
    · exact sBin rfl rfl rfl hz rfl (Gd.none_ rfl) rfl (sd 0 rfl) kc (fun w => f_ma hu w)
    · exact zAs hz (sd 1 rfl)
  intro a' γ' W' hz' hd' hC hk hh
  have tp1 := Cp1.lt
  replace Cp1 := kC hC Cp1
  replace S0 := kp hk S0
  replace S2 := kp hk S2
  replace S3 := kp hk S3
  replace S4 := kp hk S4
  have S5 := gotV hz' 2 hh rfl rfl rfl rfl
  clear tp1
  replace HB := aft_call HB (RelC.below_nil hC)
  clear hC hk hh; replace hz := hz'; replace hd := hd'; clear hz' hd'
  refine wp_seq ?_
  refine wp_seq ?_
  by_cases hc2 : ((ex u : Nat) : Int) = 2047
  · refine region_text (M := []) (
        rT (tV (.int .i64 ((ex u : Nat) : Int))) ::
        rT (tV (.bool true)) ::
        rT (tV (.bool true)) ::
        rT (tV undef) ::
        rT (tV undef) ::
        rT (tV undef) ::
        rT (tV undef) ::
        rT (tV undef) ::
        rT (tV undef) ::
        rT (tV undef) ::
        rT (tV undef) ::
        rT (tV (.bool true)) ::
        rT (tV (.bool true)) ::
        rT (tV undef) ::
        rT (tV undef) ::
        rT (tV (.bool true)) ::
        rT (tV (.bool true)) ::
        rT (tV undef) ::
        rT (tV undef) ::
        rT (tV undef) ::
        rT (tV undef) ::
        rT (tV undef) ::
        rT (tV undef) ::
        rT (tV (.bool true)) ::
        []) hz hd (by kernel_rfl) ?_ ?_
    · refine ⟨?_, ?_, ?_, ?_, ?_, ?_, ?_, ?_, ?_, ?_, ?_, ?_, ?_, ?_, ?_, ?_, ?_, ?_, ?_, ?_, ?_, ?_, ?_, ?_, trivial⟩
      · exact zMv hz (sv S4)
      · exact sBin rfl rfl rfl hz rfl (Gd.none_ rfl) rfl (sd 0 rfl) kc (fun w => run_t (P := ((ex u : Nat) : Int) = 2047) ((fun w => run_eql) w) hc2)
      · exact zMv hz (sd 1 rfl)
      · exact zSkU hz (gN 2 rfl)
      · exact zSkU hz (gN 2 rfl)
      · exact zSkU hz (gN 2 rfl)
      · exact zSkU hz (gN 2 rfl)
      · exact zSkU hz (gU 6 rfl)
      · exact zSkU hz (gU 6 rfl)
      · exact zSkU hz (gU 6 rfl)
      · exact zSkU hz (gN 2 rfl)
      · exact zPT hz (sd 2 rfl) kc
      · exact zMv hz (sd 11 rfl)
      · exact zSkU hz (gN 12 rfl)
      · exact zSkU hz (gN 12 rfl)
      · exact zPT hz (sd 12 rfl) kc
      · exact zMv hz (sd 15 rfl)
      · exact zSkU hz (gN 16 rfl)
      · exact zSkU hz (gN 16 rfl)
      · exact zSkU hz (gN 16 rfl)
      · exact zSkU hz (gU 19 rfl)
      · exact zSkU hz (gU 19 rfl)
      · exact zSkU hz (gN 16 rfl)
      · exact zPT hz (sd 16 rfl) kc
    intro a' γ' W' hz' hd' hC hk hh
    have tp1 := Cp1.lt
    replace Cp1 := kC hC Cp1
    clear S0
    replace S2 := kp hk S2
    replace S3 := kp hk S3
    replace S4 := kp hk S4
    replace S5 := kp hk S5
    have S37 := gotV hz' 23 hh rfl rfl rfl rfl
    clear tp1
    replace HB := aft_call HB (RelC.below_nil hC)
    clear hC hk hh; replace hz := hz'; replace hd := hd'; clear hz' hd'
    refine wp_cond_true S37.ev ?_
    refine wp_seq ?_
    refine region_text (M := [p1]) (
        rT (tQ B32 1 0) ::
        rE 0 35 (tQ B32 1 0) p1 ::
        rT (tV (.bool false)) ::
        []) hz hd (by kernel_rfl) ?_ ?_
    · refine ⟨?_, ?_, ?_, trivial⟩
      · exact zC0 hz Try.func35 (fun _ => dq_zero)
      · exact zSE rfl (sv S2) (by simp [tagOf]) (Cp1.var tR_nd) (sd 0 rfl) st_q32
      · exact zAs hz kc
    intro a' γ' W' hz' hd' hC hk hh
    replace Cp1 := gotE (T := tQ B32 1 0) (id := 35) (p := p1) 1 hh rfl rfl
    replace S2 := kp hk S2
    clear S3
    replace S4 := kp hk S4
    replace S5 := kp hk S5
    clear S37
    have S3 := gotV hz' 2 hh rfl rfl rfl rfl
    replace HB := RelC.aftM HB hC (by intro m hm; simp at hm; rcases hm with rfl <;> assumption)
    clear hC hk hh; replace hz := hz'; replace hd := hd'; clear hz' hd'
    refine wp_ret ?_
    refine ret_to (T := tT [tQ B32 1 0, tV (.bool false)]) (retct_q32 (by kernel_rfl) S2 S3 hd Cp1 HB) ?_
    exact to2 (tQ_to (by decide) (by unfold rtQ; rw [if_neg (by rw [rt_iff hu]; omega)]) (by omega)) (tV_to (by rw [decide_eq_false (by rw [rt_iff hu]; omega)]))
  · by_cases hc3 : ((u / 9223372036854775808 : Nat) : Int) = 1
    · by_cases hc4 : ((u * 2 % 18446744073709551616 : Nat) : Int) ≠ 0
      · refine region_text (M := []) (
            rT (tV (.int .i64 ((ex u : Nat) : Int))) ::
            rT (tV (.bool false)) ::
            rT (tV (.bool false)) ::
            rT (tV (.int .u64 (u : Int))) ::
            rT (tV (.int .u64 ((u / 9223372036854775808 : Nat) : Int))) ::
            rT (tV (.bool true)) ::
            rT (tV (.bool true)) ::
            rT (tV (.int .u64 (u : Int))) ::
            rT (tV (.int .u64 ((u * 2 % 18446744073709551616 : Nat) : Int))) ::
            rT (tV (.bool true)) ::
            rT (tV (.bool true)) ::
            rT (tV (.bool true)) ::
            rT (tV (.bool true)) ::
            rT (tV undef) ::
            rT (tV undef) ::
            rT (tV (.bool true)) ::
            rT (tV (.bool true)) ::
            rT (tV undef) ::
            rT (tV undef) ::
            rT (tV undef) ::
            rT (tV undef) ::
            rT (tV undef) ::
            rT (tV undef) ::
            rT (tV (.bool true)) ::
            []) hz hd (by kernel_rfl) ?_ ?_
        · refine ⟨?_, ?_, ?_, ?_, ?_, ?_, ?_, ?_, ?_, ?_, ?_, ?_, ?_, ?_, ?_, ?_, ?_, ?_, ?_, ?_, ?_, ?_, ?_, ?_, trivial⟩
          · exact zMv hz (sv S4)
          · exact sBin rfl rfl rfl hz rfl (Gd.none_ rfl) rfl (sd 0 rfl) kc (fun w => run_f (P := ((ex u : Nat) : Int) = 2047) ((fun w => run_eql) w) hc2)
          · exact zMv hz (sd 1 rfl)
          · exact zMv hz (sv S0) (g := gT 2 rfl)
          · exact sBin rfl rfl rfl hz rfl (gT 2 rfl) rfl (sd 3 rfl) kc (fun w => f_shr63 w)
          · exact sBin rfl rfl rfl hz rfl (gT 2 rfl) rfl (sd 4 rfl) kc (fun w => run_t (P := ((u / 9223372036854775808 : Nat) : Int) = 1) ((fun w => run_eqlu) w) hc3)
          · exact zMv hz (sd 5 rfl) (g := gT 2 rfl)
          · exact zMv hz (sv S0) (g := gT 6 rfl)
          · exact sBin rfl rfl rfl hz rfl (gT 6 rfl) rfl (sd 7 rfl) kc (fun w => f_shl1 w)
          · exact sBin rfl rfl rfl hz rfl (gT 6 rfl) rfl (sd 8 rfl) kc (fun w => run_t (P := ((u * 2 % 18446744073709551616 : Nat) : Int) ≠ 0) ((fun w => run_nequ) w) hc4)
          · exact zPT hz (sd 6 rfl) (sd 9 rfl) (g := gT 2 rfl)
          · exact zPF hz (sd 2 rfl) (sd 10 rfl)
          · exact zMv hz (sd 11 rfl)
          · exact zSkU hz (gN 12 rfl)
          · exact zSkU hz (gN 12 rfl)
          · exact zPT hz (sd 12 rfl) kc
          · exact zMv hz (sd 15 rfl)
          · exact zSkU hz (gN 16 rfl)
          · exact zSkU hz (gN 16 rfl)
          · exact zSkU hz (gN 16 rfl)
          · exact zSkU hz (gU 19 rfl)
          · exact zSkU hz (gU 19 rfl)
          · exact zSkU hz (gN 16 rfl)
          · exact zPT hz (sd 16 rfl) kc
        intro a' γ' W' hz' hd' hC hk hh
        have tp1 := Cp1.lt
        replace Cp1 := kC hC Cp1
        clear S0
        replace S2 := kp hk S2
        replace S3 := kp hk S3
        replace S4 := kp hk S4
        replace S5 := kp hk S5
        have S37 := gotV hz' 23 hh rfl rfl rfl rfl
        clear tp1
        replace HB := aft_call HB (RelC.below_nil hC)
        clear hC hk hh; replace hz := hz'; replace hd := hd'; clear hz' hd'
        refine wp_cond_true S37.ev ?_
        refine wp_seq ?_
        refine region_text (M := [p1]) (
            rT (tQ B32 1 0) ::
            rE 0 35 (tQ B32 1 0) p1 ::
            rT (tV (.bool false)) ::
            []) hz hd (by kernel_rfl) ?_ ?_
        · refine ⟨?_, ?_, ?_, trivial⟩
          · exact zC0 hz Try.func35 (fun _ => dq_zero)
          · exact zSE rfl (sv S2) (by simp [tagOf]) (Cp1.var tR_nd) (sd 0 rfl) st_q32
          · exact zAs hz kc
        intro a' γ' W' hz' hd' hC hk hh
        replace Cp1 := gotE (T := tQ B32 1 0) (id := 35) (p := p1) 1 hh rfl rfl
        replace S2 := kp hk S2
        clear S3
        replace S4 := kp hk S4
        replace S5 := kp hk S5
        clear S37
        have S3 := gotV hz' 2 hh rfl rfl rfl rfl
        replace HB := RelC.aftM HB hC (by intro m hm; simp at hm; rcases hm with rfl <;> assumption)
        clear hC hk hh; replace hz := hz'; replace hd := hd'; clear hz' hd'
        refine wp_ret ?_
        refine ret_to (T := tT [tQ B32 1 0, tV (.bool false)]) (retct_q32 (by kernel_rfl) S2 S3 hd Cp1 HB) ?_
        exact to2 (tQ_to (by decide) (by unfold rtQ; rw [if_neg (by rw [rt_iff hu]; omega)]) (by omega)) (tV_to (by rw [decide_eq_false (by rw [rt_iff hu]; omega)]))
      · by_cases hc5 : ((ex u : Nat) : Int) > 1043
        · refine region_text (M := []) (
              rT (tV (.int .i64 ((ex u : Nat) : Int))) ::
              rT (tV (.bool false)) ::
              rT (tV (.bool false)) ::
              rT (tV (.int .u64 (u : Int))) ::
              rT (tV (.int .u64 ((u / 9223372036854775808 : Nat) : Int))) ::
              rT (tV (.bool true)) ::
              rT (tV (.bool true)) ::
              rT (tV (.int .u64 (u : Int))) ::
              rT (tV (.int .u64 ((u * 2 % 18446744073709551616 : Nat) : Int))) ::
              rT (tV (.bool false)) ::
              rT (tV (.bool false)) ::
              rT (tV (.bool false)) ::
              rT (tV (.bool false)) ::
              rT (tV (.int .i64 ((ex u : Nat) : Int))) ::
              rT (tV (.bool true)) ::
              rT (tV (.bool true)) ::
              rT (tV (.bool true)) ::
              rT (tV undef) ::
              rT (tV undef) ::
              rT (tV undef) ::
              rT (tV undef) ::
              rT (tV undef) ::
              rT (tV undef) ::
              rT (tV (.bool true)) ::
              []) hz hd (by kernel_rfl) ?_ ?_
          · refine ⟨?_, ?_, ?_, ?_, ?_, ?_, ?_, ?_, ?_, ?_, ?_, ?_, ?_, ?_, ?_, ?_, ?_, ?_, ?_, ?_, ?_, ?_, ?_, ?_, trivial⟩
            · exact zMv hz (sv S4)
            · exact sBin rfl rfl rfl hz rfl (Gd.none_ rfl) rfl (sd 0 rfl) kc (fun w => run_f (P := ((ex u : Nat) : Int) = 2047) ((fun w => run_eql) w) hc2)
            · exact zMv hz (sd 1 rfl)
            · exact zMv hz (sv S0) (g := gT 2 rfl)
            · exact sBin rfl rfl rfl hz rfl (gT 2 rfl) rfl (sd 3 rfl) kc (fun w => f_shr63 w)
            · exact sBin rfl rfl rfl hz rfl (gT 2 rfl) rfl (sd 4 rfl) kc (fun w => run_t (P := ((u / 9223372036854775808 : Nat) : Int) = 1) ((fun w => run_eqlu) w) hc3)
            · exact zMv hz (sd 5 rfl) (g := gT 2 rfl)
            · exact zMv hz (sv S0) (g := gT 6 rfl)
            · exact sBin rfl rfl rfl hz rfl (gT 6 rfl) rfl (sd 7 rfl) kc (fun w => f_shl1 w)
            · exact sBin rfl rfl rfl hz rfl (gT 6 rfl) rfl (sd 8 rfl) kc (fun w => run_f (P := ((u * 2 % 18446744073709551616 : Nat) : Int) ≠ 0) ((fun w => run_nequ) w) hc4)
            · exact zPT hz (sd 6 rfl) (sd 9 rfl) (g := gT 2 rfl)
            · exact zPF hz (sd 2 rfl) (sd 10 rfl)
            · exact zMv hz (sd 11 rfl)
            · exact zMv hz (sv S4) (g := gT 12 rfl)
            · exact sBin rfl rfl rfl hz rfl (gT 12 rfl) rfl (sd 13 rfl) kc (fun w => run_t (P := ((ex u : Nat) : Int) > 1043) ((fun w => run_gtr) w) hc5)
            · exact zPF hz (sd 12 rfl) (sd 14 rfl)
            · exact zMv hz (sd 15 rfl)
            · exact zSkU hz (gN 16 rfl)
            · exact zSkU hz (gN 16 rfl)
            · exact zSkU hz (gN 16 rfl)
            · exact zSkU hz (gU 19 rfl)
            · exact zSkU hz (gU 19 rfl)
            · exact zSkU hz (gN 16 rfl)
            · exact zPT hz (sd 16 rfl) kc
          intro a' γ' W' hz' hd' hC hk hh
          have tp1 := Cp1.lt
          replace Cp1 := kC hC Cp1
          clear S0
          replace S2 := kp hk S2
          replace S3 := kp hk S3
          replace S4 := kp hk S4
          replace S5 := kp hk S5
          have S37 := gotV hz' 23 hh rfl rfl rfl rfl
          clear tp1
          replace HB := aft_call HB (RelC.below_nil hC)
          clear hC hk hh; replace hz := hz'; replace hd := hd'; clear hz' hd'
          refine wp_cond_true S37.ev ?_
          refine wp_seq ?_
          refine region_text (M := [p1]) (
              rT (tQ B32 1 0) ::
              rE 0 35 (tQ B32 1 0) p1 ::
              rT (tV (.bool false)) ::
              []) hz hd (by kernel_rfl) ?_ ?_
          · refine ⟨?_, ?_, ?_, trivial⟩
            · exact zC0 hz Try.func35 (fun _ => dq_zero)
            · exact zSE rfl (sv S2) (by simp [tagOf]) (Cp1.var tR_nd) (sd 0 rfl) st_q32
            · exact zAs hz kc
          intro a' γ' W' hz' hd' hC hk hh
          replace Cp1 := gotE (T := tQ B32 1 0) (id := 35) (p := p1) 1 hh rfl rfl
          replace S2 := kp hk S2
          clear S3
          replace S4 := kp hk S4
          replace S5 := kp hk S5
          clear S37
          have S3 := gotV hz' 2 hh rfl rfl rfl rfl
          replace HB := RelC.aftM HB hC (by intro m hm; simp at hm; rcases hm with rfl <;> assumption)
          clear hC hk hh; replace hz := hz'; replace hd := hd'; clear hz' hd'
          refine wp_ret ?_
          refine ret_to (T := tT [tQ B32 1 0, tV (.bool false)]) (retct_q32 (by kernel_rfl) S2 S3 hd Cp1 HB) ?_
          exact to2 (tQ_to (by decide) (by unfold rtQ; rw [if_neg (by rw [rt_iff hu]; omega)]) (by omega)) (tV_to (by rw [decide_eq_false (by rw [rt_iff hu]; omega)]))
        · by_cases hc6 : ((ex u : Nat) : Int) = 1043
          · refine region_text (M := []) (
                rT (tV (.int .i64 ((ex u : Nat) : Int))) ::
                rT (tV (.bool false)) ::
                rT (tV (.bool false)) ::
                rT (tV (.int .u64 (u : Int))) ::
                rT (tV (.int .u64 ((u / 9223372036854775808 : Nat) : Int))) ::
                rT (tV (.bool true)) ::
                rT (tV (.bool true)) ::
                rT (tV (.int .u64 (u : Int))) ::
                rT (tV (.int .u64 ((u * 2 % 18446744073709551616 : Nat) : Int))) ::
                rT (tV (.bool false)) ::
                rT (tV (.bool false)) ::
                rT (tV (.bool false)) ::
                rT (tV (.bool false)) ::
                rT (tV (.int .i64 ((ex u : Nat) : Int))) ::
                rT (tV (.bool false)) ::
                rT (tV (.bool false)) ::
                rT (tV (.bool false)) ::
                rT (tV (.int .i64 ((ex u : Nat) : Int))) ::
                rT (tV (.bool true)) ::
                rT (tV (.bool true)) ::
                rT (tV (.int .u64 ((ma u : Nat) : Int))) ::
                rT (tV (.bool (decide (((ma u : Nat) : Int) > 0)))) ::
                rT (tV (.bool (decide (((ma u : Nat) : Int) > 0)))) ::
                rT (tV (.bool (decide (((ma u : Nat) : Int) > 0)))) ::
                []) hz hd (by kernel_rfl) ?_ ?_
            · refine ⟨?_, ?_, ?_, ?_, ?_, ?_, ?_, ?_, ?_, ?_, ?_, ?_, ?_, ?_, ?_, ?_, ?_, ?_, ?_, ?_, ?_, ?_, ?_, ?_, trivial⟩
              · exact zMv hz (sv S4)
              · exact sBin rfl rfl rfl hz rfl (Gd.none_ rfl) rfl (sd 0 rfl) kc (fun w => run_f (P := ((ex u : Nat) : Int) = 2047) ((fun w => run_eql) w) hc2)
              · exact zMv hz (sd 1 rfl)
              · exact zMv hz (sv S0) (g := gT 2 rfl)
              · exact sBin rfl rfl rfl hz rfl (gT 2 rfl) rfl (sd 3 rfl) kc (fun w => f_shr63 w)
              · exact sBin rfl rfl rfl hz rfl (gT 2 rfl) rfl (sd 4 rfl) kc (fun w => run_t (P := ((u / 9223372036854775808 : Nat) : Int) = 1) ((fun w => run_eqlu) w) hc3)
              · exact zMv hz (sd 5 rfl) (g := gT 2 rfl)
              · exact zMv hz (sv S0) (g := gT 6 rfl)
              · exact sBin rfl rfl rfl hz rfl (gT 6 rfl) rfl (sd 7 rfl) kc (fun w => f_shl1 w)
              · exact sBin rfl rfl rfl hz rfl (gT 6 rfl) rfl (sd 8 rfl) kc (fun w => run_f (P := ((u * 2 % 18446744073709551616 : Nat) : Int) ≠ 0) ((fun w => run_nequ) w) hc4)
              · exact zPT hz (sd 6 rfl) (sd 9 rfl) (g := gT 2 rfl)
              · exact zPF hz (sd 2 rfl) (sd 10 rfl)
              · exact zMv hz (sd 11 rfl)
              · exact zMv hz (sv S4) (g := gT 12 rfl)
              · exact sBin rfl rfl rfl hz rfl (gT 12 rfl) rfl (sd 13 rfl) kc (fun w => run_f (P := ((ex u : Nat) : Int) > 1043) ((fun w => run_gtr) w) hc5)
              · exact zPF hz (sd 12 rfl) (sd 14 rfl)
              · exact zMv hz (sd 15 rfl)
              · exact zMv hz (sv S4) (g := gT 16 rfl)
              · exact sBin rfl rfl rfl hz rfl (gT 16 rfl) rfl (sd 17 rfl) kc (fun w => run_t (P := ((ex u : Nat) : Int) = 1043) ((fun w => run_eql) w) hc6)
              · exact zMv hz (sd 18 rfl) (g := gT 16 rfl)
              · exact zMv hz (sv S5) (g := gT 19 rfl)
              · exact sBin rfl rfl rfl hz rfl (gT 19 rfl) rfl (sd 20 rfl) kc (fun w => run_gtru)
              · exact zPT hz (sd 19 rfl) (sd 21 rfl) (g := gT 16 rfl)
              · exact zPF hz (sd 16 rfl) (sd 22 rfl)
            intro a' γ' W' hz' hd' hC hk hh
            have tp1 := Cp1.lt
            replace Cp1 := kC hC Cp1
            clear S0
            replace S2 := kp hk S2
            replace S3 := kp hk S3
            replace S4 := kp hk S4
            replace S5 := kp hk S5
            have S37 := gotV hz' 23 hh rfl rfl rfl rfl
            clear tp1
            replace HB := aft_call HB (RelC.below_nil hC)
            clear hC hk hh; replace hz := hz'; replace hd := hd'; clear hz' hd'
            by_cases hc7 : ((ma u : Nat) : Int) > 0
            · rw [decide_eq_true hc7] at S37
              refine wp_cond_true S37.ev ?_
              refine wp_seq ?_
              refine region_text (M := [p1]) (
                  rT (tQ B32 1 0) ::
                  rE 0 35 (tQ B32 1 0) p1 ::
                  rT (tV (.bool false)) ::
                  []) hz hd (by kernel_rfl) ?_ ?_
              · refine ⟨?_, ?_, ?_, trivial⟩
                · exact zC0 hz Try.func35 (fun _ => dq_zero)
                · exact zSE rfl (sv S2) (by simp [tagOf]) (Cp1.var tR_nd) (sd 0 rfl) st_q32
                · exact zAs hz kc
              intro a' γ' W' hz' hd' hC hk hh
              replace Cp1 := gotE (T := tQ B32 1 0) (id := 35) (p := p1) 1 hh rfl rfl
              replace S2 := kp hk S2
              clear S3
              replace S4 := kp hk S4
              replace S5 := kp hk S5
              clear S37
              have S3 := gotV hz' 2 hh rfl rfl rfl rfl
              replace HB := RelC.aftM HB hC (by intro m hm; simp at hm; rcases hm with rfl <;> assumption)
              clear hC hk hh; replace hz := hz'; replace hd := hd'; clear hz' hd'
              refine wp_ret ?_
              refine ret_to (T := tT [tQ B32 1 0, tV (.bool false)]) (retct_q32 (by kernel_rfl) S2 S3 hd Cp1 HB) ?_
              exact to2 (tQ_to (by decide) (by unfold rtQ; rw [if_neg (by rw [rt_iff hu]; omega)]) (by omega)) (tV_to (by rw [decide_eq_false (by rw [rt_iff hu]; omega)]))
            · rw [decide_eq_false hc7] at S37
              refine wp_cond_false S37.ev ?_
              refine wp_skip ?_
              refine wp_seq ?_
              refine wp_seq ?_
              refine region_text (M := []) (
                  rT (tV (.int .i64 ((ex u : Nat) : Int))) ::
                  rT (tV (.bool (decide (((ex u : Nat) : Int) = 0)))) ::
                  []) hz hd (by kernel_rfl) ?_ ?_
              · refine ⟨?_, ?_, trivial⟩
                · exact zMv hz (sv S4)
                · exact sBin rfl rfl rfl hz rfl (Gd.none_ rfl) rfl (sd 0 rfl) kc (fun w => run_eql)
              intro a' γ' W' hz' hd' hC hk hh
              have tp1 := Cp1.lt
              replace Cp1 := kC hC Cp1
              replace S2 := kp hk S2
              replace S3 := kp hk S3
              replace S4 := kp hk S4
              replace S5 := kp hk S5
              clear S37
              have S40 := gotV hz' 1 hh rfl rfl rfl rfl
              clear tp1
              replace HB := aft_call HB (RelC.below_nil hC)
              clear hC hk hh; replace hz := hz'; replace hd := hd'; clear hz' hd'
              by_cases hc8 : ((ex u : Nat) : Int) = 0
              · rw [decide_eq_true hc8] at S40
                refine wp_cond_true S40.ev ?_
                refine region_text (M := []) (
                    rT (tV (.int .i64 1)) ::
                    []) hz hd (by kernel_rfl) ?_ ?_
                · refine ⟨?_, trivial⟩
                  · exact zAs hz kc
                intro a' γ' W' hz' hd' hC hk hh
                have tp1 := Cp1.lt
                replace Cp1 := kC hC Cp1
                replace S2 := kp hk S2
                replace S3 := kp hk S3
                clear S4
                replace S5 := kp hk S5
                clear S40
                have S4 := gotV hz' 0 hh rfl rfl rfl rfl
                clear tp1
                replace HB := aft_call HB (RelC.below_nil hC)
                clear hC hk hh; replace hz := hz'; replace hd := hd'; clear hz' hd'
                refine wp_seq ?_
                refine region_text (M := []) (
                    rT (tV (.int .u64 ((ma u : Nat) : Int))) ::
                    rT (tN B32 2 (ma u)) ::
                    rT (tN B32 2 1) ::
                    rVar 3 33 1 ::
                    rVar 4 33 1 ::
                    rB 3 33 (tN B32 2 (ma u)) (some 3) 4 ::
                    rB 4 33 (tN B32 2 1) (some 4) 5 ::
                    []) hz hd (by kernel_rfl) ?_ ?_
                · refine ⟨?_, ?_, ?_, ?_, ?_, ?_, ?_, trivial⟩
                  · exact zMv hz (sv S5)
                  · exact zC1 hz Try.func21 (sd 0 rfl) (k1 (fun _ => d_of (by unfold B64; omega)))
                  · exact zC1 hz Try.func21 (kc (v := .int .u64 1)) (k1 (fun _ => d_of (by decide)))
                  · exact zAl hz nd_slice al_n32
                  · exact zAl hz nd_slice al_n32
                  · exact zSt (sd 1 rfl) st_n32
                  · exact zSt (sd 2 rfl) st_n32
                intro a' γ' W' hz' hd' hC hk hh
                have ep1 := Cp1.lt
                have tp1 := Cp1.lt
                replace Cp1 := kC hC Cp1
                replace S2 := kp hk S2
                replace S3 := kp hk S3
                clear S5
                replace S4 := kp hk S4
                obtain ⟨p9, S6, Cp9, lp9, gp9⟩ := gotB hz' 5 hC hh rfl rfl rfl rfl rfl rfl
                obtain ⟨p10, S7, Cp10, lp10, gp10⟩ := gotB hz' 6 hC hh rfl rfl rfl rfl rfl rfl
                have n_p9_p1 : p9 ≠ p1 := by omega
                have n_p9_p10 : p9 ≠ p10 := by intro e; rw [e, gp10] at gp9; omega
                have n_p10_p1 : p10 ≠ p1 := by omega
                have n_p10_p9 : p10 ≠ p9 := by intro e; rw [e, gp9] at gp10; omega
                have n_p1_p9 : p1 ≠ p9 := by have := ep1; omega
                have n_p1_p10 : p1 ≠ p10 := by have := ep1; omega
                have bp9 : w.heap.size ≤ p9 := Nat.le_trans HB.size lp9
                have bp10 : w.heap.size ≤ p10 := Nat.le_trans HB.size lp10
                clear lp9 gp9 lp10 gp10
                clear tp1
                clear ep1
                replace HB := aft_call HB (RelC.below_nil hC)
                clear hC hk hh; replace hz := hz'; replace hd := hd'; clear hz' hd'
                refine wp_seq ?_
                refine wp_seq ?_
                refine region_text (M := []) (
                    rT (tV (.int .i64 1)) ::
                    rT (tV (.bool false)) ::
                    []) hz hd (by kernel_rfl) ?_ ?_
                · refine ⟨?_, ?_, trivial⟩
                  · exact zMv hz (sv S4)
                  · exact sBin rfl rfl rfl hz rfl (Gd.none_ rfl) rfl (sd 0 rfl) kc (fun w => by simp [go_sem])
                intro a' γ' W' hz' hd' hC hk hh
                have tp1 := Cp1.lt
                replace Cp1 := kC hC Cp1
                have tp9 := Cp9.lt
                replace Cp9 := kC hC Cp9
                have tp10 := Cp10.lt
                replace Cp10 := kC hC Cp10
                replace S2 := kp hk S2
                replace S3 := kp hk S3
                replace S4 := kp hk S4
                replace S6 := kp hk S6
                replace S7 := kp hk S7
                have S47 := gotV hz' 1 hh rfl rfl rfl rfl
                clear tp1 tp9 tp10
                replace HB := aft_call HB (RelC.below_nil hC)
                clear hC hk hh; replace hz := hz'; replace hd := hd'; clear hz' hd'
                refine wp_cond_false S47.ev ?_
                refine region_text (M := [p10]) (
                    rT (tN B32 2 1) ::
                    rT (tV (.int .i64 1)) ::
                    rT (tV (.int .i64 1074)) ::
                    rT (tN B32 67 (1 * 2 ^ 1074)) ::
                    rE 0 33 (tN B32 67 (1 * 2 ^ 1074)) p10 ::
                    []) hz hd (by kernel_rfl) ?_ ?_
                · refine ⟨?_, ?_, ?_, ?_, ?_, trivial⟩
                  · exact sLoadM rfl rfl rfl hz rfl (Gd.none_ rfl) rfl (sv S7) Cp10 (k := 0) (by simp [tagOf]) (by kernel_rfl) ld_n32
                  · exact zMv hz (sv S4)
                  · exact sBin rfl rfl rfl hz rfl (Gd.none_ rfl) rfl kc (sd 1 rfl) (fun w => by kernel_rfl)
                  · exact zC2 hz Try.func36 (sd 0 rfl) (sd 2 rfl) (k01 (fun _ _ h0 => d_left1 (k := 1074) h0 (by decide) (by omega)))
                  · exact zSE rfl (sv S7) (by simp [tagOf]) (Cp10.var tN_nd) (sd 3 rfl) st_n32
                intro a' γ' W' hz' hd' hC hk hh
                have tp1 := Cp1.lt
                replace Cp1 := kC hC Cp1 (by simp [tagOf, n_p1_p10])
                have tp9 := Cp9.lt
                replace Cp9 := kC hC Cp9 (by simp [tagOf, n_p9_p10])
                replace Cp10 := gotE (T := tN B32 67 (1 * 2 ^ 1074)) (id := 33) (p := p10) 4 hh rfl rfl
                replace S2 := kp hk S2
                replace S3 := kp hk S3
                clear S4
                replace S6 := kp hk S6
                replace S7 := kp hk S7
                clear S47
                clear tp1 tp9
                replace HB := RelC.aftM HB hC (by intro m hm; simp at hm; rcases hm with rfl <;> assumption)
                clear hC hk hh; replace hz := hz'; replace hd := hd'; clear hz' hd'
                refine wp_seq ?_
                refine region_text (M := [p1]) (
                    rT (tN B32 2 (ma u)) ::
                    rT (tN B32 67 (1 * 2 ^ 1074)) ::
                    rT (tT [tQ B32 l (mkRat (((ma u : Nat) : Int)) (1 * 2 ^ 1074)), tV (.bool (decide (1 * 2 ^ 1074 ≠ 0)))]) ::
                    rT (tQ B32 l (mkRat (((ma u : Nat) : Int)) (1 * 2 ^ 1074))) ::
                    rT (tV (.bool (decide (1 * 2 ^ 1074 ≠ 0)))) ::
                    rE 0 35 (tQ B32 l (mkRat (((ma u : Nat) : Int)) (1 * 2 ^ 1074))) p1 ::
                    rT (tV (.bool (decide (1 * 2 ^ 1074 ≠ 0)))) ::
                    []) hz hd (by kernel_rfl) ?_ ?_
                · refine ⟨?_, ?_, ?_, ?_, ?_, ?_, ?_, trivial⟩
                  · exact zLd hz (sv S6) Cp9 ld_n32 (by simp [tagOf, n_p9_p1])
                  · exact zLd hz (sv S7) Cp10 ld_n32 (by simp [tagOf, n_p10_p1])
                  · exact zC2 hz Try.func37 (sd 0 rfl) (sd 1 rfl) (fun _ _ _ h0 h1 => dq_from (l := l) h0 h1 (by decide) (by decide) (fb_1 (by omega)) (fr_p (n := 1074) (by omega)) (by omega))
                  · exact zExt hz (sd 2 rfl)
                  · exact zExt hz (sd 2 rfl)
                  · exact zSE rfl (sv S2) (by simp [tagOf]) (Cp1.var tR_nd) (sd 3 rfl) st_q32
                  · exact zAs hz (sd 4 rfl)
                intro a' γ' W' hz' hd' hC hk hh
                replace Cp1 := gotE (T := tQ B32 l (mkRat (((ma u : Nat) : Int)) (1 * 2 ^ 1074))) (id := 35) (p := p1) 5 hh rfl rfl
                have tp9 := Cp9.lt
                clear Cp9
                have tp10 := Cp10.lt
                clear Cp10
                replace S2 := kp hk S2
                clear S3
                clear S6
                clear S7
                have S3 := gotV hz' 6 hh rfl rfl rfl rfl
                clear tp9 tp10
                replace HB := RelC.aftM HB hC (by intro m hm; simp at hm; rcases hm with rfl <;> assumption)
                clear hC hk hh; replace hz := hz'; replace hd := hd'; clear hz' hd'
                refine wp_ret ?_
                refine ret_to (T := tT [tQ B32 l (mkRat (((ma u : Nat) : Int)) (1 * 2 ^ 1074)), tV (.bool (decide (1 * 2 ^ 1074 ≠ 0)))]) (retct_q32 (by kernel_rfl) S2 S3 hd Cp1 HB) ?_
                exact to2 (tQ_to (by decide) (rt_v0 hc8 (by rw [rt_iff hu]; omega)).symm (Nat.le_refl _)) (tV_to (by rw [decide_eq_true (show RtOk u by rw [rt_iff hu]; omega), decide_eq_true (fr_ne 1074)]))
              · rw [decide_eq_false hc8] at S40
                refine wp_cond_false S40.ev ?_
                refine region_text (M := []) (
                    rT (tV (.int .u64 ((ma u : Nat) : Int))) ::
                    rT (tV (.int .u64 ((ma u + 4503599627370496 : Nat) : Int))) ::
                    rT (tV (.int .u64 ((ma u + 4503599627370496 : Nat) : Int))) ::
                    []) hz hd (by kernel_rfl) ?_ ?_
                · refine ⟨?_, ?_, ?_, trivial⟩
                  · exact zMv hz (sv S5)
                  · exact sBin rfl rfl rfl hz rfl (Gd.none_ rfl) rfl (sd 0 rfl) kc (fun w => f_or w)
                  · exact zAs hz (sd 1 rfl)
                intro a' γ' W' hz' hd' hC hk hh
                have tp1 := Cp1.lt
                replace Cp1 := kC hC Cp1
                replace S2 := kp hk S2
                replace S3 := kp hk S3
                replace S4 := kp hk S4
                clear S5
                clear S40
                have S5 := gotV hz' 2 hh rfl rfl rfl rfl
                clear tp1
                replace HB := aft_call HB (RelC.below_nil hC)
                clear hC hk hh; replace hz := hz'; replace hd := hd'; clear hz' hd'
                refine wp_seq ?_
                refine region_text (M := []) (
                    rT (tV (.int .u64 ((ma u + 4503599627370496 : Nat) : Int))) ::
                    rT (tN B32 2 (ma u + 4503599627370496)) ::
                    rT (tN B32 2 1) ::
                    rVar 3 33 1 ::
                    rVar 4 33 1 ::
                    rB 3 33 (tN B32 2 (ma u + 4503599627370496)) (some 3) 4 ::
                    rB 4 33 (tN B32 2 1) (some 4) 5 ::
                    []) hz hd (by kernel_rfl) ?_ ?_
                · refine ⟨?_, ?_, ?_, ?_, ?_, ?_, ?_, trivial⟩
                  · exact zMv hz (sv S5)
                  · exact zC1 hz Try.func21 (sd 0 rfl) (k1 (fun _ => d_of (by unfold B64; omega)))
                  · exact zC1 hz Try.func21 (kc (v := .int .u64 1)) (k1 (fun _ => d_of (by decide)))
                  · exact zAl hz nd_slice al_n32
                  · exact zAl hz nd_slice al_n32
                  · exact zSt (sd 1 rfl) st_n32
                  · exact zSt (sd 2 rfl) st_n32
                intro a' γ' W' hz' hd' hC hk hh
                have ep1 := Cp1.lt
                have tp1 := Cp1.lt
                replace Cp1 := kC hC Cp1
                replace S2 := kp hk S2
                replace S3 := kp hk S3
                replace S4 := kp hk S4
                clear S5
                obtain ⟨p11, S6, Cp11, lp11, gp11⟩ := gotB hz' 5 hC hh rfl rfl rfl rfl rfl rfl
                obtain ⟨p12, S7, Cp12, lp12, gp12⟩ := gotB hz' 6 hC hh rfl rfl rfl rfl rfl rfl
                have n_p11_p1 : p11 ≠ p1 := by omega
                have n_p11_p12 : p11 ≠ p12 := by intro e; rw [e, gp12] at gp11; omega
                have n_p12_p1 : p12 ≠ p1 := by omega
                have n_p12_p11 : p12 ≠ p11 := by intro e; rw [e, gp11] at gp12; omega
                have n_p1_p11 : p1 ≠ p11 := by have := ep1; omega
                have n_p1_p12 : p1 ≠ p12 := by have := ep1; omega
                have bp11 : w.heap.size ≤ p11 := Nat.le_trans HB.size lp11
                have bp12 : w.heap.size ≤ p12 := Nat.le_trans HB.size lp12
                clear lp11 gp11 lp12 gp12
                clear tp1
                clear ep1
                replace HB := aft_call HB (RelC.below_nil hC)
                clear hC hk hh; replace hz := hz'; replace hd := hd'; clear hz' hd'
                refine wp_seq ?_
                refine wp_seq ?_
                refine region_text (M := []) (
                    rT (tV (.int .i64 ((ex u : Nat) : Int))) ::
                    rT (tV (.bool (decide (((ex u : Nat) : Int) ≥ 1075)))) ::
                    []) hz hd (by kernel_rfl) ?_ ?_
                · refine ⟨?_, ?_, trivial⟩
                  · exact zMv hz (sv S4)
                  · exact sBin rfl rfl rfl hz rfl (Gd.none_ rfl) rfl (sd 0 rfl) kc (fun w => run_geq)
                intro a' γ' W' hz' hd' hC hk hh
                have tp1 := Cp1.lt
                replace Cp1 := kC hC Cp1
                have tp11 := Cp11.lt
                replace Cp11 := kC hC Cp11
                have tp12 := Cp12.lt
                replace Cp12 := kC hC Cp12
                replace S2 := kp hk S2
                replace S3 := kp hk S3
                replace S4 := kp hk S4
                replace S6 := kp hk S6
                replace S7 := kp hk S7
                have S47 := gotV hz' 1 hh rfl rfl rfl rfl
                clear tp1 tp11 tp12
                replace HB := aft_call HB (RelC.below_nil hC)
                clear hC hk hh; replace hz := hz'; replace hd := hd'; clear hz' hd'
                by_cases hc13 : ((ex u : Nat) : Int) ≥ 1075
                · omega
                · rw [decide_eq_false hc13] at S47
                  refine wp_cond_false S47.ev ?_
                  refine region_text (M := [p12]) (
                      rT (tN B32 2 1) ::
                      rT (tV (.int .i64 ((ex u : Nat) : Int))) ::
                      rT (tV (.int .i64 ((1075 - ex u : Nat) : Int))) ::
                      rT (tN B32 67 (1 * 2 ^ ((1075 - ex u)))) ::
                      rE 0 33 (tN B32 67 (1 * 2 ^ ((1075 - ex u)))) p12 ::
                      []) hz hd (by kernel_rfl) ?_ ?_
                  · refine ⟨?_, ?_, ?_, ?_, ?_, trivial⟩
                    · exact sLoadM rfl rfl rfl hz rfl (Gd.none_ rfl) rfl (sv S7) Cp12 (k := 0) (by simp [tagOf]) (by kernel_rfl) ld_n32
                    · exact zMv hz (sv S4)
                    · exact sBin rfl rfl rfl hz rfl (Gd.none_ rfl) rfl kc (sd 1 rfl) (fun w => f_sub1 (by omega) w)
                    · exact zC2 hz Try.func36 (sd 0 rfl) (sd 2 rfl) (k01 (fun _ _ h0 => d_left1 (k := (1075 - ex u)) h0 (by decide) (by omega)))
                    · exact zSE rfl (sv S7) (by simp [tagOf]) (Cp12.var tN_nd) (sd 3 rfl) st_n32
                  intro a' γ' W' hz' hd' hC hk hh
                  have tp1 := Cp1.lt
                  replace Cp1 := kC hC Cp1 (by simp [tagOf, n_p1_p12])
                  have tp11 := Cp11.lt
                  replace Cp11 := kC hC Cp11 (by simp [tagOf, n_p11_p12])
                  replace Cp12 := gotE (T := tN B32 67 (1 * 2 ^ ((1075 - ex u)))) (id := 33) (p := p12) 4 hh rfl rfl
                  replace S2 := kp hk S2
                  replace S3 := kp hk S3
                  clear S4
                  replace S6 := kp hk S6
                  replace S7 := kp hk S7
                  clear S47
                  clear tp1 tp11
                  replace HB := RelC.aftM HB hC (by intro m hm; simp at hm; rcases hm with rfl <;> assumption)
                  clear hC hk hh; replace hz := hz'; replace hd := hd'; clear hz' hd'
                  refine wp_seq ?_
                  refine region_text (M := [p1]) (
                      rT (tN B32 2 (ma u + 4503599627370496)) ::
                      rT (tN B32 67 (1 * 2 ^ ((1075 - ex u)))) ::
                      rT (tT [tQ B32 l (mkRat (((ma u + 4503599627370496 : Nat) : Int)) (1 * 2 ^ ((1075 - ex u)))), tV (.bool (decide (1 * 2 ^ ((1075 - ex u)) ≠ 0)))]) ::
                      rT (tQ B32 l (mkRat (((ma u + 4503599627370496 : Nat) : Int)) (1 * 2 ^ ((1075 - ex u))))) ::
                      rT (tV (.bool (decide (1 * 2 ^ ((1075 - ex u)) ≠ 0)))) ::
                      rE 0 35 (tQ B32 l (mkRat (((ma u + 4503599627370496 : Nat) : Int)) (1 * 2 ^ ((1075 - ex u))))) p1 ::
                      rT (tV (.bool (decide (1 * 2 ^ ((1075 - ex u)) ≠ 0)))) ::
                      []) hz hd (by kernel_rfl) ?_ ?_
                  · refine ⟨?_, ?_, ?_, ?_, ?_, ?_, ?_, trivial⟩
                    · exact zLd hz (sv S6) Cp11 ld_n32 (by simp [tagOf, n_p11_p1])
                    · exact zLd hz (sv S7) Cp12 ld_n32 (by simp [tagOf, n_p12_p1])
                    · exact zC2 hz Try.func37 (sd 0 rfl) (sd 1 rfl) (fun _ _ _ h0 h1 => dq_from (l := l) h0 h1 (by decide) (by decide) (fb_2 (by omega)) (fr_p (n := (1075 - ex u)) (by omega)) (by omega))
                    · exact zExt hz (sd 2 rfl)
                    · exact zExt hz (sd 2 rfl)
                    · exact zSE rfl (sv S2) (by simp [tagOf]) (Cp1.var tR_nd) (sd 3 rfl) st_q32
                    · exact zAs hz (sd 4 rfl)
                  intro a' γ' W' hz' hd' hC hk hh
                  replace Cp1 := gotE (T := tQ B32 l (mkRat (((ma u + 4503599627370496 : Nat) : Int)) (1 * 2 ^ ((1075 - ex u))))) (id := 35) (p := p1) 5 hh rfl rfl
                  have tp11 := Cp11.lt
                  clear Cp11
                  have tp12 := Cp12.lt
                  clear Cp12
                  replace S2 := kp hk S2
                  clear S3
                  clear S6
                  clear S7
                  have S3 := gotV hz' 6 hh rfl rfl rfl rfl
                  clear tp11 tp12
                  replace HB := RelC.aftM HB hC (by intro m hm; simp at hm; rcases hm with rfl <;> assumption)
                  clear hC hk hh; replace hz := hz'; replace hd := hd'; clear hz' hd'
                  refine wp_ret ?_
                  refine ret_to (T := tT [tQ B32 l (mkRat (((ma u + 4503599627370496 : Nat) : Int)) (1 * 2 ^ ((1075 - ex u)))), tV (.bool (decide (1 * 2 ^ ((1075 - ex u)) ≠ 0)))]) (retct_q32 (by kernel_rfl) S2 S3 hd Cp1 HB) ?_
                  exact to2 (tQ_to (by decide) (rt_v1 hc8 (by omega) (by rw [rt_iff hu]; omega)).symm (Nat.le_refl _)) (tV_to (by rw [decide_eq_true (show RtOk u by rw [rt_iff hu]; omega), decide_eq_true (fr_ne (1075 - ex u))]))
          · refine region_text (M := []) (
                rT (tV (.int .i64 ((ex u : Nat) : Int))) ::
                rT (tV (.bool false)) ::
                rT (tV (.bool false)) ::
                rT (tV (.int .u64 (u : Int))) ::
                rT (tV (.int .u64 ((u / 9223372036854775808 : Nat) : Int))) ::
                rT (tV (.bool true)) ::
                rT (tV (.bool true)) ::
                rT (tV (.int .u64 (u : Int))) ::
                rT (tV (.int .u64 ((u * 2 % 18446744073709551616 : Nat) : Int))) ::
                rT (tV (.bool false)) ::
                rT (tV (.bool false)) ::
                rT (tV (.bool false)) ::
                rT (tV (.bool false)) ::
                rT (tV (.int .i64 ((ex u : Nat) : Int))) ::
                rT (tV (.bool false)) ::
                rT (tV (.bool false)) ::
                rT (tV (.bool false)) ::
                rT (tV (.int .i64 ((ex u : Nat) : Int))) ::
                rT (tV (.bool false)) ::
                rT (tV (.bool false)) ::
                rT (tV undef) ::
                rT (tV undef) ::
                rT (tV (.bool false)) ::
                rT (tV (.bool false)) ::
                []) hz hd (by kernel_rfl) ?_ ?_
            · refine ⟨?_, ?_, ?_, ?_, ?_, ?_, ?_, ?_, ?_, ?_, ?_, ?_, ?_, ?_, ?_, ?_, ?_, ?_, ?_, ?_, ?_, ?_, ?_, ?_, trivial⟩
              · exact zMv hz (sv S4)
              · exact sBin rfl rfl rfl hz rfl (Gd.none_ rfl) rfl (sd 0 rfl) kc (fun w => run_f (P := ((ex u : Nat) : Int) = 2047) ((fun w => run_eql) w) hc2)
              · exact zMv hz (sd 1 rfl)
              · exact zMv hz (sv S0) (g := gT 2 rfl)
              · exact sBin rfl rfl rfl hz rfl (gT 2 rfl) rfl (sd 3 rfl) kc (fun w => f_shr63 w)
              · exact sBin rfl rfl rfl hz rfl (gT 2 rfl) rfl (sd 4 rfl) kc (fun w => run_t (P := ((u / 9223372036854775808 : Nat) : Int) = 1) ((fun w => run_eqlu) w) hc3)
              · exact zMv hz (sd 5 rfl) (g := gT 2 rfl)
              · exact zMv hz (sv S0) (g := gT 6 rfl)
              · exact sBin rfl rfl rfl hz rfl (gT 6 rfl) rfl (sd 7 rfl) kc (fun w => f_shl1 w)
              · exact sBin rfl rfl rfl hz rfl (gT 6 rfl) rfl (sd 8 rfl) kc (fun w => run_f (P := ((u * 2 % 18446744073709551616 : Nat) : Int) ≠ 0) ((fun w => run_nequ) w) hc4)
              · exact zPT hz (sd 6 rfl) (sd 9 rfl) (g := gT 2 rfl)
              · exact zPF hz (sd 2 rfl) (sd 10 rfl)
              · exact zMv hz (sd 11 rfl)
              · exact zMv hz (sv S4) (g := gT 12 rfl)
              · exact sBin rfl rfl rfl hz rfl (gT 12 rfl) rfl (sd 13 rfl) kc (fun w => run_f (P := ((ex u : Nat) : Int) > 1043) ((fun w => run_gtr) w) hc5)
              · exact zPF hz (sd 12 rfl) (sd 14 rfl)
              · exact zMv hz (sd 15 rfl)
              · exact zMv hz (sv S4) (g := gT 16 rfl)
              · exact sBin rfl rfl rfl hz rfl (gT 16 rfl) rfl (sd 17 rfl) kc (fun w => run_f (P := ((ex u : Nat) : Int) = 1043) ((fun w => run_eql) w) hc6)
              · exact zMv hz (sd 18 rfl) (g := gT 16 rfl)
              · exact zSkU hz (gN 19 rfl)
              · exact zSkU hz (gN 19 rfl)
              · exact zPF hz (sd 19 rfl) kc (g := gT 16 rfl)
              · exact zPF hz (sd 16 rfl) (sd 22 rfl)
            intro a' γ' W' hz' hd' hC hk hh
            have tp1 := Cp1.lt
            replace Cp1 := kC hC Cp1
            clear S0
            replace S2 := kp hk S2
            replace S3 := kp hk S3
            replace S4 := kp hk S4
            replace S5 := kp hk S5
            have S37 := gotV hz' 23 hh rfl rfl rfl rfl
            clear tp1
            replace HB := aft_call HB (RelC.below_nil hC)
            clear hC hk hh; replace hz := hz'; replace hd := hd'; clear hz' hd'
            refine wp_cond_false S37.ev ?_
            refine wp_skip ?_
            refine wp_seq ?_
            refine wp_seq ?_
            refine region_text (M := []) (
                rT (tV (.int .i64 ((ex u : Nat) : Int))) ::
                rT (tV (.bool (decide (((ex u : Nat) : Int) = 0)))) ::
                []) hz hd (by kernel_rfl) ?_ ?_
            · refine ⟨?_, ?_, trivial⟩
              · exact zMv hz (sv S4)
              · exact sBin rfl rfl rfl hz rfl (Gd.none_ rfl) rfl (sd 0 rfl) kc (fun w => run_eql)
            intro a' γ' W' hz' hd' hC hk hh
            have tp1 := Cp1.lt
            replace Cp1 := kC hC Cp1
            replace S2 := kp hk S2
            replace S3 := kp hk S3
            replace S4 := kp hk S4
            replace S5 := kp hk S5
            clear S37
            have S40 := gotV hz' 1 hh rfl rfl rfl rfl
            clear tp1
            replace HB := aft_call HB (RelC.below_nil hC)
            clear hC hk hh; replace hz := hz'; replace hd := hd'; clear hz' hd'
            by_cases hc14 : ((ex u : Nat) : Int) = 0
            · rw [decide_eq_true hc14] at S40
              refine wp_cond_true S40.ev ?_
              refine region_text (M := []) (
                  rT (tV (.int .i64 1)) ::
                  []) hz hd (by kernel_rfl) ?_ ?_
              · refine ⟨?_, trivial⟩
                · exact zAs hz kc
              intro a' γ' W' hz' hd' hC hk hh
              have tp1 := Cp1.lt
              replace Cp1 := kC hC Cp1
              replace S2 := kp hk S2
              replace S3 := kp hk S3
              clear S4
              replace S5 := kp hk S5
              clear S40
              have S4 := gotV hz' 0 hh rfl rfl rfl rfl
              clear tp1
              replace HB := aft_call HB (RelC.below_nil hC)
              clear hC hk hh; replace hz := hz'; replace hd := hd'; clear hz' hd'
              refine wp_seq ?_
              refine region_text (M := []) (
                  rT (tV (.int .u64 ((ma u : Nat) : Int))) ::
                  rT (tN B32 2 (ma u)) ::
                  rT (tN B32 2 1) ::
                  rVar 3 33 1 ::
                  rVar 4 33 1 ::
                  rB 3 33 (tN B32 2 (ma u)) (some 3) 4 ::
                  rB 4 33 (tN B32 2 1) (some 4) 5 ::
                  []) hz hd (by kernel_rfl) ?_ ?_
              · refine ⟨?_, ?_, ?_, ?_, ?_, ?_, ?_, trivial⟩
                · exact zMv hz (sv S5)
                · exact zC1 hz Try.func21 (sd 0 rfl) (k1 (fun _ => d_of (by unfold B64; omega)))
                · exact zC1 hz Try.func21 (kc (v := .int .u64 1)) (k1 (fun _ => d_of (by decide)))
                · exact zAl hz nd_slice al_n32
                · exact zAl hz nd_slice al_n32
                · exact zSt (sd 1 rfl) st_n32
                · exact zSt (sd 2 rfl) st_n32
              intro a' γ' W' hz' hd' hC hk hh
              have ep1 := Cp1.lt
              have tp1 := Cp1.lt
              replace Cp1 := kC hC Cp1
              replace S2 := kp hk S2
              replace S3 := kp hk S3
              clear S5
              replace S4 := kp hk S4
              obtain ⟨p15, S6, Cp15, lp15, gp15⟩ := gotB hz' 5 hC hh rfl rfl rfl rfl rfl rfl
              obtain ⟨p16, S7, Cp16, lp16, gp16⟩ := gotB hz' 6 hC hh rfl rfl rfl rfl rfl rfl
              have n_p15_p1 : p15 ≠ p1 := by omega
              have n_p15_p16 : p15 ≠ p16 := by intro e; rw [e, gp16] at gp15; omega
              have n_p16_p1 : p16 ≠ p1 := by omega
              have n_p16_p15 : p16 ≠ p15 := by intro e; rw [e, gp15] at gp16; omega
              have n_p1_p15 : p1 ≠ p15 := by have := ep1; omega
              have n_p1_p16 : p1 ≠ p16 := by have := ep1; omega
              have bp15 : w.heap.size ≤ p15 := Nat.le_trans HB.size lp15
              have bp16 : w.heap.size ≤ p16 := Nat.le_trans HB.size lp16
              clear lp15 gp15 lp16 gp16
              clear tp1
              clear ep1
              replace HB := aft_call HB (RelC.below_nil hC)
              clear hC hk hh; replace hz := hz'; replace hd := hd'; clear hz' hd'
              refine wp_seq ?_
              refine wp_seq ?_
              refine region_text (M := []) (
                  rT (tV (.int .i64 1)) ::
                  rT (tV (.bool false)) ::
                  []) hz hd (by kernel_rfl) ?_ ?_
              · refine ⟨?_, ?_, trivial⟩
                · exact zMv hz (sv S4)
                · exact sBin rfl rfl rfl hz rfl (Gd.none_ rfl) rfl (sd 0 rfl) kc (fun w => by simp [go_sem])
              intro a' γ' W' hz' hd' hC hk hh
              have tp1 := Cp1.lt
              replace Cp1 := kC hC Cp1
              have tp15 := Cp15.lt
              replace Cp15 := kC hC Cp15
              have tp16 := Cp16.lt
              replace Cp16 := kC hC Cp16
              replace S2 := kp hk S2
              replace S3 := kp hk S3
              replace S4 := kp hk S4
              replace S6 := kp hk S6
              replace S7 := kp hk S7
              have S47 := gotV hz' 1 hh rfl rfl rfl rfl
              clear tp1 tp15 tp16
              replace HB := aft_call HB (RelC.below_nil hC)
              clear hC hk hh; replace hz := hz'; replace hd := hd'; clear hz' hd'
              refine wp_cond_false S47.ev ?_
              refine region_text (M := [p16]) (
                  rT (tN B32 2 1) ::
                  rT (tV (.int .i64 1)) ::
                  rT (tV (.int .i64 1074)) ::
                  rT (tN B32 67 (1 * 2 ^ 1074)) ::
                  rE 0 33 (tN B32 67 (1 * 2 ^ 1074)) p16 ::
                  []) hz hd (by kernel_rfl) ?_ ?_
              · refine ⟨?_, ?_, ?_, ?_, ?_, trivial⟩
                · exact sLoadM rfl rfl rfl hz rfl (Gd.none_ rfl) rfl (sv S7) Cp16 (k := 0) (by simp [tagOf]) (by kernel_rfl) ld_n32
                · exact zMv hz (sv S4)
                · exact sBin rfl rfl rfl hz rfl (Gd.none_ rfl) rfl kc (sd 1 rfl) (fun w => by kernel_rfl)
                · exact zC2 hz Try.func36 (sd 0 rfl) (sd 2 rfl) (k01 (fun _ _ h0 => d_left1 (k := 1074) h0 (by decide) (by omega)))
                · exact zSE rfl (sv S7) (by simp [tagOf]) (Cp16.var tN_nd) (sd 3 rfl) st_n32
              intro a' γ' W' hz' hd' hC hk hh
              have tp1 := Cp1.lt
              replace Cp1 := kC hC Cp1 (by simp [tagOf, n_p1_p16])
              have tp15 := Cp15.lt
              replace Cp15 := kC hC Cp15 (by simp [tagOf, n_p15_p16])
              replace Cp16 := gotE (T := tN B32 67 (1 * 2 ^ 1074)) (id := 33) (p := p16) 4 hh rfl rfl
              replace S2 := kp hk S2
              replace S3 := kp hk S3
              clear S4
              replace S6 := kp hk S6
              replace S7 := kp hk S7
              clear S47
              clear tp1 tp15
              replace HB := RelC.aftM HB hC (by intro m hm; simp at hm; rcases hm with rfl <;> assumption)
              clear hC hk hh; replace hz := hz'; replace hd := hd'; clear hz' hd'
              refine wp_seq ?_
              refine region_text (M := [p1]) (
                  rT (tN B32 2 (ma u)) ::
                  rT (tN B32 67 (1 * 2 ^ 1074)) ::
                  rT (tT [tQ B32 l (mkRat (((ma u : Nat) : Int)) (1 * 2 ^ 1074)), tV (.bool (decide (1 * 2 ^ 1074 ≠ 0)))]) ::
                  rT (tQ B32 l (mkRat (((ma u : Nat) : Int)) (1 * 2 ^ 1074))) ::
                  rT (tV (.bool (decide (1 * 2 ^ 1074 ≠ 0)))) ::
                  rE 0 35 (tQ B32 l (mkRat (((ma u : Nat) : Int)) (1 * 2 ^ 1074))) p1 ::
                  rT (tV (.bool (decide (1 * 2 ^ 1074 ≠ 0)))) ::
                  []) hz hd (by kernel_rfl) ?_ ?_
              · refine ⟨?_, ?_, ?_, ?_, ?_, ?_, ?_, trivial⟩
                · exact zLd hz (sv S6) Cp15 ld_n32 (by simp [tagOf, n_p15_p1])
                · exact zLd hz (sv S7) Cp16 ld_n32 (by simp [tagOf, n_p16_p1])
                · exact zC2 hz Try.func37 (sd 0 rfl) (sd 1 rfl) (fun _ _ _ h0 h1 => dq_from (l := l) h0 h1 (by decide) (by decide) (fb_1 (by omega)) (fr_p (n := 1074) (by omega)) (by omega))
                · exact zExt hz (sd 2 rfl)
                · exact zExt hz (sd 2 rfl)
                · exact zSE rfl (sv S2) (by simp [tagOf]) (Cp1.var tR_nd) (sd 3 rfl) st_q32
                · exact zAs hz (sd 4 rfl)
              intro a' γ' W' hz' hd' hC hk hh
              replace Cp1 := gotE (T := tQ B32 l (mkRat (((ma u : Nat) : Int)) (1 * 2 ^ 1074))) (id := 35) (p := p1) 5 hh rfl rfl
              have tp15 := Cp15.lt
              clear Cp15
              have tp16 := Cp16.lt
              clear Cp16
              replace S2 := kp hk S2
              clear S3
              clear S6
              clear S7
              have S3 := gotV hz' 6 hh rfl rfl rfl rfl
              clear tp15 tp16
              replace HB := RelC.aftM HB hC (by intro m hm; simp at hm; rcases hm with rfl <;> assumption)
              clear hC hk hh; replace hz := hz'; replace hd := hd'; clear hz' hd'
              refine wp_ret ?_
              refine ret_to (T := tT [tQ B32 l (mkRat (((ma u : Nat) : Int)) (1 * 2 ^ 1074)), tV (.bool (decide (1 * 2 ^ 1074 ≠ 0)))]) (retct_q32 (by kernel_rfl) S2 S3 hd Cp1 HB) ?_
              exact to2 (tQ_to (by decide) (rt_v0 hc14 (by rw [rt_iff hu]; omega)).symm (Nat.le_refl _)) (tV_to (by rw [decide_eq_true (show RtOk u by rw [rt_iff hu]; omega), decide_eq_true (fr_ne 1074)]))
            · rw [decide_eq_false hc14] at S40
              refine wp_cond_false S40.ev ?_
              refine region_text (M := []) (
                  rT (tV (.int .u64 ((ma u : Nat) : Int))) ::
                  rT (tV (.int .u64 ((ma u + 4503599627370496 : Nat) : Int))) ::
                  rT (tV (.int .u64 ((ma u + 4503599627370496 : Nat) : Int))) ::
                  []) hz hd (by kernel_rfl) ?_ ?_
              · refine ⟨?_, ?_, ?_, trivial⟩
                · exact zMv hz (sv S5)
                · exact sBin rfl rfl rfl hz rfl (Gd.none_ rfl) rfl (sd 0 rfl) kc (fun w => f_or w)
                · exact zAs hz (sd 1 rfl)
              intro a' γ' W' hz' hd' hC hk hh
              have tp1 := Cp1.lt
              replace Cp1 := kC hC Cp1
              replace S2 := kp hk S2
              replace S3 := kp hk S3
              replace S4 := kp hk S4
              clear S5
              clear S40
              have S5 := gotV hz' 2 hh rfl rfl rfl rfl
              clear tp1
              replace HB := aft_call HB (RelC.below_nil hC)
              clear hC hk hh; replace hz := hz'; replace hd := hd'; clear hz' hd'
              refine wp_seq ?_
              refine region_text (M := []) (
                  rT (tV (.int .u64 ((ma u + 4503599627370496 : Nat) : Int))) ::
                  rT (tN B32 2 (ma u + 4503599627370496)) ::
                  rT (tN B32 2 1) ::
                  rVar 3 33 1 ::
                  rVar 4 33 1 ::
                  rB 3 33 (tN B32 2 (ma u + 4503599627370496)) (some 3) 4 ::
                  rB 4 33 (tN B32 2 1) (some 4) 5 ::
                  []) hz hd (by kernel_rfl) ?_ ?_
              · refine ⟨?_, ?_, ?_, ?_, ?_, ?_, ?_, trivial⟩
                · exact zMv hz (sv S5)
                · exact zC1 hz Try.func21 (sd 0 rfl) (k1 (fun _ => d_of (by unfold B64; omega)))
                · exact zC1 hz Try.func21 (kc (v := .int .u64 1)) (k1 (fun _ => d_of (by decide)))
                · exact zAl hz nd_slice al_n32
                · exact zAl hz nd_slice al_n32
                · exact zSt (sd 1 rfl) st_n32
                · exact zSt (sd 2 rfl) st_n32
              intro a' γ' W' hz' hd' hC hk hh
              have ep1 := Cp1.lt
              have tp1 := Cp1.lt
              replace Cp1 := kC hC Cp1
              replace S2 := kp hk S2
              replace S3 := kp hk S3
              replace S4 := kp hk S4
              clear S5
              obtain ⟨p17, S6, Cp17, lp17, gp17⟩ := gotB hz' 5 hC hh rfl rfl rfl rfl rfl rfl
              obtain ⟨p18, S7, Cp18, lp18, gp18⟩ := gotB hz' 6 hC hh rfl rfl rfl rfl rfl rfl
              have n_p17_p1 : p17 ≠ p1 := by omega
              have n_p17_p18 : p17 ≠ p18 := by intro e; rw [e, gp18] at gp17; omega
              have n_p18_p1 : p18 ≠ p1 := by omega
              have n_p18_p17 : p18 ≠ p17 := by intro e; rw [e, gp17] at gp18; omega
              have n_p1_p17 : p1 ≠ p17 := by have := ep1; omega
              have n_p1_p18 : p1 ≠ p18 := by have := ep1; omega
              have bp17 : w.heap.size ≤ p17 := Nat.le_trans HB.size lp17
              have bp18 : w.heap.size ≤ p18 := Nat.le_trans HB.size lp18
              clear lp17 gp17 lp18 gp18
              clear tp1
              clear ep1
              replace HB := aft_call HB (RelC.below_nil hC)
              clear hC hk hh; replace hz := hz'; replace hd := hd'; clear hz' hd'
              refine wp_seq ?_
              refine wp_seq ?_
              refine region_text (M := []) (
                  rT (tV (.int .i64 ((ex u : Nat) : Int))) ::
                  rT (tV (.bool (decide (((ex u : Nat) : Int) ≥ 1075)))) ::
                  []) hz hd (by kernel_rfl) ?_ ?_
              · refine ⟨?_, ?_, trivial⟩
                · exact zMv hz (sv S4)
                · exact sBin rfl rfl rfl hz rfl (Gd.none_ rfl) rfl (sd 0 rfl) kc (fun w => run_geq)
              intro a' γ' W' hz' hd' hC hk hh
              have tp1 := Cp1.lt
              replace Cp1 := kC hC Cp1
              have tp17 := Cp17.lt
              replace Cp17 := kC hC Cp17
              have tp18 := Cp18.lt
              replace Cp18 := kC hC Cp18
              replace S2 := kp hk S2
              replace S3 := kp hk S3
              replace S4 := kp hk S4
              replace S6 := kp hk S6
              replace S7 := kp hk S7
              have S47 := gotV hz' 1 hh rfl rfl rfl rfl
              clear tp1 tp17 tp18
              replace HB := aft_call HB (RelC.below_nil hC)
              clear hC hk hh; replace hz := hz'; replace hd := hd'; clear hz' hd'
              by_cases hc19 : ((ex u : Nat) : Int) ≥ 1075
              · omega
              · rw [decide_eq_false hc19] at S47
                refine wp_cond_false S47.ev ?_
                refine region_text (M := [p18]) (
                    rT (tN B32 2 1) ::
                    rT (tV (.int .i64 ((ex u : Nat) : Int))) ::
                    rT (tV (.int .i64 ((1075 - ex u : Nat) : Int))) ::
                    rT (tN B32 67 (1 * 2 ^ ((1075 - ex u)))) ::
                    rE 0 33 (tN B32 67 (1 * 2 ^ ((1075 - ex u)))) p18 ::
                    []) hz hd (by kernel_rfl) ?_ ?_
                · refine ⟨?_, ?_, ?_, ?_, ?_, trivial⟩
                  · exact sLoadM rfl rfl rfl hz rfl (Gd.none_ rfl) rfl (sv S7) Cp18 (k := 0) (by simp [tagOf]) (by kernel_rfl) ld_n32
                  · exact zMv hz (sv S4)
                  · exact sBin rfl rfl rfl hz rfl (Gd.none_ rfl) rfl kc (sd 1 rfl) (fun w => f_sub1 (by omega) w)
                  · exact zC2 hz Try.func36 (sd 0 rfl) (sd 2 rfl) (k01 (fun _ _ h0 => d_left1 (k := (1075 - ex u)) h0 (by decide) (by omega)))
                  · exact zSE rfl (sv S7) (by simp [tagOf]) (Cp18.var tN_nd) (sd 3 rfl) st_n32
                intro a' γ' W' hz' hd' hC hk hh
                have tp1 := Cp1.lt
                replace Cp1 := kC hC Cp1 (by simp [tagOf, n_p1_p18])
                have tp17 := Cp17.lt
                replace Cp17 := kC hC Cp17 (by simp [tagOf, n_p17_p18])
                replace Cp18 := gotE (T := tN B32 67 (1 * 2 ^ ((1075 - ex u)))) (id := 33) (p := p18) 4 hh rfl rfl
                replace S2 := kp hk S2
                replace S3 := kp hk S3
                clear S4
                replace S6 := kp hk S6
                replace S7 := kp hk S7
                clear S47
                clear tp1 tp17
                replace HB := RelC.aftM HB hC (by intro m hm; simp at hm; rcases hm with rfl <;> assumption)
                clear hC hk hh; replace hz := hz'; replace hd := hd'; clear hz' hd'
                refine wp_seq ?_
                refine region_text (M := [p1]) (
                    rT (tN B32 2 (ma u + 4503599627370496)) ::
                    rT (tN B32 67 (1 * 2 ^ ((1075 - ex u)))) ::
                    rT (tT [tQ B32 l (mkRat (((ma u + 4503599627370496 : Nat) : Int)) (1 * 2 ^ ((1075 - ex u)))), tV (.bool (decide (1 * 2 ^ ((1075 - ex u)) ≠ 0)))]) ::
                    rT (tQ B32 l (mkRat (((ma u + 4503599627370496 : Nat) : Int)) (1 * 2 ^ ((1075 - ex u))))) ::
                    rT (tV (.bool (decide (1 * 2 ^ ((1075 - ex u)) ≠ 0)))) ::
                    rE 0 35 (tQ B32 l (mkRat (((ma u + 4503599627370496 : Nat) : Int)) (1 * 2 ^ ((1075 - ex u))))) p1 ::
                    rT (tV (.bool (decide (1 * 2 ^ ((1075 - ex u)) ≠ 0)))) ::
                    []) hz hd (by kernel_rfl) ?_ ?_
                · refine ⟨?_, ?_, ?_, ?_, ?_, ?_, ?_, trivial⟩
                  · exact zLd hz (sv S6) Cp17 ld_n32 (by simp [tagOf, n_p17_p1])
                  · exact zLd hz (sv S7) Cp18 ld_n32 (by simp [tagOf, n_p18_p1])
                  · exact zC2 hz Try.func37 (sd 0 rfl) (sd 1 rfl) (fun _ _ _ h0 h1 => dq_from (l := l) h0 h1 (by decide) (by decide) (fb_2 (by omega)) (fr_p (n := (1075 - ex u)) (by omega)) (by omega))
                  · exact zExt hz (sd 2 rfl)
                  · exact zExt hz (sd 2 rfl)
                  · exact zSE rfl (sv S2) (by simp [tagOf]) (Cp1.var tR_nd) (sd 3 rfl) st_q32
                  · exact zAs hz (sd 4 rfl)
                intro a' γ' W' hz' hd' hC hk hh
                replace Cp1 := gotE (T := tQ B32 l (mkRat (((ma u + 4503599627370496 : Nat) : Int)) (1 * 2 ^ ((1075 - ex u))))) (id := 35) (p := p1) 5 hh rfl rfl
                have tp17 := Cp17.lt
                clear Cp17
                have tp18 := Cp18.lt
                clear Cp18
                replace S2 := kp hk S2
                clear S3
                clear S6
                clear S7
                have S3 := gotV hz' 6 hh rfl rfl rfl rfl
                clear tp17 tp18
                replace HB := RelC.aftM HB hC (by intro m hm; simp at hm; rcases hm with rfl <;> assumption)
                clear hC hk hh; replace hz := hz'; replace hd := hd'; clear hz' hd'
                refine wp_ret ?_
                refine ret_to (T := tT [tQ B32 l (mkRat (((ma u + 4503599627370496 : Nat) : Int)) (1 * 2 ^ ((1075 - ex u)))), tV (.bool (decide (1 * 2 ^ ((1075 - ex u)) ≠ 0)))]) (retct_q32 (by kernel_rfl) S2 S3 hd Cp1 HB) ?_
                exact to2 (tQ_to (by decide) (rt_v1 hc14 (by omega) (by rw [rt_iff hu]; omega)).symm (Nat.le_refl _)) (tV_to (by rw [decide_eq_true (show RtOk u by rw [rt_iff hu]; omega), decide_eq_true (fr_ne (1075 - ex u))]))
    · by_cases hc20 : ((ex u : Nat) : Int) > 1043
      · refine region_text (M := []) (
            rT (tV (.int .i64 ((ex u : Nat) : Int))) ::
            rT (tV (.bool false)) ::
            rT (tV (.bool false)) ::
            rT (tV (.int .u64 (u : Int))) ::
            rT (tV (.int .u64 ((u / 9223372036854775808 : Nat) : Int))) ::
            rT (tV (.bool false)) ::
            rT (tV (.bool false)) ::
            rT (tV undef) ::
            rT (tV undef) ::
            rT (tV undef) ::
            rT (tV (.bool false)) ::
            rT (tV (.bool false)) ::
            rT (tV (.bool false)) ::
            rT (tV (.int .i64 ((ex u : Nat) : Int))) ::
            rT (tV (.bool true)) ::
            rT (tV (.bool true)) ::
            rT (tV (.bool true)) ::
            rT (tV undef) ::
            rT (tV undef) ::
            rT (tV undef) ::
            rT (tV undef) ::
            rT (tV undef) ::
            rT (tV undef) ::
            rT (tV (.bool true)) ::
            []) hz hd (by kernel_rfl) ?_ ?_
        · refine ⟨?_, ?_, ?_, ?_, ?_, ?_, ?_, ?_, ?_, ?_, ?_, ?_, ?_, ?_, ?_, ?_, ?_, ?_, ?_, ?_, ?_, ?_, ?_, ?_, trivial⟩
          · exact zMv hz (sv S4)
          · exact sBin rfl rfl rfl hz rfl (Gd.none_ rfl) rfl (sd 0 rfl) kc (fun w => run_f (P := ((ex u : Nat) : Int) = 2047) ((fun w => run_eql) w) hc2)
          · exact zMv hz (sd 1 rfl)
          · exact zMv hz (sv S0) (g := gT 2 rfl)
          · exact sBin rfl rfl rfl hz rfl (gT 2 rfl) rfl (sd 3 rfl) kc (fun w => f_shr63 w)
          · exact sBin rfl rfl rfl hz rfl (gT 2 rfl) rfl (sd 4 rfl) kc (fun w => run_f (P := ((u / 9223372036854775808 : Nat) : Int) = 1) ((fun w => run_eqlu) w) hc3)
          · exact zMv hz (sd 5 rfl) (g := gT 2 rfl)
          · exact zSkU hz (gN 6 rfl)
          · exact zSkU hz (gN 6 rfl)
          · exact zSkU hz (gN 6 rfl)
          · exact zPF hz (sd 6 rfl) kc (g := gT 2 rfl)
          · exact zPF hz (sd 2 rfl) (sd 10 rfl)
          · exact zMv hz (sd 11 rfl)
          · exact zMv hz (sv S4) (g := gT 12 rfl)
          · exact sBin rfl rfl rfl hz rfl (gT 12 rfl) rfl (sd 13 rfl) kc (fun w => run_t (P := ((ex u : Nat) : Int) > 1043) ((fun w => run_gtr) w) hc20)
          · exact zPF hz (sd 12 rfl) (sd 14 rfl)
          · exact zMv hz (sd 15 rfl)
          · exact zSkU hz (gN 16 rfl)
          · exact zSkU hz (gN 16 rfl)
          · exact zSkU hz (gN 16 rfl)
          · exact zSkU hz (gU 19 rfl)
          · exact zSkU hz (gU 19 rfl)
          · exact zSkU hz (gN 16 rfl)
          · exact zPT hz (sd 16 rfl) kc
        intro a' γ' W' hz' hd' hC hk hh
        have tp1 := Cp1.lt
        replace Cp1 := kC hC Cp1
        clear S0
        replace S2 := kp hk S2
        replace S3 := kp hk S3
        replace S4 := kp hk S4
        replace S5 := kp hk S5
        have S37 := gotV hz' 23 hh rfl rfl rfl rfl
        clear tp1
        replace HB := aft_call HB (RelC.below_nil hC)
        clear hC hk hh; replace hz := hz'; replace hd := hd'; clear hz' hd'
        refine wp_cond_true S37.ev ?_
        refine wp_seq ?_
        refine region_text (M := [p1]) (
            rT (tQ B32 1 0) ::
            rE 0 35 (tQ B32 1 0) p1 ::
            rT (tV (.bool false)) ::
            []) hz hd (by kernel_rfl) ?_ ?_
        · refine ⟨?_, ?_, ?_, trivial⟩
          · exact zC0 hz Try.func35 (fun _ => dq_zero)
          · exact zSE rfl (sv S2) (by simp [tagOf]) (Cp1.var tR_nd) (sd 0 rfl) st_q32
          · exact zAs hz kc
        intro a' γ' W' hz' hd' hC hk hh
        replace Cp1 := gotE (T := tQ B32 1 0) (id := 35) (p := p1) 1 hh rfl rfl
        replace S2 := kp hk S2
        clear S3
        replace S4 := kp hk S4
        replace S5 := kp hk S5
        clear S37
        have S3 := gotV hz' 2 hh rfl rfl rfl rfl
        replace HB := RelC.aftM HB hC (by intro m hm; simp at hm; rcases hm with rfl <;> assumption)
        clear hC hk hh; replace hz := hz'; replace hd := hd'; clear hz' hd'
        refine wp_ret ?_
        refine ret_to (T := tT [tQ B32 1 0, tV (.bool false)]) (retct_q32 (by kernel_rfl) S2 S3 hd Cp1 HB) ?_
        exact to2 (tQ_to (by decide) (by unfold rtQ; rw [if_neg (by rw [rt_iff hu]; omega)]) (by omega)) (tV_to (by rw [decide_eq_false (by rw [rt_iff hu]; omega)]))
      · by_cases hc21 : ((ex u : Nat) : Int) = 1043
        · refine region_text (M := []) (
              rT (tV (.int .i64 ((ex u : Nat) : Int))) ::
              rT (tV (.bool false)) ::
              rT (tV (.bool false)) ::
              rT (tV (.int .u64 (u : Int))) ::
              rT (tV (.int .u64 ((u / 9223372036854775808 : Nat) : Int))) ::
              rT (tV (.bool false)) ::
              rT (tV (.bool false)) ::
              rT (tV undef) ::
              rT (tV undef) ::
              rT (tV undef) ::
              rT (tV (.bool false)) ::
              rT (tV (.bool false)) ::
              rT (tV (.bool false)) ::
              rT (tV (.int .i64 ((ex u : Nat) : Int))) ::
              rT (tV (.bool false)) ::
              rT (tV (.bool false)) ::
              rT (tV (.bool false)) ::
              rT (tV (.int .i64 ((ex u : Nat) : Int))) ::
              rT (tV (.bool true)) ::
              rT (tV (.bool true)) ::
              rT (tV (.int .u64 ((ma u : Nat) : Int))) ::
              rT (tV (.bool (decide (((ma u : Nat) : Int) > 0)))) ::
              rT (tV (.bool (decide (((ma u : Nat) : Int) > 0)))) ::
              rT (tV (.bool (decide (((ma u : Nat) : Int) > 0)))) ::
              []) hz hd (by kernel_rfl) ?_ ?_
          · refine ⟨?_, ?_, ?_, ?_, ?_, ?_, ?_, ?_, ?_, ?_, ?_, ?_, ?_, ?_, ?_, ?_, ?_, ?_, ?_, ?_, ?_, ?_, ?_, ?_, trivial⟩
            · exact zMv hz (sv S4)
            · exact sBin rfl rfl rfl hz rfl (Gd.none_ rfl) rfl (sd 0 rfl) kc (fun w => run_f (P := ((ex u : Nat) : Int) = 2047) ((fun w => run_eql) w) hc2)
            · exact zMv hz (sd 1 rfl)
            · exact zMv hz (sv S0) (g := gT 2 rfl)
            · exact sBin rfl rfl rfl hz rfl (gT 2 rfl) rfl (sd 3 rfl) kc (fun w => f_shr63 w)
            · exact sBin rfl rfl rfl hz rfl (gT 2 rfl) rfl (sd 4 rfl) kc (fun w => run_f (P := ((u / 9223372036854775808 : Nat) : Int) = 1) ((fun w => run_eqlu) w) hc3)
            · exact zMv hz (sd 5 rfl) (g := gT 2 rfl)
            · exact zSkU hz (gN 6 rfl)
            · exact zSkU hz (gN 6 rfl)
            · exact zSkU hz (gN 6 rfl)
            · exact zPF hz (sd 6 rfl) kc (g := gT 2 rfl)
            · exact zPF hz (sd 2 rfl) (sd 10 rfl)
            · exact zMv hz (sd 11 rfl)
            · exact zMv hz (sv S4) (g := gT 12 rfl)
            · exact sBin rfl rfl rfl hz rfl (gT 12 rfl) rfl (sd 13 rfl) kc (fun w => run_f (P := ((ex u : Nat) : Int) > 1043) ((fun w => run_gtr) w) hc20)
            · exact zPF hz (sd 12 rfl) (sd 14 rfl)
            · exact zMv hz (sd 15 rfl)
            · exact zMv hz (sv S4) (g := gT 16 rfl)
            · exact sBin rfl rfl rfl hz rfl (gT 16 rfl) rfl (sd 17 rfl) kc (fun w => run_t (P := ((ex u : Nat) : Int) = 1043) ((fun w => run_eql) w) hc21)
            · exact zMv hz (sd 18 rfl) (g := gT 16 rfl)
            · exact zMv hz (sv S5) (g := gT 19 rfl)
            · exact sBin rfl rfl rfl hz rfl (gT 19 rfl) rfl (sd 20 rfl) kc (fun w => run_gtru)
            · exact zPT hz (sd 19 rfl) (sd 21 rfl) (g := gT 16 rfl)
            · exact zPF hz (sd 16 rfl) (sd 22 rfl)
          intro a' γ' W' hz' hd' hC hk hh
          have tp1 := Cp1.lt
          replace Cp1 := kC hC Cp1
          clear S0
          replace S2 := kp hk S2
          replace S3 := kp hk S3
          replace S4 := kp hk S4
          replace S5 := kp hk S5
          have S37 := gotV hz' 23 hh rfl rfl rfl rfl
          clear tp1
          replace HB := aft_call HB (RelC.below_nil hC)
          clear hC hk hh; replace hz := hz'; replace hd := hd'; clear hz' hd'
          by_cases hc22 : ((ma u : Nat) : Int) > 0
          · rw [decide_eq_true hc22] at S37
            refine wp_cond_true S37.ev ?_
            refine wp_seq ?_
            refine region_text (M := [p1]) (
                rT (tQ B32 1 0) ::
                rE 0 35 (tQ B32 1 0) p1 ::
                rT (tV (.bool false)) ::
                []) hz hd (by kernel_rfl) ?_ ?_
            · refine ⟨?_, ?_, ?_, trivial⟩
              · exact zC0 hz Try.func35 (fun _ => dq_zero)
              · exact zSE rfl (sv S2) (by simp [tagOf]) (Cp1.var tR_nd) (sd 0 rfl) st_q32
              · exact zAs hz kc
            intro a' γ' W' hz' hd' hC hk hh
            replace Cp1 := gotE (T := tQ B32 1 0) (id := 35) (p := p1) 1 hh rfl rfl
            replace S2 := kp hk S2
            clear S3
            replace S4 := kp hk S4
            replace S5 := kp hk S5
            clear S37
            have S3 := gotV hz' 2 hh rfl rfl rfl rfl
            replace HB := RelC.aftM HB hC (by intro m hm; simp at hm; rcases hm with rfl <;> assumption)
            clear hC hk hh; replace hz := hz'; replace hd := hd'; clear hz' hd'
            refine wp_ret ?_
            refine ret_to (T := tT [tQ B32 1 0, tV (.bool false)]) (retct_q32 (by kernel_rfl) S2 S3 hd Cp1 HB) ?_
            exact to2 (tQ_to (by decide) (by unfold rtQ; rw [if_neg (by rw [rt_iff hu]; omega)]) (by omega)) (tV_to (by rw [decide_eq_false (by rw [rt_iff hu]; omega)]))
          · rw [decide_eq_false hc22] at S37
            refine wp_cond_false S37.ev ?_
            refine wp_skip ?_
            refine wp_seq ?_
            refine wp_seq ?_
            refine region_text (M := []) (
                rT (tV (.int .i64 ((ex u : Nat) : Int))) ::
                rT (tV (.bool (decide (((ex u : Nat) : Int) = 0)))) ::
                []) hz hd (by kernel_rfl) ?_ ?_
            · refine ⟨?_, ?_, trivial⟩
              · exact zMv hz (sv S4)
              · exact sBin rfl rfl rfl hz rfl (Gd.none_ rfl) rfl (sd 0 rfl) kc (fun w => run_eql)
            intro a' γ' W' hz' hd' hC hk hh
            have tp1 := Cp1.lt
            replace Cp1 := kC hC Cp1
            replace S2 := kp hk S2
            replace S3 := kp hk S3
            replace S4 := kp hk S4
            replace S5 := kp hk S5
            clear S37
            have S40 := gotV hz' 1 hh rfl rfl rfl rfl
            clear tp1
            replace HB := aft_call HB (RelC.below_nil hC)
            clear hC hk hh; replace hz := hz'; replace hd := hd'; clear hz' hd'
            by_cases hc23 : ((ex u : Nat) : Int) = 0
            · rw [decide_eq_true hc23] at S40
              refine wp_cond_true S40.ev ?_
              refine region_text (M := []) (
                  rT (tV (.int .i64 1)) ::
                  []) hz hd (by kernel_rfl) ?_ ?_
              · refine ⟨?_, trivial⟩
                · exact zAs hz kc
              intro a' γ' W' hz' hd' hC hk hh
              have tp1 := Cp1.lt
              replace Cp1 := kC hC Cp1
              replace S2 := kp hk S2
              replace S3 := kp hk S3
              clear S4
              replace S5 := kp hk S5
              clear S40
              have S4 := gotV hz' 0 hh rfl rfl rfl rfl
              clear tp1
              replace HB := aft_call HB (RelC.below_nil hC)
              clear hC hk hh; replace hz := hz'; replace hd := hd'; clear hz' hd'
              refine wp_seq ?_
              refine region_text (M := []) (
                  rT (tV (.int .u64 ((ma u : Nat) : Int))) ::
                  rT (tN B32 2 (ma u)) ::
                  rT (tN B32 2 1) ::
                  rVar 3 33 1 ::
                  rVar 4 33 1 ::
                  rB 3 33 (tN B32 2 (ma u)) (some 3) 4 ::
                  rB 4 33 (tN B32 2 1) (some 4) 5 ::
                  []) hz hd (by kernel_rfl) ?_ ?_
              · refine ⟨?_, ?_, ?_, ?_, ?_, ?_, ?_, trivial⟩
                · exact zMv hz (sv S5)
                · exact zC1 hz Try.func21 (sd 0 rfl) (k1 (fun _ => d_of (by unfold B64; omega)))
                · exact zC1 hz Try.func21 (kc (v := .int .u64 1)) (k1 (fun _ => d_of (by decide)))
                · exact zAl hz nd_slice al_n32
                · exact zAl hz nd_slice al_n32
                · exact zSt (sd 1 rfl) st_n32
                · exact zSt (sd 2 rfl) st_n32
              intro a' γ' W' hz' hd' hC hk hh
              have ep1 := Cp1.lt
              have tp1 := Cp1.lt
              replace Cp1 := kC hC Cp1
              replace S2 := kp hk S2
              replace S3 := kp hk S3
              clear S5
              replace S4 := kp hk S4
              obtain ⟨p24, S6, Cp24, lp24, gp24⟩ := gotB hz' 5 hC hh rfl rfl rfl rfl rfl rfl
              obtain ⟨p25, S7, Cp25, lp25, gp25⟩ := gotB hz' 6 hC hh rfl rfl rfl rfl rfl rfl
              have n_p24_p1 : p24 ≠ p1 := by omega
              have n_p24_p25 : p24 ≠ p25 := by intro e; rw [e, gp25] at gp24; omega
              have n_p25_p1 : p25 ≠ p1 := by omega
              have n_p25_p24 : p25 ≠ p24 := by intro e; rw [e, gp24] at gp25; omega
              have n_p1_p24 : p1 ≠ p24 := by have := ep1; omega
              have n_p1_p25 : p1 ≠ p25 := by have := ep1; omega
              have bp24 : w.heap.size ≤ p24 := Nat.le_trans HB.size lp24
              have bp25 : w.heap.size ≤ p25 := Nat.le_trans HB.size lp25
              clear lp24 gp24 lp25 gp25
              clear tp1
              clear ep1
              replace HB := aft_call HB (RelC.below_nil hC)
              clear hC hk hh; replace hz := hz'; replace hd := hd'; clear hz' hd'
              refine wp_seq ?_
              refine wp_seq ?_
              refine region_text (M := []) (
                  rT (tV (.int .i64 1)) ::
                  rT (tV (.bool false)) ::
                  []) hz hd (by kernel_rfl) ?_ ?_
              · refine ⟨?_, ?_, trivial⟩
                · exact zMv hz (sv S4)
                · exact sBin rfl rfl rfl hz rfl (Gd.none_ rfl) rfl (sd 0 rfl) kc (fun w => by simp [go_sem])
              intro a' γ' W' hz' hd' hC hk hh
              have tp1 := Cp1.lt
              replace Cp1 := kC hC Cp1
              have tp24 := Cp24.lt
              replace Cp24 := kC hC Cp24
              have tp25 := Cp25.lt
              replace Cp25 := kC hC Cp25
              replace S2 := kp hk S2
              replace S3 := kp hk S3
              replace S4 := kp hk S4
              replace S6 := kp hk S6
              replace S7 := kp hk S7
              have S47 := gotV hz' 1 hh rfl rfl rfl rfl
              clear tp1 tp24 tp25
              replace HB := aft_call HB (RelC.below_nil hC)
              clear hC hk hh; replace hz := hz'; replace hd := hd'; clear hz' hd'
              refine wp_cond_false S47.ev ?_
              refine region_text (M := [p25]) (
                  rT (tN B32 2 1) ::
                  rT (tV (.int .i64 1)) ::
                  rT (tV (.int .i64 1074)) ::
                  rT (tN B32 67 (1 * 2 ^ 1074)) ::
                  rE 0 33 (tN B32 67 (1 * 2 ^ 1074)) p25 ::
                  []) hz hd (by kernel_rfl) ?_ ?_
              · refine ⟨?_, ?_, ?_, ?_, ?_, trivial⟩
                · exact sLoadM rfl rfl rfl hz rfl (Gd.none_ rfl) rfl (sv S7) Cp25 (k := 0) (by simp [tagOf]) (by kernel_rfl) ld_n32
                · exact zMv hz (sv S4)
                · exact sBin rfl rfl rfl hz rfl (Gd.none_ rfl) rfl kc (sd 1 rfl) (fun w => by kernel_rfl)
                · exact zC2 hz Try.func36 (sd 0 rfl) (sd 2 rfl) (k01 (fun _ _ h0 => d_left1 (k := 1074) h0 (by decide) (by omega)))
                · exact zSE rfl (sv S7) (by simp [tagOf]) (Cp25.var tN_nd) (sd 3 rfl) st_n32
              intro a' γ' W' hz' hd' hC hk hh
              have tp1 := Cp1.lt
              replace Cp1 := kC hC Cp1 (by simp [tagOf, n_p1_p25])
              have tp24 := Cp24.lt
              replace Cp24 := kC hC Cp24 (by simp [tagOf, n_p24_p25])
              replace Cp25 := gotE (T := tN B32 67 (1 * 2 ^ 1074)) (id := 33) (p := p25) 4 hh rfl rfl
              replace S2 := kp hk S2
              replace S3 := kp hk S3
              clear S4
              replace S6 := kp hk S6
              replace S7 := kp hk S7
              clear S47
              clear tp1 tp24
              replace HB := RelC.aftM HB hC (by intro m hm; simp at hm; rcases hm with rfl <;> assumption)
              clear hC hk hh; replace hz := hz'; replace hd := hd'; clear hz' hd'
              refine wp_seq ?_
              refine region_text (M := [p1]) (
                  rT (tN B32 2 (ma u)) ::
                  rT (tN B32 67 (1 * 2 ^ 1074)) ::
                  rT (tT [tQ B32 l (mkRat (((ma u : Nat) : Int)) (1 * 2 ^ 1074)), tV (.bool (decide (1 * 2 ^ 1074 ≠ 0)))]) ::
                  rT (tQ B32 l (mkRat (((ma u : Nat) : Int)) (1 * 2 ^ 1074))) ::
                  rT (tV (.bool (decide (1 * 2 ^ 1074 ≠ 0)))) ::
                  rE 0 35 (tQ B32 l (mkRat (((ma u : Nat) : Int)) (1 * 2 ^ 1074))) p1 ::
                  rT (tV (.bool (decide (1 * 2 ^ 1074 ≠ 0)))) ::
                  []) hz hd (by kernel_rfl) ?_ ?_
              · refine ⟨?_, ?_, ?_, ?_, ?_, ?_, ?_, trivial⟩
                · exact zLd hz (sv S6) Cp24 ld_n32 (by simp [tagOf, n_p24_p1])
                · exact zLd hz (sv S7) Cp25 ld_n32 (by simp [tagOf, n_p25_p1])
                · exact zC2 hz Try.func37 (sd 0 rfl) (sd 1 rfl) (fun _ _ _ h0 h1 => dq_from (l := l) h0 h1 (by decide) (by decide) (fb_1 (by omega)) (fr_p (n := 1074) (by omega)) (by omega))
                · exact zExt hz (sd 2 rfl)
                · exact zExt hz (sd 2 rfl)
                · exact zSE rfl (sv S2) (by simp [tagOf]) (Cp1.var tR_nd) (sd 3 rfl) st_q32
                · exact zAs hz (sd 4 rfl)
              intro a' γ' W' hz' hd' hC hk hh
              replace Cp1 := gotE (T := tQ B32 l (mkRat (((ma u : Nat) : Int)) (1 * 2 ^ 1074))) (id := 35) (p := p1) 5 hh rfl rfl
              have tp24 := Cp24.lt
              clear Cp24
              have tp25 := Cp25.lt
              clear Cp25
              replace S2 := kp hk S2
              clear S3
              clear S6
              clear S7
              have S3 := gotV hz' 6 hh rfl rfl rfl rfl
              clear tp24 tp25
              replace HB := RelC.aftM HB hC (by intro m hm; simp at hm; rcases hm with rfl <;> assumption)
              clear hC hk hh; replace hz := hz'; replace hd := hd'; clear hz' hd'
              refine wp_ret ?_
              refine ret_to (T := tT [tQ B32 l (mkRat (((ma u : Nat) : Int)) (1 * 2 ^ 1074)), tV (.bool (decide (1 * 2 ^ 1074 ≠ 0)))]) (retct_q32 (by kernel_rfl) S2 S3 hd Cp1 HB) ?_
              exact to2 (tQ_to (by decide) (rt_v0 hc23 (by rw [rt_iff hu]; omega)).symm (Nat.le_refl _)) (tV_to (by rw [decide_eq_true (show RtOk u by rw [rt_iff hu]; omega), decide_eq_true (fr_ne 1074)]))
            · rw [decide_eq_false hc23] at S40
              refine wp_cond_false S40.ev ?_
              refine region_text (M := []) (
                  rT (tV (.int .u64 ((ma u : Nat) : Int))) ::
                  rT (tV (.int .u64 ((ma u + 4503599627370496 : Nat) : Int))) ::
                  rT (tV (.int .u64 ((ma u + 4503599627370496 : Nat) : Int))) ::
                  []) hz hd (by kernel_rfl) ?_ ?_
              · refine ⟨?_, ?_, ?_, trivial⟩
                · exact zMv hz (sv S5)
                · exact sBin rfl rfl rfl hz rfl (Gd.none_ rfl) rfl (sd 0 rfl) kc (fun w => f_or w)
                · exact zAs hz (sd 1 rfl)
              intro a' γ' W' hz' hd' hC hk hh
              have tp1 := Cp1.lt
              replace Cp1 := kC hC Cp1
              replace S2 := kp hk S2
              replace S3 := kp hk S3
              replace S4 := kp hk S4
              clear S5
              clear S40
              have S5 := gotV hz' 2 hh rfl rfl rfl rfl
              clear tp1
              replace HB := aft_call HB (RelC.below_nil hC)
              clear hC hk hh; replace hz := hz'; replace hd := hd'; clear hz' hd'
              refine wp_seq ?_
              refine region_text (M := []) (
                  rT (tV (.int .u64 ((ma u + 4503599627370496 : Nat) : Int))) ::
                  rT (tN B32 2 (ma u + 4503599627370496)) ::
                  rT (tN B32 2 1) ::
                  rVar 3 33 1 ::
                  rVar 4 33 1 ::
                  rB 3 33 (tN B32 2 (ma u + 4503599627370496)) (some 3) 4 ::
                  rB 4 33 (tN B32 2 1) (some 4) 5 ::
                  []) hz hd (by kernel_rfl) ?_ ?_
              · refine ⟨?_, ?_, ?_, ?_, ?_, ?_, ?_, trivial⟩
                · exact zMv hz (sv S5)
                · exact zC1 hz Try.func21 (sd 0 rfl) (k1 (fun _ => d_of (by unfold B64; omega)))
                · exact zC1 hz Try.func21 (kc (v := .int .u64 1)) (k1 (fun _ => d_of (by decide)))
                · exact zAl hz nd_slice al_n32
                · exact zAl hz nd_slice al_n32
                · exact zSt (sd 1 rfl) st_n32
                · exact zSt (sd 2 rfl) st_n32
              intro a' γ' W' hz' hd' hC hk hh
              have ep1 := Cp1.lt
              have tp1 := Cp1.lt
              replace Cp1 := kC hC Cp1
              replace S2 := kp hk S2
              replace S3 := kp hk S3
              replace S4 := kp hk S4
              clear S5
              obtain ⟨p26, S6, Cp26, lp26, gp26⟩ := gotB hz' 5 hC hh rfl rfl rfl rfl rfl rfl
              obtain ⟨p27, S7, Cp27, lp27, gp27⟩ := gotB hz' 6 hC hh rfl rfl rfl rfl rfl rfl
              have n_p26_p1 : p26 ≠ p1 := by omega
              have n_p26_p27 : p26 ≠ p27 := by intro e; rw [e, gp27] at gp26; omega
              have n_p27_p1 : p27 ≠ p1 := by omega
              have n_p27_p26 : p27 ≠ p26 := by intro e; rw [e, gp26] at gp27; omega
              have n_p1_p26 : p1 ≠ p26 := by have := ep1; omega
              have n_p1_p27 : p1 ≠ p27 := by have := ep1; omega
              have bp26 : w.heap.size ≤ p26 := Nat.le_trans HB.size lp26
              have bp27 : w.heap.size ≤ p27 := Nat.le_trans HB.size lp27
              clear lp26 gp26 lp27 gp27
              clear tp1
              clear ep1
              replace HB := aft_call HB (RelC.below_nil hC)
              clear hC hk hh; replace hz := hz'; replace hd := hd'; clear hz' hd'
              refine wp_seq ?_
              refine wp_seq ?_
              refine region_text (M := []) (
                  rT (tV (.int .i64 ((ex u : Nat) : Int))) ::
                  rT (tV (.bool (decide (((ex u : Nat) : Int) ≥ 1075)))) ::
                  []) hz hd (by kernel_rfl) ?_ ?_
              · refine ⟨?_, ?_, trivial⟩
                · exact zMv hz (sv S4)
                · exact sBin rfl rfl rfl hz rfl (Gd.none_ rfl) rfl (sd 0 rfl) kc (fun w => run_geq)
              intro a' γ' W' hz' hd' hC hk hh
              have tp1 := Cp1.lt
              replace Cp1 := kC hC Cp1
              have tp26 := Cp26.lt
              replace Cp26 := kC hC Cp26
              have tp27 := Cp27.lt
              replace Cp27 := kC hC Cp27
              replace S2 := kp hk S2
              replace S3 := kp hk S3
              replace S4 := kp hk S4
              replace S6 := kp hk S6
              replace S7 := kp hk S7
              have S47 := gotV hz' 1 hh rfl rfl rfl rfl
              clear tp1 tp26 tp27
              replace HB := aft_call HB (RelC.below_nil hC)
              clear hC hk hh; replace hz := hz'; replace hd := hd'; clear hz' hd'
              by_cases hc28 : ((ex u : Nat) : Int) ≥ 1075
              · omega
              · rw [decide_eq_false hc28] at S47
                refine wp_cond_false S47.ev ?_
                refine region_text (M := [p27]) (
                    rT (tN B32 2 1) ::
                    rT (tV (.int .i64 ((ex u : Nat) : Int))) ::
                    rT (tV (.int .i64 ((1075 - ex u : Nat) : Int))) ::
                    rT (tN B32 67 (1 * 2 ^ ((1075 - ex u)))) ::
                    rE 0 33 (tN B32 67 (1 * 2 ^ ((1075 - ex u)))) p27 ::
                    []) hz hd (by kernel_rfl) ?_ ?_
                · refine ⟨?_, ?_, ?_, ?_, ?_, trivial⟩
                  · exact sLoadM rfl rfl rfl hz rfl (Gd.none_ rfl) rfl (sv S7) Cp27 (k := 0) (by simp [tagOf]) (by kernel_rfl) ld_n32
                  · exact zMv hz (sv S4)
                  · exact sBin rfl rfl rfl hz rfl (Gd.none_ rfl) rfl kc (sd 1 rfl) (fun w => f_sub1 (by omega) w)
                  · exact zC2 hz Try.func36 (sd 0 rfl) (sd 2 rfl) (k01 (fun _ _ h0 => d_left1 (k := (1075 - ex u)) h0 (by decide) (by omega)))
                  · exact zSE rfl (sv S7) (by simp [tagOf]) (Cp27.var tN_nd) (sd 3 rfl) st_n32
                intro a' γ' W' hz' hd' hC hk hh
                have tp1 := Cp1.lt
                replace Cp1 := kC hC Cp1 (by simp [tagOf, n_p1_p27])
                have tp26 := Cp26.lt
                replace Cp26 := kC hC Cp26 (by simp [tagOf, n_p26_p27])
                replace Cp27 := gotE (T := tN B32 67 (1 * 2 ^ ((1075 - ex u)))) (id := 33) (p := p27) 4 hh rfl rfl
                replace S2 := kp hk S2
                replace S3 := kp hk S3
                clear S4
                replace S6 := kp hk S6
                replace S7 := kp hk S7
                clear S47
                clear tp1 tp26
                replace HB := RelC.aftM HB hC (by intro m hm; simp at hm; rcases hm with rfl <;> assumption)
                clear hC hk hh; replace hz := hz'; replace hd := hd'; clear hz' hd'
                refine wp_seq ?_
                refine region_text (M := [p1]) (
                    rT (tN B32 2 (ma u + 4503599627370496)) ::
                    rT (tN B32 67 (1 * 2 ^ ((1075 - ex u)))) ::
                    rT (tT [tQ B32 l (mkRat (((ma u + 4503599627370496 : Nat) : Int)) (1 * 2 ^ ((1075 - ex u)))), tV (.bool (decide (1 * 2 ^ ((1075 - ex u)) ≠ 0)))]) ::
                    rT (tQ B32 l (mkRat (((ma u + 4503599627370496 : Nat) : Int)) (1 * 2 ^ ((1075 - ex u))))) ::
                    rT (tV (.bool (decide (1 * 2 ^ ((1075 - ex u)) ≠ 0)))) ::
                    rE 0 35 (tQ B32 l (mkRat (((ma u + 4503599627370496 : Nat) : Int)) (1 * 2 ^ ((1075 - ex u))))) p1 ::
                    rT (tV (.bool (decide (1 * 2 ^ ((1075 - ex u)) ≠ 0)))) ::
                    []) hz hd (by kernel_rfl) ?_ ?_
                · refine ⟨?_, ?_, ?_, ?_, ?_, ?_, ?_, trivial⟩
                  · exact zLd hz (sv S6) Cp26 ld_n32 (by simp [tagOf, n_p26_p1])
                  · exact zLd hz (sv S7) Cp27 ld_n32 (by simp [tagOf, n_p27_p1])
                  · exact zC2 hz Try.func37 (sd 0 rfl) (sd 1 rfl) (fun _ _ _ h0 h1 => dq_from (l := l) h0 h1 (by decide) (by decide) (fb_2 (by omega)) (fr_p (n := (1075 - ex u)) (by omega)) (by omega))
                  · exact zExt hz (sd 2 rfl)
                  · exact zExt hz (sd 2 rfl)
                  · exact zSE rfl (sv S2) (by simp [tagOf]) (Cp1.var tR_nd) (sd 3 rfl) st_q32
                  · exact zAs hz (sd 4 rfl)
                intro a' γ' W' hz' hd' hC hk hh
                replace Cp1 := gotE (T := tQ B32 l (mkRat (((ma u + 4503599627370496 : Nat) : Int)) (1 * 2 ^ ((1075 - ex u))))) (id := 35) (p := p1) 5 hh rfl rfl
                have tp26 := Cp26.lt
                clear Cp26
                have tp27 := Cp27.lt
                clear Cp27
                replace S2 := kp hk S2
                clear S3
                clear S6
                clear S7
                have S3 := gotV hz' 6 hh rfl rfl rfl rfl
                clear tp26 tp27
                replace HB := RelC.aftM HB hC (by intro m hm; simp at hm; rcases hm with rfl <;> assumption)
                clear hC hk hh; replace hz := hz'; replace hd := hd'; clear hz' hd'
                refine wp_ret ?_
                refine ret_to (T := tT [tQ B32 l (mkRat (((ma u + 4503599627370496 : Nat) : Int)) (1 * 2 ^ ((1075 - ex u)))), tV (.bool (decide (1 * 2 ^ ((1075 - ex u)) ≠ 0)))]) (retct_q32 (by kernel_rfl) S2 S3 hd Cp1 HB) ?_
                exact to2 (tQ_to (by decide) (rt_v1 hc23 (by omega) (by rw [rt_iff hu]; omega)).symm (Nat.le_refl _)) (tV_to (by rw [decide_eq_true (show RtOk u by rw [rt_iff hu]; omega), decide_eq_true (fr_ne (1075 - ex u))]))
        · refine region_text (M := []) (
              rT (tV (.int .i64 ((ex u : Nat) : Int))) ::
              rT (tV (.bool false)) ::
              rT (tV (.bool false)) ::
              rT (tV (.int .u64 (u : Int))) ::
              rT (tV (.int .u64 ((u / 9223372036854775808 : Nat) : Int))) ::
              rT (tV (.bool false)) ::
              rT (tV (.bool false)) ::
              rT (tV undef) ::
              rT (tV undef) ::
              rT (tV undef) ::
              rT (tV (.bool false)) ::
              rT (tV (.bool false)) ::
              rT (tV (.bool false)) ::
              rT (tV (.int .i64 ((ex u : Nat) : Int))) ::
              rT (tV (.bool false)) ::
              rT (tV (.bool false)) ::
              rT (tV (.bool false)) ::
              rT (tV (.int .i64 ((ex u : Nat) : Int))) ::
              rT (tV (.bool false)) ::
              rT (tV (.bool false)) ::
              rT (tV undef) ::
              rT (tV undef) ::
              rT (tV (.bool false)) ::
              rT (tV (.bool false)) ::
              []) hz hd (by kernel_rfl) ?_ ?_
          · refine ⟨?_, ?_, ?_, ?_, ?_, ?_, ?_, ?_, ?_, ?_, ?_, ?_, ?_, ?_, ?_, ?_, ?_, ?_, ?_, ?_, ?_, ?_, ?_, ?_, trivial⟩
            · exact zMv hz (sv S4)
            · exact sBin rfl rfl rfl hz rfl (Gd.none_ rfl) rfl (sd 0 rfl) kc (fun w => run_f (P := ((ex u : Nat) : Int) = 2047) ((fun w => run_eql) w) hc2)
            · exact zMv hz (sd 1 rfl)
            · exact zMv hz (sv S0) (g := gT 2 rfl)
            · exact sBin rfl rfl rfl hz rfl (gT 2 rfl) rfl (sd 3 rfl) kc (fun w => f_shr63 w)
            · exact sBin rfl rfl rfl hz rfl (gT 2 rfl) rfl (sd 4 rfl) kc (fun w => run_f (P := ((u / 9223372036854775808 : Nat) : Int) = 1) ((fun w => run_eqlu) w) hc3)
            · exact zMv hz (sd 5 rfl) (g := gT 2 rfl)
            · exact zSkU hz (gN 6 rfl)
            · exact zSkU hz (gN 6 rfl)
            · exact zSkU hz (gN 6 rfl)
            · exact zPF hz (sd 6 rfl) kc (g := gT 2 rfl)
            · exact zPF hz (sd 2 rfl) (sd 10 rfl)
            · exact zMv hz (sd 11 rfl)
            · exact zMv hz (sv S4) (g := gT 12 rfl)
            · exact sBin rfl rfl rfl hz rfl (gT 12 rfl) rfl (sd 13 rfl) kc (fun w => run_f (P := ((ex u : Nat) : Int) > 1043) ((fun w => run_gtr) w) hc20)
            · exact zPF hz (sd 12 rfl) (sd 14 rfl)
            · exact zMv hz (sd 15 rfl)
            · exact zMv hz (sv S4) (g := gT 16 rfl)
            · exact sBin rfl rfl rfl hz rfl (gT 16 rfl) rfl (sd 17 rfl) kc (fun w => run_f (P := ((ex u : Nat) : Int) = 1043) ((fun w => run_eql) w) hc21)
            · exact zMv hz (sd 18 rfl) (g := gT 16 rfl)
            · exact zSkU hz (gN 19 rfl)
            · exact zSkU hz (gN 19 rfl)
            · exact zPF hz (sd 19 rfl) kc (g := gT 16 rfl)
            · exact zPF hz (sd 16 rfl) (sd 22 rfl)
          intro a' γ' W' hz' hd' hC hk hh
          have tp1 := Cp1.lt
          replace Cp1 := kC hC Cp1
          clear S0
          replace S2 := kp hk S2
          replace S3 := kp hk S3
          replace S4 := kp hk S4
          replace S5 := kp hk S5
          have S37 := gotV hz' 23 hh rfl rfl rfl rfl
          clear tp1
          replace HB := aft_call HB (RelC.below_nil hC)
          clear hC hk hh; replace hz := hz'; replace hd := hd'; clear hz' hd'
          refine wp_cond_false S37.ev ?_
          refine wp_skip ?_
          refine wp_seq ?_
          refine wp_seq ?_
          refine region_text (M := []) (
              rT (tV (.int .i64 ((ex u : Nat) : Int))) ::
              rT (tV (.bool (decide (((ex u : Nat) : Int) = 0)))) ::
              []) hz hd (by kernel_rfl) ?_ ?_
          · refine ⟨?_, ?_, trivial⟩
            · exact zMv hz (sv S4)
            · exact sBin rfl rfl rfl hz rfl (Gd.none_ rfl) rfl (sd 0 rfl) kc (fun w => run_eql)
          intro a' γ' W' hz' hd' hC hk hh
          have tp1 := Cp1.lt
          replace Cp1 := kC hC Cp1
          replace S2 := kp hk S2
          replace S3 := kp hk S3
          replace S4 := kp hk S4
          replace S5 := kp hk S5
          clear S37
          have S40 := gotV hz' 1 hh rfl rfl rfl rfl
          clear tp1
          replace HB := aft_call HB (RelC.below_nil hC)
          clear hC hk hh; replace hz := hz'; replace hd := hd'; clear hz' hd'
          by_cases hc29 : ((ex u : Nat) : Int) = 0
          · rw [decide_eq_true hc29] at S40
            refine wp_cond_true S40.ev ?_
            refine region_text (M := []) (
                rT (tV (.int .i64 1)) ::
                []) hz hd (by kernel_rfl) ?_ ?_
            · refine ⟨?_, trivial⟩
              · exact zAs hz kc
            intro a' γ' W' hz' hd' hC hk hh
            have tp1 := Cp1.lt
            replace Cp1 := kC hC Cp1
            replace S2 := kp hk S2
            replace S3 := kp hk S3
            clear S4
            replace S5 := kp hk S5
            clear S40
            have S4 := gotV hz' 0 hh rfl rfl rfl rfl
            clear tp1
            replace HB := aft_call HB (RelC.below_nil hC)
            clear hC hk hh; replace hz := hz'; replace hd := hd'; clear hz' hd'
            refine wp_seq ?_
            refine region_text (M := []) (
                rT (tV (.int .u64 ((ma u : Nat) : Int))) ::
                rT (tN B32 2 (ma u)) ::
                rT (tN B32 2 1) ::
                rVar 3 33 1 ::
                rVar 4 33 1 ::
                rB 3 33 (tN B32 2 (ma u)) (some 3) 4 ::
                rB 4 33 (tN B32 2 1) (some 4) 5 ::
                []) hz hd (by kernel_rfl) ?_ ?_
            · refine ⟨?_, ?_, ?_, ?_, ?_, ?_, ?_, trivial⟩
              · exact zMv hz (sv S5)
              · exact zC1 hz Try.func21 (sd 0 rfl) (k1 (fun _ => d_of (by unfold B64; omega)))
              · exact zC1 hz Try.func21 (kc (v := .int .u64 1)) (k1 (fun _ => d_of (by decide)))
              · exact zAl hz nd_slice al_n32
              · exact zAl hz nd_slice al_n32
              · exact zSt (sd 1 rfl) st_n32
              · exact zSt (sd 2 rfl) st_n32
            intro a' γ' W' hz' hd' hC hk hh
            have ep1 := Cp1.lt
            have tp1 := Cp1.lt
            replace Cp1 := kC hC Cp1
            replace S2 := kp hk S2
            replace S3 := kp hk S3
            clear S5
            replace S4 := kp hk S4
            obtain ⟨p30, S6, Cp30, lp30, gp30⟩ := gotB hz' 5 hC hh rfl rfl rfl rfl rfl rfl
            obtain ⟨p31, S7, Cp31, lp31, gp31⟩ := gotB hz' 6 hC hh rfl rfl rfl rfl rfl rfl
            have n_p30_p1 : p30 ≠ p1 := by omega
            have n_p30_p31 : p30 ≠ p31 := by intro e; rw [e, gp31] at gp30; omega
            have n_p31_p1 : p31 ≠ p1 := by omega
            have n_p31_p30 : p31 ≠ p30 := by intro e; rw [e, gp30] at gp31; omega
            have n_p1_p30 : p1 ≠ p30 := by have := ep1; omega
            have n_p1_p31 : p1 ≠ p31 := by have := ep1; omega
            have bp30 : w.heap.size ≤ p30 := Nat.le_trans HB.size lp30
            have bp31 : w.heap.size ≤ p31 := Nat.le_trans HB.size lp31
            clear lp30 gp30 lp31 gp31
            clear tp1
            clear ep1
            replace HB := aft_call HB (RelC.below_nil hC)
            clear hC hk hh; replace hz := hz'; replace hd := hd'; clear hz' hd'
            refine wp_seq ?_
            refine wp_seq ?_
            refine region_text (M := []) (
                rT (tV (.int .i64 1)) ::
                rT (tV (.bool false)) ::
                []) hz hd (by kernel_rfl) ?_ ?_
            · refine ⟨?_, ?_, trivial⟩
              · exact zMv hz (sv S4)
              · exact sBin rfl rfl rfl hz rfl (Gd.none_ rfl) rfl (sd 0 rfl) kc (fun w => by simp [go_sem])
            intro a' γ' W' hz' hd' hC hk hh
            have tp1 := Cp1.lt
            replace Cp1 := kC hC Cp1
            have tp30 := Cp30.lt
            replace Cp30 := kC hC Cp30
            have tp31 := Cp31.lt
            replace Cp31 := kC hC Cp31
            replace S2 := kp hk S2
            replace S3 := kp hk S3
            replace S4 := kp hk S4
            replace S6 := kp hk S6
            replace S7 := kp hk S7
            have S47 := gotV hz' 1 hh rfl rfl rfl rfl
            clear tp1 tp30 tp31
            replace HB := aft_call HB (RelC.below_nil hC)
            clear hC hk hh; replace hz := hz'; replace hd := hd'; clear hz' hd'
            refine wp_cond_false S47.ev ?_
            refine region_text (M := [p31]) (
                rT (tN B32 2 1) ::
                rT (tV (.int .i64 1)) ::
                rT (tV (.int .i64 1074)) ::
                rT (tN B32 67 (1 * 2 ^ 1074)) ::
                rE 0 33 (tN B32 67 (1 * 2 ^ 1074)) p31 ::
                []) hz hd (by kernel_rfl) ?_ ?_
            · refine ⟨?_, ?_, ?_, ?_, ?_, trivial⟩
              · exact sLoadM rfl rfl rfl hz rfl (Gd.none_ rfl) rfl (sv S7) Cp31 (k := 0) (by simp [tagOf]) (by kernel_rfl) ld_n32
              · exact zMv hz (sv S4)
              · exact sBin rfl rfl rfl hz rfl (Gd.none_ rfl) rfl kc (sd 1 rfl) (fun w => by kernel_rfl)
              · exact zC2 hz Try.func36 (sd 0 rfl) (sd 2 rfl) (k01 (fun _ _ h0 => d_left1 (k := 1074) h0 (by decide) (by omega)))
              · exact zSE rfl (sv S7) (by simp [tagOf]) (Cp31.var tN_nd) (sd 3 rfl) st_n32
            intro a' γ' W' hz' hd' hC hk hh
            have tp1 := Cp1.lt
            replace Cp1 := kC hC Cp1 (by simp [tagOf, n_p1_p31])
            have tp30 := Cp30.lt
            replace Cp30 := kC hC Cp30 (by simp [tagOf, n_p30_p31])
            replace Cp31 := gotE (T := tN B32 67 (1 * 2 ^ 1074)) (id := 33) (p := p31) 4 hh rfl rfl
            replace S2 := kp hk S2
            replace S3 := kp hk S3
            clear S4
            replace S6 := kp hk S6
            replace S7 := kp hk S7
            clear S47
            clear tp1 tp30
            replace HB := RelC.aftM HB hC (by intro m hm; simp at hm; rcases hm with rfl <;> assumption)
            clear hC hk hh; replace hz := hz'; replace hd := hd'; clear hz' hd'
            refine wp_seq ?_
            refine region_text (M := [p1]) (
                rT (tN B32 2 (ma u)) ::
                rT (tN B32 67 (1 * 2 ^ 1074)) ::
                rT (tT [tQ B32 l (mkRat (((ma u : Nat) : Int)) (1 * 2 ^ 1074)), tV (.bool (decide (1 * 2 ^ 1074 ≠ 0)))]) ::
                rT (tQ B32 l (mkRat (((ma u : Nat) : Int)) (1 * 2 ^ 1074))) ::
                rT (tV (.bool (decide (1 * 2 ^ 1074 ≠ 0)))) ::
                rE 0 35 (tQ B32 l (mkRat (((ma u : Nat) : Int)) (1 * 2 ^ 1074))) p1 ::
                rT (tV (.bool (decide (1 * 2 ^ 1074 ≠ 0)))) ::
                []) hz hd (by kernel_rfl) ?_ ?_
            · refine ⟨?_, ?_, ?_, ?_, ?_, ?_, ?_, trivial⟩
              · exact zLd hz (sv S6) Cp30 ld_n32 (by simp [tagOf, n_p30_p1])
              · exact zLd hz (sv S7) Cp31 ld_n32 (by simp [tagOf, n_p31_p1])
              · exact zC2 hz Try.func37 (sd 0 rfl) (sd 1 rfl) (fun _ _ _ h0 h1 => dq_from (l := l) h0 h1 (by decide) (by decide) (fb_1 (by omega)) (fr_p (n := 1074) (by omega)) (by omega))
              · exact zExt hz (sd 2 rfl)
              · exact zExt hz (sd 2 rfl)
              · exact zSE rfl (sv S2) (by simp [tagOf]) (Cp1.var tR_nd) (sd 3 rfl) st_q32
              · exact zAs hz (sd 4 rfl)
            intro a' γ' W' hz' hd' hC hk hh
            replace Cp1 := gotE (T := tQ B32 l (mkRat (((ma u : Nat) : Int)) (1 * 2 ^ 1074))) (id := 35) (p := p1) 5 hh rfl rfl
            have tp30 := Cp30.lt
            clear Cp30
            have tp31 := Cp31.lt
            clear Cp31
            replace S2 := kp hk S2
            clear S3
            clear S6
            clear S7
            have S3 := gotV hz' 6 hh rfl rfl rfl rfl
            clear tp30 tp31
            replace HB := RelC.aftM HB hC (by intro m hm; simp at hm; rcases hm with rfl <;> assumption)
            clear hC hk hh; replace hz := hz'; replace hd := hd'; clear hz' hd'
            refine wp_ret ?_
            refine ret_to (T := tT [tQ B32 l (mkRat (((ma u : Nat) : Int)) (1 * 2 ^ 1074)), tV (.bool (decide (1 * 2 ^ 1074 ≠ 0)))]) (retct_q32 (by kernel_rfl) S2 S3 hd Cp1 HB) ?_
            exact to2 (tQ_to (by decide) (rt_v0 hc29 (by rw [rt_iff hu]; omega)).symm (Nat.le_refl _)) (tV_to (by rw [decide_eq_true (show RtOk u by rw [rt_iff hu]; omega), decide_eq_true (fr_ne 1074)]))
          · rw [decide_eq_false hc29] at S40
            refine wp_cond_false S40.ev ?_
            refine region_text (M := []) (
                rT (tV (.int .u64 ((ma u : Nat) : Int))) ::
                rT (tV (.int .u64 ((ma u + 4503599627370496 : Nat) : Int))) ::
                rT (tV (.int .u64 ((ma u + 4503599627370496 : Nat) : Int))) ::
                []) hz hd (by kernel_rfl) ?_ ?_
            · refine ⟨?_, ?_, ?_, trivial⟩
              · exact zMv hz (sv S5)
              · exact sBin rfl rfl rfl hz rfl (Gd.none_ rfl) rfl (sd 0 rfl) kc (fun w => f_or w)
              · exact zAs hz (sd 1 rfl)
            intro a' γ' W' hz' hd' hC hk hh
            have tp1 := Cp1.lt
            replace Cp1 := kC hC Cp1
            replace S2 := kp hk S2
            replace S3 := kp hk S3
            replace S4 := kp hk S4
            clear S5
            clear S40
            have S5 := gotV hz' 2 hh rfl rfl rfl rfl
            clear tp1
            replace HB := aft_call HB (RelC.below_nil hC)
            clear hC hk hh; replace hz := hz'; replace hd := hd'; clear hz' hd'
            refine wp_seq ?_
            refine region_text (M := []) (
                rT (tV (.int .u64 ((ma u + 4503599627370496 : Nat) : Int))) ::
                rT (tN B32 2 (ma u + 4503599627370496)) ::
                rT (tN B32 2 1) ::
                rVar 3 33 1 ::
                rVar 4 33 1 ::
                rB 3 33 (tN B32 2 (ma u + 4503599627370496)) (some 3) 4 ::
                rB 4 33 (tN B32 2 1) (some 4) 5 ::
                []) hz hd (by kernel_rfl) ?_ ?_
            · refine ⟨?_, ?_, ?_, ?_, ?_, ?_, ?_, trivial⟩
              · exact zMv hz (sv S5)
              · exact zC1 hz Try.func21 (sd 0 rfl) (k1 (fun _ => d_of (by unfold B64; omega)))
              · exact zC1 hz Try.func21 (kc (v := .int .u64 1)) (k1 (fun _ => d_of (by decide)))
              · exact zAl hz nd_slice al_n32
              · exact zAl hz nd_slice al_n32
              · exact zSt (sd 1 rfl) st_n32
              · exact zSt (sd 2 rfl) st_n32
            intro a' γ' W' hz' hd' hC hk hh
            have ep1 := Cp1.lt
            have tp1 := Cp1.lt
            replace Cp1 := kC hC Cp1
            replace S2 := kp hk S2
            replace S3 := kp hk S3
            replace S4 := kp hk S4
            clear S5
            obtain ⟨p32, S6, Cp32, lp32, gp32⟩ := gotB hz' 5 hC hh rfl rfl rfl rfl rfl rfl
            obtain ⟨p33, S7, Cp33, lp33, gp33⟩ := gotB hz' 6 hC hh rfl rfl rfl rfl rfl rfl
            have n_p32_p1 : p32 ≠ p1 := by omega
            have n_p32_p33 : p32 ≠ p33 := by intro e; rw [e, gp33] at gp32; omega
            have n_p33_p1 : p33 ≠ p1 := by omega
            have n_p33_p32 : p33 ≠ p32 := by intro e; rw [e, gp32] at gp33; omega
            have n_p1_p32 : p1 ≠ p32 := by have := ep1; omega
            have n_p1_p33 : p1 ≠ p33 := by have := ep1; omega
            have bp32 : w.heap.size ≤ p32 := Nat.le_trans HB.size lp32
            have bp33 : w.heap.size ≤ p33 := Nat.le_trans HB.size lp33
            clear lp32 gp32 lp33 gp33
            clear tp1
            clear ep1
            replace HB := aft_call HB (RelC.below_nil hC)
            clear hC hk hh; replace hz := hz'; replace hd := hd'; clear hz' hd'
            refine wp_seq ?_
            refine wp_seq ?_
            refine region_text (M := []) (
                rT (tV (.int .i64 ((ex u : Nat) : Int))) ::
                rT (tV (.bool (decide (((ex u : Nat) : Int) ≥ 1075)))) ::
                []) hz hd (by kernel_rfl) ?_ ?_
            · refine ⟨?_, ?_, trivial⟩
              · exact zMv hz (sv S4)
              · exact sBin rfl rfl rfl hz rfl (Gd.none_ rfl) rfl (sd 0 rfl) kc (fun w => run_geq)
            intro a' γ' W' hz' hd' hC hk hh
            have tp1 := Cp1.lt
            replace Cp1 := kC hC Cp1
            have tp32 := Cp32.lt
            replace Cp32 := kC hC Cp32
            have tp33 := Cp33.lt
            replace Cp33 := kC hC Cp33
            replace S2 := kp hk S2
            replace S3 := kp hk S3
            replace S4 := kp hk S4
            replace S6 := kp hk S6
            replace S7 := kp hk S7
            have S47 := gotV hz' 1 hh rfl rfl rfl rfl
            clear tp1 tp32 tp33
            replace HB := aft_call HB (RelC.below_nil hC)
            clear hC hk hh; replace hz := hz'; replace hd := hd'; clear hz' hd'
            by_cases hc34 : ((ex u : Nat) : Int) ≥ 1075
            · omega
            · rw [decide_eq_false hc34] at S47
              refine wp_cond_false S47.ev ?_
              refine region_text (M := [p33]) (
                  rT (tN B32 2 1) ::
                  rT (tV (.int .i64 ((ex u : Nat) : Int))) ::
                  rT (tV (.int .i64 ((1075 - ex u : Nat) : Int))) ::
                  rT (tN B32 67 (1 * 2 ^ ((1075 - ex u)))) ::
                  rE 0 33 (tN B32 67 (1 * 2 ^ ((1075 - ex u)))) p33 ::
                  []) hz hd (by kernel_rfl) ?_ ?_
              · refine ⟨?_, ?_, ?_, ?_, ?_, trivial⟩
                · exact sLoadM rfl rfl rfl hz rfl (Gd.none_ rfl) rfl (sv S7) Cp33 (k := 0) (by simp [tagOf]) (by kernel_rfl) ld_n32
                · exact zMv hz (sv S4)
                · exact sBin rfl rfl rfl hz rfl (Gd.none_ rfl) rfl kc (sd 1 rfl) (fun w => f_sub1 (by omega) w)
                · exact zC2 hz Try.func36 (sd 0 rfl) (sd 2 rfl) (k01 (fun _ _ h0 => d_left1 (k := (1075 - ex u)) h0 (by decide) (by omega)))
                · exact zSE rfl (sv S7) (by simp [tagOf]) (Cp33.var tN_nd) (sd 3 rfl) st_n32
              intro a' γ' W' hz' hd' hC hk hh
              have tp1 := Cp1.lt
              replace Cp1 := kC hC Cp1 (by simp [tagOf, n_p1_p33])
              have tp32 := Cp32.lt
              replace Cp32 := kC hC Cp32 (by simp [tagOf, n_p32_p33])
              replace Cp33 := gotE (T := tN B32 67 (1 * 2 ^ ((1075 - ex u)))) (id := 33) (p := p33) 4 hh rfl rfl
              replace S2 := kp hk S2
              replace S3 := kp hk S3
              clear S4
              replace S6 := kp hk S6
              replace S7 := kp hk S7
              clear S47
              clear tp1 tp32
              replace HB := RelC.aftM HB hC (by intro m hm; simp at hm; rcases hm with rfl <;> assumption)
              clear hC hk hh; replace hz := hz'; replace hd := hd'; clear hz' hd'
              refine wp_seq ?_
              refine region_text (M := [p1]) (
                  rT (tN B32 2 (ma u + 4503599627370496)) ::
                  rT (tN B32 67 (1 * 2 ^ ((1075 - ex u)))) ::
                  rT (tT [tQ B32 l (mkRat (((ma u + 4503599627370496 : Nat) : Int)) (1 * 2 ^ ((1075 - ex u)))), tV (.bool (decide (1 * 2 ^ ((1075 - ex u)) ≠ 0)))]) ::
                  rT (tQ B32 l (mkRat (((ma u + 4503599627370496 : Nat) : Int)) (1 * 2 ^ ((1075 - ex u))))) ::
                  rT (tV (.bool (decide (1 * 2 ^ ((1075 - ex u)) ≠ 0)))) ::
                  rE 0 35 (tQ B32 l (mkRat (((ma u + 4503599627370496 : Nat) : Int)) (1 * 2 ^ ((1075 - ex u))))) p1 ::
                  rT (tV (.bool (decide (1 * 2 ^ ((1075 - ex u)) ≠ 0)))) ::
                  []) hz hd (by kernel_rfl) ?_ ?_
              · refine ⟨?_, ?_, ?_, ?_, ?_, ?_, ?_, trivial⟩
                · exact zLd hz (sv S6) Cp32 ld_n32 (by simp [tagOf, n_p32_p1])
                · exact zLd hz (sv S7) Cp33 ld_n32 (by simp [tagOf, n_p33_p1])
                · exact zC2 hz Try.func37 (sd 0 rfl) (sd 1 rfl) (fun _ _ _ h0 h1 => dq_from (l := l) h0 h1 (by decide) (by decide) (fb_2 (by omega)) (fr_p (n := (1075 - ex u)) (by omega)) (by omega))
                · exact zExt hz (sd 2 rfl)
                · exact zExt hz (sd 2 rfl)
                · exact zSE rfl (sv S2) (by simp [tagOf]) (Cp1.var tR_nd) (sd 3 rfl) st_q32
                · exact zAs hz (sd 4 rfl)
              intro a' γ' W' hz' hd' hC hk hh
              replace Cp1 := gotE (T := tQ B32 l (mkRat (((ma u + 4503599627370496 : Nat) : Int)) (1 * 2 ^ ((1075 - ex u))))) (id := 35) (p := p1) 5 hh rfl rfl
              have tp32 := Cp32.lt
              clear Cp32
              have tp33 := Cp33.lt
              clear Cp33
              replace S2 := kp hk S2
              clear S3
              clear S6
              clear S7
              have S3 := gotV hz' 6 hh rfl rfl rfl rfl
              clear tp32 tp33
              replace HB := RelC.aftM HB hC (by intro m hm; simp at hm; rcases hm with rfl <;> assumption)
              clear hC hk hh; replace hz := hz'; replace hd := hd'; clear hz' hd'
              refine wp_ret ?_
              refine ret_to (T := tT [tQ B32 l (mkRat (((ma u + 4503599627370496 : Nat) : Int)) (1 * 2 ^ ((1075 - ex u)))), tV (.bool (decide (1 * 2 ^ ((1075 - ex u)) ≠ 0)))]) (retct_q32 (by kernel_rfl) S2 S3 hd Cp1 HB) ?_
              exact to2 (tQ_to (by decide) (rt_v1 hc29 (by omega) (by rw [rt_iff hu]; omega)).symm (Nat.le_refl _)) (tV_to (by rw [decide_eq_true (show RtOk u by rw [rt_iff hu]; omega), decide_eq_true (fr_ne (1075 - ex u))]))
end Go.Proofs.Ytojpiiboikomfaa.Rg

namespace Go.Proofs.Ytojpiiboikomfaa.Rg

open Go.RowKit

theorem newE_rate {u : Nat} {per : Int} (h : ¬ newE 1099511627776 u per 0 = 0) : newE 1099511627776 u per 0 = 98 := by
  unfold newE at h ⊢
  rw [if_neg (by decide)] at h ⊢
  by_cases h2 : ¬ RtOk u ∨ per < 1 ∨ per > 1073741824
  · rw [if_pos h2]
  · rw [if_neg h2, if_neg (by decide)] at h; exact absurd rfl h
theorem newE_no {u : Nat} {per : Int} (h : ¬ newE 1099511627776 u per 0 = 0) (h1 : RtOk u) (h2 : per ≥ 1) (h3 : per ≤ 1073741824) : False :=
  h (newE_0 (by decide) (by decide) h1 (by omega) (by omega) (by decide) (by decide))
section

variable {u : Nat} {per t : Int}
theorem rt_of {b t : Int} (h : newE b u per t = 0) : RtOk u := by obtain ⟨_, _, h3, h4, _⟩ := newE_inv h; exact ⟨h3, h4⟩
theorem per_1 {b t : Int} (h : newE b u per t = 0) : per ≥ 1 ∧ per ≤ 1073741824 := by obtain ⟨_, _, _, _, h5, h6, _⟩ := newE_inv h; omega
theorem br_v (ht0 : 0 ≤ t) (ht1 : t ≤ 4611686018427387904) (hp : 1 ≤ per) (hR : RtOk u) : divI (mulI (rtQ u) t) per = divI (flQ u) per * (t : Rat) ∧ atH 0 0 ((1099511627776 : Int) : Rat) (divI (flQ u) per) t = minQ (divI (flQ u) per * (t : Rat)) ((1099511627776 : Int) : Rat) := by
  have h0 : (per : Rat) ≠ 0 := by intro g; have := Rat.intCast_eq_zero_iff.1 g; omega
  constructor
  · unfold divI mulI rtQ
    rw [if_pos hp, if_pos hp, if_pos ht0, if_pos hR]
    grind
  · have e : TT 0 t - 0 = t := by unfold TT mnT; repeat' split
                                  all_goals omega
    unfold atH
    rw [e, Rat.zero_add]
theorem br_1 (ht0 : 0 ≤ t) (ht1 : t ≤ 4611686018427387904) (hp : 1 ≤ per) (hR : RtOk u) (h : 1099511627776 ≤ (divI (mulI (rtQ u) t) per).floor.toNat) : atH 0 0 ((1099511627776 : Int) : Rat) (divI (flQ u) per) t = ((1099511627776 : Nat) : Rat) := by
  obtain ⟨e1, e2⟩ := br_v ht0 ht1 hp hR
  rw [e1] at h
  have h1 : (1099511627776 : Int) ≤ (divI (flQ u) per * (t : Rat)).floor := by omega
  have h2 := Rat.le_floor_iff.1 h1
  have e3 : ((1099511627776 : Nat) : Rat) = ((1099511627776 : Int) : Rat) := rfl
  rw [e2, e3]; unfold minQ; split <;> grind
theorem br_2 (ht0 : 0 ≤ t) (ht1 : t ≤ 4611686018427387904) (hp : 1 ≤ per) (hR : RtOk u) (h : ¬ 1099511627776 ≤ (divI (mulI (rtQ u) t) per).floor.toNat) : atH 0 0 ((1099511627776 : Int) : Rat) (divI (flQ u) per) t = divI (mulI (rtQ u) t) per := by
  obtain ⟨e1, e2⟩ := br_v ht0 ht1 hp hR
  rw [e1] at h ⊢
  have h1 : ¬ (1099511627776 : Int) ≤ (divI (flQ u) per * (t : Rat)).floor := by omega
  rw [Rat.le_floor_iff] at h1
  rw [e2]; unfold minQ; split <;> grind
end

set_option maxRecDepth 10000 in
set_option maxHeartbeats 2000000 in
theorem bucketRate_ret {l u : Nat} {per t : Int} {w : World} (hl : 1100 ≤ l) (hl2 : l ≤ 9000) (hu : u < 18446744073709551616) (hp0 : -9223372036854775808 ≤ per) (hp : per < 9223372036854775808) (ht0 : -9223372036854775808 ≤ t) (ht : t < 9223372036854775808) :
    Calls Try.prog 4 #[.int .u64 (u : Int), .int .i64 per, .int .i64 t] w (Ret (tV (.bool true)) w) := by
  refine enter Try.func4 rfl Try.ntmps4 (by simp) ?_
  intro a hz hd ha
  have S0 := ha 0 _ rfl
  have S1 := ha 1 _ rfl
  have S2 := ha 2 _ rfl
  clear ha
  have HB : Below w.heap.size w w := Below.refl _ _
  have hf0 := few0 t (m := 4611686018427387904) (by decide)
  have hf1 := few1 t (m := 4611686018427387904) (by decide)
  refine wp_seq ?_
  refine region_text (M := []) (
      rT (tV (.bool false)) ::
      []) hz hd (by kernel_rfl) ?_ ?_
  · refine ⟨?_, trivial⟩
    · exact zAs hz kc
  intro a' γ' W' hz' hd' hC hk hh
  replace S0 := kp hk S0
  replace S1 := kp hk S1
  replace S2 := kp hk S2
  have S6 := gotV hz' 0 hh rfl rfl rfl rfl
  replace HB := aft_call HB (RelC.below_nil hC)
  clear hC hk hh; replace hz := hz'; replace hd := hd'; clear hz' hd'
  refine wp_seq ?_
  refine region_text (M := []) (
      rT (tV (.int .i64 t)) ::
      rT (tV (.int .i64 (fewV t 4611686018427387904))) ::
      rT (tV (.int .i64 (fewV t 4611686018427387904))) ::
      []) hz hd (by kernel_rfl) ?_ ?_
  · refine ⟨?_, ?_, ?_, trivial⟩
    · exact zMv hz (sv S2)
    · exact zC2 hz Try.func8 (sd 0 rfl) (kc (v := .int .i64 4611686018427387904)) (k11 (fun _ => l_few (n := t) (m := 4611686018427387904) (by omega) (by omega) (by decide) (by omega)))
    · exact zAs hz (sd 1 rfl)
  intro a' γ' W' hz' hd' hC hk hh
  replace S0 := kp hk S0
  replace S1 := kp hk S1
  clear S2
  replace S6 := kp hk S6
  have S2 := gotV hz' 2 hh rfl rfl rfl rfl
  replace HB := aft_call HB (RelC.below_nil hC)
  clear hC hk hh; replace hz := hz'; replace hd := hd'; clear hz' hd'
  refine wp_seq ?_
  by_cases hc1 : newE 1099511627776 u per 0 = 0
  · refine region_text (M := []) (
        rT (tV (.int .u64 (u : Int))) ::
        rT (tV (.float .f64 u)) ::
        rT (tV (.int .i64 per)) ::
        rN 3 80 (tO [tV (.int .i64 0), tQ B64 (l + 64 + 41) 0, tQ B64 42 (((1099511627776 : Int) : Rat)), tQ B64 (l + 64) (divI (flQ u) per)] [1, 2, 2, 2]) (.int .i64 0) ::
        rN 3 80 (tO [tV (.int .i64 0), tQ B64 (l + 64 + 41) 0, tQ B64 42 (((1099511627776 : Int) : Rat)), tQ B64 (l + 64) (divI (flQ u) per)] [1, 2, 2, 2]) (.int .i64 0) ::
        rB 3 80 (tO [tV (.int .i64 0), tQ B64 (l + 64 + 41) 0, tQ B64 42 (((1099511627776 : Int) : Rat)), tQ B64 (l + 64) (divI (flQ u) per)] [1, 2, 2, 2]) none 0 ::
        rT (tV (.int .i64 0)) ::
        rB 3 80 (tO [tV (.int .i64 0), tQ B64 (l + 64 + 41) 0, tQ B64 42 (((1099511627776 : Int) : Rat)), tQ B64 (l + 64) (divI (flQ u) per)] [1, 2, 2, 2]) none 0 ::
        rT (tV (.int .i64 0)) ::
        []) hz hd (by kernel_rfl) ?_ ?_
    · refine ⟨?_, ?_, ?_, ?_, ?_, ?_, ?_, ?_, ?_, trivial⟩
      · exact zMv hz (sv S0)
      · exact zC1 hz Try.func10 (sd 0 rfl) (k1 (fun _ => c_float))
      · exact zMv hz (sv S1)
      · exact zCN hz rfl Try.func9 (fun a γ w U => (by show Calls _ _ #[.int .i64 1099511627776, a.eval (.tmp 18), a.eval (.tmp 19), .int .i64 0] _ _; rw [show a.eval (.tmp 18) = .float .f64 u from Src.at_ (sd 1 rfl) U, show a.eval (.tmp 19) = .int .i64 per from Src.at_ (sd 2 rfl) U]; exact c_new_ok (l := l) hl (by omega) hu (by omega) hc1))
      · exact zMvN 3 3 rfl rfl hz rfl ⟨_, rfl, rfl⟩
      · exact zExP 3 4 rfl rfl hz rfl ⟨_, rfl, rfl⟩
      · exact zExU 3 4 rfl hz rfl ⟨_, rfl, rfl⟩
      · exact zPP 3 5 rfl rfl hz (.inr rfl) ⟨_, rfl, rfl⟩
      · exact zAs hz (sd 6 rfl)
    intro a' γ' W' hz' hd' hC hk hh
    replace S0 := kp hk S0
    replace S1 := kp hk S1
    replace S6 := kp hk S6
    replace S2 := kp hk S2
    obtain ⟨p2, S7, Cp2, lp2, gp2⟩ := gotP hz' 7 hC hh rfl rfl rfl rfl rfl
    have S8 := gotV hz' 8 hh rfl rfl rfl rfl
    have bp2 : w.heap.size ≤ p2 := Nat.le_trans HB.size lp2
    clear lp2 gp2
    replace HB := aft_call HB (RelC.below_nil hC)
    clear hC hk hh; replace hz := hz'; replace hd := hd'; clear hz' hd'
    refine wp_seq ?_
    refine region_text (M := []) (
        rT (tV (.int .u64 (u : Int))) ::
        rT (tT [tQ B32 l (rtQ u), tV (.bool (decide (RtOk u)))]) ::
        rT (tT [tQ B32 l (rtQ u), tV (.bool (decide (RtOk u)))]) ::
        rT (tQ B32 l (rtQ u)) ::
        rT (tV (.bool (decide (RtOk u)))) ::
        rVar 5 35 2 ::
        rB 5 35 (tQ B32 l (rtQ u)) (some 5) 6 ::
        rT (tV (.bool (decide (RtOk u)))) ::
        []) hz hd (by kernel_rfl) ?_ ?_
    · refine ⟨?_, ?_, ?_, ?_, ?_, ?_, ?_, ?_, trivial⟩
      · exact zMv hz (sv S0)
      · exact zC1 hz Try.func11 (sd 0 rfl) (k1 (fun _ => d_rate (l := l) (u := u) hu hl))
      · exact zMv hz (sd 1 rfl)
      · exact zExt hz (sd 2 rfl)
      · exact zExt hz (sd 2 rfl)
      · exact zAl hz nd_rat al_r32
      · exact zSt (sd 3 rfl) st_q32
      · exact zAs hz (sd 4 rfl)
    intro a' γ' W' hz' hd' hC hk hh
    have ep2 := Cp2.lt
    have tp2 := Cp2.lt
    replace Cp2 := kC hC Cp2
    clear S0
    replace S1 := kp hk S1
    replace S6 := kp hk S6
    replace S2 := kp hk S2
    replace S7 := kp hk S7
    replace S8 := kp hk S8
    obtain ⟨p3, S9, Cp3, lp3, gp3⟩ := gotB hz' 6 hC hh rfl rfl rfl rfl rfl rfl
    have S10 := gotV hz' 7 hh rfl rfl rfl rfl
    have n_p3_p2 : p3 ≠ p2 := by omega
    have n_p2_p3 : p2 ≠ p3 := by have := ep2; omega
    have bp3 : w.heap.size ≤ p3 := Nat.le_trans HB.size lp3
    clear lp3 gp3
    clear tp2
    clear ep2
    replace HB := aft_call HB (RelC.below_nil hC)
    clear hC hk hh; replace hz := hz'; replace hd := hd'; clear hz' hd'
    refine wp_seq ?_
    have hc4 : RtOk u := rt_of hc1
    rw [decide_eq_true hc4] at S10
    have hc5 : per ≥ 1 := (per_1 hc1).1
    refine region_text (M := []) (
        rT (tV (.bool true)) ::
        rT (tV (.bool true)) ::
        rT (tV (.int .i64 per)) ::
        rT (tV (.bool true)) ::
        rT (tV (.bool true)) ::
        rT (tV (.bool true)) ::
        rT (tV (.int .i64 per)) ::
        rT (tV (.bool (decide (per ≤ 1073741824)))) ::
        rT (tV (.bool (decide (per ≤ 1073741824)))) ::
        rT (tV (.bool (decide (per ≤ 1073741824)))) ::
        []) hz hd (by kernel_rfl) ?_ ?_
    · refine ⟨?_, ?_, ?_, ?_, ?_, ?_, ?_, ?_, ?_, ?_, trivial⟩
      · exact zMv hz (sv S10)
      · exact zMv hz (sd 0 rfl)
      · exact zMv hz (sv S1) (g := gT 1 rfl)
      · exact sBin rfl rfl rfl hz rfl (gT 1 rfl) rfl (sd 2 rfl) kc (fun w => run_t (P := per ≥ 1) ((fun w => run_geq) w) hc5)
      · exact zPT hz (sd 1 rfl) (sd 3 rfl)
      · exact zMv hz (sd 4 rfl)
      · exact zMv hz (sv S1) (g := gT 5 rfl)
      · exact sBin rfl rfl rfl hz rfl (gT 5 rfl) rfl (sd 6 rfl) kc (fun w => run_leq)
      · exact zPT hz (sd 5 rfl) (sd 7 rfl)
      · exact zAs hz (sd 8 rfl)
    intro a' γ' W' hz' hd' hC hk hh
    have tp2 := Cp2.lt
    replace Cp2 := kC hC Cp2
    have tp3 := Cp3.lt
    replace Cp3 := kC hC Cp3
    replace S1 := kp hk S1
    replace S6 := kp hk S6
    replace S2 := kp hk S2
    replace S7 := kp hk S7
    replace S8 := kp hk S8
    replace S9 := kp hk S9
    clear S10
    have S11 := gotV hz' 9 hh rfl rfl rfl rfl
    clear tp2 tp3
    replace HB := aft_call HB (RelC.below_nil hC)
    clear hC hk hh; replace hz := hz'; replace hd := hd'; clear hz' hd'
    refine wp_seq ?_
    refine wp_seq ?_
    have hc6 : per ≤ 1073741824 := (per_1 hc1).2
    rw [decide_eq_true hc6] at S11
    refine region_text (M := []) (
        rT (tV (.bool true)) ::
        rT (tV (.bool false)) ::
        rT (tV (.bool false)) ::
        rT (tV (.int .i64 0)) ::
        rT (tV (.bool true)) ::
        rT (tV (.bool true)) ::
        rT (tV (.bool false)) ::
        rT (tV (.bool false)) ::
        rT (tV (.bool false)) ::
        rT (tV (.pointer (some ⟨p2, 0, none⟩))) ::
        rT (tV (.bool false)) ::
        rT (tV (.bool true)) ::
        rT (tV (.bool false)) ::
        rT (tV (.bool false)) ::
        []) hz hd (by kernel_rfl) ?_ ?_
    · refine ⟨?_, ?_, ?_, ?_, ?_, ?_, ?_, ?_, ?_, ?_, ?_, ?_, ?_, ?_, trivial⟩
      · exact zC0 hz Try.func12 (fun _ => l_told8)
      · exact zNot hz (sd 0 rfl)
      · exact zMv hz (sd 1 rfl)
      · exact zMv hz (sv S8) (g := gT 2 rfl)
      · exact sBin rfl rfl rfl hz rfl (gT 2 rfl) rfl (sd 3 rfl) kc (fun w => by simp [go_sem])
      · exact zMv hz (sv S11) (g := gT 2 rfl)
      · exact sBin rfl rfl rfl hz rfl (gT 2 rfl) rfl (sd 4 rfl) (sd 5 rfl) (fun w => by kernel_rfl)
      · exact zPF hz (sd 2 rfl) (sd 6 rfl)
      · exact zMv hz (sd 7 rfl)
      · exact zMv hz (sv S7) (g := gT 8 rfl)
      · exact sBin rfl rfl rfl hz rfl (gT 8 rfl) rfl (sd 9 rfl) kc (fun w => by simp [go_sem])
      · exact zMv hz (sv S11) (g := gT 8 rfl)
      · exact sBin rfl rfl rfl hz rfl (gT 8 rfl) rfl (sd 10 rfl) (sd 11 rfl) (fun w => by kernel_rfl)
      · exact zPF hz (sd 8 rfl) (sd 12 rfl)
    intro a' γ' W' hz' hd' hC hk hh
    have tp2 := Cp2.lt
    replace Cp2 := kC hC Cp2
    have tp3 := Cp3.lt
    replace Cp3 := kC hC Cp3
    replace S1 := kp hk S1
    replace S6 := kp hk S6
    replace S2 := kp hk S2
    replace S7 := kp hk S7
    replace S8 := kp hk S8
    replace S9 := kp hk S9
    replace S11 := kp hk S11
    have S50 := gotV hz' 13 hh rfl rfl rfl rfl
    clear tp2 tp3
    replace HB := aft_call HB (RelC.below_nil hC)
    clear hC hk hh; replace hz := hz'; replace hd := hd'; clear hz' hd'
    refine wp_cond_false S50.ev ?_
    refine wp_skip ?_
    refine wp_seq ?_
    refine wp_seq ?_
    refine region_text (M := []) (
        rT (tV (.bool true)) ::
        rT (tV (.bool false)) ::
        []) hz hd (by kernel_rfl) ?_ ?_
    · refine ⟨?_, ?_, trivial⟩
      · exact zMv hz (sv S11)
      · exact zNot hz (sd 0 rfl)
    intro a' γ' W' hz' hd' hC hk hh
    have tp2 := Cp2.lt
    replace Cp2 := kC hC Cp2
    have tp3 := Cp3.lt
    replace Cp3 := kC hC Cp3
    replace S1 := kp hk S1
    replace S6 := kp hk S6
    replace S2 := kp hk S2
    replace S7 := kp hk S7
    replace S8 := kp hk S8
    replace S9 := kp hk S9
    clear S11
    clear S50
    have S52 := gotV hz' 1 hh rfl rfl rfl rfl
    clear tp2 tp3
    replace HB := aft_call HB (RelC.below_nil hC)
    clear hC hk hh; replace hz := hz'; replace hd := hd'; clear hz' hd'
    refine wp_cond_false S52.ev ?_
    refine wp_skip ?_
    refine wp_seq ?_
    refine region_text (M := []) (
        rT (tQ B32 l (rtQ u)) ::
        rT (tV (.int .i64 (fewV t 4611686018427387904))) ::
        rT (tT [tQ B32 (l + 64) (mulI (rtQ u) (fewV t 4611686018427387904)), tV (.bool (decide (0 ≤ fewV t 4611686018427387904)))]) ::
        rT (tT [tQ B32 (l + 64) (mulI (rtQ u) (fewV t 4611686018427387904)), tV (.bool (decide (0 ≤ fewV t 4611686018427387904)))]) ::
        rT (tQ B32 (l + 64) (mulI (rtQ u) (fewV t 4611686018427387904))) ::
        rT (tV (.bool (decide (0 ≤ fewV t 4611686018427387904)))) ::
        rVar 6 35 2 ::
        rB 6 35 (tQ B32 (l + 64) (mulI (rtQ u) (fewV t 4611686018427387904))) (some 6) 7 ::
        rT (tV (.bool (decide (0 ≤ fewV t 4611686018427387904)))) ::
        []) hz hd (by kernel_rfl) ?_ ?_
    · refine ⟨?_, ?_, ?_, ?_, ?_, ?_, ?_, ?_, ?_, trivial⟩
      · exact zLd hz (sv S9) Cp3 ld_q32
      · exact zMv hz (sv S2)
      · exact zC2 hz Try.func15 (sd 0 rfl) (sd 1 rfl) (k01 (fun _ _ h0 => dq_mulint (n := (fewV t 4611686018427387904)) h0 (by omega) (by omega)))
      · exact zMv hz (sd 2 rfl)
      · exact zExt hz (sd 3 rfl)
      · exact zExt hz (sd 3 rfl)
      · exact zAl hz nd_rat al_r32
      · exact zSt (sd 4 rfl) st_q32
      · exact zAs hz (sd 5 rfl)
    intro a' γ' W' hz' hd' hC hk hh
    have ep2 := Cp2.lt
    have ep3 := Cp3.lt
    have tp2 := Cp2.lt
    replace Cp2 := kC hC Cp2
    have tp3 := Cp3.lt
    clear Cp3
    replace S1 := kp hk S1
    replace S6 := kp hk S6
    replace S2 := kp hk S2
    replace S7 := kp hk S7
    clear S8
    clear S9
    clear S52
    obtain ⟨p7, S12, Cp7, lp7, gp7⟩ := gotB hz' 7 hC hh rfl rfl rfl rfl rfl rfl
    have n_p7_p2 : p7 ≠ p2 := by omega
    have n_p2_p7 : p2 ≠ p7 := by have := ep2; omega
    have bp7 : w.heap.size ≤ p7 := Nat.le_trans HB.size lp7
    clear lp7 gp7
    clear tp2 tp3
    clear ep2 ep3
    replace HB := aft_call HB (RelC.below_nil hC)
    clear hC hk hh; replace hz := hz'; replace hd := hd'; clear hz' hd'
    refine wp_seq ?_
    refine region_text (M := [p7]) (
        rT (tQ B32 (l + 64) (mulI (rtQ u) (fewV t 4611686018427387904))) ::
        rT (tV (.int .i64 per)) ::
        rT (tT [tQ B32 ((l + 64) + 65) (divI (mulI (rtQ u) (fewV t 4611686018427387904)) per), tV (.bool (decide (1 ≤ per)))]) ::
        rT (tT [tQ B32 ((l + 64) + 65) (divI (mulI (rtQ u) (fewV t 4611686018427387904)) per), tV (.bool (decide (1 ≤ per)))]) ::
        rT (tQ B32 ((l + 64) + 65) (divI (mulI (rtQ u) (fewV t 4611686018427387904)) per)) ::
        rT (tV (.bool (decide (1 ≤ per)))) ::
        rE 0 35 (tQ B32 ((l + 64) + 65) (divI (mulI (rtQ u) (fewV t 4611686018427387904)) per)) p7 ::
        []) hz hd (by kernel_rfl) ?_ ?_
    · refine ⟨?_, ?_, ?_, ?_, ?_, ?_, ?_, trivial⟩
      · exact sLoadM rfl rfl rfl hz rfl (Gd.none_ rfl) rfl (sv S12) Cp7 (k := 0) (by simp [tagOf]) (by kernel_rfl) ld_q32
      · exact zMv hz (sv S1)
      · exact zC2 hz Try.func13 (sd 0 rfl) (sd 1 rfl) (k01 (fun _ _ h0 => dq_divint (n := per) h0 (by omega) (by omega)))
      · exact zMv hz (sd 2 rfl)
      · exact zExt hz (sd 3 rfl)
      · exact zExt hz (sd 3 rfl)
      · exact zSE rfl (sv S12) (by simp [tagOf]) (Cp7.var tQ_nd) (sd 4 rfl) st_q32
    intro a' γ' W' hz' hd' hC hk hh
    have tp2 := Cp2.lt
    replace Cp2 := kC hC Cp2 (by simp [tagOf, n_p2_p7])
    replace Cp7 := gotE (T := tQ B32 ((l + 64) + 65) (divI (mulI (rtQ u) (fewV t 4611686018427387904)) per)) (id := 35) (p := p7) 6 hh rfl rfl
    clear S1
    replace S6 := kp hk S6
    replace S2 := kp hk S2
    replace S7 := kp hk S7
    replace S12 := kp hk S12
    clear tp2
    replace HB := RelC.aftM HB hC (by intro m hm; simp at hm; rcases hm with rfl <;> assumption)
    clear hC hk hh; replace hz := hz'; replace hd := hd'; clear hz' hd'
    refine wp_seq ?_
    refine wp_seq ?_
    refine region_text (M := []) (
        rT (tQ B32 ((l + 64) + 65) (divI (mulI (rtQ u) (fewV t 4611686018427387904)) per)) ::
        rT (tN B32 ((l + 64) + 65) ((divI (mulI (rtQ u) (fewV t 4611686018427387904)) per).floor.toNat)) ::
        rT (tN B32 2 1099511627776) ::
        rT (tV (.int .i64 (cmpI ((divI (mulI (rtQ u) (fewV t 4611686018427387904)) per).floor.toNat) 1099511627776))) ::
        rT (tV (.bool (decide (1099511627776 ≤ (divI (mulI (rtQ u) (fewV t 4611686018427387904)) per).floor.toNat)))) ::
        []) hz hd (by kernel_rfl) ?_ ?_
    · refine ⟨?_, ?_, ?_, ?_, ?_, trivial⟩
      · exact zLd hz (sv S12) Cp7 ld_q32
      · exact zC1 hz Try.func20 (sd 0 rfl) (fun _ _ h0 => dq_floor h0 (by omega))
      · exact zC1 hz Try.func21 (kc (v := .int .u64 1099511627776)) (k1 (fun _ => d_of (by decide)))
      · exact zC2 hz Try.func19 (sd 1 rfl) (sd 2 rfl) (fun _ _ _ h0 h1 => d_cmp h0 h1 (by rw [big_eq]; omega) (by decide))
      · exact sBin rfl rfl rfl hz rfl (Gd.none_ rfl) rfl (sd 3 rfl) kc (fun w => run_cI_geq ((divI (mulI (rtQ u) (fewV t 4611686018427387904)) per).floor.toNat) 1099511627776 w)
    intro a' γ' W' hz' hd' hC hk hh
    have tp2 := Cp2.lt
    replace Cp2 := kC hC Cp2
    have tp7 := Cp7.lt
    replace Cp7 := kC hC Cp7
    replace S6 := kp hk S6
    replace S2 := kp hk S2
    replace S7 := kp hk S7
    replace S12 := kp hk S12
    have S71 := gotV hz' 4 hh rfl rfl rfl rfl
    clear tp2 tp7
    replace HB := aft_call HB (RelC.below_nil hC)
    clear hC hk hh; replace hz := hz'; replace hd := hd'; clear hz' hd'
    by_cases hc8 : 1099511627776 ≤ (divI (mulI (rtQ u) (fewV t 4611686018427387904)) per).floor.toNat
    · rw [decide_eq_true hc8] at S71
      refine wp_cond_true S71.ev ?_
      refine region_text (M := [p7]) (
          rT (tQ B32 64 (((1099511627776 : Nat) : Rat))) ::
          rE 0 35 (tQ B32 64 (((1099511627776 : Nat) : Rat))) p7 ::
          []) hz hd (by kernel_rfl) ?_ ?_
      · refine ⟨?_, ?_, trivial⟩
        · exact zC1 hz Try.func17 (kc (v := .int .u64 1099511627776)) (k1 (fun _ => dq_whole (l := 63) (p := 1099511627776) (by decide) (by decide)))
        · exact zSE rfl (sv S12) (by simp [tagOf]) (Cp7.var tQ_nd) (sd 0 rfl) st_q32
      intro a' γ' W' hz' hd' hC hk hh
      have tp2 := Cp2.lt
      replace Cp2 := kC hC Cp2 (by simp [tagOf, n_p2_p7])
      replace Cp7 := gotE (T := tQ B32 64 (((1099511627776 : Nat) : Rat))) (id := 35) (p := p7) 1 hh rfl rfl
      replace S6 := kp hk S6
      replace S2 := kp hk S2
      replace S7 := kp hk S7
      replace S12 := kp hk S12
      clear S71
      clear tp2
      replace HB := RelC.aftM HB hC (by intro m hm; simp at hm; rcases hm with rfl <;> assumption)
      clear hC hk hh; replace hz := hz'; replace hd := hd'; clear hz' hd'
      refine wp_seq ?_
      refine region_drawn (M := [p2]) (
          rT (tV (.pointer (some ⟨p2, 0, none⟩))) ::
          rT (tV (.int .i64 (fewV t 4611686018427387904))) ::
          rCM 0 (tQ B64 (l + 64 + 41) (atH 0 0 (((1099511627776 : Int) : Rat)) (divI (flQ u) per) (fewV t 4611686018427387904))) 80 (tO [tV (.int .i64 (TT 0 (fewV t 4611686018427387904))), tQ B64 (l + 64 + 41) (atH 0 0 (((1099511627776 : Int) : Rat)) (divI (flQ u) per) (fewV t 4611686018427387904)), tQ B64 42 (((1099511627776 : Int) : Rat)), tQ B64 (l + 64) (divI (flQ u) per)] [1, 2, 2, 2]) p2 ::
          rT (tQ B32 64 (((1099511627776 : Nat) : Rat))) ::
          rT (tV (.bool (decide (atH 0 0 (((1099511627776 : Int) : Rat)) (divI (flQ u) per) (fewV t 4611686018427387904) = ((1099511627776 : Nat) : Rat))))) ::
          rT (tV (.bool (decide (atH 0 0 (((1099511627776 : Int) : Rat)) (divI (flQ u) per) (fewV t 4611686018427387904) = ((1099511627776 : Nat) : Rat))))) ::
          []) hz hd (by kernel_rfl) (by kernel_rfl) ?_ ?_
      · refine ⟨?_, ?_, ?_, ?_, ?_, ?_, trivial⟩
        · exact zMv hz (sv S7)
        · exact zMv hz (sv S2)
        · exact zCM (k := 0) (p := p2) (sid := 80) (T1 := tO [tV (.int .i64 0), tQ B64 (l + 64 + 41) 0, tQ B64 42 (((1099511627776 : Int) : Rat)), tQ B64 (l + 64) (divI (flQ u) per)] [1, 2, 2, 2]) (T := tO [tV (.int .i64 (TT 0 (fewV t 4611686018427387904))), tQ B64 (l + 64 + 41) (atH 0 0 (((1099511627776 : Int) : Rat)) (divI (flQ u) per) (fewV t 4611686018427387904)), tQ B64 42 (((1099511627776 : Int) : Rat)), tQ B64 (l + 64) (divI (flQ u) per)] [1, 2, 2, 2]) (T0 := tQ B64 (l + 64 + 41) (atH 0 0 (((1099511627776 : Int) : Rat)) (divI (flQ u) per) (fewV t 4611686018427387904))) hz rfl Try.func23 (by simp [tagOf]) Cp2.lt (clM (k := 0) Cp2 (by simp [tagOf])) (tO_nd (nd_c nd_int (nd_c nd_q (nd_c nd_q (nd_c nd_q nd_nil))))) (tO_nd (nd_c nd_int (nd_c nd_q (nd_c nd_q (nd_c nd_q nd_nil))))) (fun a γ w U hcell => (by show Calls _ _ #[a.eval (.tmp 73), a.eval (.tmp 74)] _ _; rw [show a.eval (.tmp 73) = .pointer (some ⟨p2, 0, none⟩) from Src.at_ (sd 0 rfl) U, show a.eval (.tmp 74) = .int .i64 (fewV t 4611686018427387904) from Src.at_ (sd 1 rfl) U]; exact c_at (n := (fewV t 4611686018427387904)) hcell (BInv.new (l := l) hl hc1) (by omega)))
        · exact zLd hz (sv S12) Cp7 ld_q32 (by simp [tagOf, n_p7_p2])
        · exact zC2 hz Try.func22 (sdM 2 rfl) (sd 3 rfl) (fun _ _ _ h0 h1 => l_same h0 h1 (by omega) (by decide))
        · exact zAs hz (sd 4 rfl)
      intro a' γ' W' hz' hd' hC hk hh
      replace Cp2 := gotM (T := tO [tV (.int .i64 (TT 0 (fewV t 4611686018427387904))), tQ B64 (l + 64 + 41) (atH 0 0 (((1099511627776 : Int) : Rat)) (divI (flQ u) per) (fewV t 4611686018427387904)), tQ B64 42 (((1099511627776 : Int) : Rat)), tQ B64 (l + 64) (divI (flQ u) per)] [1, 2, 2, 2]) (T0 := tQ B64 (l + 64 + 41) (atH 0 0 (((1099511627776 : Int) : Rat)) (divI (flQ u) per) (fewV t 4611686018427387904))) (sid := 80) (k := 0) (p := p2) hz' 2 hh rfl rfl
      have tp7 := Cp7.lt
      clear Cp7
      clear S6
      clear S2
      clear S7
      clear S12
      have S6 := gotV hz' 5 hh rfl rfl rfl rfl
      clear tp7
      replace HB := RelC.aftM HB hC (by intro m hm; simp at hm; rcases hm with rfl <;> assumption)
      clear hC hk hh; replace hz := hz'; replace hd := hd'; clear hz' hd'
      refine wp_ret ?_
      have hc9 : atH 0 0 (((1099511627776 : Int) : Rat)) (divI (flQ u) per) (fewV t 4611686018427387904) = ((1099511627776 : Nat) : Rat) := br_1 hf0 hf1 (per_1 hc1).1 (rt_of hc1) hc8
      rw [decide_eq_true hc9] at S6
      exact ret1 (by kernel_rfl) S6 hd ⟨_, rfl, rfl, HB⟩
    · rw [decide_eq_false hc8] at S71
      refine wp_cond_false S71.ev ?_
      refine wp_skip ?_
      refine wp_seq ?_
      refine region_drawn (M := [p2]) (
          rT (tV (.pointer (some ⟨p2, 0, none⟩))) ::
          rT (tV (.int .i64 (fewV t 4611686018427387904))) ::
          rCM 0 (tQ B64 (l + 64 + 41) (atH 0 0 (((1099511627776 : Int) : Rat)) (divI (flQ u) per) (fewV t 4611686018427387904))) 80 (tO [tV (.int .i64 (TT 0 (fewV t 4611686018427387904))), tQ B64 (l + 64 + 41) (atH 0 0 (((1099511627776 : Int) : Rat)) (divI (flQ u) per) (fewV t 4611686018427387904)), tQ B64 42 (((1099511627776 : Int) : Rat)), tQ B64 (l + 64) (divI (flQ u) per)] [1, 2, 2, 2]) p2 ::
          rT (tQ B32 ((l + 64) + 65) (divI (mulI (rtQ u) (fewV t 4611686018427387904)) per)) ::
          rT (tV (.bool (decide (atH 0 0 (((1099511627776 : Int) : Rat)) (divI (flQ u) per) (fewV t 4611686018427387904) = divI (mulI (rtQ u) (fewV t 4611686018427387904)) per)))) ::
          rT (tV (.bool (decide (atH 0 0 (((1099511627776 : Int) : Rat)) (divI (flQ u) per) (fewV t 4611686018427387904) = divI (mulI (rtQ u) (fewV t 4611686018427387904)) per)))) ::
          []) hz hd (by kernel_rfl) (by kernel_rfl) ?_ ?_
      · refine ⟨?_, ?_, ?_, ?_, ?_, ?_, trivial⟩
        · exact zMv hz (sv S7)
        · exact zMv hz (sv S2)
        · exact zCM (k := 0) (p := p2) (sid := 80) (T1 := tO [tV (.int .i64 0), tQ B64 (l + 64 + 41) 0, tQ B64 42 (((1099511627776 : Int) : Rat)), tQ B64 (l + 64) (divI (flQ u) per)] [1, 2, 2, 2]) (T := tO [tV (.int .i64 (TT 0 (fewV t 4611686018427387904))), tQ B64 (l + 64 + 41) (atH 0 0 (((1099511627776 : Int) : Rat)) (divI (flQ u) per) (fewV t 4611686018427387904)), tQ B64 42 (((1099511627776 : Int) : Rat)), tQ B64 (l + 64) (divI (flQ u) per)] [1, 2, 2, 2]) (T0 := tQ B64 (l + 64 + 41) (atH 0 0 (((1099511627776 : Int) : Rat)) (divI (flQ u) per) (fewV t 4611686018427387904))) hz rfl Try.func23 (by simp [tagOf]) Cp2.lt (clM (k := 0) Cp2 (by simp [tagOf])) (tO_nd (nd_c nd_int (nd_c nd_q (nd_c nd_q (nd_c nd_q nd_nil))))) (tO_nd (nd_c nd_int (nd_c nd_q (nd_c nd_q (nd_c nd_q nd_nil))))) (fun a γ w U hcell => (by show Calls _ _ #[a.eval (.tmp 73), a.eval (.tmp 74)] _ _; rw [show a.eval (.tmp 73) = .pointer (some ⟨p2, 0, none⟩) from Src.at_ (sd 0 rfl) U, show a.eval (.tmp 74) = .int .i64 (fewV t 4611686018427387904) from Src.at_ (sd 1 rfl) U]; exact c_at (n := (fewV t 4611686018427387904)) hcell (BInv.new (l := l) hl hc1) (by omega)))
        · exact zLd hz (sv S12) Cp7 ld_q32 (by simp [tagOf, n_p7_p2])
        · exact zC2 hz Try.func22 (sdM 2 rfl) (sd 3 rfl) (fun _ _ _ h0 h1 => l_same h0 h1 (by omega) (by omega))
        · exact zAs hz (sd 4 rfl)
      intro a' γ' W' hz' hd' hC hk hh
      replace Cp2 := gotM (T := tO [tV (.int .i64 (TT 0 (fewV t 4611686018427387904))), tQ B64 (l + 64 + 41) (atH 0 0 (((1099511627776 : Int) : Rat)) (divI (flQ u) per) (fewV t 4611686018427387904)), tQ B64 42 (((1099511627776 : Int) : Rat)), tQ B64 (l + 64) (divI (flQ u) per)] [1, 2, 2, 2]) (T0 := tQ B64 (l + 64 + 41) (atH 0 0 (((1099511627776 : Int) : Rat)) (divI (flQ u) per) (fewV t 4611686018427387904))) (sid := 80) (k := 0) (p := p2) hz' 2 hh rfl rfl
      have tp7 := Cp7.lt
      clear Cp7
      clear S6
      clear S2
      clear S7
      clear S12
      clear S71
      have S6 := gotV hz' 5 hh rfl rfl rfl rfl
      clear tp7
      replace HB := RelC.aftM HB hC (by intro m hm; simp at hm; rcases hm with rfl <;> assumption)
      clear hC hk hh; replace hz := hz'; replace hd := hd'; clear hz' hd'
      refine wp_ret ?_
      have hc10 : atH 0 0 (((1099511627776 : Int) : Rat)) (divI (flQ u) per) (fewV t 4611686018427387904) = divI (mulI (rtQ u) (fewV t 4611686018427387904)) per := br_2 hf0 hf1 (per_1 hc1).1 (rt_of hc1) hc8
      rw [decide_eq_true hc10] at S6
      exact ret1 (by kernel_rfl) S6 hd ⟨_, rfl, rfl, HB⟩
  · refine region_text (M := []) (
        rT (tV (.int .u64 (u : Int))) ::
        rT (tV (.float .f64 u)) ::
        rT (tV (.int .i64 per)) ::
        rT (tT [tV (.pointer none), tV (.int .i64 (newE 1099511627776 u per 0))]) ::
        rT (tT [tV (.pointer none), tV (.int .i64 (newE 1099511627776 u per 0))]) ::
        rT (tV (.pointer none)) ::
        rT (tV (.int .i64 (newE 1099511627776 u per 0))) ::
        rT (tV (.pointer none)) ::
        rT (tV (.int .i64 (newE 1099511627776 u per 0))) ::
        []) hz hd (by kernel_rfl) ?_ ?_
    · refine ⟨?_, ?_, ?_, ?_, ?_, ?_, ?_, ?_, ?_, trivial⟩
      · exact zMv hz (sv S0)
      · exact zC1 hz Try.func10 (sd 0 rfl) (k1 (fun _ => c_float))
      · exact zMv hz (sv S1)
      · exact sCall rfl rfl rfl hz rfl (Gd.none_ rfl) rfl Try.func9 (by kernel_rfl) (by kernel_rfl) fun a γ w U => (by show Calls _ _ #[.int .i64 1099511627776, a.eval (.tmp 18), a.eval (.tmp 19), .int .i64 0] _ _; rw [show a.eval (.tmp 18) = .float .f64 u from Src.at_ (sd 1 rfl) U, show a.eval (.tmp 19) = .int .i64 per from Src.at_ (sd 2 rfl) U]; exact c_new_no (l := l) hl (by omega) hu (by omega) hc1)
      · exact zMv hz (sd 3 rfl)
      · exact zExt hz (sd 4 rfl)
      · exact zExt hz (sd 4 rfl)
      · exact zAs hz (sd 5 rfl)
      · exact zAs hz (sd 6 rfl)
    intro a' γ' W' hz' hd' hC hk hh
    replace S0 := kp hk S0
    replace S1 := kp hk S1
    replace S6 := kp hk S6
    replace S2 := kp hk S2
    have S7 := gotV hz' 7 hh rfl rfl rfl rfl
    have S8 := gotV hz' 8 hh rfl rfl rfl rfl
    replace HB := aft_call HB (RelC.below_nil hC)
    clear hC hk hh; replace hz := hz'; replace hd := hd'; clear hz' hd'
    refine wp_seq ?_
    refine region_text (M := []) (
        rT (tV (.int .u64 (u : Int))) ::
        rT (tT [tQ B32 l (rtQ u), tV (.bool (decide (RtOk u)))]) ::
        rT (tT [tQ B32 l (rtQ u), tV (.bool (decide (RtOk u)))]) ::
        rT (tQ B32 l (rtQ u)) ::
        rT (tV (.bool (decide (RtOk u)))) ::
        rVar 5 35 2 ::
        rB 5 35 (tQ B32 l (rtQ u)) (some 5) 6 ::
        rT (tV (.bool (decide (RtOk u)))) ::
        []) hz hd (by kernel_rfl) ?_ ?_
    · refine ⟨?_, ?_, ?_, ?_, ?_, ?_, ?_, ?_, trivial⟩
      · exact zMv hz (sv S0)
      · exact zC1 hz Try.func11 (sd 0 rfl) (k1 (fun _ => d_rate (l := l) (u := u) hu hl))
      · exact zMv hz (sd 1 rfl)
      · exact zExt hz (sd 2 rfl)
      · exact zExt hz (sd 2 rfl)
      · exact zAl hz nd_rat al_r32
      · exact zSt (sd 3 rfl) st_q32
      · exact zAs hz (sd 4 rfl)
    intro a' γ' W' hz' hd' hC hk hh
    clear S0
    replace S1 := kp hk S1
    replace S6 := kp hk S6
    replace S2 := kp hk S2
    replace S7 := kp hk S7
    replace S8 := kp hk S8
    obtain ⟨p11, S9, Cp11, lp11, gp11⟩ := gotB hz' 6 hC hh rfl rfl rfl rfl rfl rfl
    have S10 := gotV hz' 7 hh rfl rfl rfl rfl
    have bp11 : w.heap.size ≤ p11 := Nat.le_trans HB.size lp11
    clear lp11 gp11
    replace HB := aft_call HB (RelC.below_nil hC)
    clear hC hk hh; replace hz := hz'; replace hd := hd'; clear hz' hd'
    refine wp_seq ?_
    by_cases hc12 : RtOk u
    · rw [decide_eq_true hc12] at S10
      by_cases hc13 : per ≥ 1
      · refine region_text (M := []) (
            rT (tV (.bool true)) ::
            rT (tV (.bool true)) ::
            rT (tV (.int .i64 per)) ::
            rT (tV (.bool true)) ::
            rT (tV (.bool true)) ::
            rT (tV (.bool true)) ::
            rT (tV (.int .i64 per)) ::
            rT (tV (.bool (decide (per ≤ 1073741824)))) ::
            rT (tV (.bool (decide (per ≤ 1073741824)))) ::
            rT (tV (.bool (decide (per ≤ 1073741824)))) ::
            []) hz hd (by kernel_rfl) ?_ ?_
        · refine ⟨?_, ?_, ?_, ?_, ?_, ?_, ?_, ?_, ?_, ?_, trivial⟩
          · exact zMv hz (sv S10)
          · exact zMv hz (sd 0 rfl)
          · exact zMv hz (sv S1) (g := gT 1 rfl)
          · exact sBin rfl rfl rfl hz rfl (gT 1 rfl) rfl (sd 2 rfl) kc (fun w => run_t (P := per ≥ 1) ((fun w => run_geq) w) hc13)
          · exact zPT hz (sd 1 rfl) (sd 3 rfl)
          · exact zMv hz (sd 4 rfl)
          · exact zMv hz (sv S1) (g := gT 5 rfl)
          · exact sBin rfl rfl rfl hz rfl (gT 5 rfl) rfl (sd 6 rfl) kc (fun w => run_leq)
          · exact zPT hz (sd 5 rfl) (sd 7 rfl)
          · exact zAs hz (sd 8 rfl)
        intro a' γ' W' hz' hd' hC hk hh
        have tp11 := Cp11.lt
        replace Cp11 := kC hC Cp11
        replace S1 := kp hk S1
        replace S6 := kp hk S6
        replace S2 := kp hk S2
        replace S7 := kp hk S7
        replace S8 := kp hk S8
        replace S9 := kp hk S9
        clear S10
        have S11 := gotV hz' 9 hh rfl rfl rfl rfl
        clear tp11
        replace HB := aft_call HB (RelC.below_nil hC)
        clear hC hk hh; replace hz := hz'; replace hd := hd'; clear hz' hd'
        refine wp_seq ?_
        refine wp_seq ?_
        by_cases hc14 : per ≤ 1073741824
        · exact (newE_no hc1 hc12 hc13 hc14).elim
        · rw [decide_eq_false hc14] at S11
          refine region_text (M := []) (
              rT (tV (.bool true)) ::
              rT (tV (.bool false)) ::
              rT (tV (.bool false)) ::
              rT (tV (.int .i64 (newE 1099511627776 u per 0))) ::
              rT (tV (.bool false)) ::
              rT (tV (.bool false)) ::
              rT (tV (.bool false)) ::
              rT (tV (.bool false)) ::
              rT (tV (.bool false)) ::
              rT (tV (.pointer none)) ::
              rT (tV (.bool true)) ::
              rT (tV (.bool false)) ::
              rT (tV (.bool false)) ::
              rT (tV (.bool false)) ::
              []) hz hd (by kernel_rfl) ?_ ?_
          · refine ⟨?_, ?_, ?_, ?_, ?_, ?_, ?_, ?_, ?_, ?_, ?_, ?_, ?_, ?_, trivial⟩
            · exact zC0 hz Try.func12 (fun _ => l_told8)
            · exact zNot hz (sd 0 rfl)
            · exact zMv hz (sd 1 rfl)
            · exact zMv hz (sv S8) (g := gT 2 rfl)
            · exact sBin rfl rfl rfl hz rfl (gT 2 rfl) rfl (sd 3 rfl) kc (fun w => run_f (P := newE 1099511627776 u per 0 = 0) ((fun w => run_eqlE) w) hc1)
            · exact zMv hz (sv S11) (g := gT 2 rfl)
            · exact sBin rfl rfl rfl hz rfl (gT 2 rfl) rfl (sd 4 rfl) (sd 5 rfl) (fun w => by kernel_rfl)
            · exact zPF hz (sd 2 rfl) (sd 6 rfl)
            · exact zMv hz (sd 7 rfl)
            · exact zMv hz (sv S7) (g := gT 8 rfl)
            · exact sBin rfl rfl rfl hz rfl (gT 8 rfl) rfl (sd 9 rfl) kc (fun w => by simp [go_sem])
            · exact zMv hz (sv S11) (g := gT 8 rfl)
            · exact sBin rfl rfl rfl hz rfl (gT 8 rfl) rfl (sd 10 rfl) (sd 11 rfl) (fun w => by kernel_rfl)
            · exact zPF hz (sd 8 rfl) (sd 12 rfl)
          intro a' γ' W' hz' hd' hC hk hh
          have tp11 := Cp11.lt
          replace Cp11 := kC hC Cp11
          replace S1 := kp hk S1
          replace S6 := kp hk S6
          replace S2 := kp hk S2
          replace S7 := kp hk S7
          replace S8 := kp hk S8
          replace S9 := kp hk S9
          replace S11 := kp hk S11
          have S50 := gotV hz' 13 hh rfl rfl rfl rfl
          clear tp11
          replace HB := aft_call HB (RelC.below_nil hC)
          clear hC hk hh; replace hz := hz'; replace hd := hd'; clear hz' hd'
          refine wp_cond_false S50.ev ?_
          refine wp_skip ?_
          refine wp_seq ?_
          refine wp_seq ?_
          refine region_text (M := []) (
              rT (tV (.bool false)) ::
              rT (tV (.bool true)) ::
              []) hz hd (by kernel_rfl) ?_ ?_
          · refine ⟨?_, ?_, trivial⟩
            · exact zMv hz (sv S11)
            · exact zNot hz (sd 0 rfl)
          intro a' γ' W' hz' hd' hC hk hh
          have tp11 := Cp11.lt
          replace Cp11 := kC hC Cp11
          replace S1 := kp hk S1
          replace S6 := kp hk S6
          replace S2 := kp hk S2
          replace S7 := kp hk S7
          replace S8 := kp hk S8
          replace S9 := kp hk S9
          clear S11
          clear S50
          have S52 := gotV hz' 1 hh rfl rfl rfl rfl
          clear tp11
          replace HB := aft_call HB (RelC.below_nil hC)
          clear hC hk hh; replace hz := hz'; replace hd := hd'; clear hz' hd'
          refine wp_cond_true S52.ev ?_
          refine wp_seq ?_
          refine region_text (M := []) (
              rT (tV (.int .i64 (newE 1099511627776 u per 0))) ::
              rT (tV (.bool (decide (newE 1099511627776 u per 0 = 98)))) ::
              rT (tV (.bool (decide (newE 1099511627776 u per 0 = 98)))) ::
              []) hz hd (by kernel_rfl) ?_ ?_
          · refine ⟨?_, ?_, ?_, trivial⟩
            · exact zMv hz (sv S8)
            · exact sBin rfl rfl rfl hz rfl (Gd.none_ rfl) rfl (sd 0 rfl) kc (fun w => run_eql)
            · exact zAs hz (sd 1 rfl)
          intro a' γ' W' hz' hd' hC hk hh
          have tp11 := Cp11.lt
          replace Cp11 := kC hC Cp11
          replace S1 := kp hk S1
          clear S6
          replace S2 := kp hk S2
          replace S7 := kp hk S7
          clear S8
          replace S9 := kp hk S9
          clear S52
          have S6 := gotV hz' 2 hh rfl rfl rfl rfl
          clear tp11
          replace HB := aft_call HB (RelC.below_nil hC)
          clear hC hk hh; replace hz := hz'; replace hd := hd'; clear hz' hd'
          refine wp_ret ?_
          have hc15 : newE 1099511627776 u per 0 = 98 := newE_rate hc1
          rw [decide_eq_true hc15] at S6
          exact ret1 (by kernel_rfl) S6 hd ⟨_, rfl, rfl, HB⟩
      · refine region_text (M := []) (
            rT (tV (.bool true)) ::
            rT (tV (.bool true)) ::
            rT (tV (.int .i64 per)) ::
            rT (tV (.bool false)) ::
            rT (tV (.bool false)) ::
            rT (tV (.bool false)) ::
            rT (tV undef) ::
            rT (tV undef) ::
            rT (tV (.bool false)) ::
            rT (tV (.bool false)) ::
            []) hz hd (by kernel_rfl) ?_ ?_
        · refine ⟨?_, ?_, ?_, ?_, ?_, ?_, ?_, ?_, ?_, ?_, trivial⟩
          · exact zMv hz (sv S10)
          · exact zMv hz (sd 0 rfl)
          · exact zMv hz (sv S1) (g := gT 1 rfl)
          · exact sBin rfl rfl rfl hz rfl (gT 1 rfl) rfl (sd 2 rfl) kc (fun w => run_f (P := per ≥ 1) ((fun w => run_geq) w) hc13)
          · exact zPT hz (sd 1 rfl) (sd 3 rfl)
          · exact zMv hz (sd 4 rfl)
          · exact zSkU hz (gN 5 rfl)
          · exact zSkU hz (gN 5 rfl)
          · exact zPF hz (sd 5 rfl) kc
          · exact zAs hz (sd 8 rfl)
        intro a' γ' W' hz' hd' hC hk hh
        have tp11 := Cp11.lt
        replace Cp11 := kC hC Cp11
        replace S1 := kp hk S1
        replace S6 := kp hk S6
        replace S2 := kp hk S2
        replace S7 := kp hk S7
        replace S8 := kp hk S8
        replace S9 := kp hk S9
        clear S10
        have S11 := gotV hz' 9 hh rfl rfl rfl rfl
        clear tp11
        replace HB := aft_call HB (RelC.below_nil hC)
        clear hC hk hh; replace hz := hz'; replace hd := hd'; clear hz' hd'
        refine wp_seq ?_
        refine wp_seq ?_
        refine region_text (M := []) (
            rT (tV (.bool true)) ::
            rT (tV (.bool false)) ::
            rT (tV (.bool false)) ::
            rT (tV (.int .i64 (newE 1099511627776 u per 0))) ::
            rT (tV (.bool false)) ::
            rT (tV (.bool false)) ::
            rT (tV (.bool false)) ::
            rT (tV (.bool false)) ::
            rT (tV (.bool false)) ::
            rT (tV (.pointer none)) ::
            rT (tV (.bool true)) ::
            rT (tV (.bool false)) ::
            rT (tV (.bool false)) ::
            rT (tV (.bool false)) ::
            []) hz hd (by kernel_rfl) ?_ ?_
        · refine ⟨?_, ?_, ?_, ?_, ?_, ?_, ?_, ?_, ?_, ?_, ?_, ?_, ?_, ?_, trivial⟩
          · exact zC0 hz Try.func12 (fun _ => l_told8)
          · exact zNot hz (sd 0 rfl)
          · exact zMv hz (sd 1 rfl)
          · exact zMv hz (sv S8) (g := gT 2 rfl)
          · exact sBin rfl rfl rfl hz rfl (gT 2 rfl) rfl (sd 3 rfl) kc (fun w => run_f (P := newE 1099511627776 u per 0 = 0) ((fun w => run_eqlE) w) hc1)
          · exact zMv hz (sv S11) (g := gT 2 rfl)
          · exact sBin rfl rfl rfl hz rfl (gT 2 rfl) rfl (sd 4 rfl) (sd 5 rfl) (fun w => by kernel_rfl)
          · exact zPF hz (sd 2 rfl) (sd 6 rfl)
          · exact zMv hz (sd 7 rfl)
          · exact zMv hz (sv S7) (g := gT 8 rfl)
          · exact sBin rfl rfl rfl hz rfl (gT 8 rfl) rfl (sd 9 rfl) kc (fun w => by simp [go_sem])
          · exact zMv hz (sv S11) (g := gT 8 rfl)
          · exact sBin rfl rfl rfl hz rfl (gT 8 rfl) rfl (sd 10 rfl) (sd 11 rfl) (fun w => by kernel_rfl)
          · exact zPF hz (sd 8 rfl) (sd 12 rfl)
        intro a' γ' W' hz' hd' hC hk hh
        have tp11 := Cp11.lt
        replace Cp11 := kC hC Cp11
        replace S1 := kp hk S1
        replace S6 := kp hk S6
        replace S2 := kp hk S2
        replace S7 := kp hk S7
        replace S8 := kp hk S8
        replace S9 := kp hk S9
        replace S11 := kp hk S11
        have S50 := gotV hz' 13 hh rfl rfl rfl rfl
        clear tp11
        replace HB := aft_call HB (RelC.below_nil hC)
        clear hC hk hh; replace hz := hz'; replace hd := hd'; clear hz' hd'
        refine wp_cond_false S50.ev ?_
        refine wp_skip ?_
        refine wp_seq ?_
        refine wp_seq ?_
        refine region_text (M := []) (
            rT (tV (.bool false)) ::
            rT (tV (.bool true)) ::
            []) hz hd (by kernel_rfl) ?_ ?_
        · refine ⟨?_, ?_, trivial⟩
          · exact zMv hz (sv S11)
          · exact zNot hz (sd 0 rfl)
        intro a' γ' W' hz' hd' hC hk hh
        have tp11 := Cp11.lt
        replace Cp11 := kC hC Cp11
        replace S1 := kp hk S1
        replace S6 := kp hk S6
        replace S2 := kp hk S2
        replace S7 := kp hk S7
        replace S8 := kp hk S8
        replace S9 := kp hk S9
        clear S11
        clear S50
        have S52 := gotV hz' 1 hh rfl rfl rfl rfl
        clear tp11
        replace HB := aft_call HB (RelC.below_nil hC)
        clear hC hk hh; replace hz := hz'; replace hd := hd'; clear hz' hd'
        refine wp_cond_true S52.ev ?_
        refine wp_seq ?_
        refine region_text (M := []) (
            rT (tV (.int .i64 (newE 1099511627776 u per 0))) ::
            rT (tV (.bool (decide (newE 1099511627776 u per 0 = 98)))) ::
            rT (tV (.bool (decide (newE 1099511627776 u per 0 = 98)))) ::
            []) hz hd (by kernel_rfl) ?_ ?_
        · refine ⟨?_, ?_, ?_, trivial⟩
          · exact zMv hz (sv S8)
          · exact sBin rfl rfl rfl hz rfl (Gd.none_ rfl) rfl (sd 0 rfl) kc (fun w => run_eql)
          · exact zAs hz (sd 1 rfl)
        intro a' γ' W' hz' hd' hC hk hh
        have tp11 := Cp11.lt
        replace Cp11 := kC hC Cp11
        replace S1 := kp hk S1
        clear S6
        replace S2 := kp hk S2
        replace S7 := kp hk S7
        clear S8
        replace S9 := kp hk S9
        clear S52
        have S6 := gotV hz' 2 hh rfl rfl rfl rfl
        clear tp11
        replace HB := aft_call HB (RelC.below_nil hC)
        clear hC hk hh; replace hz := hz'; replace hd := hd'; clear hz' hd'
        refine wp_ret ?_
        have hc16 : newE 1099511627776 u per 0 = 98 := newE_rate hc1
        rw [decide_eq_true hc16] at S6
        exact ret1 (by kernel_rfl) S6 hd ⟨_, rfl, rfl, HB⟩
    · rw [decide_eq_false hc12] at S10
      refine region_text (M := []) (
          rT (tV (.bool false)) ::
          rT (tV (.bool false)) ::
          rT (tV undef) ::
          rT (tV undef) ::
          rT (tV (.bool false)) ::
          rT (tV (.bool false)) ::
          rT (tV undef) ::
          rT (tV undef) ::
          rT (tV (.bool false)) ::
          rT (tV (.bool false)) ::
          []) hz hd (by kernel_rfl) ?_ ?_
      · refine ⟨?_, ?_, ?_, ?_, ?_, ?_, ?_, ?_, ?_, ?_, trivial⟩
        · exact zMv hz (sv S10)
        · exact zMv hz (sd 0 rfl)
        · exact zSkU hz (gN 1 rfl)
        · exact zSkU hz (gN 1 rfl)
        · exact zPF hz (sd 1 rfl) kc
        · exact zMv hz (sd 4 rfl)
        · exact zSkU hz (gN 5 rfl)
        · exact zSkU hz (gN 5 rfl)
        · exact zPF hz (sd 5 rfl) kc
        · exact zAs hz (sd 8 rfl)
      intro a' γ' W' hz' hd' hC hk hh
      have tp11 := Cp11.lt
      replace Cp11 := kC hC Cp11
      replace S1 := kp hk S1
      replace S6 := kp hk S6
      replace S2 := kp hk S2
      replace S7 := kp hk S7
      replace S8 := kp hk S8
      replace S9 := kp hk S9
      clear S10
      have S11 := gotV hz' 9 hh rfl rfl rfl rfl
      clear tp11
      replace HB := aft_call HB (RelC.below_nil hC)
      clear hC hk hh; replace hz := hz'; replace hd := hd'; clear hz' hd'
      refine wp_seq ?_
      refine wp_seq ?_
      refine region_text (M := []) (
          rT (tV (.bool true)) ::
          rT (tV (.bool false)) ::
          rT (tV (.bool false)) ::
          rT (tV (.int .i64 (newE 1099511627776 u per 0))) ::
          rT (tV (.bool false)) ::
          rT (tV (.bool false)) ::
          rT (tV (.bool false)) ::
          rT (tV (.bool false)) ::
          rT (tV (.bool false)) ::
          rT (tV (.pointer none)) ::
          rT (tV (.bool true)) ::
          rT (tV (.bool false)) ::
          rT (tV (.bool false)) ::
          rT (tV (.bool false)) ::
          []) hz hd (by kernel_rfl) ?_ ?_
      · refine ⟨?_, ?_, ?_, ?_, ?_, ?_, ?_, ?_, ?_, ?_, ?_, ?_, ?_, ?_, trivial⟩
        · exact zC0 hz Try.func12 (fun _ => l_told8)
        · exact zNot hz (sd 0 rfl)
        · exact zMv hz (sd 1 rfl)
        · exact zMv hz (sv S8) (g := gT 2 rfl)
        · exact sBin rfl rfl rfl hz rfl (gT 2 rfl) rfl (sd 3 rfl) kc (fun w => run_f (P := newE 1099511627776 u per 0 = 0) ((fun w => run_eqlE) w) hc1)
        · exact zMv hz (sv S11) (g := gT 2 rfl)
        · exact sBin rfl rfl rfl hz rfl (gT 2 rfl) rfl (sd 4 rfl) (sd 5 rfl) (fun w => by kernel_rfl)
        · exact zPF hz (sd 2 rfl) (sd 6 rfl)
        · exact zMv hz (sd 7 rfl)
        · exact zMv hz (sv S7) (g := gT 8 rfl)
        · exact sBin rfl rfl rfl hz rfl (gT 8 rfl) rfl (sd 9 rfl) kc (fun w => by simp [go_sem])
        · exact zMv hz (sv S11) (g := gT 8 rfl)
        · exact sBin rfl rfl rfl hz rfl (gT 8 rfl) rfl (sd 10 rfl) (sd 11 rfl) (fun w => by kernel_rfl)
        · exact zPF hz (sd 8 rfl) (sd 12 rfl)
      intro a' γ' W' hz' hd' hC hk hh
      have tp11 := Cp11.lt
      replace Cp11 := kC hC Cp11
      replace S1 := kp hk S1
      replace S6 := kp hk S6
      replace S2 := kp hk S2
      replace S7 := kp hk S7
      replace S8 := kp hk S8
      replace S9 := kp hk S9
      replace S11 := kp hk S11
      have S50 := gotV hz' 13 hh rfl rfl rfl rfl
      clear tp11
      replace HB := aft_call HB (RelC.below_nil hC)
      clear hC hk hh; replace hz := hz'; replace hd := hd'; clear hz' hd'
      refine wp_cond_false S50.ev ?_
      refine wp_skip ?_
      refine wp_seq ?_
      refine wp_seq ?_
      refine region_text (M := []) (
          rT (tV (.bool false)) ::
          rT (tV (.bool true)) ::
          []) hz hd (by kernel_rfl) ?_ ?_
      · refine ⟨?_, ?_, trivial⟩
        · exact zMv hz (sv S11)
        · exact zNot hz (sd 0 rfl)
      intro a' γ' W' hz' hd' hC hk hh
      have tp11 := Cp11.lt
      replace Cp11 := kC hC Cp11
      replace S1 := kp hk S1
      replace S6 := kp hk S6
      replace S2 := kp hk S2
      replace S7 := kp hk S7
      replace S8 := kp hk S8
      replace S9 := kp hk S9
      clear S11
      clear S50
      have S52 := gotV hz' 1 hh rfl rfl rfl rfl
      clear tp11
      replace HB := aft_call HB (RelC.below_nil hC)
      clear hC hk hh; replace hz := hz'; replace hd := hd'; clear hz' hd'
      refine wp_cond_true S52.ev ?_
      refine wp_seq ?_
      refine region_text (M := []) (
          rT (tV (.int .i64 (newE 1099511627776 u per 0))) ::
          rT (tV (.bool (decide (newE 1099511627776 u per 0 = 98)))) ::
          rT (tV (.bool (decide (newE 1099511627776 u per 0 = 98)))) ::
          []) hz hd (by kernel_rfl) ?_ ?_
      · refine ⟨?_, ?_, ?_, trivial⟩
        · exact zMv hz (sv S8)
        · exact sBin rfl rfl rfl hz rfl (Gd.none_ rfl) rfl (sd 0 rfl) kc (fun w => run_eql)
        · exact zAs hz (sd 1 rfl)
      intro a' γ' W' hz' hd' hC hk hh
      have tp11 := Cp11.lt
      replace Cp11 := kC hC Cp11
      replace S1 := kp hk S1
      clear S6
      replace S2 := kp hk S2
      replace S7 := kp hk S7
      clear S8
      replace S9 := kp hk S9
      clear S52
      have S6 := gotV hz' 2 hh rfl rfl rfl rfl
      clear tp11
      replace HB := aft_call HB (RelC.below_nil hC)
      clear hC hk hh; replace hz := hz'; replace hd := hd'; clear hz' hd'
      refine wp_ret ?_
      have hc17 : newE 1099511627776 u per 0 = 98 := newE_rate hc1
      rw [decide_eq_true hc17] at S6
      exact ret1 (by kernel_rfl) S6 hd ⟨_, rfl, rfl, HB⟩
end Go.Proofs.Ytojpiiboikomfaa.Rg

namespace Go.Proofs.Ytojpiiboikomfaa.Rg

open Go.RowKit Go.ChangeShapes Go.WideShapes Go.ChangeAt Go.Deep

theorem bucketRate_walk (u per t : Int) (w : World) (hu : (Lit.int .u64 u).wf = true) (hp : (Lit.int .i64 per).wf = true) (ht : (Lit.int .i64 t).wf = true) : Calls Try.prog 4 #[.int .u64 u, .int .i64 per, .int .i64 t] w fun e w' => e = .returned (.bool true) ∧ Below w.heap.size w w' := by
  obtain ⟨u, rfl, hu2⟩ := u64_r hu
  obtain ⟨hp1, hp2⟩ := i64_r hp
  obtain ⟨ht1, ht2⟩ := i64_r ht
  exact ret_out8 (bucketRate_ret (l := 1100) (by omega) (by omega) hu2 hp1 hp2 ht1 ht2)
end Go.Proofs.Ytojpiiboikomfaa.Rg
