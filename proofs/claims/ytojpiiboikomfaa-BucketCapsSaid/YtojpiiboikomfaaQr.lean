/-
  Walks and plain laws, put together: OU OW UA.
-/
import Derived.Test.YtojpiiboikomfaaQj
import Derived.Test.YtojpiiboikomfaaFr
set_option linter.unusedVariables false
set_option linter.unusedSimpArgs false
namespace Go.Proofs.Ytojpiiboikomfaa.Rg

open Go.RowKit

set_option maxRecDepth 10000 in
set_option maxHeartbeats 2000000 in
theorem d_rate {l u : Nat} {w : World}  (hu : u < 18446744073709551616) (hl : 1100 ≤ l) :
    Calls Try.prog 11 #[.int .u64 (u : Int)] w (Ret (tT [tQ B32 l (rtQ u), tV (.bool (decide (RtOk u)))]) w) := by
 refine enter Try.func11 rfl Try.ntmps11 (by simp) ?_
 intro a hz hd ha
 have S0 := ha 0 _ rfl
 clear ha
 have HB : Below w.heap.size w w := Below.refl _ _
 have hex := ex_lt u
 have hma := ma_lt u
 refine wp_seq ?_
 refine region_text (M := []) (
  rB 0 35 (tR B32 0 0 0 0) none 0 ::
  rT (tV (.bool false)) ::
  []) hz hd (by kernel_rfl) ?_ ?_
 refine ⟨?_, ?_, trivial⟩
 exact zNew hz tR_nl al_r32
 exact zAs hz kc
 intro a' γ' W' hz' hd' hC hk hh
 replace S0 := kp hk S0
 obtain ⟨p1, S2, Cp1, lp1, gp1⟩ := gotB hz' 0 hC hh rfl rfl rfl rfl rfl rfl
 have S3 := gotV hz' 1 hh rfl rfl rfl rfl
 have bp1 : w.heap.size ≤ p1 := Nat.le_trans HB.size lp1
 clear lp1 gp1
 replace HB := aft_call HB (RelC.below_nil hC)
 clear hC hk hh; replace hz := hz'; replace hd := hd'; clear hz' hd'
 refine wp_seq ?_
 refine region_text (M := []) (
  rT (tV (.int .u64 (u : Int))) ::
  rT (tV (.int .u64 ((u / 4503599627370496 : Nat) : Int))) ::
  rT (tV (.int .u64 ((ex u : Nat) : Int))) ::
  rT (tV (.int .i64 ((ex u : Nat) : Int))) ::
  rT (tV (.int .i64 ((ex u : Nat) : Int))) ::
  []) hz hd (by kernel_rfl) ?_ ?_
 refine ⟨?_, ?_, ?_, ?_, ?_, trivial⟩
 exact zMv hz (sv S0)
 exact sBin rfl rfl rfl hz rfl (Gd.none_ rfl) rfl (sd 0 rfl) kc (fun w => f_shr w)
 exact sBin rfl rfl rfl hz rfl (Gd.none_ rfl) rfl (sd 1 rfl) kc (fun w => f_ex hu w)
 exact sConv (T' := tV (.int .u64 ((ex u : Nat) : Int))) rfl rfl rfl hz rfl (Gd.none_ rfl) rfl (sd 2 rfl) (fun v_ w_ h_ => by have h_ : v_ = .int .u64 ((ex u : Nat) : Int) := h_; subst h_; exact ⟨_, by simp [go_sem, IntKind.wrap_i64]; omega, rfl⟩)
 exact zAs hz (sd 3 rfl)
 intro a' γ' W' hz' hd' hC hk hh
 have tp1 := Cp1.lt
 replace Cp1 := kC hC Cp1
 replace S0 := kp hk S0
 replace S2 := kp hk S2
 replace S3 := kp hk S3
 have S4 := gotV hz' 4 hh rfl rfl rfl rfl
 clear tp1
 replace HB := aft_call HB (RelC.below_nil hC)
 clear hC hk hh; replace hz := hz'; replace hd := hd'; clear hz' hd'
 refine wp_seq ?_
 refine region_text (M := []) (
  rT (tV (.int .u64 (u : Int))) ::
  rT (tV (.int .u64 ((ma u : Nat) : Int))) ::
  rT (tV (.int .u64 ((ma u : Nat) : Int))) ::
  []) hz hd (by kernel_rfl) ?_ ?_
 refine ⟨?_, ?_, ?_, trivial⟩
 exact zMv hz (sv S0)
 exact sBin rfl rfl rfl hz rfl (Gd.none_ rfl) rfl (sd 0 rfl) kc (fun w => f_ma hu w)
 exact zAs hz (sd 1 rfl)
 intro a' γ' W' hz' hd' hC hk hh
 have tp1 := Cp1.lt
 replace Cp1 := kC hC Cp1
 replace S0 := kp hk S0
 replace S2 := kp hk S2
 replace S3 := kp hk S3
 replace S4 := kp hk S4
 have S5 := gotV hz' 2 hh rfl rfl rfl rfl
 clear tp1
 replace HB := aft_call HB (RelC.below_nil hC)
 clear hC hk hh; replace hz := hz'; replace hd := hd'; clear hz' hd'
 refine wp_seq ?_
 refine wp_seq ?_
 by_cases hc2 : ((ex u : Nat) : Int) = 2047
 refine region_text (M := []) (
  rT (tV (.int .i64 ((ex u : Nat) : Int))) ::
  rT (tV (.bool true)) ::
  rT (tV (.bool true)) ::
  rT (tV undef) ::
  rT (tV undef) ::
  rT (tV undef) ::
  rT (tV undef) ::
  rT (tV undef) ::
  rT (tV undef) ::
  rT (tV undef) ::
  rT (tV undef) ::
  rT (tV (.bool true)) ::
  rT (tV (.bool true)) ::
  rT (tV undef) ::
  rT (tV undef) ::
  rT (tV (.bool true)) ::
  rT (tV (.bool true)) ::
  rT (tV undef) ::
  rT (tV undef) ::
  rT (tV undef) ::
  rT (tV undef) ::
  rT (tV undef) ::
  rT (tV undef) ::
  rT (tV (.bool true)) ::
  []) hz hd (by kernel_rfl) ?_ ?_
 refine ⟨?_, ?_, ?_, ?_, ?_, ?_, ?_, ?_, ?_, ?_, ?_, ?_, ?_, ?_, ?_, ?_, ?_, ?_, ?_, ?_, ?_, ?_, ?_, ?_, trivial⟩
 exact zMv hz (sv S4)
 exact sBin rfl rfl rfl hz rfl (Gd.none_ rfl) rfl (sd 0 rfl) kc (fun w => run_t (P := ((ex u : Nat) : Int) = 2047) ((fun w => run_eql) w) hc2)
 exact zMv hz (sd 1 rfl)
 exact zSkU hz (gN 2 rfl)
 exact zSkU hz (gN 2 rfl)
 exact zSkU hz (gN 2 rfl)
 exact zSkU hz (gN 2 rfl)
 exact zSkU hz (gU 6 rfl)
 exact zSkU hz (gU 6 rfl)
 exact zSkU hz (gU 6 rfl)
 exact zSkU hz (gN 2 rfl)
 exact zPT hz (sd 2 rfl) kc
 exact zMv hz (sd 11 rfl)
 exact zSkU hz (gN 12 rfl)
 exact zSkU hz (gN 12 rfl)
 exact zPT hz (sd 12 rfl) kc
 exact zMv hz (sd 15 rfl)
 exact zSkU hz (gN 16 rfl)
 exact zSkU hz (gN 16 rfl)
 exact zSkU hz (gN 16 rfl)
 exact zSkU hz (gU 19 rfl)
 exact zSkU hz (gU 19 rfl)
 exact zSkU hz (gN 16 rfl)
 exact zPT hz (sd 16 rfl) kc
 intro a' γ' W' hz' hd' hC hk hh
 have tp1 := Cp1.lt
 replace Cp1 := kC hC Cp1
 clear S0
 replace S2 := kp hk S2
 replace S3 := kp hk S3
 replace S4 := kp hk S4
 replace S5 := kp hk S5
 have S37 := gotV hz' 23 hh rfl rfl rfl rfl
 clear tp1
 replace HB := aft_call HB (RelC.below_nil hC)
 clear hC hk hh; replace hz := hz'; replace hd := hd'; clear hz' hd'
 refine wp_cond_true S37.ev ?_
 refine wp_seq ?_
 refine region_text (M := [p1]) (
  rT (tQ B32 1 0) ::
  rE 0 35 (tQ B32 1 0) p1 ::
  rT (tV (.bool false)) ::
  []) hz hd (by kernel_rfl) ?_ ?_
 refine ⟨?_, ?_, ?_, trivial⟩
 exact zC0 hz Try.func35 (fun _ => dq_zero)
 exact zSE rfl (sv S2) (by simp [tagOf]) (Cp1.var tR_nd) (sd 0 rfl) st_q32
 exact zAs hz kc
 intro a' γ' W' hz' hd' hC hk hh
 replace Cp1 := gotE (T := tQ B32 1 0) (id := 35) (p := p1) 1 hh rfl rfl
 replace S2 := kp hk S2
 clear S3
 replace S4 := kp hk S4
 replace S5 := kp hk S5
 clear S37
 have S3 := gotV hz' 2 hh rfl rfl rfl rfl
 replace HB := RelC.aftM HB hC (by intro m hm; simp at hm; rcases hm with rfl <;> assumption)
 clear hC hk hh; replace hz := hz'; replace hd := hd'; clear hz' hd'
 refine wp_ret ?_
 refine ret_to (T := tT [tQ B32 1 0, tV (.bool false)]) (retct_q32 (by kernel_rfl) S2 S3 hd Cp1 HB) ?_
 exact to2 (tQ_to (by decide) (by unfold rtQ; rw [if_neg (by rw [rt_iff hu]; omega)]) (by omega)) (tV_to (by rw [decide_eq_false (by rw [rt_iff hu]; omega)]))
 by_cases hc3 : ((u / 9223372036854775808 : Nat) : Int) = 1
 by_cases hc4 : ((u * 2 % 18446744073709551616 : Nat) : Int) ≠ 0
 refine region_text (M := []) (
  rT (tV (.int .i64 ((ex u : Nat) : Int))) ::
  rT (tV (.bool false)) ::
  rT (tV (.bool false)) ::
  rT (tV (.int .u64 (u : Int))) ::
  rT (tV (.int .u64 ((u / 9223372036854775808 : Nat) : Int))) ::
  rT (tV (.bool true)) ::
  rT (tV (.bool true)) ::
  rT (tV (.int .u64 (u : Int))) ::
  rT (tV (.int .u64 ((u * 2 % 18446744073709551616 : Nat) : Int))) ::
  rT (tV (.bool true)) ::
  rT (tV (.bool true)) ::
  rT (tV (.bool true)) ::
  rT (tV (.bool true)) ::
  rT (tV undef) ::
  rT (tV undef) ::
  rT (tV (.bool true)) ::
  rT (tV (.bool true)) ::
  rT (tV undef) ::
  rT (tV undef) ::
  rT (tV undef) ::
  rT (tV undef) ::
  rT (tV undef) ::
  rT (tV undef) ::
  rT (tV (.bool true)) ::
  []) hz hd (by kernel_rfl) ?_ ?_
 refine ⟨?_, ?_, ?_, ?_, ?_, ?_, ?_, ?_, ?_, ?_, ?_, ?_, ?_, ?_, ?_, ?_, ?_, ?_, ?_, ?_, ?_, ?_, ?_, ?_, trivial⟩
 exact zMv hz (sv S4)
 exact sBin rfl rfl rfl hz rfl (Gd.none_ rfl) rfl (sd 0 rfl) kc (fun w => run_f (P := ((ex u : Nat) : Int) = 2047) ((fun w => run_eql) w) hc2)
 exact zMv hz (sd 1 rfl)
 exact zMv hz (sv S0) (g := gT 2 rfl)
 exact sBin rfl rfl rfl hz rfl (gT 2 rfl) rfl (sd 3 rfl) kc (fun w => f_shr63 w)
 exact sBin rfl rfl rfl hz rfl (gT 2 rfl) rfl (sd 4 rfl) kc (fun w => run_t (P := ((u / 9223372036854775808 : Nat) : Int) = 1) ((fun w => run_eqlu) w) hc3)
 exact zMv hz (sd 5 rfl) (g := gT 2 rfl)
 exact zMv hz (sv S0) (g := gT 6 rfl)
 exact sBin rfl rfl rfl hz rfl (gT 6 rfl) rfl (sd 7 rfl) kc (fun w => f_shl1 w)
 exact sBin rfl rfl rfl hz rfl (gT 6 rfl) rfl (sd 8 rfl) kc (fun w => run_t (P := ((u * 2 % 18446744073709551616 : Nat) : Int) ≠ 0) ((fun w => run_nequ) w) hc4)
 exact zPT hz (sd 6 rfl) (sd 9 rfl) (g := gT 2 rfl)
 exact zPF hz (sd 2 rfl) (sd 10 rfl)
 exact zMv hz (sd 11 rfl)
 exact zSkU hz (gN 12 rfl)
 exact zSkU hz (gN 12 rfl)
 exact zPT hz (sd 12 rfl) kc
 exact zMv hz (sd 15 rfl)
 exact zSkU hz (gN 16 rfl)
 exact zSkU hz (gN 16 rfl)
 exact zSkU hz (gN 16 rfl)
 exact zSkU hz (gU 19 rfl)
 exact zSkU hz (gU 19 rfl)
 exact zSkU hz (gN 16 rfl)
 exact zPT hz (sd 16 rfl) kc
 intro a' γ' W' hz' hd' hC hk hh
 have tp1 := Cp1.lt
 replace Cp1 := kC hC Cp1
 clear S0
 replace S2 := kp hk S2
 replace S3 := kp hk S3
 replace S4 := kp hk S4
 replace S5 := kp hk S5
 have S37 := gotV hz' 23 hh rfl rfl rfl rfl
 clear tp1
 replace HB := aft_call HB (RelC.below_nil hC)
 clear hC hk hh; replace hz := hz'; replace hd := hd'; clear hz' hd'
 refine wp_cond_true S37.ev ?_
 refine wp_seq ?_
 refine region_text (M := [p1]) (
  rT (tQ B32 1 0) ::
  rE 0 35 (tQ B32 1 0) p1 ::
  rT (tV (.bool false)) ::
  []) hz hd (by kernel_rfl) ?_ ?_
 refine ⟨?_, ?_, ?_, trivial⟩
 exact zC0 hz Try.func35 (fun _ => dq_zero)
 exact zSE rfl (sv S2) (by simp [tagOf]) (Cp1.var tR_nd) (sd 0 rfl) st_q32
 exact zAs hz kc
 intro a' γ' W' hz' hd' hC hk hh
 replace Cp1 := gotE (T := tQ B32 1 0) (id := 35) (p := p1) 1 hh rfl rfl
 replace S2 := kp hk S2
 clear S3
 replace S4 := kp hk S4
 replace S5 := kp hk S5
 clear S37
 have S3 := gotV hz' 2 hh rfl rfl rfl rfl
 replace HB := RelC.aftM HB hC (by intro m hm; simp at hm; rcases hm with rfl <;> assumption)
 clear hC hk hh; replace hz := hz'; replace hd := hd'; clear hz' hd'
 refine wp_ret ?_
 refine ret_to (T := tT [tQ B32 1 0, tV (.bool false)]) (retct_q32 (by kernel_rfl) S2 S3 hd Cp1 HB) ?_
 exact to2 (tQ_to (by decide) (by unfold rtQ; rw [if_neg (by rw [rt_iff hu]; omega)]) (by omega)) (tV_to (by rw [decide_eq_false (by rw [rt_iff hu]; omega)]))
 by_cases hc5 : ((ex u : Nat) : Int) > 1043
 refine region_text (M := []) (
  rT (tV (.int .i64 ((ex u : Nat) : Int))) ::
  rT (tV (.bool false)) ::
  rT (tV (.bool false)) ::
  rT (tV (.int .u64 (u : Int))) ::
  rT (tV (.int .u64 ((u / 9223372036854775808 : Nat) : Int))) ::
  rT (tV (.bool true)) ::
  rT (tV (.bool true)) ::
  rT (tV (.int .u64 (u : Int))) ::
  rT (tV (.int .u64 ((u * 2 % 18446744073709551616 : Nat) : Int))) ::
  rT (tV (.bool false)) ::
  rT (tV (.bool false)) ::
  rT (tV (.bool false)) ::
  rT (tV (.bool false)) ::
  rT (tV (.int .i64 ((ex u : Nat) : Int))) ::
  rT (tV (.bool true)) ::
  rT (tV (.bool true)) ::
  rT (tV (.bool true)) ::
  rT (tV undef) ::
  rT (tV undef) ::
  rT (tV undef) ::
  rT (tV undef) ::
  rT (tV undef) ::
  rT (tV undef) ::
  rT (tV (.bool true)) ::
  []) hz hd (by kernel_rfl) ?_ ?_
 refine ⟨?_, ?_, ?_, ?_, ?_, ?_, ?_, ?_, ?_, ?_, ?_, ?_, ?_, ?_, ?_, ?_, ?_, ?_, ?_, ?_, ?_, ?_, ?_, ?_, trivial⟩
 exact zMv hz (sv S4)
 exact sBin rfl rfl rfl hz rfl (Gd.none_ rfl) rfl (sd 0 rfl) kc (fun w => run_f (P := ((ex u : Nat) : Int) = 2047) ((fun w => run_eql) w) hc2)
 exact zMv hz (sd 1 rfl)
 exact zMv hz (sv S0) (g := gT 2 rfl)
 exact sBin rfl rfl rfl hz rfl (gT 2 rfl) rfl (sd 3 rfl) kc (fun w => f_shr63 w)
 exact sBin rfl rfl rfl hz rfl (gT 2 rfl) rfl (sd 4 rfl) kc (fun w => run_t (P := ((u / 9223372036854775808 : Nat) : Int) = 1) ((fun w => run_eqlu) w) hc3)
 exact zMv hz (sd 5 rfl) (g := gT 2 rfl)
 exact zMv hz (sv S0) (g := gT 6 rfl)
 exact sBin rfl rfl rfl hz rfl (gT 6 rfl) rfl (sd 7 rfl) kc (fun w => f_shl1 w)
 exact sBin rfl rfl rfl hz rfl (gT 6 rfl) rfl (sd 8 rfl) kc (fun w => run_f (P := ((u * 2 % 18446744073709551616 : Nat) : Int) ≠ 0) ((fun w => run_nequ) w) hc4)
 exact zPT hz (sd 6 rfl) (sd 9 rfl) (g := gT 2 rfl)
 exact zPF hz (sd 2 rfl) (sd 10 rfl)
 exact zMv hz (sd 11 rfl)
 exact zMv hz (sv S4) (g := gT 12 rfl)
 exact sBin rfl rfl rfl hz rfl (gT 12 rfl) rfl (sd 13 rfl) kc (fun w => run_t (P := ((ex u : Nat) : Int) > 1043) ((fun w => run_gtr) w) hc5)
 exact zPF hz (sd 12 rfl) (sd 14 rfl)
 exact zMv hz (sd 15 rfl)
 exact zSkU hz (gN 16 rfl)
 exact zSkU hz (gN 16 rfl)
 exact zSkU hz (gN 16 rfl)
 exact zSkU hz (gU 19 rfl)
 exact zSkU hz (gU 19 rfl)
 exact zSkU hz (gN 16 rfl)
 exact zPT hz (sd 16 rfl) kc
 intro a' γ' W' hz' hd' hC hk hh
 have tp1 := Cp1.lt
 replace Cp1 := kC hC Cp1
 clear S0
 replace S2 := kp hk S2
 replace S3 := kp hk S3
 replace S4 := kp hk S4
 replace S5 := kp hk S5
 have S37 := gotV hz' 23 hh rfl rfl rfl rfl
 clear tp1
 replace HB := aft_call HB (RelC.below_nil hC)
 clear hC hk hh; replace hz := hz'; replace hd := hd'; clear hz' hd'
 refine wp_cond_true S37.ev ?_
 refine wp_seq ?_
 refine region_text (M := [p1]) (
  rT (tQ B32 1 0) ::
  rE 0 35 (tQ B32 1 0) p1 ::
  rT (tV (.bool false)) ::
  []) hz hd (by kernel_rfl) ?_ ?_
 refine ⟨?_, ?_, ?_, trivial⟩
 exact zC0 hz Try.func35 (fun _ => dq_zero)
 exact zSE rfl (sv S2) (by simp [tagOf]) (Cp1.var tR_nd) (sd 0 rfl) st_q32
 exact zAs hz kc
 intro a' γ' W' hz' hd' hC hk hh
 replace Cp1 := gotE (T := tQ B32 1 0) (id := 35) (p := p1) 1 hh rfl rfl
 replace S2 := kp hk S2
 clear S3
 replace S4 := kp hk S4
 replace S5 := kp hk S5
 clear S37
 have S3 := gotV hz' 2 hh rfl rfl rfl rfl
 replace HB := RelC.aftM HB hC (by intro m hm; simp at hm; rcases hm with rfl <;> assumption)
 clear hC hk hh; replace hz := hz'; replace hd := hd'; clear hz' hd'
 refine wp_ret ?_
 refine ret_to (T := tT [tQ B32 1 0, tV (.bool false)]) (retct_q32 (by kernel_rfl) S2 S3 hd Cp1 HB) ?_
 exact to2 (tQ_to (by decide) (by unfold rtQ; rw [if_neg (by rw [rt_iff hu]; omega)]) (by omega)) (tV_to (by rw [decide_eq_false (by rw [rt_iff hu]; omega)]))
 by_cases hc6 : ((ex u : Nat) : Int) = 1043
 refine region_text (M := []) (
  rT (tV (.int .i64 ((ex u : Nat) : Int))) ::
  rT (tV (.bool false)) ::
  rT (tV (.bool false)) ::
  rT (tV (.int .u64 (u : Int))) ::
  rT (tV (.int .u64 ((u / 9223372036854775808 : Nat) : Int))) ::
  rT (tV (.bool true)) ::
  rT (tV (.bool true)) ::
  rT (tV (.int .u64 (u : Int))) ::
  rT (tV (.int .u64 ((u * 2 % 18446744073709551616 : Nat) : Int))) ::
  rT (tV (.bool false)) ::
  rT (tV (.bool false)) ::
  rT (tV (.bool false)) ::
  rT (tV (.bool false)) ::
  rT (tV (.int .i64 ((ex u : Nat) : Int))) ::
  rT (tV (.bool false)) ::
  rT (tV (.bool false)) ::
  rT (tV (.bool false)) ::
  rT (tV (.int .i64 ((ex u : Nat) : Int))) ::
  rT (tV (.bool true)) ::
  rT (tV (.bool true)) ::
  rT (tV (.int .u64 ((ma u : Nat) : Int))) ::
  rT (tV (.bool (decide (((ma u : Nat) : Int) > 0)))) ::
  rT (tV (.bool (decide (((ma u : Nat) : Int) > 0)))) ::
  rT (tV (.bool (decide (((ma u : Nat) : Int) > 0)))) ::
  []) hz hd (by kernel_rfl) ?_ ?_
 refine ⟨?_, ?_, ?_, ?_, ?_, ?_, ?_, ?_, ?_, ?_, ?_, ?_, ?_, ?_, ?_, ?_, ?_, ?_, ?_, ?_, ?_, ?_, ?_, ?_, trivial⟩
 exact zMv hz (sv S4)
 exact sBin rfl rfl rfl hz rfl (Gd.none_ rfl) rfl (sd 0 rfl) kc (fun w => run_f (P := ((ex u : Nat) : Int) = 2047) ((fun w => run_eql) w) hc2)
 exact zMv hz (sd 1 rfl)
 exact zMv hz (sv S0) (g := gT 2 rfl)
 exact sBin rfl rfl rfl hz rfl (gT 2 rfl) rfl (sd 3 rfl) kc (fun w => f_shr63 w)
 exact sBin rfl rfl rfl hz rfl (gT 2 rfl) rfl (sd 4 rfl) kc (fun w => run_t (P := ((u / 9223372036854775808 : Nat) : Int) = 1) ((fun w => run_eqlu) w) hc3)
 exact zMv hz (sd 5 rfl) (g := gT 2 rfl)
 exact zMv hz (sv S0) (g := gT 6 rfl)
 exact sBin rfl rfl rfl hz rfl (gT 6 rfl) rfl (sd 7 rfl) kc (fun w => f_shl1 w)
 exact sBin rfl rfl rfl hz rfl (gT 6 rfl) rfl (sd 8 rfl) kc (fun w => run_f (P := ((u * 2 % 18446744073709551616 : Nat) : Int) ≠ 0) ((fun w => run_nequ) w) hc4)
 exact zPT hz (sd 6 rfl) (sd 9 rfl) (g := gT 2 rfl)
 exact zPF hz (sd 2 rfl) (sd 10 rfl)
 exact zMv hz (sd 11 rfl)
 exact zMv hz (sv S4) (g := gT 12 rfl)
 exact sBin rfl rfl rfl hz rfl (gT 12 rfl) rfl (sd 13 rfl) kc (fun w => run_f (P := ((ex u : Nat) : Int) > 1043) ((fun w => run_gtr) w) hc5)
 exact zPF hz (sd 12 rfl) (sd 14 rfl)
 exact zMv hz (sd 15 rfl)
 exact zMv hz (sv S4) (g := gT 16 rfl)
 exact sBin rfl rfl rfl hz rfl (gT 16 rfl) rfl (sd 17 rfl) kc (fun w => run_t (P := ((ex u : Nat) : Int) = 1043) ((fun w => run_eql) w) hc6)
 exact zMv hz (sd 18 rfl) (g := gT 16 rfl)
 exact zMv hz (sv S5) (g := gT 19 rfl)
 exact sBin rfl rfl rfl hz rfl (gT 19 rfl) rfl (sd 20 rfl) kc (fun w => run_gtru)
 exact zPT hz (sd 19 rfl) (sd 21 rfl) (g := gT 16 rfl)
 exact zPF hz (sd 16 rfl) (sd 22 rfl)
 intro a' γ' W' hz' hd' hC hk hh
 have tp1 := Cp1.lt
 replace Cp1 := kC hC Cp1
 clear S0
 replace S2 := kp hk S2
 replace S3 := kp hk S3
 replace S4 := kp hk S4
 replace S5 := kp hk S5
 have S37 := gotV hz' 23 hh rfl rfl rfl rfl
 clear tp1
 replace HB := aft_call HB (RelC.below_nil hC)
 clear hC hk hh; replace hz := hz'; replace hd := hd'; clear hz' hd'
 by_cases hc7 : ((ma u : Nat) : Int) > 0
 rw [decide_eq_true hc7] at S37
 refine wp_cond_true S37.ev ?_
 refine wp_seq ?_
 refine region_text (M := [p1]) (
  rT (tQ B32 1 0) ::
  rE 0 35 (tQ B32 1 0) p1 ::
  rT (tV (.bool false)) ::
  []) hz hd (by kernel_rfl) ?_ ?_
 refine ⟨?_, ?_, ?_, trivial⟩
 exact zC0 hz Try.func35 (fun _ => dq_zero)
 exact zSE rfl (sv S2) (by simp [tagOf]) (Cp1.var tR_nd) (sd 0 rfl) st_q32
 exact zAs hz kc
 intro a' γ' W' hz' hd' hC hk hh
 replace Cp1 := gotE (T := tQ B32 1 0) (id := 35) (p := p1) 1 hh rfl rfl
 replace S2 := kp hk S2
 clear S3
 replace S4 := kp hk S4
 replace S5 := kp hk S5
 clear S37
 have S3 := gotV hz' 2 hh rfl rfl rfl rfl
 replace HB := RelC.aftM HB hC (by intro m hm; simp at hm; rcases hm with rfl <;> assumption)
 clear hC hk hh; replace hz := hz'; replace hd := hd'; clear hz' hd'
 refine wp_ret ?_
 refine ret_to (T := tT [tQ B32 1 0, tV (.bool false)]) (retct_q32 (by kernel_rfl) S2 S3 hd Cp1 HB) ?_
 exact to2 (tQ_to (by decide) (by unfold rtQ; rw [if_neg (by rw [rt_iff hu]; omega)]) (by omega)) (tV_to (by rw [decide_eq_false (by rw [rt_iff hu]; omega)]))
 rw [decide_eq_false hc7] at S37
 refine wp_cond_false S37.ev ?_
 refine wp_skip ?_
 refine wp_seq ?_
 refine wp_seq ?_
 refine region_text (M := []) (
  rT (tV (.int .i64 ((ex u : Nat) : Int))) ::
  rT (tV (.bool (decide (((ex u : Nat) : Int) = 0)))) ::
  []) hz hd (by kernel_rfl) ?_ ?_
 refine ⟨?_, ?_, trivial⟩
 exact zMv hz (sv S4)
 exact sBin rfl rfl rfl hz rfl (Gd.none_ rfl) rfl (sd 0 rfl) kc (fun w => run_eql)
 intro a' γ' W' hz' hd' hC hk hh
 have tp1 := Cp1.lt
 replace Cp1 := kC hC Cp1
 replace S2 := kp hk S2
 replace S3 := kp hk S3
 replace S4 := kp hk S4
 replace S5 := kp hk S5
 clear S37
 have S40 := gotV hz' 1 hh rfl rfl rfl rfl
 clear tp1
 replace HB := aft_call HB (RelC.below_nil hC)
 clear hC hk hh; replace hz := hz'; replace hd := hd'; clear hz' hd'
 by_cases hc8 : ((ex u : Nat) : Int) = 0
 rw [decide_eq_true hc8] at S40
 refine wp_cond_true S40.ev ?_
 refine region_text (M := []) (
  rT (tV (.int .i64 1)) ::
  []) hz hd (by kernel_rfl) ?_ ?_
 refine ⟨?_, trivial⟩
 exact zAs hz kc
 intro a' γ' W' hz' hd' hC hk hh
 have tp1 := Cp1.lt
 replace Cp1 := kC hC Cp1
 replace S2 := kp hk S2
 replace S3 := kp hk S3
 clear S4
 replace S5 := kp hk S5
 clear S40
 have S4 := gotV hz' 0 hh rfl rfl rfl rfl
 clear tp1
 replace HB := aft_call HB (RelC.below_nil hC)
 clear hC hk hh; replace hz := hz'; replace hd := hd'; clear hz' hd'
 refine wp_seq ?_
 refine region_text (M := []) (
  rT (tV (.int .u64 ((ma u : Nat) : Int))) ::
  rT (tN B32 2 (ma u)) ::
  rT (tN B32 2 1) ::
  rVar 3 33 1 ::
  rVar 4 33 1 ::
  rB 3 33 (tN B32 2 (ma u)) (some 3) 4 ::
  rB 4 33 (tN B32 2 1) (some 4) 5 ::
  []) hz hd (by kernel_rfl) ?_ ?_
 refine ⟨?_, ?_, ?_, ?_, ?_, ?_, ?_, trivial⟩
 exact zMv hz (sv S5)
 exact zC1 hz Try.func21 (sd 0 rfl) (k1 (fun _ => d_of (by unfold B64; omega)))
 exact zC1 hz Try.func21 (kc (v := .int .u64 1)) (k1 (fun _ => d_of (by decide)))
 exact zAl hz nd_slice al_n32
 exact zAl hz nd_slice al_n32
 exact zSt (sd 1 rfl) st_n32
 exact zSt (sd 2 rfl) st_n32
 intro a' γ' W' hz' hd' hC hk hh
 have ep1 := Cp1.lt
 have tp1 := Cp1.lt
 replace Cp1 := kC hC Cp1
 replace S2 := kp hk S2
 replace S3 := kp hk S3
 clear S5
 replace S4 := kp hk S4
 obtain ⟨p9, S6, Cp9, lp9, gp9⟩ := gotB hz' 5 hC hh rfl rfl rfl rfl rfl rfl
 obtain ⟨p10, S7, Cp10, lp10, gp10⟩ := gotB hz' 6 hC hh rfl rfl rfl rfl rfl rfl
 have n_p9_p1 : p9 ≠ p1 := by omega
 have n_p9_p10 : p9 ≠ p10 := by intro e; rw [e, gp10] at gp9; omega
 have n_p10_p1 : p10 ≠ p1 := by omega
 have n_p10_p9 : p10 ≠ p9 := by intro e; rw [e, gp9] at gp10; omega
 have n_p1_p9 : p1 ≠ p9 := by have := ep1; omega
 have n_p1_p10 : p1 ≠ p10 := by have := ep1; omega
 have bp9 : w.heap.size ≤ p9 := Nat.le_trans HB.size lp9
 have bp10 : w.heap.size ≤ p10 := Nat.le_trans HB.size lp10
 clear lp9 gp9 lp10 gp10
 clear tp1
 clear ep1
 replace HB := aft_call HB (RelC.below_nil hC)
 clear hC hk hh; replace hz := hz'; replace hd := hd'; clear hz' hd'
 refine wp_seq ?_
 refine wp_seq ?_
 refine region_text (M := []) (
  rT (tV (.int .i64 1)) ::
  rT (tV (.bool false)) ::
  []) hz hd (by kernel_rfl) ?_ ?_
 refine ⟨?_, ?_, trivial⟩
 exact zMv hz (sv S4)
 exact sBin rfl rfl rfl hz rfl (Gd.none_ rfl) rfl (sd 0 rfl) kc (fun w => by simp [go_sem])
 intro a' γ' W' hz' hd' hC hk hh
 have tp1 := Cp1.lt
 replace Cp1 := kC hC Cp1
 have tp9 := Cp9.lt
 replace Cp9 := kC hC Cp9
 have tp10 := Cp10.lt
 replace Cp10 := kC hC Cp10
 replace S2 := kp hk S2
 replace S3 := kp hk S3
 replace S4 := kp hk S4
 replace S6 := kp hk S6
 replace S7 := kp hk S7
 have S47 := gotV hz' 1 hh rfl rfl rfl rfl
 clear tp1 tp9 tp10
 replace HB := aft_call HB (RelC.below_nil hC)
 clear hC hk hh; replace hz := hz'; replace hd := hd'; clear hz' hd'
 refine wp_cond_false S47.ev ?_
 refine region_text (M := [p10]) (
  rT (tN B32 2 1) ::
  rT (tV (.int .i64 1)) ::
  rT (tV (.int .i64 1074)) ::
  rT (tN B32 67 (1 * 2 ^ 1074)) ::
  rE 0 33 (tN B32 67 (1 * 2 ^ 1074)) p10 ::
  []) hz hd (by kernel_rfl) ?_ ?_
 refine ⟨?_, ?_, ?_, ?_, ?_, trivial⟩
 exact sLoadM rfl rfl rfl hz rfl (Gd.none_ rfl) rfl (sv S7) Cp10 (k := 0) (by simp [tagOf]) (by kernel_rfl) ld_n32
 exact zMv hz (sv S4)
 exact sBin rfl rfl rfl hz rfl (Gd.none_ rfl) rfl kc (sd 1 rfl) (fun w => by kernel_rfl)
 exact zC2 hz Try.func36 (sd 0 rfl) (sd 2 rfl) (k01 (fun _ _ h0 => d_left1 (k := 1074) h0 (by decide) (by omega)))
 exact zSE rfl (sv S7) (by simp [tagOf]) (Cp10.var tN_nd) (sd 3 rfl) st_n32
 intro a' γ' W' hz' hd' hC hk hh
 have tp1 := Cp1.lt
 replace Cp1 := kC hC Cp1 (by simp [tagOf, n_p1_p10])
 have tp9 := Cp9.lt
 replace Cp9 := kC hC Cp9 (by simp [tagOf, n_p9_p10])
 replace Cp10 := gotE (T := tN B32 67 (1 * 2 ^ 1074)) (id := 33) (p := p10) 4 hh rfl rfl
 replace S2 := kp hk S2
 replace S3 := kp hk S3
 clear S4
 replace S6 := kp hk S6
 replace S7 := kp hk S7
 clear S47
 clear tp1 tp9
 replace HB := RelC.aftM HB hC (by intro m hm; simp at hm; rcases hm with rfl <;> assumption)
 clear hC hk hh; replace hz := hz'; replace hd := hd'; clear hz' hd'
 refine wp_seq ?_
 refine region_text (M := [p1]) (
  rT (tN B32 2 (ma u)) ::
  rT (tN B32 67 (1 * 2 ^ 1074)) ::
  rT (tT [tQ B32 l (mkRat (((ma u : Nat) : Int)) (1 * 2 ^ 1074)), tV (.bool (decide (1 * 2 ^ 1074 ≠ 0)))]) ::
  rT (tQ B32 l (mkRat (((ma u : Nat) : Int)) (1 * 2 ^ 1074))) ::
  rT (tV (.bool (decide (1 * 2 ^ 1074 ≠ 0)))) ::
  rE 0 35 (tQ B32 l (mkRat (((ma u : Nat) : Int)) (1 * 2 ^ 1074))) p1 ::
  rT (tV (.bool (decide (1 * 2 ^ 1074 ≠ 0)))) ::
  []) hz hd (by kernel_rfl) ?_ ?_
 refine ⟨?_, ?_, ?_, ?_, ?_, ?_, ?_, trivial⟩
 exact zLd hz (sv S6) Cp9 ld_n32 (by simp [tagOf, n_p9_p1])
 exact zLd hz (sv S7) Cp10 ld_n32 (by simp [tagOf, n_p10_p1])
 exact zC2 hz Try.func37 (sd 0 rfl) (sd 1 rfl) (fun _ _ _ h0 h1 => dq_from (l := l) h0 h1 (by decide) (by decide) (fb_1 (by omega)) (fr_p (n := 1074) (by omega)) (by omega))
 exact zExt hz (sd 2 rfl)
 exact zExt hz (sd 2 rfl)
 exact zSE rfl (sv S2) (by simp [tagOf]) (Cp1.var tR_nd) (sd 3 rfl) st_q32
 exact zAs hz (sd 4 rfl)
 intro a' γ' W' hz' hd' hC hk hh
 replace Cp1 := gotE (T := tQ B32 l (mkRat (((ma u : Nat) : Int)) (1 * 2 ^ 1074))) (id := 35) (p := p1) 5 hh rfl rfl
 have tp9 := Cp9.lt
 clear Cp9
 have tp10 := Cp10.lt
 clear Cp10
 replace S2 := kp hk S2
 clear S3
 clear S6
 clear S7
 have S3 := gotV hz' 6 hh rfl rfl rfl rfl
 clear tp9 tp10
 replace HB := RelC.aftM HB hC (by intro m hm; simp at hm; rcases hm with rfl <;> assumption)
 clear hC hk hh; replace hz := hz'; replace hd := hd'; clear hz' hd'
 refine wp_ret ?_
 refine ret_to (T := tT [tQ B32 l (mkRat (((ma u : Nat) : Int)) (1 * 2 ^ 1074)), tV (.bool (decide (1 * 2 ^ 1074 ≠ 0)))]) (retct_q32 (by kernel_rfl) S2 S3 hd Cp1 HB) ?_
 exact to2 (tQ_to (by decide) (rt_v0 hc8 (by rw [rt_iff hu]; omega)).symm (Nat.le_refl _)) (tV_to (by rw [decide_eq_true (show RtOk u by rw [rt_iff hu]; omega), decide_eq_true (fr_ne 1074)]))
 rw [decide_eq_false hc8] at S40
 refine wp_cond_false S40.ev ?_
 refine region_text (M := []) (
  rT (tV (.int .u64 ((ma u : Nat) : Int))) ::
  rT (tV (.int .u64 ((ma u + 4503599627370496 : Nat) : Int))) ::
  rT (tV (.int .u64 ((ma u + 4503599627370496 : Nat) : Int))) ::
  []) hz hd (by kernel_rfl) ?_ ?_
 refine ⟨?_, ?_, ?_, trivial⟩
 exact zMv hz (sv S5)
 exact sBin rfl rfl rfl hz rfl (Gd.none_ rfl) rfl (sd 0 rfl) kc (fun w => f_or w)
 exact zAs hz (sd 1 rfl)
 intro a' γ' W' hz' hd' hC hk hh
 have tp1 := Cp1.lt
 replace Cp1 := kC hC Cp1
 replace S2 := kp hk S2
 replace S3 := kp hk S3
 replace S4 := kp hk S4
 clear S5
 clear S40
 have S5 := gotV hz' 2 hh rfl rfl rfl rfl
 clear tp1
 replace HB := aft_call HB (RelC.below_nil hC)
 clear hC hk hh; replace hz := hz'; replace hd := hd'; clear hz' hd'
 refine wp_seq ?_
 refine region_text (M := []) (
  rT (tV (.int .u64 ((ma u + 4503599627370496 : Nat) : Int))) ::
  rT (tN B32 2 (ma u + 4503599627370496)) ::
  rT (tN B32 2 1) ::
  rVar 3 33 1 ::
  rVar 4 33 1 ::
  rB 3 33 (tN B32 2 (ma u + 4503599627370496)) (some 3) 4 ::
  rB 4 33 (tN B32 2 1) (some 4) 5 ::
  []) hz hd (by kernel_rfl) ?_ ?_
 refine ⟨?_, ?_, ?_, ?_, ?_, ?_, ?_, trivial⟩
 exact zMv hz (sv S5)
 exact zC1 hz Try.func21 (sd 0 rfl) (k1 (fun _ => d_of (by unfold B64; omega)))
 exact zC1 hz Try.func21 (kc (v := .int .u64 1)) (k1 (fun _ => d_of (by decide)))
 exact zAl hz nd_slice al_n32
 exact zAl hz nd_slice al_n32
 exact zSt (sd 1 rfl) st_n32
 exact zSt (sd 2 rfl) st_n32
 intro a' γ' W' hz' hd' hC hk hh
 have ep1 := Cp1.lt
 have tp1 := Cp1.lt
 replace Cp1 := kC hC Cp1
 replace S2 := kp hk S2
 replace S3 := kp hk S3
 replace S4 := kp hk S4
 clear S5
 obtain ⟨p11, S6, Cp11, lp11, gp11⟩ := gotB hz' 5 hC hh rfl rfl rfl rfl rfl rfl
 obtain ⟨p12, S7, Cp12, lp12, gp12⟩ := gotB hz' 6 hC hh rfl rfl rfl rfl rfl rfl
 have n_p11_p1 : p11 ≠ p1 := by omega
 have n_p11_p12 : p11 ≠ p12 := by intro e; rw [e, gp12] at gp11; omega
 have n_p12_p1 : p12 ≠ p1 := by omega
 have n_p12_p11 : p12 ≠ p11 := by intro e; rw [e, gp11] at gp12; omega
 have n_p1_p11 : p1 ≠ p11 := by have := ep1; omega
 have n_p1_p12 : p1 ≠ p12 := by have := ep1; omega
 have bp11 : w.heap.size ≤ p11 := Nat.le_trans HB.size lp11
 have bp12 : w.heap.size ≤ p12 := Nat.le_trans HB.size lp12
 clear lp11 gp11 lp12 gp12
 clear tp1
 clear ep1
 replace HB := aft_call HB (RelC.below_nil hC)
 clear hC hk hh; replace hz := hz'; replace hd := hd'; clear hz' hd'
 refine wp_seq ?_
 refine wp_seq ?_
 refine region_text (M := []) (
  rT (tV (.int .i64 ((ex u : Nat) : Int))) ::
  rT (tV (.bool (decide (((ex u : Nat) : Int) ≥ 1075)))) ::
  []) hz hd (by kernel_rfl) ?_ ?_
 refine ⟨?_, ?_, trivial⟩
 exact zMv hz (sv S4)
 exact sBin rfl rfl rfl hz rfl (Gd.none_ rfl) rfl (sd 0 rfl) kc (fun w => run_geq)
 intro a' γ' W' hz' hd' hC hk hh
 have tp1 := Cp1.lt
 replace Cp1 := kC hC Cp1
 have tp11 := Cp11.lt
 replace Cp11 := kC hC Cp11
 have tp12 := Cp12.lt
 replace Cp12 := kC hC Cp12
 replace S2 := kp hk S2
 replace S3 := kp hk S3
 replace S4 := kp hk S4
 replace S6 := kp hk S6
 replace S7 := kp hk S7
 have S47 := gotV hz' 1 hh rfl rfl rfl rfl
 clear tp1 tp11 tp12
 replace HB := aft_call HB (RelC.below_nil hC)
 clear hC hk hh; replace hz := hz'; replace hd := hd'; clear hz' hd'
 by_cases hc13 : ((ex u : Nat) : Int) ≥ 1075
 omega
 rw [decide_eq_false hc13] at S47
 refine wp_cond_false S47.ev ?_
 refine region_text (M := [p12]) (
  rT (tN B32 2 1) ::
  rT (tV (.int .i64 ((ex u : Nat) : Int))) ::
  rT (tV (.int .i64 ((1075 - ex u : Nat) : Int))) ::
  rT (tN B32 67 (1 * 2 ^ ((1075 - ex u)))) ::
  rE 0 33 (tN B32 67 (1 * 2 ^ ((1075 - ex u)))) p12 ::
  []) hz hd (by kernel_rfl) ?_ ?_
 refine ⟨?_, ?_, ?_, ?_, ?_, trivial⟩
 exact sLoadM rfl rfl rfl hz rfl (Gd.none_ rfl) rfl (sv S7) Cp12 (k := 0) (by simp [tagOf]) (by kernel_rfl) ld_n32
 exact zMv hz (sv S4)
 exact sBin rfl rfl rfl hz rfl (Gd.none_ rfl) rfl kc (sd 1 rfl) (fun w => f_sub1 (by omega) w)
 exact zC2 hz Try.func36 (sd 0 rfl) (sd 2 rfl) (k01 (fun _ _ h0 => d_left1 (k := (1075 - ex u)) h0 (by decide) (by omega)))
 exact zSE rfl (sv S7) (by simp [tagOf]) (Cp12.var tN_nd) (sd 3 rfl) st_n32
 intro a' γ' W' hz' hd' hC hk hh
 have tp1 := Cp1.lt
 replace Cp1 := kC hC Cp1 (by simp [tagOf, n_p1_p12])
 have tp11 := Cp11.lt
 replace Cp11 := kC hC Cp11 (by simp [tagOf, n_p11_p12])
 replace Cp12 := gotE (T := tN B32 67 (1 * 2 ^ ((1075 - ex u)))) (id := 33) (p := p12) 4 hh rfl rfl
 replace S2 := kp hk S2
 replace S3 := kp hk S3
 clear S4
 replace S6 := kp hk S6
 replace S7 := kp hk S7
 clear S47
 clear tp1 tp11
 replace HB := RelC.aftM HB hC (by intro m hm; simp at hm; rcases hm with rfl <;> assumption)
 clear hC hk hh; replace hz := hz'; replace hd := hd'; clear hz' hd'
 refine wp_seq ?_
 refine region_text (M := [p1]) (
  rT (tN B32 2 (ma u + 4503599627370496)) ::
  rT (tN B32 67 (1 * 2 ^ ((1075 - ex u)))) ::
  rT (tT [tQ B32 l (mkRat (((ma u + 4503599627370496 : Nat) : Int)) (1 * 2 ^ ((1075 - ex u)))), tV (.bool (decide (1 * 2 ^ ((1075 - ex u)) ≠ 0)))]) ::
  rT (tQ B32 l (mkRat (((ma u + 4503599627370496 : Nat) : Int)) (1 * 2 ^ ((1075 - ex u))))) ::
  rT (tV (.bool (decide (1 * 2 ^ ((1075 - ex u)) ≠ 0)))) ::
  rE 0 35 (tQ B32 l (mkRat (((ma u + 4503599627370496 : Nat) : Int)) (1 * 2 ^ ((1075 - ex u))))) p1 ::
  rT (tV (.bool (decide (1 * 2 ^ ((1075 - ex u)) ≠ 0)))) ::
  []) hz hd (by kernel_rfl) ?_ ?_
 refine ⟨?_, ?_, ?_, ?_, ?_, ?_, ?_, trivial⟩
 exact zLd hz (sv S6) Cp11 ld_n32 (by simp [tagOf, n_p11_p1])
 exact zLd hz (sv S7) Cp12 ld_n32 (by simp [tagOf, n_p12_p1])
 exact zC2 hz Try.func37 (sd 0 rfl) (sd 1 rfl) (fun _ _ _ h0 h1 => dq_from (l := l) h0 h1 (by decide) (by decide) (fb_2 (by omega)) (fr_p (n := (1075 - ex u)) (by omega)) (by omega))
 exact zExt hz (sd 2 rfl)
 exact zExt hz (sd 2 rfl)
 exact zSE rfl (sv S2) (by simp [tagOf]) (Cp1.var tR_nd) (sd 3 rfl) st_q32
 exact zAs hz (sd 4 rfl)
 intro a' γ' W' hz' hd' hC hk hh
 replace Cp1 := gotE (T := tQ B32 l (mkRat (((ma u + 4503599627370496 : Nat) : Int)) (1 * 2 ^ ((1075 - ex u))))) (id := 35) (p := p1) 5 hh rfl rfl
 have tp11 := Cp11.lt
 clear Cp11
 have tp12 := Cp12.lt
 clear Cp12
 replace S2 := kp hk S2
 clear S3
 clear S6
 clear S7
 have S3 := gotV hz' 6 hh rfl rfl rfl rfl
 clear tp11 tp12
 replace HB := RelC.aftM HB hC (by intro m hm; simp at hm; rcases hm with rfl <;> assumption)
 clear hC hk hh; replace hz := hz'; replace hd := hd'; clear hz' hd'
 refine wp_ret ?_
 refine ret_to (T := tT [tQ B32 l (mkRat (((ma u + 4503599627370496 : Nat) : Int)) (1 * 2 ^ ((1075 - ex u)))), tV (.bool (decide (1 * 2 ^ ((1075 - ex u)) ≠ 0)))]) (retct_q32 (by kernel_rfl) S2 S3 hd Cp1 HB) ?_
 exact to2 (tQ_to (by decide) (rt_v1 hc8 (by omega) (by rw [rt_iff hu]; omega)).symm (Nat.le_refl _)) (tV_to (by rw [decide_eq_true (show RtOk u by rw [rt_iff hu]; omega), decide_eq_true (fr_ne (1075 - ex u))]))
 refine region_text (M := []) (
  rT (tV (.int .i64 ((ex u : Nat) : Int))) ::
  rT (tV (.bool false)) ::
  rT (tV (.bool false)) ::
  rT (tV (.int .u64 (u : Int))) ::
  rT (tV (.int .u64 ((u / 9223372036854775808 : Nat) : Int))) ::
  rT (tV (.bool true)) ::
  rT (tV (.bool true)) ::
  rT (tV (.int .u64 (u : Int))) ::
  rT (tV (.int .u64 ((u * 2 % 18446744073709551616 : Nat) : Int))) ::
  rT (tV (.bool false)) ::
  rT (tV (.bool false)) ::
  rT (tV (.bool false)) ::
  rT (tV (.bool false)) ::
  rT (tV (.int .i64 ((ex u : Nat) : Int))) ::
  rT (tV (.bool false)) ::
  rT (tV (.bool false)) ::
  rT (tV (.bool false)) ::
  rT (tV (.int .i64 ((ex u : Nat) : Int))) ::
  rT (tV (.bool false)) ::
  rT (tV (.bool false)) ::
  rT (tV undef) ::
  rT (tV undef) ::
  rT (tV (.bool false)) ::
  rT (tV (.bool false)) ::
  []) hz hd (by kernel_rfl) ?_ ?_
 refine ⟨?_, ?_, ?_, ?_, ?_, ?_, ?_, ?_, ?_, ?_, ?_, ?_, ?_, ?_, ?_, ?_, ?_, ?_, ?_, ?_, ?_, ?_, ?_, ?_, trivial⟩
 exact zMv hz (sv S4)
 exact sBin rfl rfl rfl hz rfl (Gd.none_ rfl) rfl (sd 0 rfl) kc (fun w => run_f (P := ((ex u : Nat) : Int) = 2047) ((fun w => run_eql) w) hc2)
 exact zMv hz (sd 1 rfl)
 exact zMv hz (sv S0) (g := gT 2 rfl)
 exact sBin rfl rfl rfl hz rfl (gT 2 rfl) rfl (sd 3 rfl) kc (fun w => f_shr63 w)
 exact sBin rfl rfl rfl hz rfl (gT 2 rfl) rfl (sd 4 rfl) kc (fun w => run_t (P := ((u / 9223372036854775808 : Nat) : Int) = 1) ((fun w => run_eqlu) w) hc3)
 exact zMv hz (sd 5 rfl) (g := gT 2 rfl)
 exact zMv hz (sv S0) (g := gT 6 rfl)
 exact sBin rfl rfl rfl hz rfl (gT 6 rfl) rfl (sd 7 rfl) kc (fun w => f_shl1 w)
 exact sBin rfl rfl rfl hz rfl (gT 6 rfl) rfl (sd 8 rfl) kc (fun w => run_f (P := ((u * 2 % 18446744073709551616 : Nat) : Int) ≠ 0) ((fun w => run_nequ) w) hc4)
 exact zPT hz (sd 6 rfl) (sd 9 rfl) (g := gT 2 rfl)
 exact zPF hz (sd 2 rfl) (sd 10 rfl)
 exact zMv hz (sd 11 rfl)
 exact zMv hz (sv S4) (g := gT 12 rfl)
 exact sBin rfl rfl rfl hz rfl (gT 12 rfl) rfl (sd 13 rfl) kc (fun w => run_f (P := ((ex u : Nat) : Int) > 1043) ((fun w => run_gtr) w) hc5)
 exact zPF hz (sd 12 rfl) (sd 14 rfl)
 exact zMv hz (sd 15 rfl)
 exact zMv hz (sv S4) (g := gT 16 rfl)
 exact sBin rfl rfl rfl hz rfl (gT 16 rfl) rfl (sd 17 rfl) kc (fun w => run_f (P := ((ex u : Nat) : Int) = 1043) ((fun w => run_eql) w) hc6)
 exact zMv hz (sd 18 rfl) (g := gT 16 rfl)
 exact zSkU hz (gN 19 rfl)
 exact zSkU hz (gN 19 rfl)
 exact zPF hz (sd 19 rfl) kc (g := gT 16 rfl)
 exact zPF hz (sd 16 rfl) (sd 22 rfl)
 intro a' γ' W' hz' hd' hC hk hh
 have tp1 := Cp1.lt
 replace Cp1 := kC hC Cp1
 clear S0
 replace S2 := kp hk S2
 replace S3 := kp hk S3
 replace S4 := kp hk S4
 replace S5 := kp hk S5
 have S37 := gotV hz' 23 hh rfl rfl rfl rfl
 clear tp1
 replace HB := aft_call HB (RelC.below_nil hC)
 clear hC hk hh; replace hz := hz'; replace hd := hd'; clear hz' hd'
 refine wp_cond_false S37.ev ?_
 refine wp_skip ?_
 refine wp_seq ?_
 refine wp_seq ?_
 refine region_text (M := []) (
  rT (tV (.int .i64 ((ex u : Nat) : Int))) ::
  rT (tV (.bool (decide (((ex u : Nat) : Int) = 0)))) ::
  []) hz hd (by kernel_rfl) ?_ ?_
 refine ⟨?_, ?_, trivial⟩
 exact zMv hz (sv S4)
 exact sBin rfl rfl rfl hz rfl (Gd.none_ rfl) rfl (sd 0 rfl) kc (fun w => run_eql)
 intro a' γ' W' hz' hd' hC hk hh
 have tp1 := Cp1.lt
 replace Cp1 := kC hC Cp1
 replace S2 := kp hk S2
 replace S3 := kp hk S3
 replace S4 := kp hk S4
 replace S5 := kp hk S5
 clear S37
 have S40 := gotV hz' 1 hh rfl rfl rfl rfl
 clear tp1
 replace HB := aft_call HB (RelC.below_nil hC)
 clear hC hk hh; replace hz := hz'; replace hd := hd'; clear hz' hd'
 by_cases hc14 : ((ex u : Nat) : Int) = 0
 rw [decide_eq_true hc14] at S40
 refine wp_cond_true S40.ev ?_
 refine region_text (M := []) (
  rT (tV (.int .i64 1)) ::
  []) hz hd (by kernel_rfl) ?_ ?_
 refine ⟨?_, trivial⟩
 exact zAs hz kc
 intro a' γ' W' hz' hd' hC hk hh
 have tp1 := Cp1.lt
 replace Cp1 := kC hC Cp1
 replace S2 := kp hk S2
 replace S3 := kp hk S3
 clear S4
 replace S5 := kp hk S5
 clear S40
 have S4 := gotV hz' 0 hh rfl rfl rfl rfl
 clear tp1
 replace HB := aft_call HB (RelC.below_nil hC)
 clear hC hk hh; replace hz := hz'; replace hd := hd'; clear hz' hd'
 refine wp_seq ?_
 refine region_text (M := []) (
  rT (tV (.int .u64 ((ma u : Nat) : Int))) ::
  rT (tN B32 2 (ma u)) ::
  rT (tN B32 2 1) ::
  rVar 3 33 1 ::
  rVar 4 33 1 ::
  rB 3 33 (tN B32 2 (ma u)) (some 3) 4 ::
  rB 4 33 (tN B32 2 1) (some 4) 5 ::
  []) hz hd (by kernel_rfl) ?_ ?_
 refine ⟨?_, ?_, ?_, ?_, ?_, ?_, ?_, trivial⟩
 exact zMv hz (sv S5)
 exact zC1 hz Try.func21 (sd 0 rfl) (k1 (fun _ => d_of (by unfold B64; omega)))
 exact zC1 hz Try.func21 (kc (v := .int .u64 1)) (k1 (fun _ => d_of (by decide)))
 exact zAl hz nd_slice al_n32
 exact zAl hz nd_slice al_n32
 exact zSt (sd 1 rfl) st_n32
 exact zSt (sd 2 rfl) st_n32
 intro a' γ' W' hz' hd' hC hk hh
 have ep1 := Cp1.lt
 have tp1 := Cp1.lt
 replace Cp1 := kC hC Cp1
 replace S2 := kp hk S2
 replace S3 := kp hk S3
 clear S5
 replace S4 := kp hk S4
 obtain ⟨p15, S6, Cp15, lp15, gp15⟩ := gotB hz' 5 hC hh rfl rfl rfl rfl rfl rfl
 obtain ⟨p16, S7, Cp16, lp16, gp16⟩ := gotB hz' 6 hC hh rfl rfl rfl rfl rfl rfl
 have n_p15_p1 : p15 ≠ p1 := by omega
 have n_p15_p16 : p15 ≠ p16 := by intro e; rw [e, gp16] at gp15; omega
 have n_p16_p1 : p16 ≠ p1 := by omega
 have n_p16_p15 : p16 ≠ p15 := by intro e; rw [e, gp15] at gp16; omega
 have n_p1_p15 : p1 ≠ p15 := by have := ep1; omega
 have n_p1_p16 : p1 ≠ p16 := by have := ep1; omega
 have bp15 : w.heap.size ≤ p15 := Nat.le_trans HB.size lp15
 have bp16 : w.heap.size ≤ p16 := Nat.le_trans HB.size lp16
 clear lp15 gp15 lp16 gp16
 clear tp1
 clear ep1
 replace HB := aft_call HB (RelC.below_nil hC)
 clear hC hk hh; replace hz := hz'; replace hd := hd'; clear hz' hd'
 refine wp_seq ?_
 refine wp_seq ?_
 refine region_text (M := []) (
  rT (tV (.int .i64 1)) ::
  rT (tV (.bool false)) ::
  []) hz hd (by kernel_rfl) ?_ ?_
 refine ⟨?_, ?_, trivial⟩
 exact zMv hz (sv S4)
 exact sBin rfl rfl rfl hz rfl (Gd.none_ rfl) rfl (sd 0 rfl) kc (fun w => by simp [go_sem])
 intro a' γ' W' hz' hd' hC hk hh
 have tp1 := Cp1.lt
 replace Cp1 := kC hC Cp1
 have tp15 := Cp15.lt
 replace Cp15 := kC hC Cp15
 have tp16 := Cp16.lt
 replace Cp16 := kC hC Cp16
 replace S2 := kp hk S2
 replace S3 := kp hk S3
 replace S4 := kp hk S4
 replace S6 := kp hk S6
 replace S7 := kp hk S7
 have S47 := gotV hz' 1 hh rfl rfl rfl rfl
 clear tp1 tp15 tp16
 replace HB := aft_call HB (RelC.below_nil hC)
 clear hC hk hh; replace hz := hz'; replace hd := hd'; clear hz' hd'
 refine wp_cond_false S47.ev ?_
 refine region_text (M := [p16]) (
  rT (tN B32 2 1) ::
  rT (tV (.int .i64 1)) ::
  rT (tV (.int .i64 1074)) ::
  rT (tN B32 67 (1 * 2 ^ 1074)) ::
  rE 0 33 (tN B32 67 (1 * 2 ^ 1074)) p16 ::
  []) hz hd (by kernel_rfl) ?_ ?_
 refine ⟨?_, ?_, ?_, ?_, ?_, trivial⟩
 exact sLoadM rfl rfl rfl hz rfl (Gd.none_ rfl) rfl (sv S7) Cp16 (k := 0) (by simp [tagOf]) (by kernel_rfl) ld_n32
 exact zMv hz (sv S4)
 exact sBin rfl rfl rfl hz rfl (Gd.none_ rfl) rfl kc (sd 1 rfl) (fun w => by kernel_rfl)
 exact zC2 hz Try.func36 (sd 0 rfl) (sd 2 rfl) (k01 (fun _ _ h0 => d_left1 (k := 1074) h0 (by decide) (by omega)))
 exact zSE rfl (sv S7) (by simp [tagOf]) (Cp16.var tN_nd) (sd 3 rfl) st_n32
 intro a' γ' W' hz' hd' hC hk hh
 have tp1 := Cp1.lt
 replace Cp1 := kC hC Cp1 (by simp [tagOf, n_p1_p16])
 have tp15 := Cp15.lt
 replace Cp15 := kC hC Cp15 (by simp [tagOf, n_p15_p16])
 replace Cp16 := gotE (T := tN B32 67 (1 * 2 ^ 1074)) (id := 33) (p := p16) 4 hh rfl rfl
 replace S2 := kp hk S2
 replace S3 := kp hk S3
 clear S4
 replace S6 := kp hk S6
 replace S7 := kp hk S7
 clear S47
 clear tp1 tp15
 replace HB := RelC.aftM HB hC (by intro m hm; simp at hm; rcases hm with rfl <;> assumption)
 clear hC hk hh; replace hz := hz'; replace hd := hd'; clear hz' hd'
 refine wp_seq ?_
 refine region_text (M := [p1]) (
  rT (tN B32 2 (ma u)) ::
  rT (tN B32 67 (1 * 2 ^ 1074)) ::
  rT (tT [tQ B32 l (mkRat (((ma u : Nat) : Int)) (1 * 2 ^ 1074)), tV (.bool (decide (1 * 2 ^ 1074 ≠ 0)))]) ::
  rT (tQ B32 l (mkRat (((ma u : Nat) : Int)) (1 * 2 ^ 1074))) ::
  rT (tV (.bool (decide (1 * 2 ^ 1074 ≠ 0)))) ::
  rE 0 35 (tQ B32 l (mkRat (((ma u : Nat) : Int)) (1 * 2 ^ 1074))) p1 ::
  rT (tV (.bool (decide (1 * 2 ^ 1074 ≠ 0)))) ::
  []) hz hd (by kernel_rfl) ?_ ?_
 refine ⟨?_, ?_, ?_, ?_, ?_, ?_, ?_, trivial⟩
 exact zLd hz (sv S6) Cp15 ld_n32 (by simp [tagOf, n_p15_p1])
 exact zLd hz (sv S7) Cp16 ld_n32 (by simp [tagOf, n_p16_p1])
 exact zC2 hz Try.func37 (sd 0 rfl) (sd 1 rfl) (fun _ _ _ h0 h1 => dq_from (l := l) h0 h1 (by decide) (by decide) (fb_1 (by omega)) (fr_p (n := 1074) (by omega)) (by omega))
 exact zExt hz (sd 2 rfl)
 exact zExt hz (sd 2 rfl)
 exact zSE rfl (sv S2) (by simp [tagOf]) (Cp1.var tR_nd) (sd 3 rfl) st_q32
 exact zAs hz (sd 4 rfl)
 intro a' γ' W' hz' hd' hC hk hh
 replace Cp1 := gotE (T := tQ B32 l (mkRat (((ma u : Nat) : Int)) (1 * 2 ^ 1074))) (id := 35) (p := p1) 5 hh rfl rfl
 have tp15 := Cp15.lt
 clear Cp15
 have tp16 := Cp16.lt
 clear Cp16
 replace S2 := kp hk S2
 clear S3
 clear S6
 clear S7
 have S3 := gotV hz' 6 hh rfl rfl rfl rfl
 clear tp15 tp16
 replace HB := RelC.aftM HB hC (by intro m hm; simp at hm; rcases hm with rfl <;> assumption)
 clear hC hk hh; replace hz := hz'; replace hd := hd'; clear hz' hd'
 refine wp_ret ?_
 refine ret_to (T := tT [tQ B32 l (mkRat (((ma u : Nat) : Int)) (1 * 2 ^ 1074)), tV (.bool (decide (1 * 2 ^ 1074 ≠ 0)))]) (retct_q32 (by kernel_rfl) S2 S3 hd Cp1 HB) ?_
 exact to2 (tQ_to (by decide) (rt_v0 hc14 (by rw [rt_iff hu]; omega)).symm (Nat.le_refl _)) (tV_to (by rw [decide_eq_true (show RtOk u by rw [rt_iff hu]; omega), decide_eq_true (fr_ne 1074)]))
 rw [decide_eq_false hc14] at S40
 refine wp_cond_false S40.ev ?_
 refine region_text (M := []) (
  rT (tV (.int .u64 ((ma u : Nat) : Int))) ::
  rT (tV (.int .u64 ((ma u + 4503599627370496 : Nat) : Int))) ::
  rT (tV (.int .u64 ((ma u + 4503599627370496 : Nat) : Int))) ::
  []) hz hd (by kernel_rfl) ?_ ?_
 refine ⟨?_, ?_, ?_, trivial⟩
 exact zMv hz (sv S5)
 exact sBin rfl rfl rfl hz rfl (Gd.none_ rfl) rfl (sd 0 rfl) kc (fun w => f_or w)
 exact zAs hz (sd 1 rfl)
 intro a' γ' W' hz' hd' hC hk hh
 have tp1 := Cp1.lt
 replace Cp1 := kC hC Cp1
 replace S2 := kp hk S2
 replace S3 := kp hk S3
 replace S4 := kp hk S4
 clear S5
 clear S40
 have S5 := gotV hz' 2 hh rfl rfl rfl rfl
 clear tp1
 replace HB := aft_call HB (RelC.below_nil hC)
 clear hC hk hh; replace hz := hz'; replace hd := hd'; clear hz' hd'
 refine wp_seq ?_
 refine region_text (M := []) (
  rT (tV (.int .u64 ((ma u + 4503599627370496 : Nat) : Int))) ::
  rT (tN B32 2 (ma u + 4503599627370496)) ::
  rT (tN B32 2 1) ::
  rVar 3 33 1 ::
  rVar 4 33 1 ::
  rB 3 33 (tN B32 2 (ma u + 4503599627370496)) (some 3) 4 ::
  rB 4 33 (tN B32 2 1) (some 4) 5 ::
  []) hz hd (by kernel_rfl) ?_ ?_
 refine ⟨?_, ?_, ?_, ?_, ?_, ?_, ?_, trivial⟩
 exact zMv hz (sv S5)
 exact zC1 hz Try.func21 (sd 0 rfl) (k1 (fun _ => d_of (by unfold B64; omega)))
 exact zC1 hz Try.func21 (kc (v := .int .u64 1)) (k1 (fun _ => d_of (by decide)))
 exact zAl hz nd_slice al_n32
 exact zAl hz nd_slice al_n32
 exact zSt (sd 1 rfl) st_n32
 exact zSt (sd 2 rfl) st_n32
 intro a' γ' W' hz' hd' hC hk hh
 have ep1 := Cp1.lt
 have tp1 := Cp1.lt
 replace Cp1 := kC hC Cp1
 replace S2 := kp hk S2
 replace S3 := kp hk S3
 replace S4 := kp hk S4
 clear S5
 obtain ⟨p17, S6, Cp17, lp17, gp17⟩ := gotB hz' 5 hC hh rfl rfl rfl rfl rfl rfl
 obtain ⟨p18, S7, Cp18, lp18, gp18⟩ := gotB hz' 6 hC hh rfl rfl rfl rfl rfl rfl
 have n_p17_p1 : p17 ≠ p1 := by omega
 have n_p17_p18 : p17 ≠ p18 := by intro e; rw [e, gp18] at gp17; omega
 have n_p18_p1 : p18 ≠ p1 := by omega
 have n_p18_p17 : p18 ≠ p17 := by intro e; rw [e, gp17] at gp18; omega
 have n_p1_p17 : p1 ≠ p17 := by have := ep1; omega
 have n_p1_p18 : p1 ≠ p18 := by have := ep1; omega
 have bp17 : w.heap.size ≤ p17 := Nat.le_trans HB.size lp17
 have bp18 : w.heap.size ≤ p18 := Nat.le_trans HB.size lp18
 clear lp17 gp17 lp18 gp18
 clear tp1
 clear ep1
 replace HB := aft_call HB (RelC.below_nil hC)
 clear hC hk hh; replace hz := hz'; replace hd := hd'; clear hz' hd'
 refine wp_seq ?_
 refine wp_seq ?_
 refine region_text (M := []) (
  rT (tV (.int .i64 ((ex u : Nat) : Int))) ::
  rT (tV (.bool (decide (((ex u : Nat) : Int) ≥ 1075)))) ::
  []) hz hd (by kernel_rfl) ?_ ?_
 refine ⟨?_, ?_, trivial⟩
 exact zMv hz (sv S4)
 exact sBin rfl rfl rfl hz rfl (Gd.none_ rfl) rfl (sd 0 rfl) kc (fun w => run_geq)
 intro a' γ' W' hz' hd' hC hk hh
 have tp1 := Cp1.lt
 replace Cp1 := kC hC Cp1
 have tp17 := Cp17.lt
 replace Cp17 := kC hC Cp17
 have tp18 := Cp18.lt
 replace Cp18 := kC hC Cp18
 replace S2 := kp hk S2
 replace S3 := kp hk S3
 replace S4 := kp hk S4
 replace S6 := kp hk S6
 replace S7 := kp hk S7
 have S47 := gotV hz' 1 hh rfl rfl rfl rfl
 clear tp1 tp17 tp18
 replace HB := aft_call HB (RelC.below_nil hC)
 clear hC hk hh; replace hz := hz'; replace hd := hd'; clear hz' hd'
 by_cases hc19 : ((ex u : Nat) : Int) ≥ 1075
 omega
 rw [decide_eq_false hc19] at S47
 refine wp_cond_false S47.ev ?_
 refine region_text (M := [p18]) (
  rT (tN B32 2 1) ::
  rT (tV (.int .i64 ((ex u : Nat) : Int))) ::
  rT (tV (.int .i64 ((1075 - ex u : Nat) : Int))) ::
  rT (tN B32 67 (1 * 2 ^ ((1075 - ex u)))) ::
  rE 0 33 (tN B32 67 (1 * 2 ^ ((1075 - ex u)))) p18 ::
  []) hz hd (by kernel_rfl) ?_ ?_
 refine ⟨?_, ?_, ?_, ?_, ?_, trivial⟩
 exact sLoadM rfl rfl rfl hz rfl (Gd.none_ rfl) rfl (sv S7) Cp18 (k := 0) (by simp [tagOf]) (by kernel_rfl) ld_n32
 exact zMv hz (sv S4)
 exact sBin rfl rfl rfl hz rfl (Gd.none_ rfl) rfl kc (sd 1 rfl) (fun w => f_sub1 (by omega) w)
 exact zC2 hz Try.func36 (sd 0 rfl) (sd 2 rfl) (k01 (fun _ _ h0 => d_left1 (k := (1075 - ex u)) h0 (by decide) (by omega)))
 exact zSE rfl (sv S7) (by simp [tagOf]) (Cp18.var tN_nd) (sd 3 rfl) st_n32
 intro a' γ' W' hz' hd' hC hk hh
 have tp1 := Cp1.lt
 replace Cp1 := kC hC Cp1 (by simp [tagOf, n_p1_p18])
 have tp17 := Cp17.lt
 replace Cp17 := kC hC Cp17 (by simp [tagOf, n_p17_p18])
 replace Cp18 := gotE (T := tN B32 67 (1 * 2 ^ ((1075 - ex u)))) (id := 33) (p := p18) 4 hh rfl rfl
 replace S2 := kp hk S2
 replace S3 := kp hk S3
 clear S4
 replace S6 := kp hk S6
 replace S7 := kp hk S7
 clear S47
 clear tp1 tp17
 replace HB := RelC.aftM HB hC (by intro m hm; simp at hm; rcases hm with rfl <;> assumption)
 clear hC hk hh; replace hz := hz'; replace hd := hd'; clear hz' hd'
 refine wp_seq ?_
 refine region_text (M := [p1]) (
  rT (tN B32 2 (ma u + 4503599627370496)) ::
  rT (tN B32 67 (1 * 2 ^ ((1075 - ex u)))) ::
  rT (tT [tQ B32 l (mkRat (((ma u + 4503599627370496 : Nat) : Int)) (1 * 2 ^ ((1075 - ex u)))), tV (.bool (decide (1 * 2 ^ ((1075 - ex u)) ≠ 0)))]) ::
  rT (tQ B32 l (mkRat (((ma u + 4503599627370496 : Nat) : Int)) (1 * 2 ^ ((1075 - ex u))))) ::
  rT (tV (.bool (decide (1 * 2 ^ ((1075 - ex u)) ≠ 0)))) ::
  rE 0 35 (tQ B32 l (mkRat (((ma u + 4503599627370496 : Nat) : Int)) (1 * 2 ^ ((1075 - ex u))))) p1 ::
  rT (tV (.bool (decide (1 * 2 ^ ((1075 - ex u)) ≠ 0)))) ::
  []) hz hd (by kernel_rfl) ?_ ?_
 refine ⟨?_, ?_, ?_, ?_, ?_, ?_, ?_, trivial⟩
 exact zLd hz (sv S6) Cp17 ld_n32 (by simp [tagOf, n_p17_p1])
 exact zLd hz (sv S7) Cp18 ld_n32 (by simp [tagOf, n_p18_p1])
 exact zC2 hz Try.func37 (sd 0 rfl) (sd 1 rfl) (fun _ _ _ h0 h1 => dq_from (l := l) h0 h1 (by decide) (by decide) (fb_2 (by omega)) (fr_p (n := (1075 - ex u)) (by omega)) (by omega))
 exact zExt hz (sd 2 rfl)
 exact zExt hz (sd 2 rfl)
 exact zSE rfl (sv S2) (by simp [tagOf]) (Cp1.var tR_nd) (sd 3 rfl) st_q32
 exact zAs hz (sd 4 rfl)
 intro a' γ' W' hz' hd' hC hk hh
 replace Cp1 := gotE (T := tQ B32 l (mkRat (((ma u + 4503599627370496 : Nat) : Int)) (1 * 2 ^ ((1075 - ex u))))) (id := 35) (p := p1) 5 hh rfl rfl
 have tp17 := Cp17.lt
 clear Cp17
 have tp18 := Cp18.lt
 clear Cp18
 replace S2 := kp hk S2
 clear S3
 clear S6
 clear S7
 have S3 := gotV hz' 6 hh rfl rfl rfl rfl
 clear tp17 tp18
 replace HB := RelC.aftM HB hC (by intro m hm; simp at hm; rcases hm with rfl <;> assumption)
 clear hC hk hh; replace hz := hz'; replace hd := hd'; clear hz' hd'
 refine wp_ret ?_
 refine ret_to (T := tT [tQ B32 l (mkRat (((ma u + 4503599627370496 : Nat) : Int)) (1 * 2 ^ ((1075 - ex u)))), tV (.bool (decide (1 * 2 ^ ((1075 - ex u)) ≠ 0)))]) (retct_q32 (by kernel_rfl) S2 S3 hd Cp1 HB) ?_
 exact to2 (tQ_to (by decide) (rt_v1 hc14 (by omega) (by rw [rt_iff hu]; omega)).symm (Nat.le_refl _)) (tV_to (by rw [decide_eq_true (show RtOk u by rw [rt_iff hu]; omega), decide_eq_true (fr_ne (1075 - ex u))]))
 by_cases hc20 : ((ex u : Nat) : Int) > 1043
 refine region_text (M := []) (
  rT (tV (.int .i64 ((ex u : Nat) : Int))) ::
  rT (tV (.bool false)) ::
  rT (tV (.bool false)) ::
  rT (tV (.int .u64 (u : Int))) ::
  rT (tV (.int .u64 ((u / 9223372036854775808 : Nat) : Int))) ::
  rT (tV (.bool false)) ::
  rT (tV (.bool false)) ::
  rT (tV undef) ::
  rT (tV undef) ::
  rT (tV undef) ::
  rT (tV (.bool false)) ::
  rT (tV (.bool false)) ::
  rT (tV (.bool false)) ::
  rT (tV (.int .i64 ((ex u : Nat) : Int))) ::
  rT (tV (.bool true)) ::
  rT (tV (.bool true)) ::
  rT (tV (.bool true)) ::
  rT (tV undef) ::
  rT (tV undef) ::
  rT (tV undef) ::
  rT (tV undef) ::
  rT (tV undef) ::
  rT (tV undef) ::
  rT (tV (.bool true)) ::
  []) hz hd (by kernel_rfl) ?_ ?_
 refine ⟨?_, ?_, ?_, ?_, ?_, ?_, ?_, ?_, ?_, ?_, ?_, ?_, ?_, ?_, ?_, ?_, ?_, ?_, ?_, ?_, ?_, ?_, ?_, ?_, trivial⟩
 exact zMv hz (sv S4)
 exact sBin rfl rfl rfl hz rfl (Gd.none_ rfl) rfl (sd 0 rfl) kc (fun w => run_f (P := ((ex u : Nat) : Int) = 2047) ((fun w => run_eql) w) hc2)
 exact zMv hz (sd 1 rfl)
 exact zMv hz (sv S0) (g := gT 2 rfl)
 exact sBin rfl rfl rfl hz rfl (gT 2 rfl) rfl (sd 3 rfl) kc (fun w => f_shr63 w)
 exact sBin rfl rfl rfl hz rfl (gT 2 rfl) rfl (sd 4 rfl) kc (fun w => run_f (P := ((u / 9223372036854775808 : Nat) : Int) = 1) ((fun w => run_eqlu) w) hc3)
 exact zMv hz (sd 5 rfl) (g := gT 2 rfl)
 exact zSkU hz (gN 6 rfl)
 exact zSkU hz (gN 6 rfl)
 exact zSkU hz (gN 6 rfl)
 exact zPF hz (sd 6 rfl) kc (g := gT 2 rfl)
 exact zPF hz (sd 2 rfl) (sd 10 rfl)
 exact zMv hz (sd 11 rfl)
 exact zMv hz (sv S4) (g := gT 12 rfl)
 exact sBin rfl rfl rfl hz rfl (gT 12 rfl) rfl (sd 13 rfl) kc (fun w => run_t (P := ((ex u : Nat) : Int) > 1043) ((fun w => run_gtr) w) hc20)
 exact zPF hz (sd 12 rfl) (sd 14 rfl)
 exact zMv hz (sd 15 rfl)
 exact zSkU hz (gN 16 rfl)
 exact zSkU hz (gN 16 rfl)
 exact zSkU hz (gN 16 rfl)
 exact zSkU hz (gU 19 rfl)
 exact zSkU hz (gU 19 rfl)
 exact zSkU hz (gN 16 rfl)
 exact zPT hz (sd 16 rfl) kc
 intro a' γ' W' hz' hd' hC hk hh
 have tp1 := Cp1.lt
 replace Cp1 := kC hC Cp1
 clear S0
 replace S2 := kp hk S2
 replace S3 := kp hk S3
 replace S4 := kp hk S4
 replace S5 := kp hk S5
 have S37 := gotV hz' 23 hh rfl rfl rfl rfl
 clear tp1
 replace HB := aft_call HB (RelC.below_nil hC)
 clear hC hk hh; replace hz := hz'; replace hd := hd'; clear hz' hd'
 refine wp_cond_true S37.ev ?_
 refine wp_seq ?_
 refine region_text (M := [p1]) (
  rT (tQ B32 1 0) ::
  rE 0 35 (tQ B32 1 0) p1 ::
  rT (tV (.bool false)) ::
  []) hz hd (by kernel_rfl) ?_ ?_
 refine ⟨?_, ?_, ?_, trivial⟩
 exact zC0 hz Try.func35 (fun _ => dq_zero)
 exact zSE rfl (sv S2) (by simp [tagOf]) (Cp1.var tR_nd) (sd 0 rfl) st_q32
 exact zAs hz kc
 intro a' γ' W' hz' hd' hC hk hh
 replace Cp1 := gotE (T := tQ B32 1 0) (id := 35) (p := p1) 1 hh rfl rfl
 replace S2 := kp hk S2
 clear S3
 replace S4 := kp hk S4
 replace S5 := kp hk S5
 clear S37
 have S3 := gotV hz' 2 hh rfl rfl rfl rfl
 replace HB := RelC.aftM HB hC (by intro m hm; simp at hm; rcases hm with rfl <;> assumption)
 clear hC hk hh; replace hz := hz'; replace hd := hd'; clear hz' hd'
 refine wp_ret ?_
 refine ret_to (T := tT [tQ B32 1 0, tV (.bool false)]) (retct_q32 (by kernel_rfl) S2 S3 hd Cp1 HB) ?_
 exact to2 (tQ_to (by decide) (by unfold rtQ; rw [if_neg (by rw [rt_iff hu]; omega)]) (by omega)) (tV_to (by rw [decide_eq_false (by rw [rt_iff hu]; omega)]))
 by_cases hc21 : ((ex u : Nat) : Int) = 1043
 refine region_text (M := []) (
  rT (tV (.int .i64 ((ex u : Nat) : Int))) ::
  rT (tV (.bool false)) ::
  rT (tV (.bool false)) ::
  rT (tV (.int .u64 (u : Int))) ::
  rT (tV (.int .u64 ((u / 9223372036854775808 : Nat) : Int))) ::
  rT (tV (.bool false)) ::
  rT (tV (.bool false)) ::
  rT (tV undef) ::
  rT (tV undef) ::
  rT (tV undef) ::
  rT (tV (.bool false)) ::
  rT (tV (.bool false)) ::
  rT (tV (.bool false)) ::
  rT (tV (.int .i64 ((ex u : Nat) : Int))) ::
  rT (tV (.bool false)) ::
  rT (tV (.bool false)) ::
  rT (tV (.bool false)) ::
  rT (tV (.int .i64 ((ex u : Nat) : Int))) ::
  rT (tV (.bool true)) ::
  rT (tV (.bool true)) ::
  rT (tV (.int .u64 ((ma u : Nat) : Int))) ::
  rT (tV (.bool (decide (((ma u : Nat) : Int) > 0)))) ::
  rT (tV (.bool (decide (((ma u : Nat) : Int) > 0)))) ::
  rT (tV (.bool (decide (((ma u : Nat) : Int) > 0)))) ::
  []) hz hd (by kernel_rfl) ?_ ?_
 refine ⟨?_, ?_, ?_, ?_, ?_, ?_, ?_, ?_, ?_, ?_, ?_, ?_, ?_, ?_, ?_, ?_, ?_, ?_, ?_, ?_, ?_, ?_, ?_, ?_, trivial⟩
 exact zMv hz (sv S4)
 exact sBin rfl rfl rfl hz rfl (Gd.none_ rfl) rfl (sd 0 rfl) kc (fun w => run_f (P := ((ex u : Nat) : Int) = 2047) ((fun w => run_eql) w) hc2)
 exact zMv hz (sd 1 rfl)
 exact zMv hz (sv S0) (g := gT 2 rfl)
 exact sBin rfl rfl rfl hz rfl (gT 2 rfl) rfl (sd 3 rfl) kc (fun w => f_shr63 w)
 exact sBin rfl rfl rfl hz rfl (gT 2 rfl) rfl (sd 4 rfl) kc (fun w => run_f (P := ((u / 9223372036854775808 : Nat) : Int) = 1) ((fun w => run_eqlu) w) hc3)
 exact zMv hz (sd 5 rfl) (g := gT 2 rfl)
 exact zSkU hz (gN 6 rfl)
 exact zSkU hz (gN 6 rfl)
 exact zSkU hz (gN 6 rfl)
 exact zPF hz (sd 6 rfl) kc (g := gT 2 rfl)
 exact zPF hz (sd 2 rfl) (sd 10 rfl)
 exact zMv hz (sd 11 rfl)
 exact zMv hz (sv S4) (g := gT 12 rfl)
 exact sBin rfl rfl rfl hz rfl (gT 12 rfl) rfl (sd 13 rfl) kc (fun w => run_f (P := ((ex u : Nat) : Int) > 1043) ((fun w => run_gtr) w) hc20)
 exact zPF hz (sd 12 rfl) (sd 14 rfl)
 exact zMv hz (sd 15 rfl)
 exact zMv hz (sv S4) (g := gT 16 rfl)
 exact sBin rfl rfl rfl hz rfl (gT 16 rfl) rfl (sd 17 rfl) kc (fun w => run_t (P := ((ex u : Nat) : Int) = 1043) ((fun w => run_eql) w) hc21)
 exact zMv hz (sd 18 rfl) (g := gT 16 rfl)
 exact zMv hz (sv S5) (g := gT 19 rfl)
 exact sBin rfl rfl rfl hz rfl (gT 19 rfl) rfl (sd 20 rfl) kc (fun w => run_gtru)
 exact zPT hz (sd 19 rfl) (sd 21 rfl) (g := gT 16 rfl)
 exact zPF hz (sd 16 rfl) (sd 22 rfl)
 intro a' γ' W' hz' hd' hC hk hh
 have tp1 := Cp1.lt
 replace Cp1 := kC hC Cp1
 clear S0
 replace S2 := kp hk S2
 replace S3 := kp hk S3
 replace S4 := kp hk S4
 replace S5 := kp hk S5
 have S37 := gotV hz' 23 hh rfl rfl rfl rfl
 clear tp1
 replace HB := aft_call HB (RelC.below_nil hC)
 clear hC hk hh; replace hz := hz'; replace hd := hd'; clear hz' hd'
 by_cases hc22 : ((ma u : Nat) : Int) > 0
 rw [decide_eq_true hc22] at S37
 refine wp_cond_true S37.ev ?_
 refine wp_seq ?_
 refine region_text (M := [p1]) (
  rT (tQ B32 1 0) ::
  rE 0 35 (tQ B32 1 0) p1 ::
  rT (tV (.bool false)) ::
  []) hz hd (by kernel_rfl) ?_ ?_
 refine ⟨?_, ?_, ?_, trivial⟩
 exact zC0 hz Try.func35 (fun _ => dq_zero)
 exact zSE rfl (sv S2) (by simp [tagOf]) (Cp1.var tR_nd) (sd 0 rfl) st_q32
 exact zAs hz kc
 intro a' γ' W' hz' hd' hC hk hh
 replace Cp1 := gotE (T := tQ B32 1 0) (id := 35) (p := p1) 1 hh rfl rfl
 replace S2 := kp hk S2
 clear S3
 replace S4 := kp hk S4
 replace S5 := kp hk S5
 clear S37
 have S3 := gotV hz' 2 hh rfl rfl rfl rfl
 replace HB := RelC.aftM HB hC (by intro m hm; simp at hm; rcases hm with rfl <;> assumption)
 clear hC hk hh; replace hz := hz'; replace hd := hd'; clear hz' hd'
 refine wp_ret ?_
 refine ret_to (T := tT [tQ B32 1 0, tV (.bool false)]) (retct_q32 (by kernel_rfl) S2 S3 hd Cp1 HB) ?_
 exact to2 (tQ_to (by decide) (by unfold rtQ; rw [if_neg (by rw [rt_iff hu]; omega)]) (by omega)) (tV_to (by rw [decide_eq_false (by rw [rt_iff hu]; omega)]))
 rw [decide_eq_false hc22] at S37
 refine wp_cond_false S37.ev ?_
 refine wp_skip ?_
 refine wp_seq ?_
 refine wp_seq ?_
 refine region_text (M := []) (
  rT (tV (.int .i64 ((ex u : Nat) : Int))) ::
  rT (tV (.bool (decide (((ex u : Nat) : Int) = 0)))) ::
  []) hz hd (by kernel_rfl) ?_ ?_
 refine ⟨?_, ?_, trivial⟩
 exact zMv hz (sv S4)
 exact sBin rfl rfl rfl hz rfl (Gd.none_ rfl) rfl (sd 0 rfl) kc (fun w => run_eql)
 intro a' γ' W' hz' hd' hC hk hh
 have tp1 := Cp1.lt
 replace Cp1 := kC hC Cp1
 replace S2 := kp hk S2
 replace S3 := kp hk S3
 replace S4 := kp hk S4
 replace S5 := kp hk S5
 clear S37
 have S40 := gotV hz' 1 hh rfl rfl rfl rfl
 clear tp1
 replace HB := aft_call HB (RelC.below_nil hC)
 clear hC hk hh; replace hz := hz'; replace hd := hd'; clear hz' hd'
 by_cases hc23 : ((ex u : Nat) : Int) = 0
 rw [decide_eq_true hc23] at S40
 refine wp_cond_true S40.ev ?_
 refine region_text (M := []) (
  rT (tV (.int .i64 1)) ::
  []) hz hd (by kernel_rfl) ?_ ?_
 refine ⟨?_, trivial⟩
 exact zAs hz kc
 intro a' γ' W' hz' hd' hC hk hh
 have tp1 := Cp1.lt
 replace Cp1 := kC hC Cp1
 replace S2 := kp hk S2
 replace S3 := kp hk S3
 clear S4
 replace S5 := kp hk S5
 clear S40
 have S4 := gotV hz' 0 hh rfl rfl rfl rfl
 clear tp1
 replace HB := aft_call HB (RelC.below_nil hC)
 clear hC hk hh; replace hz := hz'; replace hd := hd'; clear hz' hd'
 refine wp_seq ?_
 refine region_text (M := []) (
  rT (tV (.int .u64 ((ma u : Nat) : Int))) ::
  rT (tN B32 2 (ma u)) ::
  rT (tN B32 2 1) ::
  rVar 3 33 1 ::
  rVar 4 33 1 ::
  rB 3 33 (tN B32 2 (ma u)) (some 3) 4 ::
  rB 4 33 (tN B32 2 1) (some 4) 5 ::
  []) hz hd (by kernel_rfl) ?_ ?_
 refine ⟨?_, ?_, ?_, ?_, ?_, ?_, ?_, trivial⟩
 exact zMv hz (sv S5)
 exact zC1 hz Try.func21 (sd 0 rfl) (k1 (fun _ => d_of (by unfold B64; omega)))
 exact zC1 hz Try.func21 (kc (v := .int .u64 1)) (k1 (fun _ => d_of (by decide)))
 exact zAl hz nd_slice al_n32
 exact zAl hz nd_slice al_n32
 exact zSt (sd 1 rfl) st_n32
 exact zSt (sd 2 rfl) st_n32
 intro a' γ' W' hz' hd' hC hk hh
 have ep1 := Cp1.lt
 have tp1 := Cp1.lt
 replace Cp1 := kC hC Cp1
 replace S2 := kp hk S2
 replace S3 := kp hk S3
 clear S5
 replace S4 := kp hk S4
 obtain ⟨p24, S6, Cp24, lp24, gp24⟩ := gotB hz' 5 hC hh rfl rfl rfl rfl rfl rfl
 obtain ⟨p25, S7, Cp25, lp25, gp25⟩ := gotB hz' 6 hC hh rfl rfl rfl rfl rfl rfl
 have n_p24_p1 : p24 ≠ p1 := by omega
 have n_p24_p25 : p24 ≠ p25 := by intro e; rw [e, gp25] at gp24; omega
 have n_p25_p1 : p25 ≠ p1 := by omega
 have n_p25_p24 : p25 ≠ p24 := by intro e; rw [e, gp24] at gp25; omega
 have n_p1_p24 : p1 ≠ p24 := by have := ep1; omega
 have n_p1_p25 : p1 ≠ p25 := by have := ep1; omega
 have bp24 : w.heap.size ≤ p24 := Nat.le_trans HB.size lp24
 have bp25 : w.heap.size ≤ p25 := Nat.le_trans HB.size lp25
 clear lp24 gp24 lp25 gp25
 clear tp1
 clear ep1
 replace HB := aft_call HB (RelC.below_nil hC)
 clear hC hk hh; replace hz := hz'; replace hd := hd'; clear hz' hd'
 refine wp_seq ?_
 refine wp_seq ?_
 refine region_text (M := []) (
  rT (tV (.int .i64 1)) ::
  rT (tV (.bool false)) ::
  []) hz hd (by kernel_rfl) ?_ ?_
 refine ⟨?_, ?_, trivial⟩
 exact zMv hz (sv S4)
 exact sBin rfl rfl rfl hz rfl (Gd.none_ rfl) rfl (sd 0 rfl) kc (fun w => by simp [go_sem])
 intro a' γ' W' hz' hd' hC hk hh
 have tp1 := Cp1.lt
 replace Cp1 := kC hC Cp1
 have tp24 := Cp24.lt
 replace Cp24 := kC hC Cp24
 have tp25 := Cp25.lt
 replace Cp25 := kC hC Cp25
 replace S2 := kp hk S2
 replace S3 := kp hk S3
 replace S4 := kp hk S4
 replace S6 := kp hk S6
 replace S7 := kp hk S7
 have S47 := gotV hz' 1 hh rfl rfl rfl rfl
 clear tp1 tp24 tp25
 replace HB := aft_call HB (RelC.below_nil hC)
 clear hC hk hh; replace hz := hz'; replace hd := hd'; clear hz' hd'
 refine wp_cond_false S47.ev ?_
 refine region_text (M := [p25]) (
  rT (tN B32 2 1) ::
  rT (tV (.int .i64 1)) ::
  rT (tV (.int .i64 1074)) ::
  rT (tN B32 67 (1 * 2 ^ 1074)) ::
  rE 0 33 (tN B32 67 (1 * 2 ^ 1074)) p25 ::
  []) hz hd (by kernel_rfl) ?_ ?_
 refine ⟨?_, ?_, ?_, ?_, ?_, trivial⟩
 exact sLoadM rfl rfl rfl hz rfl (Gd.none_ rfl) rfl (sv S7) Cp25 (k := 0) (by simp [tagOf]) (by kernel_rfl) ld_n32
 exact zMv hz (sv S4)
 exact sBin rfl rfl rfl hz rfl (Gd.none_ rfl) rfl kc (sd 1 rfl) (fun w => by kernel_rfl)
 exact zC2 hz Try.func36 (sd 0 rfl) (sd 2 rfl) (k01 (fun _ _ h0 => d_left1 (k := 1074) h0 (by decide) (by omega)))
 exact zSE rfl (sv S7) (by simp [tagOf]) (Cp25.var tN_nd) (sd 3 rfl) st_n32
 intro a' γ' W' hz' hd' hC hk hh
 have tp1 := Cp1.lt
 replace Cp1 := kC hC Cp1 (by simp [tagOf, n_p1_p25])
 have tp24 := Cp24.lt
 replace Cp24 := kC hC Cp24 (by simp [tagOf, n_p24_p25])
 replace Cp25 := gotE (T := tN B32 67 (1 * 2 ^ 1074)) (id := 33) (p := p25) 4 hh rfl rfl
 replace S2 := kp hk S2
 replace S3 := kp hk S3
 clear S4
 replace S6 := kp hk S6
 replace S7 := kp hk S7
 clear S47
 clear tp1 tp24
 replace HB := RelC.aftM HB hC (by intro m hm; simp at hm; rcases hm with rfl <;> assumption)
 clear hC hk hh; replace hz := hz'; replace hd := hd'; clear hz' hd'
 refine wp_seq ?_
 refine region_text (M := [p1]) (
  rT (tN B32 2 (ma u)) ::
  rT (tN B32 67 (1 * 2 ^ 1074)) ::
  rT (tT [tQ B32 l (mkRat (((ma u : Nat) : Int)) (1 * 2 ^ 1074)), tV (.bool (decide (1 * 2 ^ 1074 ≠ 0)))]) ::
  rT (tQ B32 l (mkRat (((ma u : Nat) : Int)) (1 * 2 ^ 1074))) ::
  rT (tV (.bool (decide (1 * 2 ^ 1074 ≠ 0)))) ::
  rE 0 35 (tQ B32 l (mkRat (((ma u : Nat) : Int)) (1 * 2 ^ 1074))) p1 ::
  rT (tV (.bool (decide (1 * 2 ^ 1074 ≠ 0)))) ::
  []) hz hd (by kernel_rfl) ?_ ?_
 refine ⟨?_, ?_, ?_, ?_, ?_, ?_, ?_, trivial⟩
 exact zLd hz (sv S6) Cp24 ld_n32 (by simp [tagOf, n_p24_p1])
 exact zLd hz (sv S7) Cp25 ld_n32 (by simp [tagOf, n_p25_p1])
 exact zC2 hz Try.func37 (sd 0 rfl) (sd 1 rfl) (fun _ _ _ h0 h1 => dq_from (l := l) h0 h1 (by decide) (by decide) (fb_1 (by omega)) (fr_p (n := 1074) (by omega)) (by omega))
 exact zExt hz (sd 2 rfl)
 exact zExt hz (sd 2 rfl)
 exact zSE rfl (sv S2) (by simp [tagOf]) (Cp1.var tR_nd) (sd 3 rfl) st_q32
 exact zAs hz (sd 4 rfl)
 intro a' γ' W' hz' hd' hC hk hh
 replace Cp1 := gotE (T := tQ B32 l (mkRat (((ma u : Nat) : Int)) (1 * 2 ^ 1074))) (id := 35) (p := p1) 5 hh rfl rfl
 have tp24 := Cp24.lt
 clear Cp24
 have tp25 := Cp25.lt
 clear Cp25
 replace S2 := kp hk S2
 clear S3
 clear S6
 clear S7
 have S3 := gotV hz' 6 hh rfl rfl rfl rfl
 clear tp24 tp25
 replace HB := RelC.aftM HB hC (by intro m hm; simp at hm; rcases hm with rfl <;> assumption)
 clear hC hk hh; replace hz := hz'; replace hd := hd'; clear hz' hd'
 refine wp_ret ?_
 refine ret_to (T := tT [tQ B32 l (mkRat (((ma u : Nat) : Int)) (1 * 2 ^ 1074)), tV (.bool (decide (1 * 2 ^ 1074 ≠ 0)))]) (retct_q32 (by kernel_rfl) S2 S3 hd Cp1 HB) ?_
 exact to2 (tQ_to (by decide) (rt_v0 hc23 (by rw [rt_iff hu]; omega)).symm (Nat.le_refl _)) (tV_to (by rw [decide_eq_true (show RtOk u by rw [rt_iff hu]; omega), decide_eq_true (fr_ne 1074)]))
 rw [decide_eq_false hc23] at S40
 refine wp_cond_false S40.ev ?_
 refine region_text (M := []) (
  rT (tV (.int .u64 ((ma u : Nat) : Int))) ::
  rT (tV (.int .u64 ((ma u + 4503599627370496 : Nat) : Int))) ::
  rT (tV (.int .u64 ((ma u + 4503599627370496 : Nat) : Int))) ::
  []) hz hd (by kernel_rfl) ?_ ?_
 refine ⟨?_, ?_, ?_, trivial⟩
 exact zMv hz (sv S5)
 exact sBin rfl rfl rfl hz rfl (Gd.none_ rfl) rfl (sd 0 rfl) kc (fun w => f_or w)
 exact zAs hz (sd 1 rfl)
 intro a' γ' W' hz' hd' hC hk hh
 have tp1 := Cp1.lt
 replace Cp1 := kC hC Cp1
 replace S2 := kp hk S2
 replace S3 := kp hk S3
 replace S4 := kp hk S4
 clear S5
 clear S40
 have S5 := gotV hz' 2 hh rfl rfl rfl rfl
 clear tp1
 replace HB := aft_call HB (RelC.below_nil hC)
 clear hC hk hh; replace hz := hz'; replace hd := hd'; clear hz' hd'
 refine wp_seq ?_
 refine region_text (M := []) (
  rT (tV (.int .u64 ((ma u + 4503599627370496 : Nat) : Int))) ::
  rT (tN B32 2 (ma u + 4503599627370496)) ::
  rT (tN B32 2 1) ::
  rVar 3 33 1 ::
  rVar 4 33 1 ::
  rB 3 33 (tN B32 2 (ma u + 4503599627370496)) (some 3) 4 ::
  rB 4 33 (tN B32 2 1) (some 4) 5 ::
  []) hz hd (by kernel_rfl) ?_ ?_
 refine ⟨?_, ?_, ?_, ?_, ?_, ?_, ?_, trivial⟩
 exact zMv hz (sv S5)
 exact zC1 hz Try.func21 (sd 0 rfl) (k1 (fun _ => d_of (by unfold B64; omega)))
 exact zC1 hz Try.func21 (kc (v := .int .u64 1)) (k1 (fun _ => d_of (by decide)))
 exact zAl hz nd_slice al_n32
 exact zAl hz nd_slice al_n32
 exact zSt (sd 1 rfl) st_n32
 exact zSt (sd 2 rfl) st_n32
 intro a' γ' W' hz' hd' hC hk hh
 have ep1 := Cp1.lt
 have tp1 := Cp1.lt
 replace Cp1 := kC hC Cp1
 replace S2 := kp hk S2
 replace S3 := kp hk S3
 replace S4 := kp hk S4
 clear S5
 obtain ⟨p26, S6, Cp26, lp26, gp26⟩ := gotB hz' 5 hC hh rfl rfl rfl rfl rfl rfl
 obtain ⟨p27, S7, Cp27, lp27, gp27⟩ := gotB hz' 6 hC hh rfl rfl rfl rfl rfl rfl
 have n_p26_p1 : p26 ≠ p1 := by omega
 have n_p26_p27 : p26 ≠ p27 := by intro e; rw [e, gp27] at gp26; omega
 have n_p27_p1 : p27 ≠ p1 := by omega
 have n_p27_p26 : p27 ≠ p26 := by intro e; rw [e, gp26] at gp27; omega
 have n_p1_p26 : p1 ≠ p26 := by have := ep1; omega
 have n_p1_p27 : p1 ≠ p27 := by have := ep1; omega
 have bp26 : w.heap.size ≤ p26 := Nat.le_trans HB.size lp26
 have bp27 : w.heap.size ≤ p27 := Nat.le_trans HB.size lp27
 clear lp26 gp26 lp27 gp27
 clear tp1
 clear ep1
 replace HB := aft_call HB (RelC.below_nil hC)
 clear hC hk hh; replace hz := hz'; replace hd := hd'; clear hz' hd'
 refine wp_seq ?_
 refine wp_seq ?_
 refine region_text (M := []) (
  rT (tV (.int .i64 ((ex u : Nat) : Int))) ::
  rT (tV (.bool (decide (((ex u : Nat) : Int) ≥ 1075)))) ::
  []) hz hd (by kernel_rfl) ?_ ?_
 refine ⟨?_, ?_, trivial⟩
 exact zMv hz (sv S4)
 exact sBin rfl rfl rfl hz rfl (Gd.none_ rfl) rfl (sd 0 rfl) kc (fun w => run_geq)
 intro a' γ' W' hz' hd' hC hk hh
 have tp1 := Cp1.lt
 replace Cp1 := kC hC Cp1
 have tp26 := Cp26.lt
 replace Cp26 := kC hC Cp26
 have tp27 := Cp27.lt
 replace Cp27 := kC hC Cp27
 replace S2 := kp hk S2
 replace S3 := kp hk S3
 replace S4 := kp hk S4
 replace S6 := kp hk S6
 replace S7 := kp hk S7
 have S47 := gotV hz' 1 hh rfl rfl rfl rfl
 clear tp1 tp26 tp27
 replace HB := aft_call HB (RelC.below_nil hC)
 clear hC hk hh; replace hz := hz'; replace hd := hd'; clear hz' hd'
 by_cases hc28 : ((ex u : Nat) : Int) ≥ 1075
 omega
 rw [decide_eq_false hc28] at S47
 refine wp_cond_false S47.ev ?_
 refine region_text (M := [p27]) (
  rT (tN B32 2 1) ::
  rT (tV (.int .i64 ((ex u : Nat) : Int))) ::
  rT (tV (.int .i64 ((1075 - ex u : Nat) : Int))) ::
  rT (tN B32 67 (1 * 2 ^ ((1075 - ex u)))) ::
  rE 0 33 (tN B32 67 (1 * 2 ^ ((1075 - ex u)))) p27 ::
  []) hz hd (by kernel_rfl) ?_ ?_
 refine ⟨?_, ?_, ?_, ?_, ?_, trivial⟩
 exact sLoadM rfl rfl rfl hz rfl (Gd.none_ rfl) rfl (sv S7) Cp27 (k := 0) (by simp [tagOf]) (by kernel_rfl) ld_n32
 exact zMv hz (sv S4)
 exact sBin rfl rfl rfl hz rfl (Gd.none_ rfl) rfl kc (sd 1 rfl) (fun w => f_sub1 (by omega) w)
 exact zC2 hz Try.func36 (sd 0 rfl) (sd 2 rfl) (k01 (fun _ _ h0 => d_left1 (k := (1075 - ex u)) h0 (by decide) (by omega)))
 exact zSE rfl (sv S7) (by simp [tagOf]) (Cp27.var tN_nd) (sd 3 rfl) st_n32
 intro a' γ' W' hz' hd' hC hk hh
 have tp1 := Cp1.lt
 replace Cp1 := kC hC Cp1 (by simp [tagOf, n_p1_p27])
 have tp26 := Cp26.lt
 replace Cp26 := kC hC Cp26 (by simp [tagOf, n_p26_p27])
 replace Cp27 := gotE (T := tN B32 67 (1 * 2 ^ ((1075 - ex u)))) (id := 33) (p := p27) 4 hh rfl rfl
 replace S2 := kp hk S2
 replace S3 := kp hk S3
 clear S4
 replace S6 := kp hk S6
 replace S7 := kp hk S7
 clear S47
 clear tp1 tp26
 replace HB := RelC.aftM HB hC (by intro m hm; simp at hm; rcases hm with rfl <;> assumption)
 clear hC hk hh; replace hz := hz'; replace hd := hd'; clear hz' hd'
 refine wp_seq ?_
 refine region_text (M := [p1]) (
  rT (tN B32 2 (ma u + 4503599627370496)) ::
  rT (tN B32 67 (1 * 2 ^ ((1075 - ex u)))) ::
  rT (tT [tQ B32 l (mkRat (((ma u + 4503599627370496 : Nat) : Int)) (1 * 2 ^ ((1075 - ex u)))), tV (.bool (decide (1 * 2 ^ ((1075 - ex u)) ≠ 0)))]) ::
  rT (tQ B32 l (mkRat (((ma u + 4503599627370496 : Nat) : Int)) (1 * 2 ^ ((1075 - ex u))))) ::
  rT (tV (.bool (decide (1 * 2 ^ ((1075 - ex u)) ≠ 0)))) ::
  rE 0 35 (tQ B32 l (mkRat (((ma u + 4503599627370496 : Nat) : Int)) (1 * 2 ^ ((1075 - ex u))))) p1 ::
  rT (tV (.bool (decide (1 * 2 ^ ((1075 - ex u)) ≠ 0)))) ::
  []) hz hd (by kernel_rfl) ?_ ?_
 refine ⟨?_, ?_, ?_, ?_, ?_, ?_, ?_, trivial⟩
 exact zLd hz (sv S6) Cp26 ld_n32 (by simp [tagOf, n_p26_p1])
 exact zLd hz (sv S7) Cp27 ld_n32 (by simp [tagOf, n_p27_p1])
 exact zC2 hz Try.func37 (sd 0 rfl) (sd 1 rfl) (fun _ _ _ h0 h1 => dq_from (l := l) h0 h1 (by decide) (by decide) (fb_2 (by omega)) (fr_p (n := (1075 - ex u)) (by omega)) (by omega))
 exact zExt hz (sd 2 rfl)
 exact zExt hz (sd 2 rfl)
 exact zSE rfl (sv S2) (by simp [tagOf]) (Cp1.var tR_nd) (sd 3 rfl) st_q32
 exact zAs hz (sd 4 rfl)
 intro a' γ' W' hz' hd' hC hk hh
 replace Cp1 := gotE (T := tQ B32 l (mkRat (((ma u + 4503599627370496 : Nat) : Int)) (1 * 2 ^ ((1075 - ex u))))) (id := 35) (p := p1) 5 hh rfl rfl
 have tp26 := Cp26.lt
 clear Cp26
 have tp27 := Cp27.lt
 clear Cp27
 replace S2 := kp hk S2
 clear S3
 clear S6
 clear S7
 have S3 := gotV hz' 6 hh rfl rfl rfl rfl
 clear tp26 tp27
 replace HB := RelC.aftM HB hC (by intro m hm; simp at hm; rcases hm with rfl <;> assumption)
 clear hC hk hh; replace hz := hz'; replace hd := hd'; clear hz' hd'
 refine wp_ret ?_
 refine ret_to (T := tT [tQ B32 l (mkRat (((ma u + 4503599627370496 : Nat) : Int)) (1 * 2 ^ ((1075 - ex u)))), tV (.bool (decide (1 * 2 ^ ((1075 - ex u)) ≠ 0)))]) (retct_q32 (by kernel_rfl) S2 S3 hd Cp1 HB) ?_
 exact to2 (tQ_to (by decide) (rt_v1 hc23 (by omega) (by rw [rt_iff hu]; omega)).symm (Nat.le_refl _)) (tV_to (by rw [decide_eq_true (show RtOk u by rw [rt_iff hu]; omega), decide_eq_true (fr_ne (1075 - ex u))]))
 refine region_text (M := []) (
  rT (tV (.int .i64 ((ex u : Nat) : Int))) ::
  rT (tV (.bool false)) ::
  rT (tV (.bool false)) ::
  rT (tV (.int .u64 (u : Int))) ::
  rT (tV (.int .u64 ((u / 9223372036854775808 : Nat) : Int))) ::
  rT (tV (.bool false)) ::
  rT (tV (.bool false)) ::
  rT (tV undef) ::
  rT (tV undef) ::
  rT (tV undef) ::
  rT (tV (.bool false)) ::
  rT (tV (.bool false)) ::
  rT (tV (.bool false)) ::
  rT (tV (.int .i64 ((ex u : Nat) : Int))) ::
  rT (tV (.bool false)) ::
  rT (tV (.bool false)) ::
  rT (tV (.bool false)) ::
  rT (tV (.int .i64 ((ex u : Nat) : Int))) ::
  rT (tV (.bool false)) ::
  rT (tV (.bool false)) ::
  rT (tV undef) ::
  rT (tV undef) ::
  rT (tV (.bool false)) ::
  rT (tV (.bool false)) ::
  []) hz hd (by kernel_rfl) ?_ ?_
 refine ⟨?_, ?_, ?_, ?_, ?_, ?_, ?_, ?_, ?_, ?_, ?_, ?_, ?_, ?_, ?_, ?_, ?_, ?_, ?_, ?_, ?_, ?_, ?_, ?_, trivial⟩
 exact zMv hz (sv S4)
 exact sBin rfl rfl rfl hz rfl (Gd.none_ rfl) rfl (sd 0 rfl) kc (fun w => run_f (P := ((ex u : Nat) : Int) = 2047) ((fun w => run_eql) w) hc2)
 exact zMv hz (sd 1 rfl)
 exact zMv hz (sv S0) (g := gT 2 rfl)
 exact sBin rfl rfl rfl hz rfl (gT 2 rfl) rfl (sd 3 rfl) kc (fun w => f_shr63 w)
 exact sBin rfl rfl rfl hz rfl (gT 2 rfl) rfl (sd 4 rfl) kc (fun w => run_f (P := ((u / 9223372036854775808 : Nat) : Int) = 1) ((fun w => run_eqlu) w) hc3)
 exact zMv hz (sd 5 rfl) (g := gT 2 rfl)
 exact zSkU hz (gN 6 rfl)
 exact zSkU hz (gN 6 rfl)
 exact zSkU hz (gN 6 rfl)
 exact zPF hz (sd 6 rfl) kc (g := gT 2 rfl)
 exact zPF hz (sd 2 rfl) (sd 10 rfl)
 exact zMv hz (sd 11 rfl)
 exact zMv hz (sv S4) (g := gT 12 rfl)
 exact sBin rfl rfl rfl hz rfl (gT 12 rfl) rfl (sd 13 rfl) kc (fun w => run_f (P := ((ex u : Nat) : Int) > 1043) ((fun w => run_gtr) w) hc20)
 exact zPF hz (sd 12 rfl) (sd 14 rfl)
 exact zMv hz (sd 15 rfl)
 exact zMv hz (sv S4) (g := gT 16 rfl)
 exact sBin rfl rfl rfl hz rfl (gT 16 rfl) rfl (sd 17 rfl) kc (fun w => run_f (P := ((ex u : Nat) : Int) = 1043) ((fun w => run_eql) w) hc21)
 exact zMv hz (sd 18 rfl) (g := gT 16 rfl)
 exact zSkU hz (gN 19 rfl)
 exact zSkU hz (gN 19 rfl)
 exact zPF hz (sd 19 rfl) kc (g := gT 16 rfl)
 exact zPF hz (sd 16 rfl) (sd 22 rfl)
 intro a' γ' W' hz' hd' hC hk hh
 have tp1 := Cp1.lt
 replace Cp1 := kC hC Cp1
 clear S0
 replace S2 := kp hk S2
 replace S3 := kp hk S3
 replace S4 := kp hk S4
 replace S5 := kp hk S5
 have S37 := gotV hz' 23 hh rfl rfl rfl rfl
 clear tp1
 replace HB := aft_call HB (RelC.below_nil hC)
 clear hC hk hh; replace hz := hz'; replace hd := hd'; clear hz' hd'
 refine wp_cond_false S37.ev ?_
 refine wp_skip ?_
 refine wp_seq ?_
 refine wp_seq ?_
 refine region_text (M := []) (
  rT (tV (.int .i64 ((ex u : Nat) : Int))) ::
  rT (tV (.bool (decide (((ex u : Nat) : Int) = 0)))) ::
  []) hz hd (by kernel_rfl) ?_ ?_
 refine ⟨?_, ?_, trivial⟩
 exact zMv hz (sv S4)
 exact sBin rfl rfl rfl hz rfl (Gd.none_ rfl) rfl (sd 0 rfl) kc (fun w => run_eql)
 intro a' γ' W' hz' hd' hC hk hh
 have tp1 := Cp1.lt
 replace Cp1 := kC hC Cp1
 replace S2 := kp hk S2
 replace S3 := kp hk S3
 replace S4 := kp hk S4
 replace S5 := kp hk S5
 clear S37
 have S40 := gotV hz' 1 hh rfl rfl rfl rfl
 clear tp1
 replace HB := aft_call HB (RelC.below_nil hC)
 clear hC hk hh; replace hz := hz'; replace hd := hd'; clear hz' hd'
 by_cases hc29 : ((ex u : Nat) : Int) = 0
 rw [decide_eq_true hc29] at S40
 refine wp_cond_true S40.ev ?_
 refine region_text (M := []) (
  rT (tV (.int .i64 1)) ::
  []) hz hd (by kernel_rfl) ?_ ?_
 refine ⟨?_, trivial⟩
 exact zAs hz kc
 intro a' γ' W' hz' hd' hC hk hh
 have tp1 := Cp1.lt
 replace Cp1 := kC hC Cp1
 replace S2 := kp hk S2
 replace S3 := kp hk S3
 clear S4
 replace S5 := kp hk S5
 clear S40
 have S4 := gotV hz' 0 hh rfl rfl rfl rfl
 clear tp1
 replace HB := aft_call HB (RelC.below_nil hC)
 clear hC hk hh; replace hz := hz'; replace hd := hd'; clear hz' hd'
 refine wp_seq ?_
 refine region_text (M := []) (
  rT (tV (.int .u64 ((ma u : Nat) : Int))) ::
  rT (tN B32 2 (ma u)) ::
  rT (tN B32 2 1) ::
  rVar 3 33 1 ::
  rVar 4 33 1 ::
  rB 3 33 (tN B32 2 (ma u)) (some 3) 4 ::
  rB 4 33 (tN B32 2 1) (some 4) 5 ::
  []) hz hd (by kernel_rfl) ?_ ?_
 refine ⟨?_, ?_, ?_, ?_, ?_, ?_, ?_, trivial⟩
 exact zMv hz (sv S5)
 exact zC1 hz Try.func21 (sd 0 rfl) (k1 (fun _ => d_of (by unfold B64; omega)))
 exact zC1 hz Try.func21 (kc (v := .int .u64 1)) (k1 (fun _ => d_of (by decide)))
 exact zAl hz nd_slice al_n32
 exact zAl hz nd_slice al_n32
 exact zSt (sd 1 rfl) st_n32
 exact zSt (sd 2 rfl) st_n32
 intro a' γ' W' hz' hd' hC hk hh
 have ep1 := Cp1.lt
 have tp1 := Cp1.lt
 replace Cp1 := kC hC Cp1
 replace S2 := kp hk S2
 replace S3 := kp hk S3
 clear S5
 replace S4 := kp hk S4
 obtain ⟨p30, S6, Cp30, lp30, gp30⟩ := gotB hz' 5 hC hh rfl rfl rfl rfl rfl rfl
 obtain ⟨p31, S7, Cp31, lp31, gp31⟩ := gotB hz' 6 hC hh rfl rfl rfl rfl rfl rfl
 have n_p30_p1 : p30 ≠ p1 := by omega
 have n_p30_p31 : p30 ≠ p31 := by intro e; rw [e, gp31] at gp30; omega
 have n_p31_p1 : p31 ≠ p1 := by omega
 have n_p31_p30 : p31 ≠ p30 := by intro e; rw [e, gp30] at gp31; omega
 have n_p1_p30 : p1 ≠ p30 := by have := ep1; omega
 have n_p1_p31 : p1 ≠ p31 := by have := ep1; omega
 have bp30 : w.heap.size ≤ p30 := Nat.le_trans HB.size lp30
 have bp31 : w.heap.size ≤ p31 := Nat.le_trans HB.size lp31
 clear lp30 gp30 lp31 gp31
 clear tp1
 clear ep1
 replace HB := aft_call HB (RelC.below_nil hC)
 clear hC hk hh; replace hz := hz'; replace hd := hd'; clear hz' hd'
 refine wp_seq ?_
 refine wp_seq ?_
 refine region_text (M := []) (
  rT (tV (.int .i64 1)) ::
  rT (tV (.bool false)) ::
  []) hz hd (by kernel_rfl) ?_ ?_
 refine ⟨?_, ?_, trivial⟩
 exact zMv hz (sv S4)
 exact sBin rfl rfl rfl hz rfl (Gd.none_ rfl) rfl (sd 0 rfl) kc (fun w => by simp [go_sem])
 intro a' γ' W' hz' hd' hC hk hh
 have tp1 := Cp1.lt
 replace Cp1 := kC hC Cp1
 have tp30 := Cp30.lt
 replace Cp30 := kC hC Cp30
 have tp31 := Cp31.lt
 replace Cp31 := kC hC Cp31
 replace S2 := kp hk S2
 replace S3 := kp hk S3
 replace S4 := kp hk S4
 replace S6 := kp hk S6
 replace S7 := kp hk S7
 have S47 := gotV hz' 1 hh rfl rfl rfl rfl
 clear tp1 tp30 tp31
 replace HB := aft_call HB (RelC.below_nil hC)
 clear hC hk hh; replace hz := hz'; replace hd := hd'; clear hz' hd'
 refine wp_cond_false S47.ev ?_
 refine region_text (M := [p31]) (
  rT (tN B32 2 1) ::
  rT (tV (.int .i64 1)) ::
  rT (tV (.int .i64 1074)) ::
  rT (tN B32 67 (1 * 2 ^ 1074)) ::
  rE 0 33 (tN B32 67 (1 * 2 ^ 1074)) p31 ::
  []) hz hd (by kernel_rfl) ?_ ?_
 refine ⟨?_, ?_, ?_, ?_, ?_, trivial⟩
 exact sLoadM rfl rfl rfl hz rfl (Gd.none_ rfl) rfl (sv S7) Cp31 (k := 0) (by simp [tagOf]) (by kernel_rfl) ld_n32
 exact zMv hz (sv S4)
 exact sBin rfl rfl rfl hz rfl (Gd.none_ rfl) rfl kc (sd 1 rfl) (fun w => by kernel_rfl)
 exact zC2 hz Try.func36 (sd 0 rfl) (sd 2 rfl) (k01 (fun _ _ h0 => d_left1 (k := 1074) h0 (by decide) (by omega)))
 exact zSE rfl (sv S7) (by simp [tagOf]) (Cp31.var tN_nd) (sd 3 rfl) st_n32
 intro a' γ' W' hz' hd' hC hk hh
 have tp1 := Cp1.lt
 replace Cp1 := kC hC Cp1 (by simp [tagOf, n_p1_p31])
 have tp30 := Cp30.lt
 replace Cp30 := kC hC Cp30 (by simp [tagOf, n_p30_p31])
 replace Cp31 := gotE (T := tN B32 67 (1 * 2 ^ 1074)) (id := 33) (p := p31) 4 hh rfl rfl
 replace S2 := kp hk S2
 replace S3 := kp hk S3
 clear S4
 replace S6 := kp hk S6
 replace S7 := kp hk S7
 clear S47
 clear tp1 tp30
 replace HB := RelC.aftM HB hC (by intro m hm; simp at hm; rcases hm with rfl <;> assumption)
 clear hC hk hh; replace hz := hz'; replace hd := hd'; clear hz' hd'
 refine wp_seq ?_
 refine region_text (M := [p1]) (
  rT (tN B32 2 (ma u)) ::
  rT (tN B32 67 (1 * 2 ^ 1074)) ::
  rT (tT [tQ B32 l (mkRat (((ma u : Nat) : Int)) (1 * 2 ^ 1074)), tV (.bool (decide (1 * 2 ^ 1074 ≠ 0)))]) ::
  rT (tQ B32 l (mkRat (((ma u : Nat) : Int)) (1 * 2 ^ 1074))) ::
  rT (tV (.bool (decide (1 * 2 ^ 1074 ≠ 0)))) ::
  rE 0 35 (tQ B32 l (mkRat (((ma u : Nat) : Int)) (1 * 2 ^ 1074))) p1 ::
  rT (tV (.bool (decide (1 * 2 ^ 1074 ≠ 0)))) ::
  []) hz hd (by kernel_rfl) ?_ ?_
 refine ⟨?_, ?_, ?_, ?_, ?_, ?_, ?_, trivial⟩
 exact zLd hz (sv S6) Cp30 ld_n32 (by simp [tagOf, n_p30_p1])
 exact zLd hz (sv S7) Cp31 ld_n32 (by simp [tagOf, n_p31_p1])
 exact zC2 hz Try.func37 (sd 0 rfl) (sd 1 rfl) (fun _ _ _ h0 h1 => dq_from (l := l) h0 h1 (by decide) (by decide) (fb_1 (by omega)) (fr_p (n := 1074) (by omega)) (by omega))
 exact zExt hz (sd 2 rfl)
 exact zExt hz (sd 2 rfl)
 exact zSE rfl (sv S2) (by simp [tagOf]) (Cp1.var tR_nd) (sd 3 rfl) st_q32
 exact zAs hz (sd 4 rfl)
 intro a' γ' W' hz' hd' hC hk hh
 replace Cp1 := gotE (T := tQ B32 l (mkRat (((ma u : Nat) : Int)) (1 * 2 ^ 1074))) (id := 35) (p := p1) 5 hh rfl rfl
 have tp30 := Cp30.lt
 clear Cp30
 have tp31 := Cp31.lt
 clear Cp31
 replace S2 := kp hk S2
 clear S3
 clear S6
 clear S7
 have S3 := gotV hz' 6 hh rfl rfl rfl rfl
 clear tp30 tp31
 replace HB := RelC.aftM HB hC (by intro m hm; simp at hm; rcases hm with rfl <;> assumption)
 clear hC hk hh; replace hz := hz'; replace hd := hd'; clear hz' hd'
 refine wp_ret ?_
 refine ret_to (T := tT [tQ B32 l (mkRat (((ma u : Nat) : Int)) (1 * 2 ^ 1074)), tV (.bool (decide (1 * 2 ^ 1074 ≠ 0)))]) (retct_q32 (by kernel_rfl) S2 S3 hd Cp1 HB) ?_
 exact to2 (tQ_to (by decide) (rt_v0 hc29 (by rw [rt_iff hu]; omega)).symm (Nat.le_refl _)) (tV_to (by rw [decide_eq_true (show RtOk u by rw [rt_iff hu]; omega), decide_eq_true (fr_ne 1074)]))
 rw [decide_eq_false hc29] at S40
 refine wp_cond_false S40.ev ?_
 refine region_text (M := []) (
  rT (tV (.int .u64 ((ma u : Nat) : Int))) ::
  rT (tV (.int .u64 ((ma u + 4503599627370496 : Nat) : Int))) ::
  rT (tV (.int .u64 ((ma u + 4503599627370496 : Nat) : Int))) ::
  []) hz hd (by kernel_rfl) ?_ ?_
 refine ⟨?_, ?_, ?_, trivial⟩
 exact zMv hz (sv S5)
 exact sBin rfl rfl rfl hz rfl (Gd.none_ rfl) rfl (sd 0 rfl) kc (fun w => f_or w)
 exact zAs hz (sd 1 rfl)
 intro a' γ' W' hz' hd' hC hk hh
 have tp1 := Cp1.lt
 replace Cp1 := kC hC Cp1
 replace S2 := kp hk S2
 replace S3 := kp hk S3
 replace S4 := kp hk S4
 clear S5
 clear S40
 have S5 := gotV hz' 2 hh rfl rfl rfl rfl
 clear tp1
 replace HB := aft_call HB (RelC.below_nil hC)
 clear hC hk hh; replace hz := hz'; replace hd := hd'; clear hz' hd'
 refine wp_seq ?_
 refine region_text (M := []) (
  rT (tV (.int .u64 ((ma u + 4503599627370496 : Nat) : Int))) ::
  rT (tN B32 2 (ma u + 4503599627370496)) ::
  rT (tN B32 2 1) ::
  rVar 3 33 1 ::
  rVar 4 33 1 ::
  rB 3 33 (tN B32 2 (ma u + 4503599627370496)) (some 3) 4 ::
  rB 4 33 (tN B32 2 1) (some 4) 5 ::
  []) hz hd (by kernel_rfl) ?_ ?_
 refine ⟨?_, ?_, ?_, ?_, ?_, ?_, ?_, trivial⟩
 exact zMv hz (sv S5)
 exact zC1 hz Try.func21 (sd 0 rfl) (k1 (fun _ => d_of (by unfold B64; omega)))
 exact zC1 hz Try.func21 (kc (v := .int .u64 1)) (k1 (fun _ => d_of (by decide)))
 exact zAl hz nd_slice al_n32
 exact zAl hz nd_slice al_n32
 exact zSt (sd 1 rfl) st_n32
 exact zSt (sd 2 rfl) st_n32
 intro a' γ' W' hz' hd' hC hk hh
 have ep1 := Cp1.lt
 have tp1 := Cp1.lt
 replace Cp1 := kC hC Cp1
 replace S2 := kp hk S2
 replace S3 := kp hk S3
 replace S4 := kp hk S4
 clear S5
 obtain ⟨p32, S6, Cp32, lp32, gp32⟩ := gotB hz' 5 hC hh rfl rfl rfl rfl rfl rfl
 obtain ⟨p33, S7, Cp33, lp33, gp33⟩ := gotB hz' 6 hC hh rfl rfl rfl rfl rfl rfl
 have n_p32_p1 : p32 ≠ p1 := by omega
 have n_p32_p33 : p32 ≠ p33 := by intro e; rw [e, gp33] at gp32; omega
 have n_p33_p1 : p33 ≠ p1 := by omega
 have n_p33_p32 : p33 ≠ p32 := by intro e; rw [e, gp32] at gp33; omega
 have n_p1_p32 : p1 ≠ p32 := by have := ep1; omega
 have n_p1_p33 : p1 ≠ p33 := by have := ep1; omega
 have bp32 : w.heap.size ≤ p32 := Nat.le_trans HB.size lp32
 have bp33 : w.heap.size ≤ p33 := Nat.le_trans HB.size lp33
 clear lp32 gp32 lp33 gp33
 clear tp1
 clear ep1
 replace HB := aft_call HB (RelC.below_nil hC)
 clear hC hk hh; replace hz := hz'; replace hd := hd'; clear hz' hd'
 refine wp_seq ?_
 refine wp_seq ?_
 refine region_text (M := []) (
  rT (tV (.int .i64 ((ex u : Nat) : Int))) ::
  rT (tV (.bool (decide (((ex u : Nat) : Int) ≥ 1075)))) ::
  []) hz hd (by kernel_rfl) ?_ ?_
 refine ⟨?_, ?_, trivial⟩
 exact zMv hz (sv S4)
 exact sBin rfl rfl rfl hz rfl (Gd.none_ rfl) rfl (sd 0 rfl) kc (fun w => run_geq)
 intro a' γ' W' hz' hd' hC hk hh
 have tp1 := Cp1.lt
 replace Cp1 := kC hC Cp1
 have tp32 := Cp32.lt
 replace Cp32 := kC hC Cp32
 have tp33 := Cp33.lt
 replace Cp33 := kC hC Cp33
 replace S2 := kp hk S2
 replace S3 := kp hk S3
 replace S4 := kp hk S4
 replace S6 := kp hk S6
 replace S7 := kp hk S7
 have S47 := gotV hz' 1 hh rfl rfl rfl rfl
 clear tp1 tp32 tp33
 replace HB := aft_call HB (RelC.below_nil hC)
 clear hC hk hh; replace hz := hz'; replace hd := hd'; clear hz' hd'
 by_cases hc34 : ((ex u : Nat) : Int) ≥ 1075
 omega
 rw [decide_eq_false hc34] at S47
 refine wp_cond_false S47.ev ?_
 refine region_text (M := [p33]) (
  rT (tN B32 2 1) ::
  rT (tV (.int .i64 ((ex u : Nat) : Int))) ::
  rT (tV (.int .i64 ((1075 - ex u : Nat) : Int))) ::
  rT (tN B32 67 (1 * 2 ^ ((1075 - ex u)))) ::
  rE 0 33 (tN B32 67 (1 * 2 ^ ((1075 - ex u)))) p33 ::
  []) hz hd (by kernel_rfl) ?_ ?_
 refine ⟨?_, ?_, ?_, ?_, ?_, trivial⟩
 exact sLoadM rfl rfl rfl hz rfl (Gd.none_ rfl) rfl (sv S7) Cp33 (k := 0) (by simp [tagOf]) (by kernel_rfl) ld_n32
 exact zMv hz (sv S4)
 exact sBin rfl rfl rfl hz rfl (Gd.none_ rfl) rfl kc (sd 1 rfl) (fun w => f_sub1 (by omega) w)
 exact zC2 hz Try.func36 (sd 0 rfl) (sd 2 rfl) (k01 (fun _ _ h0 => d_left1 (k := (1075 - ex u)) h0 (by decide) (by omega)))
 exact zSE rfl (sv S7) (by simp [tagOf]) (Cp33.var tN_nd) (sd 3 rfl) st_n32
 intro a' γ' W' hz' hd' hC hk hh
 have tp1 := Cp1.lt
 replace Cp1 := kC hC Cp1 (by simp [tagOf, n_p1_p33])
 have tp32 := Cp32.lt
 replace Cp32 := kC hC Cp32 (by simp [tagOf, n_p32_p33])
 replace Cp33 := gotE (T := tN B32 67 (1 * 2 ^ ((1075 - ex u)))) (id := 33) (p := p33) 4 hh rfl rfl
 replace S2 := kp hk S2
 replace S3 := kp hk S3
 clear S4
 replace S6 := kp hk S6
 replace S7 := kp hk S7
 clear S47
 clear tp1 tp32
 replace HB := RelC.aftM HB hC (by intro m hm; simp at hm; rcases hm with rfl <;> assumption)
 clear hC hk hh; replace hz := hz'; replace hd := hd'; clear hz' hd'
 refine wp_seq ?_
 refine region_text (M := [p1]) (
  rT (tN B32 2 (ma u + 4503599627370496)) ::
  rT (tN B32 67 (1 * 2 ^ ((1075 - ex u)))) ::
  rT (tT [tQ B32 l (mkRat (((ma u + 4503599627370496 : Nat) : Int)) (1 * 2 ^ ((1075 - ex u)))), tV (.bool (decide (1 * 2 ^ ((1075 - ex u)) ≠ 0)))]) ::
  rT (tQ B32 l (mkRat (((ma u + 4503599627370496 : Nat) : Int)) (1 * 2 ^ ((1075 - ex u))))) ::
  rT (tV (.bool (decide (1 * 2 ^ ((1075 - ex u)) ≠ 0)))) ::
  rE 0 35 (tQ B32 l (mkRat (((ma u + 4503599627370496 : Nat) : Int)) (1 * 2 ^ ((1075 - ex u))))) p1 ::
  rT (tV (.bool (decide (1 * 2 ^ ((1075 - ex u)) ≠ 0)))) ::
  []) hz hd (by kernel_rfl) ?_ ?_
 refine ⟨?_, ?_, ?_, ?_, ?_, ?_, ?_, trivial⟩
 exact zLd hz (sv S6) Cp32 ld_n32 (by simp [tagOf, n_p32_p1])
 exact zLd hz (sv S7) Cp33 ld_n32 (by simp [tagOf, n_p33_p1])
 exact zC2 hz Try.func37 (sd 0 rfl) (sd 1 rfl) (fun _ _ _ h0 h1 => dq_from (l := l) h0 h1 (by decide) (by decide) (fb_2 (by omega)) (fr_p (n := (1075 - ex u)) (by omega)) (by omega))
 exact zExt hz (sd 2 rfl)
 exact zExt hz (sd 2 rfl)
 exact zSE rfl (sv S2) (by simp [tagOf]) (Cp1.var tR_nd) (sd 3 rfl) st_q32
 exact zAs hz (sd 4 rfl)
 intro a' γ' W' hz' hd' hC hk hh
 replace Cp1 := gotE (T := tQ B32 l (mkRat (((ma u + 4503599627370496 : Nat) : Int)) (1 * 2 ^ ((1075 - ex u))))) (id := 35) (p := p1) 5 hh rfl rfl
 have tp32 := Cp32.lt
 clear Cp32
 have tp33 := Cp33.lt
 clear Cp33
 replace S2 := kp hk S2
 clear S3
 clear S6
 clear S7
 have S3 := gotV hz' 6 hh rfl rfl rfl rfl
 clear tp32 tp33
 replace HB := RelC.aftM HB hC (by intro m hm; simp at hm; rcases hm with rfl <;> assumption)
 clear hC hk hh; replace hz := hz'; replace hd := hd'; clear hz' hd'
 refine wp_ret ?_
 refine ret_to (T := tT [tQ B32 l (mkRat (((ma u + 4503599627370496 : Nat) : Int)) (1 * 2 ^ ((1075 - ex u)))), tV (.bool (decide (1 * 2 ^ ((1075 - ex u)) ≠ 0)))]) (retct_q32 (by kernel_rfl) S2 S3 hd Cp1 HB) ?_
 exact to2 (tQ_to (by decide) (rt_v1 hc29 (by omega) (by rw [rt_iff hu]; omega)).symm (Nat.le_refl _)) (tV_to (by rw [decide_eq_true (show RtOk u by rw [rt_iff hu]; omega), decide_eq_true (fr_ne (1075 - ex u))]))

end Go.Proofs.Ytojpiiboikomfaa.Rg

namespace Go.Proofs.Ytojpiiboikomfaa.Rg

open Go.RowKit Go.ChangeShapes Go.WideShapes Go.ChangeAt Go.Deep

theorem tagO_base {M : List Nat} {B g k : Nat} (hg : g < B) (hM : ∀ m ∈ M, B ≤ m) : tagOf M k g = 0 := by
  induction M generalizing k with
  | nil => rfl
  | cons m M ih =>
    unfold tagOf
    have := hM m List.mem_cons_self
    rw [if_neg (by omega)]
    exact ih fun x hx => hM x (List.mem_cons_of_mem _ hx)
theorem cell_oaft {M : List Nat} {B g o : Nat} {W w : World} {γ : Nat → Nat} {u : Value} (h : W.cell? ⟨g, o, none⟩ = some u) (hc : RelC M W γ w) (hg : g < B) (hM : ∀ m ∈ M, B ≤ m) : w.cell? ⟨g, o, none⟩ = some u := by
  rw [World.cell?_of_block (hc.1.block g (World.block_lt_of_cell? _ _ h) (.inr (by unfold mt; rw [if_pos (tagO_base hg hM)]; omega)))]; exact h
/-- Rows of k ints each. -/
def RI (k : Nat) (A : Option Addr) (n : Nat) (F : Nat → Int) (B : Nat) (w : World) : Prop :=
  ∀ i, i < n → ∃ g o, A = some ⟨g, o, none⟩ ∧ g < B ∧ ∀ f, f < k → w.cell? ⟨g, o + (i * k + f), none⟩ = some (.int .i64 (F (i * k + f)))
theorem RI.aft {k : Nat} {A : Option Addr} {n B : Nat} {F : Nat → Int} {M : List Nat} {W w : World} {γ : Nat → Nat} (h : RI k A n F B W) (hc : RelC M W γ w) (hM : ∀ m ∈ M, B ≤ m) : RI k A n F B w := by
  intro i hi
  obtain ⟨g, o, e, hg, h1⟩ := h i hi
  exact ⟨g, o, e, hg, fun f hf => cell_oaft (h1 f hf) hc hg hM⟩
theorem ri_in {k bytes : Nat} (hk : 0 < k) {w : World} {A : Option Addr} {n c : Nat} {l : List Int} (h : InI .i64 bytes k w A n c l) : RI k A n (fun j => l.getD j 0) w.heap.size w := by
  intro i hi
  obtain ⟨g, off, rfl, hg, hc⟩ := h.reads.flat (by omega) hk
  have hl := h.reads.1
  rw [List.length_map] at hl
  refine ⟨g, off, rfl, hg, fun f hf => hc _ _ ?_⟩
  have : i * k + f < l.length := by
    have : (i + 1) * k ≤ n * k := Nat.mul_le_mul_right k hi
    rw [Nat.add_mul, Nat.one_mul] at this
    omega
  rw [List.getElem?_map, List.getElem?_eq_getElem this]
  show _ = some (Value.int IntKind.i64 (l.getD (i * k + f) 0))
  rw [List.getD_eq_getElem?_getD, List.getElem?_eq_getElem this]; rfl
section

variable {P : Program} {ops : Array Oper} {Q : Exit → Act → World → Prop} {a0 : Act} {M : List Nat} {W : World} {rels : List Rel} {i : Nat} {o : Oper} {T : Ty} {N d : Nat} {x y : Operand}
theorem sLenK {id : TypeId} {A : Option Addr} {n c : Nat} (hz : a0.tmps.size = N) (hop : o.op = .call { callee := .builtin .len, args := #[x], argTypes := #[id] }) (s : Src ops a0 M W rels i o x (tV (.slice A n c))) (hid : ∀ w, (Builtin.len_ #[id] o.type #[.slice A n c]).run P w = .ok (.int .i64 n) w) (g : Gd ops a0 M W rels i o true := by exact Gd.none_ rfl)
    (ho : ops[i]? = some o := by rfl) (hr : rels[i]? = some (rT (tV (.int .i64 (n : Int)))) := by rfl) (hd : o.dst = some d := by rfl) (hlt : decide (d < N) = true := by rfl) : StepOk P ops a0 M W Q rels i o :=
  sOp ho hr hd hz hlt g fun a γ w U => by
    have e : a.eval x = .slice A n c := s a γ w U
    refine ⟨_, ?_, rfl⟩
    generalize a.eval = ρ at e ⊢
    unfold execOp; rw [hop]; simp [go_sem, e, hid]
/-- An element's address, a load: known ahead. -/
theorem zIxV {id : TypeId} {u v z : Value} (hz : a0.tmps.size = N) (hop : o.op = .indexAddr id x y) (sx : Src ops a0 M W rels i o x (tV u)) (sy : Src ops a0 M W rels i o y (tV v)) (h : ∀ w, (Instr.indexAt id u v).run P w = .ok z w)
    (g : Gd ops a0 M W rels i o true := by exact Gd.none_ rfl) (ho : ops[i]? = some o := by rfl) (hr : rels[i]? = some (rT (tV z)) := by rfl) (hd : o.dst = some d := by rfl) (hlt : decide (d < N) = true := by rfl) : StepOk P ops a0 M W Q rels i o :=
  sOp ho hr hd hz hlt g fun a γ w U => by
    have e : a.eval x = u := sx a γ w U
    have e2 : a.eval y = v := sy a γ w U
    refine ⟨_, ?_, rfl⟩
    unfold execOp; rw [hop]; simp only [e, e2, Sem.run_bind, h, Result.andThen, Sem.run_pure]
theorem zLdV {id : TypeId} {p : Value} (hz : a0.tmps.size = N) (hop : o.op = .load id x) (sx : Src ops a0 M W rels i o x (tV p)) (h : ∀ γ w, RelC M W γ w → ∃ v, (Instr.loadAt id p).run P w = .ok v w ∧ T.p v w)
    (g : Gd ops a0 M W rels i o true := by exact Gd.none_ rfl) (ho : ops[i]? = some o := by rfl) (hr : rels[i]? = some (rT T) := by rfl) (hd : o.dst = some d := by rfl) (hlt : decide (d < N) = true := by rfl) : StepOk P ops a0 M W Q rels i o :=
  sOp ho hr hd hz hlt g fun a γ w U => by
    have e : a.eval x = p := sx a γ w U
    obtain ⟨v, h1, h2⟩ := h γ w U.c
    refine ⟨v, ?_, h2⟩
    unfold execOp; rw [hop]; simp only [e, Sem.run_bind, h1, Result.andThen, Sem.run_pure]
end

section

variable {g o n c i : Nat} {A : Option Addr} {F : Nat → Int} {w : World} {k t u : Int}
/-- A step. -/
def S3 (k t u : Int) : Ty := tO [tV (.int .i64 k), tV (.int .i64 t), tV (.int .i64 u)] [1, 1, 1]
theorem ix_st (hA : A = some ⟨g, o, none⟩) (hi : i < n) : ∀ w : World, (Instr.indexAt 23 (.slice A n c) (.int .i64 (i : Int))).run Try.prog w = .ok (.pointer (some ⟨g, o + i * 3, none⟩)) w := by
  intro w; subst hA; simp [go_sem, hi]
end

end Go.Proofs.Ytojpiiboikomfaa.Rg

namespace Go.Proofs.Ytojpiiboikomfaa.Rg

open Go.RowKit

def psum (ns : List Int) (k : Nat) : Nat := ((ns.take k).map Int.toNat).sum
theorem psum_0 (ns : List Int) : psum ns 0 = 0 := by simp [psum]
theorem psum_succ {ns : List Int} {k : Nat} (h : k < ns.length) : psum ns (k + 1) = psum ns k + (ns.getD k 0).toNat := by
  unfold psum
  rw [List.take_add_one, List.getElem?_eq_getElem h, List.getD_eq_getElem?_getD, List.getElem?_eq_getElem h, List.map_append, List.sum_append_nat]
  simp [-List.map_take]
theorem psum_app {ns : List Int} {n : Int} {k : Nat} (h : k ≤ ns.length) : psum (ns ++ [n]) k = psum ns k := by
  unfold psum; rw [List.take_append_of_le_length h]
theorem psum_all {ns : List Int} {n : Int} : psum (ns ++ [n]) (ns.length + 1) = psum ns ns.length + n.toNat := by
  unfold psum
  rw [List.take_of_length_le (by simp), List.take_length]; simp
theorem getD_appI {xs : List Int} {x : Int} {i : Nat} (h : i ≤ xs.length) : (xs ++ [x]).getD i 0 = if i = xs.length then x else xs.getD i 0 := by
  simp only [List.getD_eq_getElem?_getD]
  by_cases e : i = xs.length
  · subst e; rw [if_pos rfl, List.getElem?_append_right (Nat.le_refl _)]; simp
  · rw [if_neg e, List.getElem?_append_left (by omega)]
structure CapI (B R : Rat) (tt : Int) (H : Rat) (ts ns : List Int) : Prop where
  len : ns.length = ts.length
  t0 : ∀ j, j < ts.length → 0 ≤ ts.getD j 0 ∧ ts.getD j 0 ≤ tt
  mono : ∀ i j, i ≤ j → j < ts.length → ts.getD i 0 ≤ ts.getD j 0
  n41 : ∀ j, j < ns.length → 0 ≤ ns.getD j 0 ∧ ns.getD j 0 ≤ 2199023255553
  now : ∀ i, i < ts.length → ((psum ns ns.length : Nat) : Rat) - ((psum ns i : Nat) : Rat) + H ≤ B + R * ((tt - ts.getD i 0 : Int) : Rat)
  all : ((psum ns ns.length : Nat) : Rat) + H ≤ R * (tt : Rat)
  cap : ∀ i k, i ≤ k → k < ts.length → ((psum ns (k + 1) : Nat) : Rat) - ((psum ns i : Nat) : Rat) ≤ B + R * ((ts.getD k 0 - ts.getD i 0 : Int) : Rat)
  tot : 0 < ts.length → ((psum ns ns.length : Nat) : Rat) ≤ R * ((ts.getD (ts.length - 1) 0 : Int) : Rat)
section

variable {l : Nat} {B R H H' : Rat} {tt t' n : Int} {ts ns : List Int}
theorem CapI.nil (B R : Rat) : CapI B R 0 0 [] [] := by
  refine ⟨rfl, fun j h => by simp at h, fun i j _ h => by simp at h, fun j h => by simp at h, fun i h => by simp at h, ?_, fun i k _ h => by simp at h, fun h => by simp at h⟩
  rw [List.length_nil, psum_0]; simp; grind
theorem CapI.at_ (C : CapI B R tt H ts ns) (h : tt ≤ t') (hH : H' ≤ H + R * ((t' - tt : Int) : Rat)) : CapI B R t' H' ts ns := by
  refine ⟨C.len, fun j hj => ?_, C.mono, C.n41, fun i hi => ?_, ?_, C.cap, C.tot⟩
  · have := C.t0 j hj; omega
  · have h1 := C.now i hi
    rw [Rat.intCast_sub] at *
    grind
  · have h1 := C.all
    rw [Rat.intCast_sub] at *
    grind
theorem CapI.put (C : CapI B R tt H ts ns) (htt : 0 ≤ tt) (hB : H ≤ B) (h1 : 1 ≤ n) (h2 : n ≤ 2199023255553) (hn : (n : Rat) ≤ H) : CapI B R tt (H - (n : Rat)) (ts ++ [tt]) (ns ++ [n]) := by
  have hlen := C.len
  have hN : ((n.toNat : Nat) : Rat) = (n : Rat) := by
    have : ((n.toNat : Nat) : Int) = n := Int.toNat_of_nonneg (by omega)
    rw [← Rat.intCast_natCast, this]
  have hall : psum (ns ++ [n]) (ns ++ [n]).length = psum ns ns.length + n.toNat := by rw [List.length_append, List.length_singleton]; exact psum_all
  have hH : ((psum ns ns.length : Nat) : Rat) + (n : Rat) = ((psum ns ns.length + n.toNat : Nat) : Rat) := by rw [Rat.natCast_add, hN]
  have hnow : ∀ i, i < ts.length + 1 → ((psum ns ns.length + n.toNat : Nat) : Rat) - ((psum (ns ++ [n]) i : Nat) : Rat) + (H - (n : Rat)) ≤ B + R * ((tt - (ts ++ [tt]).getD i 0 : Int) : Rat) := by
    intro i hi
    rw [← hH, psum_app (by omega), getD_appI (by omega)]
    by_cases e : i = ts.length
    · rw [if_pos e, e, ← hlen, Int.sub_self]
      have : R * ((0 : Int) : Rat) = 0 := by simp
      rw [this]; grind
    · rw [if_neg e]
      have := C.now i (by omega)
      grind
  refine ⟨by simp [hlen], fun j hj => ?_, fun i j hij hj => ?_, fun j hj => ?_, fun i hi => ?_, ?_, fun i k hik hk => ?_, fun _ => ?_⟩
  · simp at hj
    rw [getD_appI (by omega)]
    split
    · omega
    · exact C.t0 j (by omega)
  · simp at hj
    rw [getD_appI (by omega), getD_appI (by omega)]
    by_cases e : j = ts.length
    · rw [if_pos e]
      split
      · exact Int.le_refl _
      · exact (C.t0 i (by omega)).2
    · rw [if_neg e, if_neg (by omega)]; exact C.mono i j hij (by omega)
  · simp at hj
    rw [getD_appI (by omega)]
    split
    · omega
    · exact C.n41 j (by omega)
  · rw [hall]; exact hnow i (by simpa using hi)
  · rw [hall, ← hH]; have := C.all; grind
  · simp at hk
    by_cases e : k = ts.length
    · rw [getD_appI (x := tt) (xs := ts) (i := k) (by omega), if_pos e, e, ← hlen, psum_all]
      have h3 := hnow i (by omega)
      have h4 : (0 : Rat) ≤ H - (n : Rat) := by grind
      grind
    · rw [psum_app (by omega), psum_app (by omega), getD_appI (by omega), getD_appI (by omega), if_neg e, if_neg (by omega)]
      exact C.cap i k hik (by omega)
  · rw [hall, ← hH, List.length_append, List.length_singleton, Nat.add_sub_cancel, getD_appI (Nat.le_refl _), if_pos rfl]
    have := C.all; grind
theorem psum_le {M : Nat} (h : ∀ j, j < ns.length → (ns.getD j 0).toNat ≤ M) : ∀ k, k ≤ ns.length → psum ns k ≤ k * M := by
  intro k
  induction k with
  | zero => intro _; rw [psum_0]; exact Nat.zero_le _
  | succ k ih =>
    intro hk
    rw [psum_succ (by omega), Nat.add_mul, Nat.one_mul]
    exact Nat.add_le_add (ih (by omega)) (h k (by omega))
theorem CapI.sum_le (C : CapI B R tt H ts ns) (k : Nat) (hk : k ≤ ns.length) (h40 : ns.length ≤ 40) : psum ns k ≤ 87960930222120 := by
  have h1 := psum_le (M := 2199023255553) (fun j hj => by have := C.n41 j hj; omega) k hk
  have h2 := Nat.mul_le_mul_right 2199023255553 (show k ≤ 40 by omega)
  omega
/-- What is left of a bucket, asked later. -/
theorem at_le (I : BInv l tt H B R) (h : tt ≤ t') (h2 : t' ≤ 4611686018427387904) : atH tt H B R t' ≤ H + R * ((t' - tt : Int) : Rat) := by
  rw [at_of h h2]; exact minQ_le_l _ _
theorem tkE_ok {h : Rat} (h0 : tkE h n = 0) (hn : 1 ≤ n) : (n : Rat) ≤ h ∧ tkH h n = h - (n : Rat) := by
  by_cases h2 : (n : Rat) ≤ h
  · refine ⟨h2, ?_⟩
    rw [tkH_2 (by omega) h2]
    unfold subQ; rw [if_pos h2]
  · rw [tkE_3 (by omega) h2] at h0; cases h0
theorem tkE_no {h : Rat} (h0 : ¬ tkE h n = 0) (hn : 1 ≤ n) : tkH h n = h := by
  by_cases h2 : (n : Rat) ≤ h
  · rw [tkE_2 (by omega) h2] at h0; exact absurd rfl h0
  · exact tkH_3 (by omega) h2
theorem rtQ_of {u : Nat} (h : RtOk u) : rtQ u = flQ u := by unfold rtQ; rw [if_pos h]
theorem toNat_cast {x : Int} (h : 0 ≤ x) : ((x.toNat : Nat) : Rat) = (x : Rat) := by
  have : ((x.toNat : Nat) : Int) = x := Int.toNat_of_nonneg h
  rw [← Rat.intCast_natCast, this]
theorem caps_1 {u S i k : Nat} {bn per : Int} (C : CapI (bn : Rat) (divI (flQ u) per) tt H ts ns) (hb : 1 ≤ bn) (hR : RtOk u) (hik : i ≤ k) (hk : k < ts.length) (hS : S + psum ns i = psum ns k) :
    ¬ mulI (divI (rtQ u) per) (ts.getD k 0 - ts.getD i 0) + ((bn.toNat : Nat) : Rat) < ((S + (ns.getD k 0).toNat : Nat) : Rat) := by
  have h1 := C.cap i k hik hk
  have h2 := C.mono i k hik hk
  have h3 := psum_succ (ns := ns) (k := k) (by rw [C.len]; exact hk)
  have h4 : ((S + (ns.getD k 0).toNat : Nat) : Rat) = ((psum ns (k + 1) : Nat) : Rat) - ((psum ns i : Nat) : Rat) := by
    rw [h3, ← hS, Rat.natCast_add, Rat.natCast_add, Rat.natCast_add]; grind
  rw [h4, rtQ_of hR, toNat_cast (by omega)]
  have h5 : mulI (divI (flQ u) per) (ts.getD k 0 - ts.getD i 0) = divI (flQ u) per * ((ts.getD k 0 - ts.getD i 0 : Int) : Rat) := by unfold mulI; rw [if_pos (by omega)]
  rw [h5]; grind
theorem caps_2 {u S : Nat} {bn per : Int} (C : CapI (bn : Rat) (divI (flQ u) per) tt H ts ns) (hR : RtOk u) (hl : 0 < ts.length) (hS : S = psum ns ns.length) :
    ¬ mulI (divI (rtQ u) per) (ts.getD (ts.length - 1) 0) < ((S : Nat) : Rat) := by
  have h1 := C.tot hl
  have h2 := C.t0 (ts.length - 1) (by omega)
  rw [rtQ_of hR, hS]
  have h5 : mulI (divI (flQ u) per) (ts.getD (ts.length - 1) 0) = divI (flQ u) per * ((ts.getD (ts.length - 1) 0 : Int) : Rat) := by unfold mulI; rw [if_pos (by omega)]
  rw [h5]; grind
end
theorem Cell.to {id : TypeId} {T U : Ty} {p : Nat} {w : World} (h : Cell id T p w) (c : ∀ v w, T.p v w → U.p v w) : Cell id U p w := by
  obtain ⟨v, h1, h2⟩ := h; exact ⟨v, h1, c _ _ h2⟩
end Go.Proofs.Ytojpiiboikomfaa.Rg
