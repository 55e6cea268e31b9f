/-
  Walks and plain laws, put together: OU OV OW.
-/
import Derived.Test.YtojpiiboikomfaaQj
import Derived.Test.YtojpiiboikomfaaFr
set_option linter.unusedVariables false
set_option linter.unusedSimpArgs false
namespace Go.Proofs.Ytojpiiboikomfaa.Rg

open Go.RowKit

set_option maxRecDepth 10000 in
set_option maxHeartbeats 2000000 in
theorem d_rate {l u : Nat} {w : World}  (hu : u < 18446744073709551616) (hl : 1100 ≤ l) :
    Calls Try.prog 11 #[.int .u64 (u : Int)] w (Ret (tT [tQ B32 l (rtQ u), tV (.bool (decide (RtOk u)))]) w) := by
 refine enter Try.func11 rfl Try.ntmps11 (by simp) ?_
 intro a hz hd ha
 have S0 := ha 0 _ rfl
 clear ha
 have HB : Below w.heap.size w w := Below.refl _ _
 have hex := ex_lt u
 have hma := ma_lt u
 refine wp_seq ?_
 refine region_text (M := []) (
  rB 0 35 (tR B32 0 0 0 0) none 0 ::
  rT (tV (.bool false)) ::
  []) hz hd (by kernel_rfl) ?_ ?_
 refine ⟨?_, ?_, trivial⟩
 exact zNew hz tR_nl al_r32
 exact zAs hz kc
 intro a' γ' W' hz' hd' hC hk hh
 replace S0 := kp hk S0
 obtain ⟨p1, S2, Cp1, lp1, gp1⟩ := gotB hz' 0 hC hh rfl rfl rfl rfl rfl rfl
 have S3 := gotV hz' 1 hh rfl rfl rfl rfl
 have bp1 : w.heap.size ≤ p1 := Nat.le_trans HB.size lp1
 clear lp1 gp1
 replace HB := aft_call HB (RelC.below_nil hC)
 clear hC hk hh; replace hz := hz'; replace hd := hd'; clear hz' hd'
 refine wp_seq ?_
 refine region_text (M := []) (
  rT (tV (.int .u64 (u : Int))) ::
  rT (tV (.int .u64 ((u / 4503599627370496 : Nat) : Int))) ::
  rT (tV (.int .u64 ((ex u : Nat) : Int))) ::
  rT (tV (.int .i64 ((ex u : Nat) : Int))) ::
  rT (tV (.int .i64 ((ex u : Nat) : Int))) ::
  []) hz hd (by kernel_rfl) ?_ ?_
 refine ⟨?_, ?_, ?_, ?_, ?_, trivial⟩
 exact zMv hz (sv S0)
 exact sBin rfl rfl rfl hz rfl (Gd.none_ rfl) rfl (sd 0 rfl) kc (fun w => f_shr w)
 exact sBin rfl rfl rfl hz rfl (Gd.none_ rfl) rfl (sd 1 rfl) kc (fun w => f_ex hu w)
 exact sConv (T' := tV (.int .u64 ((ex u : Nat) : Int))) rfl rfl rfl hz rfl (Gd.none_ rfl) rfl (sd 2 rfl) (fun v_ w_ h_ => by have h_ : v_ = .int .u64 ((ex u : Nat) : Int) := h_; subst h_; exact ⟨_, by simp [go_sem, IntKind.wrap_i64]; omega, rfl⟩)
 exact zAs hz (sd 3 rfl)
 intro a' γ' W' hz' hd' hC hk hh
 have tp1 := Cp1.lt
 replace Cp1 := kC hC Cp1
 replace S0 := kp hk S0
 replace S2 := kp hk S2
 replace S3 := kp hk S3
 have S4 := gotV hz' 4 hh rfl rfl rfl rfl
 clear tp1
 replace HB := aft_call HB (RelC.below_nil hC)
 clear hC hk hh; replace hz := hz'; replace hd := hd'; clear hz' hd'
 refine wp_seq ?_
 refine region_text (M := []) (
  rT (tV (.int .u64 (u : Int))) ::
  rT (tV (.int .u64 ((ma u : Nat) : Int))) ::
  rT (tV (.int .u64 ((ma u : Nat) : Int))) ::
  []) hz hd (by kernel_rfl) ?_ ?_
 refine ⟨?_, ?_, ?_, trivial⟩
 exact zMv hz (sv S0)
 exact sBin rfl rfl rfl hz rfl (Gd.none_ rfl) rfl (sd 0 rfl) kc (fun w => f_ma hu w)
 exact zAs hz (sd 1 rfl)
 intro a' γ' W' hz' hd' hC hk hh
 have tp1 := Cp1.lt
 replace Cp1 := kC hC Cp1
 replace S0 := kp hk S0
 replace S2 := kp hk S2
 replace S3 := kp hk S3
 replace S4 := kp hk S4
 have S5 := gotV hz' 2 hh rfl rfl rfl rfl
 clear tp1
 replace HB := aft_call HB (RelC.below_nil hC)
 clear hC hk hh; replace hz := hz'; replace hd := hd'; clear hz' hd'
 refine wp_seq ?_
 refine wp_seq ?_
 by_cases hc2 : ((ex u : Nat) : Int) = 2047
 refine region_text (M := []) (
  rT (tV (.int .i64 ((ex u : Nat) : Int))) ::
  rT (tV (.bool true)) ::
  rT (tV (.bool true)) ::
  rT (tV undef) ::
  rT (tV undef) ::
  rT (tV undef) ::
  rT (tV undef) ::
  rT (tV undef) ::
  rT (tV undef) ::
  rT (tV undef) ::
  rT (tV undef) ::
  rT (tV (.bool true)) ::
  rT (tV (.bool true)) ::
  rT (tV undef) ::
  rT (tV undef) ::
  rT (tV (.bool true)) ::
  rT (tV (.bool true)) ::
  rT (tV undef) ::
  rT (tV undef) ::
  rT (tV undef) ::
  rT (tV undef) ::
  rT (tV undef) ::
  rT (tV undef) ::
  rT (tV (.bool true)) ::
  []) hz hd (by kernel_rfl) ?_ ?_
 refine ⟨?_, ?_, ?_, ?_, ?_, ?_, ?_, ?_, ?_, ?_, ?_, ?_, ?_, ?_, ?_, ?_, ?_, ?_, ?_, ?_, ?_, ?_, ?_, ?_, trivial⟩
 exact zMv hz (sv S4)
 exact sBin rfl rfl rfl hz rfl (Gd.none_ rfl) rfl (sd 0 rfl) kc (fun w => run_t (P := ((ex u : Nat) : Int) = 2047) ((fun w => run_eql) w) hc2)
 exact zMv hz (sd 1 rfl)
 exact zSkU hz (gN 2 rfl)
 exact zSkU hz (gN 2 rfl)
 exact zSkU hz (gN 2 rfl)
 exact zSkU hz (gN 2 rfl)
 exact zSkU hz (gU 6 rfl)
 exact zSkU hz (gU 6 rfl)
 exact zSkU hz (gU 6 rfl)
 exact zSkU hz (gN 2 rfl)
 exact zPT hz (sd 2 rfl) kc
 exact zMv hz (sd 11 rfl)
 exact zSkU hz (gN 12 rfl)
 exact zSkU hz (gN 12 rfl)
 exact zPT hz (sd 12 rfl) kc
 exact zMv hz (sd 15 rfl)
 exact zSkU hz (gN 16 rfl)
 exact zSkU hz (gN 16 rfl)
 exact zSkU hz (gN 16 rfl)
 exact zSkU hz (gU 19 rfl)
 exact zSkU hz (gU 19 rfl)
 exact zSkU hz (gN 16 rfl)
 exact zPT hz (sd 16 rfl) kc
 intro a' γ' W' hz' hd' hC hk hh
 have tp1 := Cp1.lt
 replace Cp1 := kC hC Cp1
 clear S0
 replace S2 := kp hk S2
 replace S3 := kp hk S3
 replace S4 := kp hk S4
 replace S5 := kp hk S5
 have S37 := gotV hz' 23 hh rfl rfl rfl rfl
 clear tp1
 replace HB := aft_call HB (RelC.below_nil hC)
 clear hC hk hh; replace hz := hz'; replace hd := hd'; clear hz' hd'
 refine wp_cond_true S37.ev ?_
 refine wp_seq ?_
 refine region_text (M := [p1]) (
  rT (tQ B32 1 0) ::
  rE 0 35 (tQ B32 1 0) p1 ::
  rT (tV (.bool false)) ::
  []) hz hd (by kernel_rfl) ?_ ?_
 refine ⟨?_, ?_, ?_, trivial⟩
 exact zC0 hz Try.func35 (fun _ => dq_zero)
 exact zSE rfl (sv S2) (by simp [tagOf]) (Cp1.var tR_nd) (sd 0 rfl) st_q32
 exact zAs hz kc
 intro a' γ' W' hz' hd' hC hk hh
 replace Cp1 := gotE (T := tQ B32 1 0) (id := 35) (p := p1) 1 hh rfl rfl
 replace S2 := kp hk S2
 clear S3
 replace S4 := kp hk S4
 replace S5 := kp hk S5
 clear S37
 have S3 := gotV hz' 2 hh rfl rfl rfl rfl
 replace HB := RelC.aftM HB hC (by intro m hm; simp at hm; rcases hm with rfl <;> assumption)
 clear hC hk hh; replace hz := hz'; replace hd := hd'; clear hz' hd'
 refine wp_ret ?_
 refine ret_to (T := tT [tQ B32 1 0, tV (.bool false)]) (retct_q32 (by kernel_rfl) S2 S3 hd Cp1 HB) ?_
 exact to2 (tQ_to (by decide) (by unfold rtQ; rw [if_neg (by rw [rt_iff hu]; omega)]) (by omega)) (tV_to (by rw [decide_eq_false (by rw [rt_iff hu]; omega)]))
 by_cases hc3 : ((u / 9223372036854775808 : Nat) : Int) = 1
 by_cases hc4 : ((u * 2 % 18446744073709551616 : Nat) : Int) ≠ 0
 refine region_text (M := []) (
  rT (tV (.int .i64 ((ex u : Nat) : Int))) ::
  rT (tV (.bool false)) ::
  rT (tV (.bool false)) ::
  rT (tV (.int .u64 (u : Int))) ::
  rT (tV (.int .u64 ((u / 9223372036854775808 : Nat) : Int))) ::
  rT (tV (.bool true)) ::
  rT (tV (.bool true)) ::
  rT (tV (.int .u64 (u : Int))) ::
  rT (tV (.int .u64 ((u * 2 % 18446744073709551616 : Nat) : Int))) ::
  rT (tV (.bool true)) ::
  rT (tV (.bool true)) ::
  rT (tV (.bool true)) ::
  rT (tV (.bool true)) ::
  rT (tV undef) ::
  rT (tV undef) ::
  rT (tV (.bool true)) ::
  rT (tV (.bool true)) ::
  rT (tV undef) ::
  rT (tV undef) ::
  rT (tV undef) ::
  rT (tV undef) ::
  rT (tV undef) ::
  rT (tV undef) ::
  rT (tV (.bool true)) ::
  []) hz hd (by kernel_rfl) ?_ ?_
 refine ⟨?_, ?_, ?_, ?_, ?_, ?_, ?_, ?_, ?_, ?_, ?_, ?_, ?_, ?_, ?_, ?_, ?_, ?_, ?_, ?_, ?_, ?_, ?_, ?_, trivial⟩
 exact zMv hz (sv S4)
 exact sBin rfl rfl rfl hz rfl (Gd.none_ rfl) rfl (sd 0 rfl) kc (fun w => run_f (P := ((ex u : Nat) : Int) = 2047) ((fun w => run_eql) w) hc2)
 exact zMv hz (sd 1 rfl)
 exact zMv hz (sv S0) (g := gT 2 rfl)
 exact sBin rfl rfl rfl hz rfl (gT 2 rfl) rfl (sd 3 rfl) kc (fun w => f_shr63 w)
 exact sBin rfl rfl rfl hz rfl (gT 2 rfl) rfl (sd 4 rfl) kc (fun w => run_t (P := ((u / 9223372036854775808 : Nat) : Int) = 1) ((fun w => run_eqlu) w) hc3)
 exact zMv hz (sd 5 rfl) (g := gT 2 rfl)
 exact zMv hz (sv S0) (g := gT 6 rfl)
 exact sBin rfl rfl rfl hz rfl (gT 6 rfl) rfl (sd 7 rfl) kc (fun w => f_shl1 w)
 exact sBin rfl rfl rfl hz rfl (gT 6 rfl) rfl (sd 8 rfl) kc (fun w => run_t (P := ((u * 2 % 18446744073709551616 : Nat) : Int) ≠ 0) ((fun w => run_nequ) w) hc4)
 exact zPT hz (sd 6 rfl) (sd 9 rfl) (g := gT 2 rfl)
 exact zPF hz (sd 2 rfl) (sd 10 rfl)
 exact zMv hz (sd 11 rfl)
 exact zSkU hz (gN 12 rfl)
 exact zSkU hz (gN 12 rfl)
 exact zPT hz (sd 12 rfl) kc
 exact zMv hz (sd 15 rfl)
 exact zSkU hz (gN 16 rfl)
 exact zSkU hz (gN 16 rfl)
 exact zSkU hz (gN 16 rfl)
 exact zSkU hz (gU 19 rfl)
 exact zSkU hz (gU 19 rfl)
 exact zSkU hz (gN 16 rfl)
 exact zPT hz (sd 16 rfl) kc
 intro a' γ' W' hz' hd' hC hk hh
 have tp1 := Cp1.lt
 replace Cp1 := kC hC Cp1
 clear S0
 replace S2 := kp hk S2
 replace S3 := kp hk S3
 replace S4 := kp hk S4
 replace S5 := kp hk S5
 have S37 := gotV hz' 23 hh rfl rfl rfl rfl
 clear tp1
 replace HB := aft_call HB (RelC.below_nil hC)
 clear hC hk hh; replace hz := hz'; replace hd := hd'; clear hz' hd'
 refine wp_cond_true S37.ev ?_
 refine wp_seq ?_
 refine region_text (M := [p1]) (
  rT (tQ B32 1 0) ::
  rE 0 35 (tQ B32 1 0) p1 ::
  rT (tV (.bool false)) ::
  []) hz hd (by kernel_rfl) ?_ ?_
 refine ⟨?_, ?_, ?_, trivial⟩
 exact zC0 hz Try.func35 (fun _ => dq_zero)
 exact zSE rfl (sv S2) (by simp [tagOf]) (Cp1.var tR_nd) (sd 0 rfl) st_q32
 exact zAs hz kc
 intro a' γ' W' hz' hd' hC hk hh
 replace Cp1 := gotE (T := tQ B32 1 0) (id := 35) (p := p1) 1 hh rfl rfl
 replace S2 := kp hk S2
 clear S3
 replace S4 := kp hk S4
 replace S5 := kp hk S5
 clear S37
 have S3 := gotV hz' 2 hh rfl rfl rfl rfl
 replace HB := RelC.aftM HB hC (by intro m hm; simp at hm; rcases hm with rfl <;> assumption)
 clear hC hk hh; replace hz := hz'; replace hd := hd'; clear hz' hd'
 refine wp_ret ?_
 refine ret_to (T := tT [tQ B32 1 0, tV (.bool false)]) (retct_q32 (by kernel_rfl) S2 S3 hd Cp1 HB) ?_
 exact to2 (tQ_to (by decide) (by unfold rtQ; rw [if_neg (by rw [rt_iff hu]; omega)]) (by omega)) (tV_to (by rw [decide_eq_false (by rw [rt_iff hu]; omega)]))
 by_cases hc5 : ((ex u : Nat) : Int) > 1043
 refine region_text (M := []) (
  rT (tV (.int .i64 ((ex u : Nat) : Int))) ::
  rT (tV (.bool false)) ::
  rT (tV (.bool false)) ::
  rT (tV (.int .u64 (u : Int))) ::
  rT (tV (.int .u64 ((u / 9223372036854775808 : Nat) : Int))) ::
  rT (tV (.bool true)) ::
  rT (tV (.bool true)) ::
  rT (tV (.int .u64 (u : Int))) ::
  rT (tV (.int .u64 ((u * 2 % 18446744073709551616 : Nat) : Int))) ::
  rT (tV (.bool false)) ::
  rT (tV (.bool false)) ::
  rT (tV (.bool false)) ::
  rT (tV (.bool false)) ::
  rT (tV (.int .i64 ((ex u : Nat) : Int))) ::
  rT (tV (.bool true)) ::
  rT (tV (.bool true)) ::
  rT (tV (.bool true)) ::
  rT (tV undef) ::
  rT (tV undef) ::
  rT (tV undef) ::
  rT (tV undef) ::
  rT (tV undef) ::
  rT (tV undef) ::
  rT (tV (.bool true)) ::
  []) hz hd (by kernel_rfl) ?_ ?_
 refine ⟨?_, ?_, ?_, ?_, ?_, ?_, ?_, ?_, ?_, ?_, ?_, ?_, ?_, ?_, ?_, ?_, ?_, ?_, ?_, ?_, ?_, ?_, ?_, ?_, trivial⟩
 exact zMv hz (sv S4)
 exact sBin rfl rfl rfl hz rfl (Gd.none_ rfl) rfl (sd 0 rfl) kc (fun w => run_f (P := ((ex u : Nat) : Int) = 2047) ((fun w => run_eql) w) hc2)
 exact zMv hz (sd 1 rfl)
 exact zMv hz (sv S0) (g := gT 2 rfl)
 exact sBin rfl rfl rfl hz rfl (gT 2 rfl) rfl (sd 3 rfl) kc (fun w => f_shr63 w)
 exact sBin rfl rfl rfl hz rfl (gT 2 rfl) rfl (sd 4 rfl) kc (fun w => run_t (P := ((u / 9223372036854775808 : Nat) : Int) = 1) ((fun w => run_eqlu) w) hc3)
 exact zMv hz (sd 5 rfl) (g := gT 2 rfl)
 exact zMv hz (sv S0) (g := gT 6 rfl)
 exact sBin rfl rfl rfl hz rfl (gT 6 rfl) rfl (sd 7 rfl) kc (fun w => f_shl1 w)
 exact sBin rfl rfl rfl hz rfl (gT 6 rfl) rfl (sd 8 rfl) kc (fun w => run_f (P := ((u * 2 % 18446744073709551616 : Nat) : Int) ≠ 0) ((fun w => run_nequ) w) hc4)
 exact zPT hz (sd 6 rfl) (sd 9 rfl) (g := gT 2 rfl)
 exact zPF hz (sd 2 rfl) (sd 10 rfl)
 exact zMv hz (sd 11 rfl)
 exact zMv hz (sv S4) (g := gT 12 rfl)
 exact sBin rfl rfl rfl hz rfl (gT 12 rfl) rfl (sd 13 rfl) kc (fun w => run_t (P := ((ex u : Nat) : Int) > 1043) ((fun w => run_gtr) w) hc5)
 exact zPF hz (sd 12 rfl) (sd 14 rfl)
 exact zMv hz (sd 15 rfl)
 exact zSkU hz (gN 16 rfl)
 exact zSkU hz (gN 16 rfl)
 exact zSkU hz (gN 16 rfl)
 exact zSkU hz (gU 19 rfl)
 exact zSkU hz (gU 19 rfl)
 exact zSkU hz (gN 16 rfl)
 exact zPT hz (sd 16 rfl) kc
 intro a' γ' W' hz' hd' hC hk hh
 have tp1 := Cp1.lt
 replace Cp1 := kC hC Cp1
 clear S0
 replace S2 := kp hk S2
 replace S3 := kp hk S3
 replace S4 := kp hk S4
 replace S5 := kp hk S5
 have S37 := gotV hz' 23 hh rfl rfl rfl rfl
 clear tp1
 replace HB := aft_call HB (RelC.below_nil hC)
 clear hC hk hh; replace hz := hz'; replace hd := hd'; clear hz' hd'
 refine wp_cond_true S37.ev ?_
 refine wp_seq ?_
 refine region_text (M := [p1]) (
  rT (tQ B32 1 0) ::
  rE 0 35 (tQ B32 1 0) p1 ::
  rT (tV (.bool false)) ::
  []) hz hd (by kernel_rfl) ?_ ?_
 refine ⟨?_, ?_, ?_, trivial⟩
 exact zC0 hz Try.func35 (fun _ => dq_zero)
 exact zSE rfl (sv S2) (by simp [tagOf]) (Cp1.var tR_nd) (sd 0 rfl) st_q32
 exact zAs hz kc
 intro a' γ' W' hz' hd' hC hk hh
 replace Cp1 := gotE (T := tQ B32 1 0) (id := 35) (p := p1) 1 hh rfl rfl
 replace S2 := kp hk S2
 clear S3
 replace S4 := kp hk S4
 replace S5 := kp hk S5
 clear S37
 have S3 := gotV hz' 2 hh rfl rfl rfl rfl
 replace HB := RelC.aftM HB hC (by intro m hm; simp at hm; rcases hm with rfl <;> assumption)
 clear hC hk hh; replace hz := hz'; replace hd := hd'; clear hz' hd'
 refine wp_ret ?_
 refine ret_to (T := tT [tQ B32 1 0, tV (.bool false)]) (retct_q32 (by kernel_rfl) S2 S3 hd Cp1 HB) ?_
 exact to2 (tQ_to (by decide) (by unfold rtQ; rw [if_neg (by rw [rt_iff hu]; omega)]) (by omega)) (tV_to (by rw [decide_eq_false (by rw [rt_iff hu]; omega)]))
 by_cases hc6 : ((ex u : Nat) : Int) = 1043
 refine region_text (M := []) (
  rT (tV (.int .i64 ((ex u : Nat) : Int))) ::
  rT (tV (.bool false)) ::
  rT (tV (.bool false)) ::
  rT (tV (.int .u64 (u : Int))) ::
  rT (tV (.int .u64 ((u / 9223372036854775808 : Nat) : Int))) ::
  rT (tV (.bool true)) ::
  rT (tV (.bool true)) ::
  rT (tV (.int .u64 (u : Int))) ::
  rT (tV (.int .u64 ((u * 2 % 18446744073709551616 : Nat) : Int))) ::
  rT (tV (.bool false)) ::
  rT (tV (.bool false)) ::
  rT (tV (.bool false)) ::
  rT (tV (.bool false)) ::
  rT (tV (.int .i64 ((ex u : Nat) : Int))) ::
  rT (tV (.bool false)) ::
  rT (tV (.bool false)) ::
  rT (tV (.bool false)) ::
  rT (tV (.int .i64 ((ex u : Nat) : Int))) ::
  rT (tV (.bool true)) ::
  rT (tV (.bool true)) ::
  rT (tV (.int .u64 ((ma u : Nat) : Int))) ::
  rT (tV (.bool (decide (((ma u : Nat) : Int) > 0)))) ::
  rT (tV (.bool (decide (((ma u : Nat) : Int) > 0)))) ::
  rT (tV (.bool (decide (((ma u : Nat) : Int) > 0)))) ::
  []) hz hd (by kernel_rfl) ?_ ?_
 refine ⟨?_, ?_, ?_, ?_, ?_, ?_, ?_, ?_, ?_, ?_, ?_, ?_, ?_, ?_, ?_, ?_, ?_, ?_, ?_, ?_, ?_, ?_, ?_, ?_, trivial⟩
 exact zMv hz (sv S4)
 exact sBin rfl rfl rfl hz rfl (Gd.none_ rfl) rfl (sd 0 rfl) kc (fun w => run_f (P := ((ex u : Nat) : Int) = 2047) ((fun w => run_eql) w) hc2)
 exact zMv hz (sd 1 rfl)
 exact zMv hz (sv S0) (g := gT 2 rfl)
 exact sBin rfl rfl rfl hz rfl (gT 2 rfl) rfl (sd 3 rfl) kc (fun w => f_shr63 w)
 exact sBin rfl rfl rfl hz rfl (gT 2 rfl) rfl (sd 4 rfl) kc (fun w => run_t (P := ((u / 9223372036854775808 : Nat) : Int) = 1) ((fun w => run_eqlu) w) hc3)
 exact zMv hz (sd 5 rfl) (g := gT 2 rfl)
 exact zMv hz (sv S0) (g := gT 6 rfl)
 exact sBin rfl rfl rfl hz rfl (gT 6 rfl) rfl (sd 7 rfl) kc (fun w => f_shl1 w)
 exact sBin rfl rfl rfl hz rfl (gT 6 rfl) rfl (sd 8 rfl) kc (fun w => run_f (P := ((u * 2 % 18446744073709551616 : Nat) : Int) ≠ 0) ((fun w => run_nequ) w) hc4)
 exact zPT hz (sd 6 rfl) (sd 9 rfl) (g := gT 2 rfl)
 exact zPF hz (sd 2 rfl) (sd 10 rfl)
 exact zMv hz (sd 11 rfl)
 exact zMv hz (sv S4) (g := gT 12 rfl)
 exact sBin rfl rfl rfl hz rfl (gT 12 rfl) rfl (sd 13 rfl) kc (fun w => run_f (P := ((ex u : Nat) : Int) > 1043) ((fun w => run_gtr) w) hc5)
 exact zPF hz (sd 12 rfl) (sd 14 rfl)
 exact zMv hz (sd 15 rfl)
 exact zMv hz (sv S4) (g := gT 16 rfl)
 exact sBin rfl rfl rfl hz rfl (gT 16 rfl) rfl (sd 17 rfl) kc (fun w => run_t (P := ((ex u : Nat) : Int) = 1043) ((fun w => run_eql) w) hc6)
 exact zMv hz (sd 18 rfl) (g := gT 16 rfl)
 exact zMv hz (sv S5) (g := gT 19 rfl)
 exact sBin rfl rfl rfl hz rfl (gT 19 rfl) rfl (sd 20 rfl) kc (fun w => run_gtru)
 exact zPT hz (sd 19 rfl) (sd 21 rfl) (g := gT 16 rfl)
 exact zPF hz (sd 16 rfl) (sd 22 rfl)
 intro a' γ' W' hz' hd' hC hk hh
 have tp1 := Cp1.lt
 replace Cp1 := kC hC Cp1
 clear S0
 replace S2 := kp hk S2
 replace S3 := kp hk S3
 replace S4 := kp hk S4
 replace S5 := kp hk S5
 have S37 := gotV hz' 23 hh rfl rfl rfl rfl
 clear tp1
 replace HB := aft_call HB (RelC.below_nil hC)
 clear hC hk hh; replace hz := hz'; replace hd := hd'; clear hz' hd'
 by_cases hc7 : ((ma u : Nat) : Int) > 0
 rw [decide_eq_true hc7] at S37
 refine wp_cond_true S37.ev ?_
 refine wp_seq ?_
 refine region_text (M := [p1]) (
  rT (tQ B32 1 0) ::
  rE 0 35 (tQ B32 1 0) p1 ::
  rT (tV (.bool false)) ::
  []) hz hd (by kernel_rfl) ?_ ?_
 refine ⟨?_, ?_, ?_, trivial⟩
 exact zC0 hz Try.func35 (fun _ => dq_zero)
 exact zSE rfl (sv S2) (by simp [tagOf]) (Cp1.var tR_nd) (sd 0 rfl) st_q32
 exact zAs hz kc
 intro a' γ' W' hz' hd' hC hk hh
 replace Cp1 := gotE (T := tQ B32 1 0) (id := 35) (p := p1) 1 hh rfl rfl
 replace S2 := kp hk S2
 clear S3
 replace S4 := kp hk S4
 replace S5 := kp hk S5
 clear S37
 have S3 := gotV hz' 2 hh rfl rfl rfl rfl
 replace HB := RelC.aftM HB hC (by intro m hm; simp at hm; rcases hm with rfl <;> assumption)
 clear hC hk hh; replace hz := hz'; replace hd := hd'; clear hz' hd'
 refine wp_ret ?_
 refine ret_to (T := tT [tQ B32 1 0, tV (.bool false)]) (retct_q32 (by kernel_rfl) S2 S3 hd Cp1 HB) ?_
 exact to2 (tQ_to (by decide) (by unfold rtQ; rw [if_neg (by rw [rt_iff hu]; omega)]) (by omega)) (tV_to (by rw [decide_eq_false (by rw [rt_iff hu]; omega)]))
 rw [decide_eq_false hc7] at S37
 refine wp_cond_false S37.ev ?_
 refine wp_skip ?_
 refine wp_seq ?_
 refine wp_seq ?_
 refine region_text (M := []) (
  rT (tV (.int .i64 ((ex u : Nat) : Int))) ::
  rT (tV (.bool (decide (((ex u : Nat) : Int) = 0)))) ::
  []) hz hd (by kernel_rfl) ?_ ?_
 refine ⟨?_, ?_, trivial⟩
 exact zMv hz (sv S4)
 exact sBin rfl rfl rfl hz rfl (Gd.none_ rfl) rfl (sd 0 rfl) kc (fun w => run_eql)
 intro a' γ' W' hz' hd' hC hk hh
 have tp1 := Cp1.lt
 replace Cp1 := kC hC Cp1
 replace S2 := kp hk S2
 replace S3 := kp hk S3
 replace S4 := kp hk S4
 replace S5 := kp hk S5
 clear S37
 have S40 := gotV hz' 1 hh rfl rfl rfl rfl
 clear tp1
 replace HB := aft_call HB (RelC.below_nil hC)
 clear hC hk hh; replace hz := hz'; replace hd := hd'; clear hz' hd'
 by_cases hc8 : ((ex u : Nat) : Int) = 0
 rw [decide_eq_true hc8] at S40
 refine wp_cond_true S40.ev ?_
 refine region_text (M := []) (
  rT (tV (.int .i64 1)) ::
  []) hz hd (by kernel_rfl) ?_ ?_
 refine ⟨?_, trivial⟩
 exact zAs hz kc
 intro a' γ' W' hz' hd' hC hk hh
 have tp1 := Cp1.lt
 replace Cp1 := kC hC Cp1
 replace S2 := kp hk S2
 replace S3 := kp hk S3
 clear S4
 replace S5 := kp hk S5
 clear S40
 have S4 := gotV hz' 0 hh rfl rfl rfl rfl
 clear tp1
 replace HB := aft_call HB (RelC.below_nil hC)
 clear hC hk hh; replace hz := hz'; replace hd := hd'; clear hz' hd'
 refine wp_seq ?_
 refine region_text (M := []) (
  rT (tV (.int .u64 ((ma u : Nat) : Int))) ::
  rT (tN B32 2 (ma u)) ::
  rT (tN B32 2 1) ::
  rVar 3 33 1 ::
  rVar 4 33 1 ::
  rB 3 33 (tN B32 2 (ma u)) (some 3) 4 ::
  rB 4 33 (tN B32 2 1) (some 4) 5 ::
  []) hz hd (by kernel_rfl) ?_ ?_
 refine ⟨?_, ?_, ?_, ?_, ?_, ?_, ?_, trivial⟩
 exact zMv hz (sv S5)
 exact zC1 hz Try.func21 (sd 0 rfl) (k1 (fun _ => d_of (by unfold B64; omega)))
 exact zC1 hz Try.func21 (kc (v := .int .u64 1)) (k1 (fun _ => d_of (by decide)))
 exact zAl hz nd_slice al_n32
 exact zAl hz nd_slice al_n32
 exact zSt (sd 1 rfl) st_n32
 exact zSt (sd 2 rfl) st_n32
 intro a' γ' W' hz' hd' hC hk hh
 have ep1 := Cp1.lt
 have tp1 := Cp1.lt
 replace Cp1 := kC hC Cp1
 replace S2 := kp hk S2
 replace S3 := kp hk S3
 clear S5
 replace S4 := kp hk S4
 obtain ⟨p9, S6, Cp9, lp9, gp9⟩ := gotB hz' 5 hC hh rfl rfl rfl rfl rfl rfl
 obtain ⟨p10, S7, Cp10, lp10, gp10⟩ := gotB hz' 6 hC hh rfl rfl rfl rfl rfl rfl
 have n_p9_p1 : p9 ≠ p1 := by omega
 have n_p9_p10 : p9 ≠ p10 := by intro e; rw [e, gp10] at gp9; omega
 have n_p10_p1 : p10 ≠ p1 := by omega
 have n_p10_p9 : p10 ≠ p9 := by intro e; rw [e, gp9] at gp10; omega
 have n_p1_p9 : p1 ≠ p9 := by have := ep1; omega
 have n_p1_p10 : p1 ≠ p10 := by have := ep1; omega
 have bp9 : w.heap.size ≤ p9 := Nat.le_trans HB.size lp9
 have bp10 : w.heap.size ≤ p10 := Nat.le_trans HB.size lp10
 clear lp9 gp9 lp10 gp10
 clear tp1
 clear ep1
 replace HB := aft_call HB (RelC.below_nil hC)
 clear hC hk hh; replace hz := hz'; replace hd := hd'; clear hz' hd'
 refine wp_seq ?_
 refine wp_seq ?_
 refine region_text (M := []) (
  rT (tV (.int .i64 1)) ::
  rT (tV (.bool false)) ::
  []) hz hd (by kernel_rfl) ?_ ?_
 refine ⟨?_, ?_, trivial⟩
 exact zMv hz (sv S4)
 exact sBin rfl rfl rfl hz rfl (Gd.none_ rfl) rfl (sd 0 rfl) kc (fun w => by simp [go_sem])
 intro a' γ' W' hz' hd' hC hk hh
 have tp1 := Cp1.lt
 replace Cp1 := kC hC Cp1
 have tp9 := Cp9.lt
 replace Cp9 := kC hC Cp9
 have tp10 := Cp10.lt
 replace Cp10 := kC hC Cp10
 replace S2 := kp hk S2
 replace S3 := kp hk S3
 replace S4 := kp hk S4
 replace S6 := kp hk S6
 replace S7 := kp hk S7
 have S47 := gotV hz' 1 hh rfl rfl rfl rfl
 clear tp1 tp9 tp10
 replace HB := aft_call HB (RelC.below_nil hC)
 clear hC hk hh; replace hz := hz'; replace hd := hd'; clear hz' hd'
 refine wp_cond_false S47.ev ?_
 refine region_text (M := [p10]) (
  rT (tN B32 2 1) ::
  rT (tV (.int .i64 1)) ::
  rT (tV (.int .i64 1074)) ::
  rT (tN B32 67 (1 * 2 ^ 1074)) ::
  rE 0 33 (tN B32 67 (1 * 2 ^ 1074)) p10 ::
  []) hz hd (by kernel_rfl) ?_ ?_
 refine ⟨?_, ?_, ?_, ?_, ?_, trivial⟩
 exact sLoadM rfl rfl rfl hz rfl (Gd.none_ rfl) rfl (sv S7) Cp10 (k := 0) (by simp [tagOf]) (by kernel_rfl) ld_n32
 exact zMv hz (sv S4)
 exact sBin rfl rfl rfl hz rfl (Gd.none_ rfl) rfl kc (sd 1 rfl) (fun w => by kernel_rfl)
 exact zC2 hz Try.func36 (sd 0 rfl) (sd 2 rfl) (k01 (fun _ _ h0 => d_left1 (k := 1074) h0 (by decide) (by omega)))
 exact zSE rfl (sv S7) (by simp [tagOf]) (Cp10.var tN_nd) (sd 3 rfl) st_n32
 intro a' γ' W' hz' hd' hC hk hh
 have tp1 := Cp1.lt
 replace Cp1 := kC hC Cp1 (by simp [tagOf, n_p1_p10])
 have tp9 := Cp9.lt
 replace Cp9 := kC hC Cp9 (by simp [tagOf, n_p9_p10])
 replace Cp10 := gotE (T := tN B32 67 (1 * 2 ^ 1074)) (id := 33) (p := p10) 4 hh rfl rfl
 replace S2 := kp hk S2
 replace S3 := kp hk S3
 clear S4
 replace S6 := kp hk S6
 replace S7 := kp hk S7
 clear S47
 clear tp1 tp9
 replace HB := RelC.aftM HB hC (by intro m hm; simp at hm; rcases hm with rfl <;> assumption)
 clear hC hk hh; replace hz := hz'; replace hd := hd'; clear hz' hd'
 refine wp_seq ?_
 refine region_text (M := [p1]) (
  rT (tN B32 2 (ma u)) ::
  rT (tN B32 67 (1 * 2 ^ 1074)) ::
  rT (tT [tQ B32 l (mkRat (((ma u : Nat) : Int)) (1 * 2 ^ 1074)), tV (.bool (decide (1 * 2 ^ 1074 ≠ 0)))]) ::
  rT (tQ B32 l (mkRat (((ma u : Nat) : Int)) (1 * 2 ^ 1074))) ::
  rT (tV (.bool (decide (1 * 2 ^ 1074 ≠ 0)))) ::
  rE 0 35 (tQ B32 l (mkRat (((ma u : Nat) : Int)) (1 * 2 ^ 1074))) p1 ::
  rT (tV (.bool (decide (1 * 2 ^ 1074 ≠ 0)))) ::
  []) hz hd (by kernel_rfl) ?_ ?_
 refine ⟨?_, ?_, ?_, ?_, ?_, ?_, ?_, trivial⟩
 exact zLd hz (sv S6) Cp9 ld_n32 (by simp [tagOf, n_p9_p1])
 exact zLd hz (sv S7) Cp10 ld_n32 (by simp [tagOf, n_p10_p1])
 exact zC2 hz Try.func37 (sd 0 rfl) (sd 1 rfl) (fun _ _ _ h0 h1 => dq_from (l := l) h0 h1 (by decide) (by decide) (fb_1 (by omega)) (fr_p (n := 1074) (by omega)) (by omega))
 exact zExt hz (sd 2 rfl)
 exact zExt hz (sd 2 rfl)
 exact zSE rfl (sv S2) (by simp [tagOf]) (Cp1.var tR_nd) (sd 3 rfl) st_q32
 exact zAs hz (sd 4 rfl)
 intro a' γ' W' hz' hd' hC hk hh
 replace Cp1 := gotE (T := tQ B32 l (mkRat (((ma u : Nat) : Int)) (1 * 2 ^ 1074))) (id := 35) (p := p1) 5 hh rfl rfl
 have tp9 := Cp9.lt
 clear Cp9
 have tp10 := Cp10.lt
 clear Cp10
 replace S2 := kp hk S2
 clear S3
 clear S6
 clear S7
 have S3 := gotV hz' 6 hh rfl rfl rfl rfl
 clear tp9 tp10
 replace HB := RelC.aftM HB hC (by intro m hm; simp at hm; rcases hm with rfl <;> assumption)
 clear hC hk hh; replace hz := hz'; replace hd := hd'; clear hz' hd'
 refine wp_ret ?_
 refine ret_to (T := tT [tQ B32 l (mkRat (((ma u : Nat) : Int)) (1 * 2 ^ 1074)), tV (.bool (decide (1 * 2 ^ 1074 ≠ 0)))]) (retct_q32 (by kernel_rfl) S2 S3 hd Cp1 HB) ?_
 exact to2 (tQ_to (by decide) (rt_v0 hc8 (by rw [rt_iff hu]; omega)).symm (Nat.le_refl _)) (tV_to (by rw [decide_eq_true (show RtOk u by rw [rt_iff hu]; omega), decide_eq_true (fr_ne 1074)]))
 rw [decide_eq_false hc8] at S40
 refine wp_cond_false S40.ev ?_
 refine region_text (M := []) (
  rT (tV (.int .u64 ((ma u : Nat) : Int))) ::
  rT (tV (.int .u64 ((ma u + 4503599627370496 : Nat) : Int))) ::
  rT (tV (.int .u64 ((ma u + 4503599627370496 : Nat) : Int))) ::
  []) hz hd (by kernel_rfl) ?_ ?_
 refine ⟨?_, ?_, ?_, trivial⟩
 exact zMv hz (sv S5)
 exact sBin rfl rfl rfl hz rfl (Gd.none_ rfl) rfl (sd 0 rfl) kc (fun w => f_or w)
 exact zAs hz (sd 1 rfl)
 intro a' γ' W' hz' hd' hC hk hh
 have tp1 := Cp1.lt
 replace Cp1 := kC hC Cp1
 replace S2 := kp hk S2
 replace S3 := kp hk S3
 replace S4 := kp hk S4
 clear S5
 clear S40
 have S5 := gotV hz' 2 hh rfl rfl rfl rfl
 clear tp1
 replace HB := aft_call HB (RelC.below_nil hC)
 clear hC hk hh; replace hz := hz'; replace hd := hd'; clear hz' hd'
 refine wp_seq ?_
 refine region_text (M := []) (
  rT (tV (.int .u64 ((ma u + 4503599627370496 : Nat) : Int))) ::
  rT (tN B32 2 (ma u + 4503599627370496)) ::
  rT (tN B32 2 1) ::
  rVar 3 33 1 ::
  rVar 4 33 1 ::
  rB 3 33 (tN B32 2 (ma u + 4503599627370496)) (some 3) 4 ::
  rB 4 33 (tN B32 2 1) (some 4) 5 ::
  []) hz hd (by kernel_rfl) ?_ ?_
 refine ⟨?_, ?_, ?_, ?_, ?_, ?_, ?_, trivial⟩
 exact zMv hz (sv S5)
 exact zC1 hz Try.func21 (sd 0 rfl) (k1 (fun _ => d_of (by unfold B64; omega)))
 exact zC1 hz Try.func21 (kc (v := .int .u64 1)) (k1 (fun _ => d_of (by decide)))
 exact zAl hz nd_slice al_n32
 exact zAl hz nd_slice al_n32
 exact zSt (sd 1 rfl) st_n32
 exact zSt (sd 2 rfl) st_n32
 intro a' γ' W' hz' hd' hC hk hh
 have ep1 := Cp1.lt
 have tp1 := Cp1.lt
 replace Cp1 := kC hC Cp1
 replace S2 := kp hk S2
 replace S3 := kp hk S3
 replace S4 := kp hk S4
 clear S5
 obtain ⟨p11, S6, Cp11, lp11, gp11⟩ := gotB hz' 5 hC hh rfl rfl rfl rfl rfl rfl
 obtain ⟨p12, S7, Cp12, lp12, gp12⟩ := gotB hz' 6 hC hh rfl rfl rfl rfl rfl rfl
 have n_p11_p1 : p11 ≠ p1 := by omega
 have n_p11_p12 : p11 ≠ p12 := by intro e; rw [e, gp12] at gp11; omega
 have n_p12_p1 : p12 ≠ p1 := by omega
 have n_p12_p11 : p12 ≠ p11 := by intro e; rw [e, gp11] at gp12; omega
 have n_p1_p11 : p1 ≠ p11 := by have := ep1; omega
 have n_p1_p12 : p1 ≠ p12 := by have := ep1; omega
 have bp11 : w.heap.size ≤ p11 := Nat.le_trans HB.size lp11
 have bp12 : w.heap.size ≤ p12 := Nat.le_trans HB.size lp12
 clear lp11 gp11 lp12 gp12
 clear tp1
 clear ep1
 replace HB := aft_call HB (RelC.below_nil hC)
 clear hC hk hh; replace hz := hz'; replace hd := hd'; clear hz' hd'
 refine wp_seq ?_
 refine wp_seq ?_
 refine region_text (M := []) (
  rT (tV (.int .i64 ((ex u : Nat) : Int))) ::
  rT (tV (.bool (decide (((ex u : Nat) : Int) ≥ 1075)))) ::
  []) hz hd (by kernel_rfl) ?_ ?_
 refine ⟨?_, ?_, trivial⟩
 exact zMv hz (sv S4)
 exact sBin rfl rfl rfl hz rfl (Gd.none_ rfl) rfl (sd 0 rfl) kc (fun w => run_geq)
 intro a' γ' W' hz' hd' hC hk hh
 have tp1 := Cp1.lt
 replace Cp1 := kC hC Cp1
 have tp11 := Cp11.lt
 replace Cp11 := kC hC Cp11
 have tp12 := Cp12.lt
 replace Cp12 := kC hC Cp12
 replace S2 := kp hk S2
 replace S3 := kp hk S3
 replace S4 := kp hk S4
 replace S6 := kp hk S6
 replace S7 := kp hk S7
 have S47 := gotV hz' 1 hh rfl rfl rfl rfl
 clear tp1 tp11 tp12
 replace HB := aft_call HB (RelC.below_nil hC)
 clear hC hk hh; replace hz := hz'; replace hd := hd'; clear hz' hd'
 by_cases hc13 : ((ex u : Nat) : Int) ≥ 1075
 omega
 rw [decide_eq_false hc13] at S47
 refine wp_cond_false S47.ev ?_
 refine region_text (M := [p12]) (
  rT (tN B32 2 1) ::
  rT (tV (.int .i64 ((ex u : Nat) : Int))) ::
  rT (tV (.int .i64 ((1075 - ex u : Nat) : Int))) ::
  rT (tN B32 67 (1 * 2 ^ ((1075 - ex u)))) ::
  rE 0 33 (tN B32 67 (1 * 2 ^ ((1075 - ex u)))) p12 ::
  []) hz hd (by kernel_rfl) ?_ ?_
 refine ⟨?_, ?_, ?_, ?_, ?_, trivial⟩
 exact sLoadM rfl rfl rfl hz rfl (Gd.none_ rfl) rfl (sv S7) Cp12 (k := 0) (by simp [tagOf]) (by kernel_rfl) ld_n32
 exact zMv hz (sv S4)
 exact sBin rfl rfl rfl hz rfl (Gd.none_ rfl) rfl kc (sd 1 rfl) (fun w => f_sub1 (by omega) w)
 exact zC2 hz Try.func36 (sd 0 rfl) (sd 2 rfl) (k01 (fun _ _ h0 => d_left1 (k := (1075 - ex u)) h0 (by decide) (by omega)))
 exact zSE rfl (sv S7) (by simp [tagOf]) (Cp12.var tN_nd) (sd 3 rfl) st_n32
 intro a' γ' W' hz' hd' hC hk hh
 have tp1 := Cp1.lt
 replace Cp1 := kC hC Cp1 (by simp [tagOf, n_p1_p12])
 have tp11 := Cp11.lt
 replace Cp11 := kC hC Cp11 (by simp [tagOf, n_p11_p12])
 replace Cp12 := gotE (T := tN B32 67 (1 * 2 ^ ((1075 - ex u)))) (id := 33) (p := p12) 4 hh rfl rfl
 replace S2 := kp hk S2
 replace S3 := kp hk S3
 clear S4
 replace S6 := kp hk S6
 replace S7 := kp hk S7
 clear S47
 clear tp1 tp11
 replace HB := RelC.aftM HB hC (by intro m hm; simp at hm; rcases hm with rfl <;> assumption)
 clear hC hk hh; replace hz := hz'; replace hd := hd'; clear hz' hd'
 refine wp_seq ?_
 refine region_text (M := [p1]) (
  rT (tN B32 2 (ma u + 4503599627370496)) ::
  rT (tN B32 67 (1 * 2 ^ ((1075 - ex u)))) ::
  rT (tT [tQ B32 l (mkRat (((ma u + 4503599627370496 : Nat) : Int)) (1 * 2 ^ ((1075 - ex u)))), tV (.bool (decide (1 * 2 ^ ((1075 - ex u)) ≠ 0)))]) ::
  rT (tQ B32 l (mkRat (((ma u + 4503599627370496 : Nat) : Int)) (1 * 2 ^ ((1075 - ex u))))) ::
  rT (tV (.bool (decide (1 * 2 ^ ((1075 - ex u)) ≠ 0)))) ::
  rE 0 35 (tQ B32 l (mkRat (((ma u + 4503599627370496 : Nat) : Int)) (1 * 2 ^ ((1075 - ex u))))) p1 ::
  rT (tV (.bool (decide (1 * 2 ^ ((1075 - ex u)) ≠ 0)))) ::
  []) hz hd (by kernel_rfl) ?_ ?_
 refine ⟨?_, ?_, ?_, ?_, ?_, ?_, ?_, trivial⟩
 exact zLd hz (sv S6) Cp11 ld_n32 (by simp [tagOf, n_p11_p1])
 exact zLd hz (sv S7) Cp12 ld_n32 (by simp [tagOf, n_p12_p1])
 exact zC2 hz Try.func37 (sd 0 rfl) (sd 1 rfl) (fun _ _ _ h0 h1 => dq_from (l := l) h0 h1 (by decide) (by decide) (fb_2 (by omega)) (fr_p (n := (1075 - ex u)) (by omega)) (by omega))
 exact zExt hz (sd 2 rfl)
 exact zExt hz (sd 2 rfl)
 exact zSE rfl (sv S2) (by simp [tagOf]) (Cp1.var tR_nd) (sd 3 rfl) st_q32
 exact zAs hz (sd 4 rfl)
 intro a' γ' W' hz' hd' hC hk hh
 replace Cp1 := gotE (T := tQ B32 l (mkRat (((ma u + 4503599627370496 : Nat) : Int)) (1 * 2 ^ ((1075 - ex u))))) (id := 35) (p := p1) 5 hh rfl rfl
 have tp11 := Cp11.lt
 clear Cp11
 have tp12 := Cp12.lt
 clear Cp12
 replace S2 := kp hk S2
 clear S3
 clear S6
 clear S7
 have S3 := gotV hz' 6 hh rfl rfl rfl rfl
 clear tp11 tp12
 replace HB := RelC.aftM HB hC (by intro m hm; simp at hm; rcases hm with rfl <;> assumption)
 clear hC hk hh; replace hz := hz'; replace hd := hd'; clear hz' hd'
 refine wp_ret ?_
 refine ret_to (T := tT [tQ B32 l (mkRat (((ma u + 4503599627370496 : Nat) : Int)) (1 * 2 ^ ((1075 - ex u)))), tV (.bool (decide (1 * 2 ^ ((1075 - ex u)) ≠ 0)))]) (retct_q32 (by kernel_rfl) S2 S3 hd Cp1 HB) ?_
 exact to2 (tQ_to (by decide) (rt_v1 hc8 (by omega) (by rw [rt_iff hu]; omega)).symm (Nat.le_refl _)) (tV_to (by rw [decide_eq_true (show RtOk u by rw [rt_iff hu]; omega), decide_eq_true (fr_ne (1075 - ex u))]))
 refine region_text (M := []) (
  rT (tV (.int .i64 ((ex u : Nat) : Int))) ::
  rT (tV (.bool false)) ::
  rT (tV (.bool false)) ::
  rT (tV (.int .u64 (u : Int))) ::
  rT (tV (.int .u64 ((u / 9223372036854775808 : Nat) : Int))) ::
  rT (tV (.bool true)) ::
  rT (tV (.bool true)) ::
  rT (tV (.int .u64 (u : Int))) ::
  rT (tV (.int .u64 ((u * 2 % 18446744073709551616 : Nat) : Int))) ::
  rT (tV (.bool false)) ::
  rT (tV (.bool false)) ::
  rT (tV (.bool false)) ::
  rT (tV (.bool false)) ::
  rT (tV (.int .i64 ((ex u : Nat) : Int))) ::
  rT (tV (.bool false)) ::
  rT (tV (.bool false)) ::
  rT (tV (.bool false)) ::
  rT (tV (.int .i64 ((ex u : Nat) : Int))) ::
  rT (tV (.bool false)) ::
  rT (tV (.bool false)) ::
  rT (tV undef) ::
  rT (tV undef) ::
  rT (tV (.bool false)) ::
  rT (tV (.bool false)) ::
  []) hz hd (by kernel_rfl) ?_ ?_
 refine ⟨?_, ?_, ?_, ?_, ?_, ?_, ?_, ?_, ?_, ?_, ?_, ?_, ?_, ?_, ?_, ?_, ?_, ?_, ?_, ?_, ?_, ?_, ?_, ?_, trivial⟩
 exact zMv hz (sv S4)
 exact sBin rfl rfl rfl hz rfl (Gd.none_ rfl) rfl (sd 0 rfl) kc (fun w => run_f (P := ((ex u : Nat) : Int) = 2047) ((fun w => run_eql) w) hc2)
 exact zMv hz (sd 1 rfl)
 exact zMv hz (sv S0) (g := gT 2 rfl)
 exact sBin rfl rfl rfl hz rfl (gT 2 rfl) rfl (sd 3 rfl) kc (fun w => f_shr63 w)
 exact sBin rfl rfl rfl hz rfl (gT 2 rfl) rfl (sd 4 rfl) kc (fun w => run_t (P := ((u / 9223372036854775808 : Nat) : Int) = 1) ((fun w => run_eqlu) w) hc3)
 exact zMv hz (sd 5 rfl) (g := gT 2 rfl)
 exact zMv hz (sv S0) (g := gT 6 rfl)
 exact sBin rfl rfl rfl hz rfl (gT 6 rfl) rfl (sd 7 rfl) kc (fun w => f_shl1 w)
 exact sBin rfl rfl rfl hz rfl (gT 6 rfl) rfl (sd 8 rfl) kc (fun w => run_f (P := ((u * 2 % 18446744073709551616 : Nat) : Int) ≠ 0) ((fun w => run_nequ) w) hc4)
 exact zPT hz (sd 6 rfl) (sd 9 rfl) (g := gT 2 rfl)
 exact zPF hz (sd 2 rfl) (sd 10 rfl)
 exact zMv hz (sd 11 rfl)
 exact zMv hz (sv S4) (g := gT 12 rfl)
 exact sBin rfl rfl rfl hz rfl (gT 12 rfl) rfl (sd 13 rfl) kc (fun w => run_f (P := ((ex u : Nat) : Int) > 1043) ((fun w => run_gtr) w) hc5)
 exact zPF hz (sd 12 rfl) (sd 14 rfl)
 exact zMv hz (sd 15 rfl)
 exact zMv hz (sv S4) (g := gT 16 rfl)
 exact sBin rfl rfl rfl hz rfl (gT 16 rfl) rfl (sd 17 rfl) kc (fun w => run_f (P := ((ex u : Nat) : Int) = 1043) ((fun w => run_eql) w) hc6)
 exact zMv hz (sd 18 rfl) (g := gT 16 rfl)
 exact zSkU hz (gN 19 rfl)
 exact zSkU hz (gN 19 rfl)
 exact zPF hz (sd 19 rfl) kc (g := gT 16 rfl)
 exact zPF hz (sd 16 rfl) (sd 22 rfl)
 intro a' γ' W' hz' hd' hC hk hh
 have tp1 := Cp1.lt
 replace Cp1 := kC hC Cp1
 clear S0
 replace S2 := kp hk S2
 replace S3 := kp hk S3
 replace S4 := kp hk S4
 replace S5 := kp hk S5
 have S37 := gotV hz' 23 hh rfl rfl rfl rfl
 clear tp1
 replace HB := aft_call HB (RelC.below_nil hC)
 clear hC hk hh; replace hz := hz'; replace hd := hd'; clear hz' hd'
 refine wp_cond_false S37.ev ?_
 refine wp_skip ?_
 refine wp_seq ?_
 refine wp_seq ?_
 refine region_text (M := []) (
  rT (tV (.int .i64 ((ex u : Nat) : Int))) ::
  rT (tV (.bool (decide (((ex u : Nat) : Int) = 0)))) ::
  []) hz hd (by kernel_rfl) ?_ ?_
 refine ⟨?_, ?_, trivial⟩
 exact zMv hz (sv S4)
 exact sBin rfl rfl rfl hz rfl (Gd.none_ rfl) rfl (sd 0 rfl) kc (fun w => run_eql)
 intro a' γ' W' hz' hd' hC hk hh
 have tp1 := Cp1.lt
 replace Cp1 := kC hC Cp1
 replace S2 := kp hk S2
 replace S3 := kp hk S3
 replace S4 := kp hk S4
 replace S5 := kp hk S5
 clear S37
 have S40 := gotV hz' 1 hh rfl rfl rfl rfl
 clear tp1
 replace HB := aft_call HB (RelC.below_nil hC)
 clear hC hk hh; replace hz := hz'; replace hd := hd'; clear hz' hd'
 by_cases hc14 : ((ex u : Nat) : Int) = 0
 rw [decide_eq_true hc14] at S40
 refine wp_cond_true S40.ev ?_
 refine region_text (M := []) (
  rT (tV (.int .i64 1)) ::
  []) hz hd (by kernel_rfl) ?_ ?_
 refine ⟨?_, trivial⟩
 exact zAs hz kc
 intro a' γ' W' hz' hd' hC hk hh
 have tp1 := Cp1.lt
 replace Cp1 := kC hC Cp1
 replace S2 := kp hk S2
 replace S3 := kp hk S3
 clear S4
 replace S5 := kp hk S5
 clear S40
 have S4 := gotV hz' 0 hh rfl rfl rfl rfl
 clear tp1
 replace HB := aft_call HB (RelC.below_nil hC)
 clear hC hk hh; replace hz := hz'; replace hd := hd'; clear hz' hd'
 refine wp_seq ?_
 refine region_text (M := []) (
  rT (tV (.int .u64 ((ma u : Nat) : Int))) ::
  rT (tN B32 2 (ma u)) ::
  rT (tN B32 2 1) ::
  rVar 3 33 1 ::
  rVar 4 33 1 ::
  rB 3 33 (tN B32 2 (ma u)) (some 3) 4 ::
  rB 4 33 (tN B32 2 1) (some 4) 5 ::
  []) hz hd (by kernel_rfl) ?_ ?_
 refine ⟨?_, ?_, ?_, ?_, ?_, ?_, ?_, trivial⟩
 exact zMv hz (sv S5)
 exact zC1 hz Try.func21 (sd 0 rfl) (k1 (fun _ => d_of (by unfold B64; omega)))
 exact zC1 hz Try.func21 (kc (v := .int .u64 1)) (k1 (fun _ => d_of (by decide)))
 exact zAl hz nd_slice al_n32
 exact zAl hz nd_slice al_n32
 exact zSt (sd 1 rfl) st_n32
 exact zSt (sd 2 rfl) st_n32
 intro a' γ' W' hz' hd' hC hk hh
 have ep1 := Cp1.lt
 have tp1 := Cp1.lt
 replace Cp1 := kC hC Cp1
 replace S2 := kp hk S2
 replace S3 := kp hk S3
 clear S5
 replace S4 := kp hk S4
 obtain ⟨p15, S6, Cp15, lp15, gp15⟩ := gotB hz' 5 hC hh rfl rfl rfl rfl rfl rfl
 obtain ⟨p16, S7, Cp16, lp16, gp16⟩ := gotB hz' 6 hC hh rfl rfl rfl rfl rfl rfl
 have n_p15_p1 : p15 ≠ p1 := by omega
 have n_p15_p16 : p15 ≠ p16 := by intro e; rw [e, gp16] at gp15; omega
 have n_p16_p1 : p16 ≠ p1 := by omega
 have n_p16_p15 : p16 ≠ p15 := by intro e; rw [e, gp15] at gp16; omega
 have n_p1_p15 : p1 ≠ p15 := by have := ep1; omega
 have n_p1_p16 : p1 ≠ p16 := by have := ep1; omega
 have bp15 : w.heap.size ≤ p15 := Nat.le_trans HB.size lp15
 have bp16 : w.heap.size ≤ p16 := Nat.le_trans HB.size lp16
 clear lp15 gp15 lp16 gp16
 clear tp1
 clear ep1
 replace HB := aft_call HB (RelC.below_nil hC)
 clear hC hk hh; replace hz := hz'; replace hd := hd'; clear hz' hd'
 refine wp_seq ?_
 refine wp_seq ?_
 refine region_text (M := []) (
  rT (tV (.int .i64 1)) ::
  rT (tV (.bool false)) ::
  []) hz hd (by kernel_rfl) ?_ ?_
 refine ⟨?_, ?_, trivial⟩
 exact zMv hz (sv S4)
 exact sBin rfl rfl rfl hz rfl (Gd.none_ rfl) rfl (sd 0 rfl) kc (fun w => by simp [go_sem])
 intro a' γ' W' hz' hd' hC hk hh
 have tp1 := Cp1.lt
 replace Cp1 := kC hC Cp1
 have tp15 := Cp15.lt
 replace Cp15 := kC hC Cp15
 have tp16 := Cp16.lt
 replace Cp16 := kC hC Cp16
 replace S2 := kp hk S2
 replace S3 := kp hk S3
 replace S4 := kp hk S4
 replace S6 := kp hk S6
 replace S7 := kp hk S7
 have S47 := gotV hz' 1 hh rfl rfl rfl rfl
 clear tp1 tp15 tp16
 replace HB := aft_call HB (RelC.below_nil hC)
 clear hC hk hh; replace hz := hz'; replace hd := hd'; clear hz' hd'
 refine wp_cond_false S47.ev ?_
 refine region_text (M := [p16]) (
  rT (tN B32 2 1) ::
  rT (tV (.int .i64 1)) ::
  rT (tV (.int .i64 1074)) ::
  rT (tN B32 67 (1 * 2 ^ 1074)) ::
  rE 0 33 (tN B32 67 (1 * 2 ^ 1074)) p16 ::
  []) hz hd (by kernel_rfl) ?_ ?_
 refine ⟨?_, ?_, ?_, ?_, ?_, trivial⟩
 exact sLoadM rfl rfl rfl hz rfl (Gd.none_ rfl) rfl (sv S7) Cp16 (k := 0) (by simp [tagOf]) (by kernel_rfl) ld_n32
 exact zMv hz (sv S4)
 exact sBin rfl rfl rfl hz rfl (Gd.none_ rfl) rfl kc (sd 1 rfl) (fun w => by kernel_rfl)
 exact zC2 hz Try.func36 (sd 0 rfl) (sd 2 rfl) (k01 (fun _ _ h0 => d_left1 (k := 1074) h0 (by decide) (by omega)))
 exact zSE rfl (sv S7) (by simp [tagOf]) (Cp16.var tN_nd) (sd 3 rfl) st_n32
 intro a' γ' W' hz' hd' hC hk hh
 have tp1 := Cp1.lt
 replace Cp1 := kC hC Cp1 (by simp [tagOf, n_p1_p16])
 have tp15 := Cp15.lt
 replace Cp15 := kC hC Cp15 (by simp [tagOf, n_p15_p16])
 replace Cp16 := gotE (T := tN B32 67 (1 * 2 ^ 1074)) (id := 33) (p := p16) 4 hh rfl rfl
 replace S2 := kp hk S2
 replace S3 := kp hk S3
 clear S4
 replace S6 := kp hk S6
 replace S7 := kp hk S7
 clear S47
 clear tp1 tp15
 replace HB := RelC.aftM HB hC (by intro m hm; simp at hm; rcases hm with rfl <;> assumption)
 clear hC hk hh; replace hz := hz'; replace hd := hd'; clear hz' hd'
 refine wp_seq ?_
 refine region_text (M := [p1]) (
  rT (tN B32 2 (ma u)) ::
  rT (tN B32 67 (1 * 2 ^ 1074)) ::
  rT (tT [tQ B32 l (mkRat (((ma u : Nat) : Int)) (1 * 2 ^ 1074)), tV (.bool (decide (1 * 2 ^ 1074 ≠ 0)))]) ::
  rT (tQ B32 l (mkRat (((ma u : Nat) : Int)) (1 * 2 ^ 1074))) ::
  rT (tV (.bool (decide (1 * 2 ^ 1074 ≠ 0)))) ::
  rE 0 35 (tQ B32 l (mkRat (((ma u : Nat) : Int)) (1 * 2 ^ 1074))) p1 ::
  rT (tV (.bool (decide (1 * 2 ^ 1074 ≠ 0)))) ::
  []) hz hd (by kernel_rfl) ?_ ?_
 refine ⟨?_, ?_, ?_, ?_, ?_, ?_, ?_, trivial⟩
 exact zLd hz (sv S6) Cp15 ld_n32 (by simp [tagOf, n_p15_p1])
 exact zLd hz (sv S7) Cp16 ld_n32 (by simp [tagOf, n_p16_p1])
 exact zC2 hz Try.func37 (sd 0 rfl) (sd 1 rfl) (fun _ _ _ h0 h1 => dq_from (l := l) h0 h1 (by decide) (by decide) (fb_1 (by omega)) (fr_p (n := 1074) (by omega)) (by omega))
 exact zExt hz (sd 2 rfl)
 exact zExt hz (sd 2 rfl)
 exact zSE rfl (sv S2) (by simp [tagOf]) (Cp1.var tR_nd) (sd 3 rfl) st_q32
 exact zAs hz (sd 4 rfl)
 intro a' γ' W' hz' hd' hC hk hh
 replace Cp1 := gotE (T := tQ B32 l (mkRat (((ma u : Nat) : Int)) (1 * 2 ^ 1074))) (id := 35) (p := p1) 5 hh rfl rfl
 have tp15 := Cp15.lt
 clear Cp15
 have tp16 := Cp16.lt
 clear Cp16
 replace S2 := kp hk S2
 clear S3
 clear S6
 clear S7
 have S3 := gotV hz' 6 hh rfl rfl rfl rfl
 clear tp15 tp16
 replace HB := RelC.aftM HB hC (by intro m hm; simp at hm; rcases hm with rfl <;> assumption)
 clear hC hk hh; replace hz := hz'; replace hd := hd'; clear hz' hd'
 refine wp_ret ?_
 refine ret_to (T := tT [tQ B32 l (mkRat (((ma u : Nat) : Int)) (1 * 2 ^ 1074)), tV (.bool (decide (1 * 2 ^ 1074 ≠ 0)))]) (retct_q32 (by kernel_rfl) S2 S3 hd Cp1 HB) ?_
 exact to2 (tQ_to (by decide) (rt_v0 hc14 (by rw [rt_iff hu]; omega)).symm (Nat.le_refl _)) (tV_to (by rw [decide_eq_true (show RtOk u by rw [rt_iff hu]; omega), decide_eq_true (fr_ne 1074)]))
 rw [decide_eq_false hc14] at S40
 refine wp_cond_false S40.ev ?_
 refine region_text (M := []) (
  rT (tV (.int .u64 ((ma u : Nat) : Int))) ::
  rT (tV (.int .u64 ((ma u + 4503599627370496 : Nat) : Int))) ::
  rT (tV (.int .u64 ((ma u + 4503599627370496 : Nat) : Int))) ::
  []) hz hd (by kernel_rfl) ?_ ?_
 refine ⟨?_, ?_, ?_, trivial⟩
 exact zMv hz (sv S5)
 exact sBin rfl rfl rfl hz rfl (Gd.none_ rfl) rfl (sd 0 rfl) kc (fun w => f_or w)
 exact zAs hz (sd 1 rfl)
 intro a' γ' W' hz' hd' hC hk hh
 have tp1 := Cp1.lt
 replace Cp1 := kC hC Cp1
 replace S2 := kp hk S2
 replace S3 := kp hk S3
 replace S4 := kp hk S4
 clear S5
 clear S40
 have S5 := gotV hz' 2 hh rfl rfl rfl rfl
 clear tp1
 replace HB := aft_call HB (RelC.below_nil hC)
 clear hC hk hh; replace hz := hz'; replace hd := hd'; clear hz' hd'
 refine wp_seq ?_
 refine region_text (M := []) (
  rT (tV (.int .u64 ((ma u + 4503599627370496 : Nat) : Int))) ::
  rT (tN B32 2 (ma u + 4503599627370496)) ::
  rT (tN B32 2 1) ::
  rVar 3 33 1 ::
  rVar 4 33 1 ::
  rB 3 33 (tN B32 2 (ma u + 4503599627370496)) (some 3) 4 ::
  rB 4 33 (tN B32 2 1) (some 4) 5 ::
  []) hz hd (by kernel_rfl) ?_ ?_
 refine ⟨?_, ?_, ?_, ?_, ?_, ?_, ?_, trivial⟩
 exact zMv hz (sv S5)
 exact zC1 hz Try.func21 (sd 0 rfl) (k1 (fun _ => d_of (by unfold B64; omega)))
 exact zC1 hz Try.func21 (kc (v := .int .u64 1)) (k1 (fun _ => d_of (by decide)))
 exact zAl hz nd_slice al_n32
 exact zAl hz nd_slice al_n32
 exact zSt (sd 1 rfl) st_n32
 exact zSt (sd 2 rfl) st_n32
 intro a' γ' W' hz' hd' hC hk hh
 have ep1 := Cp1.lt
 have tp1 := Cp1.lt
 replace Cp1 := kC hC Cp1
 replace S2 := kp hk S2
 replace S3 := kp hk S3
 replace S4 := kp hk S4
 clear S5
 obtain ⟨p17, S6, Cp17, lp17, gp17⟩ := gotB hz' 5 hC hh rfl rfl rfl rfl rfl rfl
 obtain ⟨p18, S7, Cp18, lp18, gp18⟩ := gotB hz' 6 hC hh rfl rfl rfl rfl rfl rfl
 have n_p17_p1 : p17 ≠ p1 := by omega
 have n_p17_p18 : p17 ≠ p18 := by intro e; rw [e, gp18] at gp17; omega
 have n_p18_p1 : p18 ≠ p1 := by omega
 have n_p18_p17 : p18 ≠ p17 := by intro e; rw [e, gp17] at gp18; omega
 have n_p1_p17 : p1 ≠ p17 := by have := ep1; omega
 have n_p1_p18 : p1 ≠ p18 := by have := ep1; omega
 have bp17 : w.heap.size ≤ p17 := Nat.le_trans HB.size lp17
 have bp18 : w.heap.size ≤ p18 := Nat.le_trans HB.size lp18
 clear lp17 gp17 lp18 gp18
 clear tp1
 clear ep1
 replace HB := aft_call HB (RelC.below_nil hC)
 clear hC hk hh; replace hz := hz'; replace hd := hd'; clear hz' hd'
 refine wp_seq ?_
 refine wp_seq ?_
 refine region_text (M := []) (
  rT (tV (.int .i64 ((ex u : Nat) : Int))) ::
  rT (tV (.bool (decide (((ex u : Nat) : Int) ≥ 1075)))) ::
  []) hz hd (by kernel_rfl) ?_ ?_
 refine ⟨?_, ?_, trivial⟩
 exact zMv hz (sv S4)
 exact sBin rfl rfl rfl hz rfl (Gd.none_ rfl) rfl (sd 0 rfl) kc (fun w => run_geq)
 intro a' γ' W' hz' hd' hC hk hh
 have tp1 := Cp1.lt
 replace Cp1 := kC hC Cp1
 have tp17 := Cp17.lt
 replace Cp17 := kC hC Cp17
 have tp18 := Cp18.lt
 replace Cp18 := kC hC Cp18
 replace S2 := kp hk S2
 replace S3 := kp hk S3
 replace S4 := kp hk S4
 replace S6 := kp hk S6
 replace S7 := kp hk S7
 have S47 := gotV hz' 1 hh rfl rfl rfl rfl
 clear tp1 tp17 tp18
 replace HB := aft_call HB (RelC.below_nil hC)
 clear hC hk hh; replace hz := hz'; replace hd := hd'; clear hz' hd'
 by_cases hc19 : ((ex u : Nat) : Int) ≥ 1075
 omega
 rw [decide_eq_false hc19] at S47
 refine wp_cond_false S47.ev ?_
 refine region_text (M := [p18]) (
  rT (tN B32 2 1) ::
  rT (tV (.int .i64 ((ex u : Nat) : Int))) ::
  rT (tV (.int .i64 ((1075 - ex u : Nat) : Int))) ::
  rT (tN B32 67 (1 * 2 ^ ((1075 - ex u)))) ::
  rE 0 33 (tN B32 67 (1 * 2 ^ ((1075 - ex u)))) p18 ::
  []) hz hd (by kernel_rfl) ?_ ?_
 refine ⟨?_, ?_, ?_, ?_, ?_, trivial⟩
 exact sLoadM rfl rfl rfl hz rfl (Gd.none_ rfl) rfl (sv S7) Cp18 (k := 0) (by simp [tagOf]) (by kernel_rfl) ld_n32
 exact zMv hz (sv S4)
 exact sBin rfl rfl rfl hz rfl (Gd.none_ rfl) rfl kc (sd 1 rfl) (fun w => f_sub1 (by omega) w)
 exact zC2 hz Try.func36 (sd 0 rfl) (sd 2 rfl) (k01 (fun _ _ h0 => d_left1 (k := (1075 - ex u)) h0 (by decide) (by omega)))
 exact zSE rfl (sv S7) (by simp [tagOf]) (Cp18.var tN_nd) (sd 3 rfl) st_n32
 intro a' γ' W' hz' hd' hC hk hh
 have tp1 := Cp1.lt
 replace Cp1 := kC hC Cp1 (by simp [tagOf, n_p1_p18])
 have tp17 := Cp17.lt
 replace Cp17 := kC hC Cp17 (by simp [tagOf, n_p17_p18])
 replace Cp18 := gotE (T := tN B32 67 (1 * 2 ^ ((1075 - ex u)))) (id := 33) (p := p18) 4 hh rfl rfl
 replace S2 := kp hk S2
 replace S3 := kp hk S3
 clear S4
 replace S6 := kp hk S6
 replace S7 := kp hk S7
 clear S47
 clear tp1 tp17
 replace HB := RelC.aftM HB hC (by intro m hm; simp at hm; rcases hm with rfl <;> assumption)
 clear hC hk hh; replace hz := hz'; replace hd := hd'; clear hz' hd'
 refine wp_seq ?_
 refine region_text (M := [p1]) (
  rT (tN B32 2 (ma u + 4503599627370496)) ::
  rT (tN B32 67 (1 * 2 ^ ((1075 - ex u)))) ::
  rT (tT [tQ B32 l (mkRat (((ma u + 4503599627370496 : Nat) : Int)) (1 * 2 ^ ((1075 - ex u)))), tV (.bool (decide (1 * 2 ^ ((1075 - ex u)) ≠ 0)))]) ::
  rT (tQ B32 l (mkRat (((ma u + 4503599627370496 : Nat) : Int)) (1 * 2 ^ ((1075 - ex u))))) ::
  rT (tV (.bool (decide (1 * 2 ^ ((1075 - ex u)) ≠ 0)))) ::
  rE 0 35 (tQ B32 l (mkRat (((ma u + 4503599627370496 : Nat) : Int)) (1 * 2 ^ ((1075 - ex u))))) p1 ::
  rT (tV (.bool (decide (1 * 2 ^ ((1075 - ex u)) ≠ 0)))) ::
  []) hz hd (by kernel_rfl) ?_ ?_
 refine ⟨?_, ?_, ?_, ?_, ?_, ?_, ?_, trivial⟩
 exact zLd hz (sv S6) Cp17 ld_n32 (by simp [tagOf, n_p17_p1])
 exact zLd hz (sv S7) Cp18 ld_n32 (by simp [tagOf, n_p18_p1])
 exact zC2 hz Try.func37 (sd 0 rfl) (sd 1 rfl) (fun _ _ _ h0 h1 => dq_from (l := l) h0 h1 (by decide) (by decide) (fb_2 (by omega)) (fr_p (n := (1075 - ex u)) (by omega)) (by omega))
 exact zExt hz (sd 2 rfl)
 exact zExt hz (sd 2 rfl)
 exact zSE rfl (sv S2) (by simp [tagOf]) (Cp1.var tR_nd) (sd 3 rfl) st_q32
 exact zAs hz (sd 4 rfl)
 intro a' γ' W' hz' hd' hC hk hh
 replace Cp1 := gotE (T := tQ B32 l (mkRat (((ma u + 4503599627370496 : Nat) : Int)) (1 * 2 ^ ((1075 - ex u))))) (id := 35) (p := p1) 5 hh rfl rfl
 have tp17 := Cp17.lt
 clear Cp17
 have tp18 := Cp18.lt
 clear Cp18
 replace S2 := kp hk S2
 clear S3
 clear S6
 clear S7
 have S3 := gotV hz' 6 hh rfl rfl rfl rfl
 clear tp17 tp18
 replace HB := RelC.aftM HB hC (by intro m hm; simp at hm; rcases hm with rfl <;> assumption)
 clear hC hk hh; replace hz := hz'; replace hd := hd'; clear hz' hd'
 refine wp_ret ?_
 refine ret_to (T := tT [tQ B32 l (mkRat (((ma u + 4503599627370496 : Nat) : Int)) (1 * 2 ^ ((1075 - ex u)))), tV (.bool (decide (1 * 2 ^ ((1075 - ex u)) ≠ 0)))]) (retct_q32 (by kernel_rfl) S2 S3 hd Cp1 HB) ?_
 exact to2 (tQ_to (by decide) (rt_v1 hc14 (by omega) (by rw [rt_iff hu]; omega)).symm (Nat.le_refl _)) (tV_to (by rw [decide_eq_true (show RtOk u by rw [rt_iff hu]; omega), decide_eq_true (fr_ne (1075 - ex u))]))
 by_cases hc20 : ((ex u : Nat) : Int) > 1043
 refine region_text (M := []) (
  rT (tV (.int .i64 ((ex u : Nat) : Int))) ::
  rT (tV (.bool false)) ::
  rT (tV (.bool false)) ::
  rT (tV (.int .u64 (u : Int))) ::
  rT (tV (.int .u64 ((u / 9223372036854775808 : Nat) : Int))) ::
  rT (tV (.bool false)) ::
  rT (tV (.bool false)) ::
  rT (tV undef) ::
  rT (tV undef) ::
  rT (tV undef) ::
  rT (tV (.bool false)) ::
  rT (tV (.bool false)) ::
  rT (tV (.bool false)) ::
  rT (tV (.int .i64 ((ex u : Nat) : Int))) ::
  rT (tV (.bool true)) ::
  rT (tV (.bool true)) ::
  rT (tV (.bool true)) ::
  rT (tV undef) ::
  rT (tV undef) ::
  rT (tV undef) ::
  rT (tV undef) ::
  rT (tV undef) ::
  rT (tV undef) ::
  rT (tV (.bool true)) ::
  []) hz hd (by kernel_rfl) ?_ ?_
 refine ⟨?_, ?_, ?_, ?_, ?_, ?_, ?_, ?_, ?_, ?_, ?_, ?_, ?_, ?_, ?_, ?_, ?_, ?_, ?_, ?_, ?_, ?_, ?_, ?_, trivial⟩
 exact zMv hz (sv S4)
 exact sBin rfl rfl rfl hz rfl (Gd.none_ rfl) rfl (sd 0 rfl) kc (fun w => run_f (P := ((ex u : Nat) : Int) = 2047) ((fun w => run_eql) w) hc2)
 exact zMv hz (sd 1 rfl)
 exact zMv hz (sv S0) (g := gT 2 rfl)
 exact sBin rfl rfl rfl hz rfl (gT 2 rfl) rfl (sd 3 rfl) kc (fun w => f_shr63 w)
 exact sBin rfl rfl rfl hz rfl (gT 2 rfl) rfl (sd 4 rfl) kc (fun w => run_f (P := ((u / 9223372036854775808 : Nat) : Int) = 1) ((fun w => run_eqlu) w) hc3)
 exact zMv hz (sd 5 rfl) (g := gT 2 rfl)
 exact zSkU hz (gN 6 rfl)
 exact zSkU hz (gN 6 rfl)
 exact zSkU hz (gN 6 rfl)
 exact zPF hz (sd 6 rfl) kc (g := gT 2 rfl)
 exact zPF hz (sd 2 rfl) (sd 10 rfl)
 exact zMv hz (sd 11 rfl)
 exact zMv hz (sv S4) (g := gT 12 rfl)
 exact sBin rfl rfl rfl hz rfl (gT 12 rfl) rfl (sd 13 rfl) kc (fun w => run_t (P := ((ex u : Nat) : Int) > 1043) ((fun w => run_gtr) w) hc20)
 exact zPF hz (sd 12 rfl) (sd 14 rfl)
 exact zMv hz (sd 15 rfl)
 exact zSkU hz (gN 16 rfl)
 exact zSkU hz (gN 16 rfl)
 exact zSkU hz (gN 16 rfl)
 exact zSkU hz (gU 19 rfl)
 exact zSkU hz (gU 19 rfl)
 exact zSkU hz (gN 16 rfl)
 exact zPT hz (sd 16 rfl) kc
 intro a' γ' W' hz' hd' hC hk hh
 have tp1 := Cp1.lt
 replace Cp1 := kC hC Cp1
 clear S0
 replace S2 := kp hk S2
 replace S3 := kp hk S3
 replace S4 := kp hk S4
 replace S5 := kp hk S5
 have S37 := gotV hz' 23 hh rfl rfl rfl rfl
 clear tp1
 replace HB := aft_call HB (RelC.below_nil hC)
 clear hC hk hh; replace hz := hz'; replace hd := hd'; clear hz' hd'
 refine wp_cond_true S37.ev ?_
 refine wp_seq ?_
 refine region_text (M := [p1]) (
  rT (tQ B32 1 0) ::
  rE 0 35 (tQ B32 1 0) p1 ::
  rT (tV (.bool false)) ::
  []) hz hd (by kernel_rfl) ?_ ?_
 refine ⟨?_, ?_, ?_, trivial⟩
 exact zC0 hz Try.func35 (fun _ => dq_zero)
 exact zSE rfl (sv S2) (by simp [tagOf]) (Cp1.var tR_nd) (sd 0 rfl) st_q32
 exact zAs hz kc
 intro a' γ' W' hz' hd' hC hk hh
 replace Cp1 := gotE (T := tQ B32 1 0) (id := 35) (p := p1) 1 hh rfl rfl
 replace S2 := kp hk S2
 clear S3
 replace S4 := kp hk S4
 replace S5 := kp hk S5
 clear S37
 have S3 := gotV hz' 2 hh rfl rfl rfl rfl
 replace HB := RelC.aftM HB hC (by intro m hm; simp at hm; rcases hm with rfl <;> assumption)
 clear hC hk hh; replace hz := hz'; replace hd := hd'; clear hz' hd'
 refine wp_ret ?_
 refine ret_to (T := tT [tQ B32 1 0, tV (.bool false)]) (retct_q32 (by kernel_rfl) S2 S3 hd Cp1 HB) ?_
 exact to2 (tQ_to (by decide) (by unfold rtQ; rw [if_neg (by rw [rt_iff hu]; omega)]) (by omega)) (tV_to (by rw [decide_eq_false (by rw [rt_iff hu]; omega)]))
 by_cases hc21 : ((ex u : Nat) : Int) = 1043
 refine region_text (M := []) (
  rT (tV (.int .i64 ((ex u : Nat) : Int))) ::
  rT (tV (.bool false)) ::
  rT (tV (.bool false)) ::
  rT (tV (.int .u64 (u : Int))) ::
  rT (tV (.int .u64 ((u / 9223372036854775808 : Nat) : Int))) ::
  rT (tV (.bool false)) ::
  rT (tV (.bool false)) ::
  rT (tV undef) ::
  rT (tV undef) ::
  rT (tV undef) ::
  rT (tV (.bool false)) ::
  rT (tV (.bool false)) ::
  rT (tV (.bool false)) ::
  rT (tV (.int .i64 ((ex u : Nat) : Int))) ::
  rT (tV (.bool false)) ::
  rT (tV (.bool false)) ::
  rT (tV (.bool false)) ::
  rT (tV (.int .i64 ((ex u : Nat) : Int))) ::
  rT (tV (.bool true)) ::
  rT (tV (.bool true)) ::
  rT (tV (.int .u64 ((ma u : Nat) : Int))) ::
  rT (tV (.bool (decide (((ma u : Nat) : Int) > 0)))) ::
  rT (tV (.bool (decide (((ma u : Nat) : Int) > 0)))) ::
  rT (tV (.bool (decide (((ma u : Nat) : Int) > 0)))) ::
  []) hz hd (by kernel_rfl) ?_ ?_
 refine ⟨?_, ?_, ?_, ?_, ?_, ?_, ?_, ?_, ?_, ?_, ?_, ?_, ?_, ?_, ?_, ?_, ?_, ?_, ?_, ?_, ?_, ?_, ?_, ?_, trivial⟩
 exact zMv hz (sv S4)
 exact sBin rfl rfl rfl hz rfl (Gd.none_ rfl) rfl (sd 0 rfl) kc (fun w => run_f (P := ((ex u : Nat) : Int) = 2047) ((fun w => run_eql) w) hc2)
 exact zMv hz (sd 1 rfl)
 exact zMv hz (sv S0) (g := gT 2 rfl)
 exact sBin rfl rfl rfl hz rfl (gT 2 rfl) rfl (sd 3 rfl) kc (fun w => f_shr63 w)
 exact sBin rfl rfl rfl hz rfl (gT 2 rfl) rfl (sd 4 rfl) kc (fun w => run_f (P := ((u / 9223372036854775808 : Nat) : Int) = 1) ((fun w => run_eqlu) w) hc3)
 exact zMv hz (sd 5 rfl) (g := gT 2 rfl)
 exact zSkU hz (gN 6 rfl)
 exact zSkU hz (gN 6 rfl)
 exact zSkU hz (gN 6 rfl)
 exact zPF hz (sd 6 rfl) kc (g := gT 2 rfl)
 exact zPF hz (sd 2 rfl) (sd 10 rfl)
 exact zMv hz (sd 11 rfl)
 exact zMv hz (sv S4) (g := gT 12 rfl)
 exact sBin rfl rfl rfl hz rfl (gT 12 rfl) rfl (sd 13 rfl) kc (fun w => run_f (P := ((ex u : Nat) : Int) > 1043) ((fun w => run_gtr) w) hc20)
 exact zPF hz (sd 12 rfl) (sd 14 rfl)
 exact zMv hz (sd 15 rfl)
 exact zMv hz (sv S4) (g := gT 16 rfl)
 exact sBin rfl rfl rfl hz rfl (gT 16 rfl) rfl (sd 17 rfl) kc (fun w => run_t (P := ((ex u : Nat) : Int) = 1043) ((fun w => run_eql) w) hc21)
 exact zMv hz (sd 18 rfl) (g := gT 16 rfl)
 exact zMv hz (sv S5) (g := gT 19 rfl)
 exact sBin rfl rfl rfl hz rfl (gT 19 rfl) rfl (sd 20 rfl) kc (fun w => run_gtru)
 exact zPT hz (sd 19 rfl) (sd 21 rfl) (g := gT 16 rfl)
 exact zPF hz (sd 16 rfl) (sd 22 rfl)
 intro a' γ' W' hz' hd' hC hk hh
 have tp1 := Cp1.lt
 replace Cp1 := kC hC Cp1
 clear S0
 replace S2 := kp hk S2
 replace S3 := kp hk S3
 replace S4 := kp hk S4
 replace S5 := kp hk S5
 have S37 := gotV hz' 23 hh rfl rfl rfl rfl
 clear tp1
 replace HB := aft_call HB (RelC.below_nil hC)
 clear hC hk hh; replace hz := hz'; replace hd := hd'; clear hz' hd'
 by_cases hc22 : ((ma u : Nat) : Int) > 0
 rw [decide_eq_true hc22] at S37
 refine wp_cond_true S37.ev ?_
 refine wp_seq ?_
 refine region_text (M := [p1]) (
  rT (tQ B32 1 0) ::
  rE 0 35 (tQ B32 1 0) p1 ::
  rT (tV (.bool false)) ::
  []) hz hd (by kernel_rfl) ?_ ?_
 refine ⟨?_, ?_, ?_, trivial⟩
 exact zC0 hz Try.func35 (fun _ => dq_zero)
 exact zSE rfl (sv S2) (by simp [tagOf]) (Cp1.var tR_nd) (sd 0 rfl) st_q32
 exact zAs hz kc
 intro a' γ' W' hz' hd' hC hk hh
 replace Cp1 := gotE (T := tQ B32 1 0) (id := 35) (p := p1) 1 hh rfl rfl
 replace S2 := kp hk S2
 clear S3
 replace S4 := kp hk S4
 replace S5 := kp hk S5
 clear S37
 have S3 := gotV hz' 2 hh rfl rfl rfl rfl
 replace HB := RelC.aftM HB hC (by intro m hm; simp at hm; rcases hm with rfl <;> assumption)
 clear hC hk hh; replace hz := hz'; replace hd := hd'; clear hz' hd'
 refine wp_ret ?_
 refine ret_to (T := tT [tQ B32 1 0, tV (.bool false)]) (retct_q32 (by kernel_rfl) S2 S3 hd Cp1 HB) ?_
 exact to2 (tQ_to (by decide) (by unfold rtQ; rw [if_neg (by rw [rt_iff hu]; omega)]) (by omega)) (tV_to (by rw [decide_eq_false (by rw [rt_iff hu]; omega)]))
 rw [decide_eq_false hc22] at S37
 refine wp_cond_false S37.ev ?_
 refine wp_skip ?_
 refine wp_seq ?_
 refine wp_seq ?_
 refine region_text (M := []) (
  rT (tV (.int .i64 ((ex u : Nat) : Int))) ::
  rT (tV (.bool (decide (((ex u : Nat) : Int) = 0)))) ::
  []) hz hd (by kernel_rfl) ?_ ?_
 refine ⟨?_, ?_, trivial⟩
 exact zMv hz (sv S4)
 exact sBin rfl rfl rfl hz rfl (Gd.none_ rfl) rfl (sd 0 rfl) kc (fun w => run_eql)
 intro a' γ' W' hz' hd' hC hk hh
 have tp1 := Cp1.lt
 replace Cp1 := kC hC Cp1
 replace S2 := kp hk S2
 replace S3 := kp hk S3
 replace S4 := kp hk S4
 replace S5 := kp hk S5
 clear S37
 have S40 := gotV hz' 1 hh rfl rfl rfl rfl
 clear tp1
 replace HB := aft_call HB (RelC.below_nil hC)
 clear hC hk hh; replace hz := hz'; replace hd := hd'; clear hz' hd'
 by_cases hc23 : ((ex u : Nat) : Int) = 0
 rw [decide_eq_true hc23] at S40
 refine wp_cond_true S40.ev ?_
 refine region_text (M := []) (
  rT (tV (.int .i64 1)) ::
  []) hz hd (by kernel_rfl) ?_ ?_
 refine ⟨?_, trivial⟩
 exact zAs hz kc
 intro a' γ' W' hz' hd' hC hk hh
 have tp1 := Cp1.lt
 replace Cp1 := kC hC Cp1
 replace S2 := kp hk S2
 replace S3 := kp hk S3
 clear S4
 replace S5 := kp hk S5
 clear S40
 have S4 := gotV hz' 0 hh rfl rfl rfl rfl
 clear tp1
 replace HB := aft_call HB (RelC.below_nil hC)
 clear hC hk hh; replace hz := hz'; replace hd := hd'; clear hz' hd'
 refine wp_seq ?_
 refine region_text (M := []) (
  rT (tV (.int .u64 ((ma u : Nat) : Int))) ::
  rT (tN B32 2 (ma u)) ::
  rT (tN B32 2 1) ::
  rVar 3 33 1 ::
  rVar 4 33 1 ::
  rB 3 33 (tN B32 2 (ma u)) (some 3) 4 ::
  rB 4 33 (tN B32 2 1) (some 4) 5 ::
  []) hz hd (by kernel_rfl) ?_ ?_
 refine ⟨?_, ?_, ?_, ?_, ?_, ?_, ?_, trivial⟩
 exact zMv hz (sv S5)
 exact zC1 hz Try.func21 (sd 0 rfl) (k1 (fun _ => d_of (by unfold B64; omega)))
 exact zC1 hz Try.func21 (kc (v := .int .u64 1)) (k1 (fun _ => d_of (by decide)))
 exact zAl hz nd_slice al_n32
 exact zAl hz nd_slice al_n32
 exact zSt (sd 1 rfl) st_n32
 exact zSt (sd 2 rfl) st_n32
 intro a' γ' W' hz' hd' hC hk hh
 have ep1 := Cp1.lt
 have tp1 := Cp1.lt
 replace Cp1 := kC hC Cp1
 replace S2 := kp hk S2
 replace S3 := kp hk S3
 clear S5
 replace S4 := kp hk S4
 obtain ⟨p24, S6, Cp24, lp24, gp24⟩ := gotB hz' 5 hC hh rfl rfl rfl rfl rfl rfl
 obtain ⟨p25, S7, Cp25, lp25, gp25⟩ := gotB hz' 6 hC hh rfl rfl rfl rfl rfl rfl
 have n_p24_p1 : p24 ≠ p1 := by omega
 have n_p24_p25 : p24 ≠ p25 := by intro e; rw [e, gp25] at gp24; omega
 have n_p25_p1 : p25 ≠ p1 := by omega
 have n_p25_p24 : p25 ≠ p24 := by intro e; rw [e, gp24] at gp25; omega
 have n_p1_p24 : p1 ≠ p24 := by have := ep1; omega
 have n_p1_p25 : p1 ≠ p25 := by have := ep1; omega
 have bp24 : w.heap.size ≤ p24 := Nat.le_trans HB.size lp24
 have bp25 : w.heap.size ≤ p25 := Nat.le_trans HB.size lp25
 clear lp24 gp24 lp25 gp25
 clear tp1
 clear ep1
 replace HB := aft_call HB (RelC.below_nil hC)
 clear hC hk hh; replace hz := hz'; replace hd := hd'; clear hz' hd'
 refine wp_seq ?_
 refine wp_seq ?_
 refine region_text (M := []) (
  rT (tV (.int .i64 1)) ::
  rT (tV (.bool false)) ::
  []) hz hd (by kernel_rfl) ?_ ?_
 refine ⟨?_, ?_, trivial⟩
 exact zMv hz (sv S4)
 exact sBin rfl rfl rfl hz rfl (Gd.none_ rfl) rfl (sd 0 rfl) kc (fun w => by simp [go_sem])
 intro a' γ' W' hz' hd' hC hk hh
 have tp1 := Cp1.lt
 replace Cp1 := kC hC Cp1
 have tp24 := Cp24.lt
 replace Cp24 := kC hC Cp24
 have tp25 := Cp25.lt
 replace Cp25 := kC hC Cp25
 replace S2 := kp hk S2
 replace S3 := kp hk S3
 replace S4 := kp hk S4
 replace S6 := kp hk S6
 replace S7 := kp hk S7
 have S47 := gotV hz' 1 hh rfl rfl rfl rfl
 clear tp1 tp24 tp25
 replace HB := aft_call HB (RelC.below_nil hC)
 clear hC hk hh; replace hz := hz'; replace hd := hd'; clear hz' hd'
 refine wp_cond_false S47.ev ?_
 refine region_text (M := [p25]) (
  rT (tN B32 2 1) ::
  rT (tV (.int .i64 1)) ::
  rT (tV (.int .i64 1074)) ::
  rT (tN B32 67 (1 * 2 ^ 1074)) ::
  rE 0 33 (tN B32 67 (1 * 2 ^ 1074)) p25 ::
  []) hz hd (by kernel_rfl) ?_ ?_
 refine ⟨?_, ?_, ?_, ?_, ?_, trivial⟩
 exact sLoadM rfl rfl rfl hz rfl (Gd.none_ rfl) rfl (sv S7) Cp25 (k := 0) (by simp [tagOf]) (by kernel_rfl) ld_n32
 exact zMv hz (sv S4)
 exact sBin rfl rfl rfl hz rfl (Gd.none_ rfl) rfl kc (sd 1 rfl) (fun w => by kernel_rfl)
 exact zC2 hz Try.func36 (sd 0 rfl) (sd 2 rfl) (k01 (fun _ _ h0 => d_left1 (k := 1074) h0 (by decide) (by omega)))
 exact zSE rfl (sv S7) (by simp [tagOf]) (Cp25.var tN_nd) (sd 3 rfl) st_n32
 intro a' γ' W' hz' hd' hC hk hh
 have tp1 := Cp1.lt
 replace Cp1 := kC hC Cp1 (by simp [tagOf, n_p1_p25])
 have tp24 := Cp24.lt
 replace Cp24 := kC hC Cp24 (by simp [tagOf, n_p24_p25])
 replace Cp25 := gotE (T := tN B32 67 (1 * 2 ^ 1074)) (id := 33) (p := p25) 4 hh rfl rfl
 replace S2 := kp hk S2
 replace S3 := kp hk S3
 clear S4
 replace S6 := kp hk S6
 replace S7 := kp hk S7
 clear S47
 clear tp1 tp24
 replace HB := RelC.aftM HB hC (by intro m hm; simp at hm; rcases hm with rfl <;> assumption)
 clear hC hk hh; replace hz := hz'; replace hd := hd'; clear hz' hd'
 refine wp_seq ?_
 refine region_text (M := [p1]) (
  rT (tN B32 2 (ma u)) ::
  rT (tN B32 67 (1 * 2 ^ 1074)) ::
  rT (tT [tQ B32 l (mkRat (((ma u : Nat) : Int)) (1 * 2 ^ 1074)), tV (.bool (decide (1 * 2 ^ 1074 ≠ 0)))]) ::
  rT (tQ B32 l (mkRat (((ma u : Nat) : Int)) (1 * 2 ^ 1074))) ::
  rT (tV (.bool (decide (1 * 2 ^ 1074 ≠ 0)))) ::
  rE 0 35 (tQ B32 l (mkRat (((ma u : Nat) : Int)) (1 * 2 ^ 1074))) p1 ::
  rT (tV (.bool (decide (1 * 2 ^ 1074 ≠ 0)))) ::
  []) hz hd (by kernel_rfl) ?_ ?_
 refine ⟨?_, ?_, ?_, ?_, ?_, ?_, ?_, trivial⟩
 exact zLd hz (sv S6) Cp24 ld_n32 (by simp [tagOf, n_p24_p1])
 exact zLd hz (sv S7) Cp25 ld_n32 (by simp [tagOf, n_p25_p1])
 exact zC2 hz Try.func37 (sd 0 rfl) (sd 1 rfl) (fun _ _ _ h0 h1 => dq_from (l := l) h0 h1 (by decide) (by decide) (fb_1 (by omega)) (fr_p (n := 1074) (by omega)) (by omega))
 exact zExt hz (sd 2 rfl)
 exact zExt hz (sd 2 rfl)
 exact zSE rfl (sv S2) (by simp [tagOf]) (Cp1.var tR_nd) (sd 3 rfl) st_q32
 exact zAs hz (sd 4 rfl)
 intro a' γ' W' hz' hd' hC hk hh
 replace Cp1 := gotE (T := tQ B32 l (mkRat (((ma u : Nat) : Int)) (1 * 2 ^ 1074))) (id := 35) (p := p1) 5 hh rfl rfl
 have tp24 := Cp24.lt
 clear Cp24
 have tp25 := Cp25.lt
 clear Cp25
 replace S2 := kp hk S2
 clear S3
 clear S6
 clear S7
 have S3 := gotV hz' 6 hh rfl rfl rfl rfl
 clear tp24 tp25
 replace HB := RelC.aftM HB hC (by intro m hm; simp at hm; rcases hm with rfl <;> assumption)
 clear hC hk hh; replace hz := hz'; replace hd := hd'; clear hz' hd'
 refine wp_ret ?_
 refine ret_to (T := tT [tQ B32 l (mkRat (((ma u : Nat) : Int)) (1 * 2 ^ 1074)), tV (.bool (decide (1 * 2 ^ 1074 ≠ 0)))]) (retct_q32 (by kernel_rfl) S2 S3 hd Cp1 HB) ?_
 exact to2 (tQ_to (by decide) (rt_v0 hc23 (by rw [rt_iff hu]; omega)).symm (Nat.le_refl _)) (tV_to (by rw [decide_eq_true (show RtOk u by rw [rt_iff hu]; omega), decide_eq_true (fr_ne 1074)]))
 rw [decide_eq_false hc23] at S40
 refine wp_cond_false S40.ev ?_
 refine region_text (M := []) (
  rT (tV (.int .u64 ((ma u : Nat) : Int))) ::
  rT (tV (.int .u64 ((ma u + 4503599627370496 : Nat) : Int))) ::
  rT (tV (.int .u64 ((ma u + 4503599627370496 : Nat) : Int))) ::
  []) hz hd (by kernel_rfl) ?_ ?_
 refine ⟨?_, ?_, ?_, trivial⟩
 exact zMv hz (sv S5)
 exact sBin rfl rfl rfl hz rfl (Gd.none_ rfl) rfl (sd 0 rfl) kc (fun w => f_or w)
 exact zAs hz (sd 1 rfl)
 intro a' γ' W' hz' hd' hC hk hh
 have tp1 := Cp1.lt
 replace Cp1 := kC hC Cp1
 replace S2 := kp hk S2
 replace S3 := kp hk S3
 replace S4 := kp hk S4
 clear S5
 clear S40
 have S5 := gotV hz' 2 hh rfl rfl rfl rfl
 clear tp1
 replace HB := aft_call HB (RelC.below_nil hC)
 clear hC hk hh; replace hz := hz'; replace hd := hd'; clear hz' hd'
 refine wp_seq ?_
 refine region_text (M := []) (
  rT (tV (.int .u64 ((ma u + 4503599627370496 : Nat) : Int))) ::
  rT (tN B32 2 (ma u + 4503599627370496)) ::
  rT (tN B32 2 1) ::
  rVar 3 33 1 ::
  rVar 4 33 1 ::
  rB 3 33 (tN B32 2 (ma u + 4503599627370496)) (some 3) 4 ::
  rB 4 33 (tN B32 2 1) (some 4) 5 ::
  []) hz hd (by kernel_rfl) ?_ ?_
 refine ⟨?_, ?_, ?_, ?_, ?_, ?_, ?_, trivial⟩
 exact zMv hz (sv S5)
 exact zC1 hz Try.func21 (sd 0 rfl) (k1 (fun _ => d_of (by unfold B64; omega)))
 exact zC1 hz Try.func21 (kc (v := .int .u64 1)) (k1 (fun _ => d_of (by decide)))
 exact zAl hz nd_slice al_n32
 exact zAl hz nd_slice al_n32
 exact zSt (sd 1 rfl) st_n32
 exact zSt (sd 2 rfl) st_n32
 intro a' γ' W' hz' hd' hC hk hh
 have ep1 := Cp1.lt
 have tp1 := Cp1.lt
 replace Cp1 := kC hC Cp1
 replace S2 := kp hk S2
 replace S3 := kp hk S3
 replace S4 := kp hk S4
 clear S5
 obtain ⟨p26, S6, Cp26, lp26, gp26⟩ := gotB hz' 5 hC hh rfl rfl rfl rfl rfl rfl
 obtain ⟨p27, S7, Cp27, lp27, gp27⟩ := gotB hz' 6 hC hh rfl rfl rfl rfl rfl rfl
 have n_p26_p1 : p26 ≠ p1 := by omega
 have n_p26_p27 : p26 ≠ p27 := by intro e; rw [e, gp27] at gp26; omega
 have n_p27_p1 : p27 ≠ p1 := by omega
 have n_p27_p26 : p27 ≠ p26 := by intro e; rw [e, gp26] at gp27; omega
 have n_p1_p26 : p1 ≠ p26 := by have := ep1; omega
 have n_p1_p27 : p1 ≠ p27 := by have := ep1; omega
 have bp26 : w.heap.size ≤ p26 := Nat.le_trans HB.size lp26
 have bp27 : w.heap.size ≤ p27 := Nat.le_trans HB.size lp27
 clear lp26 gp26 lp27 gp27
 clear tp1
 clear ep1
 replace HB := aft_call HB (RelC.below_nil hC)
 clear hC hk hh; replace hz := hz'; replace hd := hd'; clear hz' hd'
 refine wp_seq ?_
 refine wp_seq ?_
 refine region_text (M := []) (
  rT (tV (.int .i64 ((ex u : Nat) : Int))) ::
  rT (tV (.bool (decide (((ex u : Nat) : Int) ≥ 1075)))) ::
  []) hz hd (by kernel_rfl) ?_ ?_
 refine ⟨?_, ?_, trivial⟩
 exact zMv hz (sv S4)
 exact sBin rfl rfl rfl hz rfl (Gd.none_ rfl) rfl (sd 0 rfl) kc (fun w => run_geq)
 intro a' γ' W' hz' hd' hC hk hh
 have tp1 := Cp1.lt
 replace Cp1 := kC hC Cp1
 have tp26 := Cp26.lt
 replace Cp26 := kC hC Cp26
 have tp27 := Cp27.lt
 replace Cp27 := kC hC Cp27
 replace S2 := kp hk S2
 replace S3 := kp hk S3
 replace S4 := kp hk S4
 replace S6 := kp hk S6
 replace S7 := kp hk S7
 have S47 := gotV hz' 1 hh rfl rfl rfl rfl
 clear tp1 tp26 tp27
 replace HB := aft_call HB (RelC.below_nil hC)
 clear hC hk hh; replace hz := hz'; replace hd := hd'; clear hz' hd'
 by_cases hc28 : ((ex u : Nat) : Int) ≥ 1075
 omega
 rw [decide_eq_false hc28] at S47
 refine wp_cond_false S47.ev ?_
 refine region_text (M := [p27]) (
  rT (tN B32 2 1) ::
  rT (tV (.int .i64 ((ex u : Nat) : Int))) ::
  rT (tV (.int .i64 ((1075 - ex u : Nat) : Int))) ::
  rT (tN B32 67 (1 * 2 ^ ((1075 - ex u)))) ::
  rE 0 33 (tN B32 67 (1 * 2 ^ ((1075 - ex u)))) p27 ::
  []) hz hd (by kernel_rfl) ?_ ?_
 refine ⟨?_, ?_, ?_, ?_, ?_, trivial⟩
 exact sLoadM rfl rfl rfl hz rfl (Gd.none_ rfl) rfl (sv S7) Cp27 (k := 0) (by simp [tagOf]) (by kernel_rfl) ld_n32
 exact zMv hz (sv S4)
 exact sBin rfl rfl rfl hz rfl (Gd.none_ rfl) rfl kc (sd 1 rfl) (fun w => f_sub1 (by omega) w)
 exact zC2 hz Try.func36 (sd 0 rfl) (sd 2 rfl) (k01 (fun _ _ h0 => d_left1 (k := (1075 - ex u)) h0 (by decide) (by omega)))
 exact zSE rfl (sv S7) (by simp [tagOf]) (Cp27.var tN_nd) (sd 3 rfl) st_n32
 intro a' γ' W' hz' hd' hC hk hh
 have tp1 := Cp1.lt
 replace Cp1 := kC hC Cp1 (by simp [tagOf, n_p1_p27])
 have tp26 := Cp26.lt
 replace Cp26 := kC hC Cp26 (by simp [tagOf, n_p26_p27])
 replace Cp27 := gotE (T := tN B32 67 (1 * 2 ^ ((1075 - ex u)))) (id := 33) (p := p27) 4 hh rfl rfl
 replace S2 := kp hk S2
 replace S3 := kp hk S3
 clear S4
 replace S6 := kp hk S6
 replace S7 := kp hk S7
 clear S47
 clear tp1 tp26
 replace HB := RelC.aftM HB hC (by intro m hm; simp at hm; rcases hm with rfl <;> assumption)
 clear hC hk hh; replace hz := hz'; replace hd := hd'; clear hz' hd'
 refine wp_seq ?_
 refine region_text (M := [p1]) (
  rT (tN B32 2 (ma u + 4503599627370496)) ::
  rT (tN B32 67 (1 * 2 ^ ((1075 - ex u)))) ::
  rT (tT [tQ B32 l (mkRat (((ma u + 4503599627370496 : Nat) : Int)) (1 * 2 ^ ((1075 - ex u)))), tV (.bool (decide (1 * 2 ^ ((1075 - ex u)) ≠ 0)))]) ::
  rT (tQ B32 l (mkRat (((ma u + 4503599627370496 : Nat) : Int)) (1 * 2 ^ ((1075 - ex u))))) ::
  rT (tV (.bool (decide (1 * 2 ^ ((1075 - ex u)) ≠ 0)))) ::
  rE 0 35 (tQ B32 l (mkRat (((ma u + 4503599627370496 : Nat) : Int)) (1 * 2 ^ ((1075 - ex u))))) p1 ::
  rT (tV (.bool (decide (1 * 2 ^ ((1075 - ex u)) ≠ 0)))) ::
  []) hz hd (by kernel_rfl) ?_ ?_
 refine ⟨?_, ?_, ?_, ?_, ?_, ?_, ?_, trivial⟩
 exact zLd hz (sv S6) Cp26 ld_n32 (by simp [tagOf, n_p26_p1])
 exact zLd hz (sv S7) Cp27 ld_n32 (by simp [tagOf, n_p27_p1])
 exact zC2 hz Try.func37 (sd 0 rfl) (sd 1 rfl) (fun _ _ _ h0 h1 => dq_from (l := l) h0 h1 (by decide) (by decide) (fb_2 (by omega)) (fr_p (n := (1075 - ex u)) (by omega)) (by omega))
 exact zExt hz (sd 2 rfl)
 exact zExt hz (sd 2 rfl)
 exact zSE rfl (sv S2) (by simp [tagOf]) (Cp1.var tR_nd) (sd 3 rfl) st_q32
 exact zAs hz (sd 4 rfl)
 intro a' γ' W' hz' hd' hC hk hh
 replace Cp1 := gotE (T := tQ B32 l (mkRat (((ma u + 4503599627370496 : Nat) : Int)) (1 * 2 ^ ((1075 - ex u))))) (id := 35) (p := p1) 5 hh rfl rfl
 have tp26 := Cp26.lt
 clear Cp26
 have tp27 := Cp27.lt
 clear Cp27
 replace S2 := kp hk S2
 clear S3
 clear S6
 clear S7
 have S3 := gotV hz' 6 hh rfl rfl rfl rfl
 clear tp26 tp27
 replace HB := RelC.aftM HB hC (by intro m hm; simp at hm; rcases hm with rfl <;> assumption)
 clear hC hk hh; replace hz := hz'; replace hd := hd'; clear hz' hd'
 refine wp_ret ?_
 refine ret_to (T := tT [tQ B32 l (mkRat (((ma u + 4503599627370496 : Nat) : Int)) (1 * 2 ^ ((1075 - ex u)))), tV (.bool (decide (1 * 2 ^ ((1075 - ex u)) ≠ 0)))]) (retct_q32 (by kernel_rfl) S2 S3 hd Cp1 HB) ?_
 exact to2 (tQ_to (by decide) (rt_v1 hc23 (by omega) (by rw [rt_iff hu]; omega)).symm (Nat.le_refl _)) (tV_to (by rw [decide_eq_true (show RtOk u by rw [rt_iff hu]; omega), decide_eq_true (fr_ne (1075 - ex u))]))
 refine region_text (M := []) (
  rT (tV (.int .i64 ((ex u : Nat) : Int))) ::
  rT (tV (.bool false)) ::
  rT (tV (.bool false)) ::
  rT (tV (.int .u64 (u : Int))) ::
  rT (tV (.int .u64 ((u / 9223372036854775808 : Nat) : Int))) ::
  rT (tV (.bool false)) ::
  rT (tV (.bool false)) ::
  rT (tV undef) ::
  rT (tV undef) ::
  rT (tV undef) ::
  rT (tV (.bool false)) ::
  rT (tV (.bool false)) ::
  rT (tV (.bool false)) ::
  rT (tV (.int .i64 ((ex u : Nat) : Int))) ::
  rT (tV (.bool false)) ::
  rT (tV (.bool false)) ::
  rT (tV (.bool false)) ::
  rT (tV (.int .i64 ((ex u : Nat) : Int))) ::
  rT (tV (.bool false)) ::
  rT (tV (.bool false)) ::
  rT (tV undef) ::
  rT (tV undef) ::
  rT (tV (.bool false)) ::
  rT (tV (.bool false)) ::
  []) hz hd (by kernel_rfl) ?_ ?_
 refine ⟨?_, ?_, ?_, ?_, ?_, ?_, ?_, ?_, ?_, ?_, ?_, ?_, ?_, ?_, ?_, ?_, ?_, ?_, ?_, ?_, ?_, ?_, ?_, ?_, trivial⟩
 exact zMv hz (sv S4)
 exact sBin rfl rfl rfl hz rfl (Gd.none_ rfl) rfl (sd 0 rfl) kc (fun w => run_f (P := ((ex u : Nat) : Int) = 2047) ((fun w => run_eql) w) hc2)
 exact zMv hz (sd 1 rfl)
 exact zMv hz (sv S0) (g := gT 2 rfl)
 exact sBin rfl rfl rfl hz rfl (gT 2 rfl) rfl (sd 3 rfl) kc (fun w => f_shr63 w)
 exact sBin rfl rfl rfl hz rfl (gT 2 rfl) rfl (sd 4 rfl) kc (fun w => run_f (P := ((u / 9223372036854775808 : Nat) : Int) = 1) ((fun w => run_eqlu) w) hc3)
 exact zMv hz (sd 5 rfl) (g := gT 2 rfl)
 exact zSkU hz (gN 6 rfl)
 exact zSkU hz (gN 6 rfl)
 exact zSkU hz (gN 6 rfl)
 exact zPF hz (sd 6 rfl) kc (g := gT 2 rfl)
 exact zPF hz (sd 2 rfl) (sd 10 rfl)
 exact zMv hz (sd 11 rfl)
 exact zMv hz (sv S4) (g := gT 12 rfl)
 exact sBin rfl rfl rfl hz rfl (gT 12 rfl) rfl (sd 13 rfl) kc (fun w => run_f (P := ((ex u : Nat) : Int) > 1043) ((fun w => run_gtr) w) hc20)
 exact zPF hz (sd 12 rfl) (sd 14 rfl)
 exact zMv hz (sd 15 rfl)
 exact zMv hz (sv S4) (g := gT 16 rfl)
 exact sBin rfl rfl rfl hz rfl (gT 16 rfl) rfl (sd 17 rfl) kc (fun w => run_f (P := ((ex u : Nat) : Int) = 1043) ((fun w => run_eql) w) hc21)
 exact zMv hz (sd 18 rfl) (g := gT 16 rfl)
 exact zSkU hz (gN 19 rfl)
 exact zSkU hz (gN 19 rfl)
 exact zPF hz (sd 19 rfl) kc (g := gT 16 rfl)
 exact zPF hz (sd 16 rfl) (sd 22 rfl)
 intro a' γ' W' hz' hd' hC hk hh
 have tp1 := Cp1.lt
 replace Cp1 := kC hC Cp1
 clear S0
 replace S2 := kp hk S2
 replace S3 := kp hk S3
 replace S4 := kp hk S4
 replace S5 := kp hk S5
 have S37 := gotV hz' 23 hh rfl rfl rfl rfl
 clear tp1
 replace HB := aft_call HB (RelC.below_nil hC)
 clear hC hk hh; replace hz := hz'; replace hd := hd'; clear hz' hd'
 refine wp_cond_false S37.ev ?_
 refine wp_skip ?_
 refine wp_seq ?_
 refine wp_seq ?_
 refine region_text (M := []) (
  rT (tV (.int .i64 ((ex u : Nat) : Int))) ::
  rT (tV (.bool (decide (((ex u : Nat) : Int) = 0)))) ::
  []) hz hd (by kernel_rfl) ?_ ?_
 refine ⟨?_, ?_, trivial⟩
 exact zMv hz (sv S4)
 exact sBin rfl rfl rfl hz rfl (Gd.none_ rfl) rfl (sd 0 rfl) kc (fun w => run_eql)
 intro a' γ' W' hz' hd' hC hk hh
 have tp1 := Cp1.lt
 replace Cp1 := kC hC Cp1
 replace S2 := kp hk S2
 replace S3 := kp hk S3
 replace S4 := kp hk S4
 replace S5 := kp hk S5
 clear S37
 have S40 := gotV hz' 1 hh rfl rfl rfl rfl
 clear tp1
 replace HB := aft_call HB (RelC.below_nil hC)
 clear hC hk hh; replace hz := hz'; replace hd := hd'; clear hz' hd'
 by_cases hc29 : ((ex u : Nat) : Int) = 0
 rw [decide_eq_true hc29] at S40
 refine wp_cond_true S40.ev ?_
 refine region_text (M := []) (
  rT (tV (.int .i64 1)) ::
  []) hz hd (by kernel_rfl) ?_ ?_
 refine ⟨?_, trivial⟩
 exact zAs hz kc
 intro a' γ' W' hz' hd' hC hk hh
 have tp1 := Cp1.lt
 replace Cp1 := kC hC Cp1
 replace S2 := kp hk S2
 replace S3 := kp hk S3
 clear S4
 replace S5 := kp hk S5
 clear S40
 have S4 := gotV hz' 0 hh rfl rfl rfl rfl
 clear tp1
 replace HB := aft_call HB (RelC.below_nil hC)
 clear hC hk hh; replace hz := hz'; replace hd := hd'; clear hz' hd'
 refine wp_seq ?_
 refine region_text (M := []) (
  rT (tV (.int .u64 ((ma u : Nat) : Int))) ::
  rT (tN B32 2 (ma u)) ::
  rT (tN B32 2 1) ::
  rVar 3 33 1 ::
  rVar 4 33 1 ::
  rB 3 33 (tN B32 2 (ma u)) (some 3) 4 ::
  rB 4 33 (tN B32 2 1) (some 4) 5 ::
  []) hz hd (by kernel_rfl) ?_ ?_
 refine ⟨?_, ?_, ?_, ?_, ?_, ?_, ?_, trivial⟩
 exact zMv hz (sv S5)
 exact zC1 hz Try.func21 (sd 0 rfl) (k1 (fun _ => d_of (by unfold B64; omega)))
 exact zC1 hz Try.func21 (kc (v := .int .u64 1)) (k1 (fun _ => d_of (by decide)))
 exact zAl hz nd_slice al_n32
 exact zAl hz nd_slice al_n32
 exact zSt (sd 1 rfl) st_n32
 exact zSt (sd 2 rfl) st_n32
 intro a' γ' W' hz' hd' hC hk hh
 have ep1 := Cp1.lt
 have tp1 := Cp1.lt
 replace Cp1 := kC hC Cp1
 replace S2 := kp hk S2
 replace S3 := kp hk S3
 clear S5
 replace S4 := kp hk S4
 obtain ⟨p30, S6, Cp30, lp30, gp30⟩ := gotB hz' 5 hC hh rfl rfl rfl rfl rfl rfl
 obtain ⟨p31, S7, Cp31, lp31, gp31⟩ := gotB hz' 6 hC hh rfl rfl rfl rfl rfl rfl
 have n_p30_p1 : p30 ≠ p1 := by omega
 have n_p30_p31 : p30 ≠ p31 := by intro e; rw [e, gp31] at gp30; omega
 have n_p31_p1 : p31 ≠ p1 := by omega
 have n_p31_p30 : p31 ≠ p30 := by intro e; rw [e, gp30] at gp31; omega
 have n_p1_p30 : p1 ≠ p30 := by have := ep1; omega
 have n_p1_p31 : p1 ≠ p31 := by have := ep1; omega
 have bp30 : w.heap.size ≤ p30 := Nat.le_trans HB.size lp30
 have bp31 : w.heap.size ≤ p31 := Nat.le_trans HB.size lp31
 clear lp30 gp30 lp31 gp31
 clear tp1
 clear ep1
 replace HB := aft_call HB (RelC.below_nil hC)
 clear hC hk hh; replace hz := hz'; replace hd := hd'; clear hz' hd'
 refine wp_seq ?_
 refine wp_seq ?_
 refine region_text (M := []) (
  rT (tV (.int .i64 1)) ::
  rT (tV (.bool false)) ::
  []) hz hd (by kernel_rfl) ?_ ?_
 refine ⟨?_, ?_, trivial⟩
 exact zMv hz (sv S4)
 exact sBin rfl rfl rfl hz rfl (Gd.none_ rfl) rfl (sd 0 rfl) kc (fun w => by simp [go_sem])
 intro a' γ' W' hz' hd' hC hk hh
 have tp1 := Cp1.lt
 replace Cp1 := kC hC Cp1
 have tp30 := Cp30.lt
 replace Cp30 := kC hC Cp30
 have tp31 := Cp31.lt
 replace Cp31 := kC hC Cp31
 replace S2 := kp hk S2
 replace S3 := kp hk S3
 replace S4 := kp hk S4
 replace S6 := kp hk S6
 replace S7 := kp hk S7
 have S47 := gotV hz' 1 hh rfl rfl rfl rfl
 clear tp1 tp30 tp31
 replace HB := aft_call HB (RelC.below_nil hC)
 clear hC hk hh; replace hz := hz'; replace hd := hd'; clear hz' hd'
 refine wp_cond_false S47.ev ?_
 refine region_text (M := [p31]) (
  rT (tN B32 2 1) ::
  rT (tV (.int .i64 1)) ::
  rT (tV (.int .i64 1074)) ::
  rT (tN B32 67 (1 * 2 ^ 1074)) ::
  rE 0 33 (tN B32 67 (1 * 2 ^ 1074)) p31 ::
  []) hz hd (by kernel_rfl) ?_ ?_
 refine ⟨?_, ?_, ?_, ?_, ?_, trivial⟩
 exact sLoadM rfl rfl rfl hz rfl (Gd.none_ rfl) rfl (sv S7) Cp31 (k := 0) (by simp [tagOf]) (by kernel_rfl) ld_n32
 exact zMv hz (sv S4)
 exact sBin rfl rfl rfl hz rfl (Gd.none_ rfl) rfl kc (sd 1 rfl) (fun w => by kernel_rfl)
 exact zC2 hz Try.func36 (sd 0 rfl) (sd 2 rfl) (k01 (fun _ _ h0 => d_left1 (k := 1074) h0 (by decide) (by omega)))
 exact zSE rfl (sv S7) (by simp [tagOf]) (Cp31.var tN_nd) (sd 3 rfl) st_n32
 intro a' γ' W' hz' hd' hC hk hh
 have tp1 := Cp1.lt
 replace Cp1 := kC hC Cp1 (by simp [tagOf, n_p1_p31])
 have tp30 := Cp30.lt
 replace Cp30 := kC hC Cp30 (by simp [tagOf, n_p30_p31])
 replace Cp31 := gotE (T := tN B32 67 (1 * 2 ^ 1074)) (id := 33) (p := p31) 4 hh rfl rfl
 replace S2 := kp hk S2
 replace S3 := kp hk S3
 clear S4
 replace S6 := kp hk S6
 replace S7 := kp hk S7
 clear S47
 clear tp1 tp30
 replace HB := RelC.aftM HB hC (by intro m hm; simp at hm; rcases hm with rfl <;> assumption)
 clear hC hk hh; replace hz := hz'; replace hd := hd'; clear hz' hd'
 refine wp_seq ?_
 refine region_text (M := [p1]) (
  rT (tN B32 2 (ma u)) ::
  rT (tN B32 67 (1 * 2 ^ 1074)) ::
  rT (tT [tQ B32 l (mkRat (((ma u : Nat) : Int)) (1 * 2 ^ 1074)), tV (.bool (decide (1 * 2 ^ 1074 ≠ 0)))]) ::
  rT (tQ B32 l (mkRat (((ma u : Nat) : Int)) (1 * 2 ^ 1074))) ::
  rT (tV (.bool (decide (1 * 2 ^ 1074 ≠ 0)))) ::
  rE 0 35 (tQ B32 l (mkRat (((ma u : Nat) : Int)) (1 * 2 ^ 1074))) p1 ::
  rT (tV (.bool (decide (1 * 2 ^ 1074 ≠ 0)))) ::
  []) hz hd (by kernel_rfl) ?_ ?_
 refine ⟨?_, ?_, ?_, ?_, ?_, ?_, ?_, trivial⟩
 exact zLd hz (sv S6) Cp30 ld_n32 (by simp [tagOf, n_p30_p1])
 exact zLd hz (sv S7) Cp31 ld_n32 (by simp [tagOf, n_p31_p1])
 exact zC2 hz Try.func37 (sd 0 rfl) (sd 1 rfl) (fun _ _ _ h0 h1 => dq_from (l := l) h0 h1 (by decide) (by decide) (fb_1 (by omega)) (fr_p (n := 1074) (by omega)) (by omega))
 exact zExt hz (sd 2 rfl)
 exact zExt hz (sd 2 rfl)
 exact zSE rfl (sv S2) (by simp [tagOf]) (Cp1.var tR_nd) (sd 3 rfl) st_q32
 exact zAs hz (sd 4 rfl)
 intro a' γ' W' hz' hd' hC hk hh
 replace Cp1 := gotE (T := tQ B32 l (mkRat (((ma u : Nat) : Int)) (1 * 2 ^ 1074))) (id := 35) (p := p1) 5 hh rfl rfl
 have tp30 := Cp30.lt
 clear Cp30
 have tp31 := Cp31.lt
 clear Cp31
 replace S2 := kp hk S2
 clear S3
 clear S6
 clear S7
 have S3 := gotV hz' 6 hh rfl rfl rfl rfl
 clear tp30 tp31
 replace HB := RelC.aftM HB hC (by intro m hm; simp at hm; rcases hm with rfl <;> assumption)
 clear hC hk hh; replace hz := hz'; replace hd := hd'; clear hz' hd'
 refine wp_ret ?_
 refine ret_to (T := tT [tQ B32 l (mkRat (((ma u : Nat) : Int)) (1 * 2 ^ 1074)), tV (.bool (decide (1 * 2 ^ 1074 ≠ 0)))]) (retct_q32 (by kernel_rfl) S2 S3 hd Cp1 HB) ?_
 exact to2 (tQ_to (by decide) (rt_v0 hc29 (by rw [rt_iff hu]; omega)).symm (Nat.le_refl _)) (tV_to (by rw [decide_eq_true (show RtOk u by rw [rt_iff hu]; omega), decide_eq_true (fr_ne 1074)]))
 rw [decide_eq_false hc29] at S40
 refine wp_cond_false S40.ev ?_
 refine region_text (M := []) (
  rT (tV (.int .u64 ((ma u : Nat) : Int))) ::
  rT (tV (.int .u64 ((ma u + 4503599627370496 : Nat) : Int))) ::
  rT (tV (.int .u64 ((ma u + 4503599627370496 : Nat) : Int))) ::
  []) hz hd (by kernel_rfl) ?_ ?_
 refine ⟨?_, ?_, ?_, trivial⟩
 exact zMv hz (sv S5)
 exact sBin rfl rfl rfl hz rfl (Gd.none_ rfl) rfl (sd 0 rfl) kc (fun w => f_or w)
 exact zAs hz (sd 1 rfl)
 intro a' γ' W' hz' hd' hC hk hh
 have tp1 := Cp1.lt
 replace Cp1 := kC hC Cp1
 replace S2 := kp hk S2
 replace S3 := kp hk S3
 replace S4 := kp hk S4
 clear S5
 clear S40
 have S5 := gotV hz' 2 hh rfl rfl rfl rfl
 clear tp1
 replace HB := aft_call HB (RelC.below_nil hC)
 clear hC hk hh; replace hz := hz'; replace hd := hd'; clear hz' hd'
 refine wp_seq ?_
 refine region_text (M := []) (
  rT (tV (.int .u64 ((ma u + 4503599627370496 : Nat) : Int))) ::
  rT (tN B32 2 (ma u + 4503599627370496)) ::
  rT (tN B32 2 1) ::
  rVar 3 33 1 ::
  rVar 4 33 1 ::
  rB 3 33 (tN B32 2 (ma u + 4503599627370496)) (some 3) 4 ::
  rB 4 33 (tN B32 2 1) (some 4) 5 ::
  []) hz hd (by kernel_rfl) ?_ ?_
 refine ⟨?_, ?_, ?_, ?_, ?_, ?_, ?_, trivial⟩
 exact zMv hz (sv S5)
 exact zC1 hz Try.func21 (sd 0 rfl) (k1 (fun _ => d_of (by unfold B64; omega)))
 exact zC1 hz Try.func21 (kc (v := .int .u64 1)) (k1 (fun _ => d_of (by decide)))
 exact zAl hz nd_slice al_n32
 exact zAl hz nd_slice al_n32
 exact zSt (sd 1 rfl) st_n32
 exact zSt (sd 2 rfl) st_n32
 intro a' γ' W' hz' hd' hC hk hh
 have ep1 := Cp1.lt
 have tp1 := Cp1.lt
 replace Cp1 := kC hC Cp1
 replace S2 := kp hk S2
 replace S3 := kp hk S3
 replace S4 := kp hk S4
 clear S5
 obtain ⟨p32, S6, Cp32, lp32, gp32⟩ := gotB hz' 5 hC hh rfl rfl rfl rfl rfl rfl
 obtain ⟨p33, S7, Cp33, lp33, gp33⟩ := gotB hz' 6 hC hh rfl rfl rfl rfl rfl rfl
 have n_p32_p1 : p32 ≠ p1 := by omega
 have n_p32_p33 : p32 ≠ p33 := by intro e; rw [e, gp33] at gp32; omega
 have n_p33_p1 : p33 ≠ p1 := by omega
 have n_p33_p32 : p33 ≠ p32 := by intro e; rw [e, gp32] at gp33; omega
 have n_p1_p32 : p1 ≠ p32 := by have := ep1; omega
 have n_p1_p33 : p1 ≠ p33 := by have := ep1; omega
 have bp32 : w.heap.size ≤ p32 := Nat.le_trans HB.size lp32
 have bp33 : w.heap.size ≤ p33 := Nat.le_trans HB.size lp33
 clear lp32 gp32 lp33 gp33
 clear tp1
 clear ep1
 replace HB := aft_call HB (RelC.below_nil hC)
 clear hC hk hh; replace hz := hz'; replace hd := hd'; clear hz' hd'
 refine wp_seq ?_
 refine wp_seq ?_
 refine region_text (M := []) (
  rT (tV (.int .i64 ((ex u : Nat) : Int))) ::
  rT (tV (.bool (decide (((ex u : Nat) : Int) ≥ 1075)))) ::
  []) hz hd (by kernel_rfl) ?_ ?_
 refine ⟨?_, ?_, trivial⟩
 exact zMv hz (sv S4)
 exact sBin rfl rfl rfl hz rfl (Gd.none_ rfl) rfl (sd 0 rfl) kc (fun w => run_geq)
 intro a' γ' W' hz' hd' hC hk hh
 have tp1 := Cp1.lt
 replace Cp1 := kC hC Cp1
 have tp32 := Cp32.lt
 replace Cp32 := kC hC Cp32
 have tp33 := Cp33.lt
 replace Cp33 := kC hC Cp33
 replace S2 := kp hk S2
 replace S3 := kp hk S3
 replace S4 := kp hk S4
 replace S6 := kp hk S6
 replace S7 := kp hk S7
 have S47 := gotV hz' 1 hh rfl rfl rfl rfl
 clear tp1 tp32 tp33
 replace HB := aft_call HB (RelC.below_nil hC)
 clear hC hk hh; replace hz := hz'; replace hd := hd'; clear hz' hd'
 by_cases hc34 : ((ex u : Nat) : Int) ≥ 1075
 omega
 rw [decide_eq_false hc34] at S47
 refine wp_cond_false S47.ev ?_
 refine region_text (M := [p33]) (
  rT (tN B32 2 1) ::
  rT (tV (.int .i64 ((ex u : Nat) : Int))) ::
  rT (tV (.int .i64 ((1075 - ex u : Nat) : Int))) ::
  rT (tN B32 67 (1 * 2 ^ ((1075 - ex u)))) ::
  rE 0 33 (tN B32 67 (1 * 2 ^ ((1075 - ex u)))) p33 ::
  []) hz hd (by kernel_rfl) ?_ ?_
 refine ⟨?_, ?_, ?_, ?_, ?_, trivial⟩
 exact sLoadM rfl rfl rfl hz rfl (Gd.none_ rfl) rfl (sv S7) Cp33 (k := 0) (by simp [tagOf]) (by kernel_rfl) ld_n32
 exact zMv hz (sv S4)
 exact sBin rfl rfl rfl hz rfl (Gd.none_ rfl) rfl kc (sd 1 rfl) (fun w => f_sub1 (by omega) w)
 exact zC2 hz Try.func36 (sd 0 rfl) (sd 2 rfl) (k01 (fun _ _ h0 => d_left1 (k := (1075 - ex u)) h0 (by decide) (by omega)))
 exact zSE rfl (sv S7) (by simp [tagOf]) (Cp33.var tN_nd) (sd 3 rfl) st_n32
 intro a' γ' W' hz' hd' hC hk hh
 have tp1 := Cp1.lt
 replace Cp1 := kC hC Cp1 (by simp [tagOf, n_p1_p33])
 have tp32 := Cp32.lt
 replace Cp32 := kC hC Cp32 (by simp [tagOf, n_p32_p33])
 replace Cp33 := gotE (T := tN B32 67 (1 * 2 ^ ((1075 - ex u)))) (id := 33) (p := p33) 4 hh rfl rfl
 replace S2 := kp hk S2
 replace S3 := kp hk S3
 clear S4
 replace S6 := kp hk S6
 replace S7 := kp hk S7
 clear S47
 clear tp1 tp32
 replace HB := RelC.aftM HB hC (by intro m hm; simp at hm; rcases hm with rfl <;> assumption)
 clear hC hk hh; replace hz := hz'; replace hd := hd'; clear hz' hd'
 refine wp_seq ?_
 refine region_text (M := [p1]) (
  rT (tN B32 2 (ma u + 4503599627370496)) ::
  rT (tN B32 67 (1 * 2 ^ ((1075 - ex u)))) ::
  rT (tT [tQ B32 l (mkRat (((ma u + 4503599627370496 : Nat) : Int)) (1 * 2 ^ ((1075 - ex u)))), tV (.bool (decide (1 * 2 ^ ((1075 - ex u)) ≠ 0)))]) ::
  rT (tQ B32 l (mkRat (((ma u + 4503599627370496 : Nat) : Int)) (1 * 2 ^ ((1075 - ex u))))) ::
  rT (tV (.bool (decide (1 * 2 ^ ((1075 - ex u)) ≠ 0)))) ::
  rE 0 35 (tQ B32 l (mkRat (((ma u + 4503599627370496 : Nat) : Int)) (1 * 2 ^ ((1075 - ex u))))) p1 ::
  rT (tV (.bool (decide (1 * 2 ^ ((1075 - ex u)) ≠ 0)))) ::
  []) hz hd (by kernel_rfl) ?_ ?_
 refine ⟨?_, ?_, ?_, ?_, ?_, ?_, ?_, trivial⟩
 exact zLd hz (sv S6) Cp32 ld_n32 (by simp [tagOf, n_p32_p1])
 exact zLd hz (sv S7) Cp33 ld_n32 (by simp [tagOf, n_p33_p1])
 exact zC2 hz Try.func37 (sd 0 rfl) (sd 1 rfl) (fun _ _ _ h0 h1 => dq_from (l := l) h0 h1 (by decide) (by decide) (fb_2 (by omega)) (fr_p (n := (1075 - ex u)) (by omega)) (by omega))
 exact zExt hz (sd 2 rfl)
 exact zExt hz (sd 2 rfl)
 exact zSE rfl (sv S2) (by simp [tagOf]) (Cp1.var tR_nd) (sd 3 rfl) st_q32
 exact zAs hz (sd 4 rfl)
 intro a' γ' W' hz' hd' hC hk hh
 replace Cp1 := gotE (T := tQ B32 l (mkRat (((ma u + 4503599627370496 : Nat) : Int)) (1 * 2 ^ ((1075 - ex u))))) (id := 35) (p := p1) 5 hh rfl rfl
 have tp32 := Cp32.lt
 clear Cp32
 have tp33 := Cp33.lt
 clear Cp33
 replace S2 := kp hk S2
 clear S3
 clear S6
 clear S7
 have S3 := gotV hz' 6 hh rfl rfl rfl rfl
 clear tp32 tp33
 replace HB := RelC.aftM HB hC (by intro m hm; simp at hm; rcases hm with rfl <;> assumption)
 clear hC hk hh; replace hz := hz'; replace hd := hd'; clear hz' hd'
 refine wp_ret ?_
 refine ret_to (T := tT [tQ B32 l (mkRat (((ma u + 4503599627370496 : Nat) : Int)) (1 * 2 ^ ((1075 - ex u)))), tV (.bool (decide (1 * 2 ^ ((1075 - ex u)) ≠ 0)))]) (retct_q32 (by kernel_rfl) S2 S3 hd Cp1 HB) ?_
 exact to2 (tQ_to (by decide) (rt_v1 hc29 (by omega) (by rw [rt_iff hu]; omega)).symm (Nat.le_refl _)) (tV_to (by rw [decide_eq_true (show RtOk u by rw [rt_iff hu]; omega), decide_eq_true (fr_ne (1075 - ex u))]))

end Go.Proofs.Ytojpiiboikomfaa.Rg

namespace Go.Proofs.Ytojpiiboikomfaa.Rg

open Go.RowKit

set_option maxRecDepth 10000 in
set_option maxHeartbeats 2000000 in
theorem d_new_ok {l u : Nat} {bn per t : Int} {w : World} (hl : 1100 ≤ l) (hl2 : l ≤ 90000) (hu : u < 18446744073709551616) (hp : per < 9223372036854775808) (hE : newE bn u per t = 0) :
    Calls Try.prog 24 #[.int .i64 bn, .int .u64 (u : Int), .int .i64 per, .int .i64 t] w (Ret (tT [R8o (l + 65) bn t 0 (divI (flQ u) per), tV (.int .i64 0)]) w) := by
 refine enter Try.func24 rfl Try.ntmps24 (by simp) ?_
 intro a hz hd ha
 have S0 := ha 0 _ rfl
 have S1 := ha 1 _ rfl
 have S2 := ha 2 _ rfl
 have S3 := ha 3 _ rfl
 clear ha
 have HB : Below w.heap.size w w := Below.refl _ _
 obtain ⟨E1, E2, E3a, E3b, E5, E6, E7, E8⟩ := newE_inv hE
 have E3 : RtOk u := ⟨E3a, E3b⟩
 refine wp_seq ?_
 refine region_text (M := []) (
  rB 0 59 (tO [tV (.int .i64 0), tR B32 0 0 0 0, tR B32 0 0 0 0, tV (.int .i64 0)] [1, 2, 2, 1]) none 0 ::
  rT (tV (.int .i64 0)) ::
  []) hz hd (by kernel_rfl) ?_ ?_
 refine ⟨?_, ?_, trivial⟩
 exact zNew hz z_r8 al_r8
 exact zAs hz kc
 intro a' γ' W' hz' hd' hC hk hh
 replace S0 := kp hk S0
 replace S1 := kp hk S1
 replace S2 := kp hk S2
 replace S3 := kp hk S3
 obtain ⟨p1, S8, Cp1, lp1, gp1⟩ := gotB hz' 0 hC hh rfl rfl rfl rfl rfl rfl
 have S9 := gotV hz' 1 hh rfl rfl rfl rfl
 have bp1 : w.heap.size ≤ p1 := Nat.le_trans HB.size lp1
 clear lp1 gp1
 replace HB := aft_call HB (RelC.below_nil hC)
 clear hC hk hh; replace hz := hz'; replace hd := hd'; clear hz' hd'
 refine wp_seq ?_
 refine region_text (M := []) (
  rT (tV (.int .u64 (u : Int))) ::
  rT (tT [tQ B32 l (rtQ u), tV (.bool (decide (RtOk u)))]) ::
  rT (tT [tQ B32 l (rtQ u), tV (.bool (decide (RtOk u)))]) ::
  rT (tQ B32 l (rtQ u)) ::
  rT (tV (.bool (decide (RtOk u)))) ::
  rVar 5 35 2 ::
  rB 5 35 (tQ B32 l (rtQ u)) (some 5) 6 ::
  rT (tV (.bool (decide (RtOk u)))) ::
  []) hz hd (by kernel_rfl) ?_ ?_
 refine ⟨?_, ?_, ?_, ?_, ?_, ?_, ?_, ?_, trivial⟩
 exact zMv hz (sv S1)
 exact zC1 hz Try.func11 (sd 0 rfl) (k1 (fun _ => d_rate (l := l) (u := u) hu hl))
 exact zMv hz (sd 1 rfl)
 exact zExt hz (sd 2 rfl)
 exact zExt hz (sd 2 rfl)
 exact zAl hz nd_rat al_r32
 exact zSt (sd 3 rfl) st_q32
 exact zAs hz (sd 4 rfl)
 intro a' γ' W' hz' hd' hC hk hh
 have ep1 := Cp1.lt
 have tp1 := Cp1.lt
 replace Cp1 := kC hC Cp1
 replace S0 := kp hk S0
 clear S1
 replace S2 := kp hk S2
 replace S3 := kp hk S3
 replace S8 := kp hk S8
 replace S9 := kp hk S9
 obtain ⟨p2, S10, Cp2, lp2, gp2⟩ := gotB hz' 6 hC hh rfl rfl rfl rfl rfl rfl
 have S11 := gotV hz' 7 hh rfl rfl rfl rfl
 have n_p2_p1 : p2 ≠ p1 := by omega
 have n_p1_p2 : p1 ≠ p2 := by have := ep1; omega
 have bp2 : w.heap.size ≤ p2 := Nat.le_trans HB.size lp2
 clear lp2 gp2
 clear tp1
 clear ep1
 replace HB := aft_call HB (RelC.below_nil hC)
 clear hC hk hh; replace hz := hz'; replace hd := hd'; clear hz' hd'
 refine wp_seq ?_
 refine wp_block ?_
 refine wp_seq ?_
 have hc3 : ¬ (bn < 1) := E1
 refine region_text (M := []) (
  rT (tV (.int .i64 bn)) ::
  rT (tV (.bool false)) ::
  rT (tV (.bool false)) ::
  rT (tV (.int .i64 bn)) ::
  rT (tV (.bool (decide (bn > 1099511627776)))) ::
  rT (tV (.bool (decide (bn > 1099511627776)))) ::
  rT (tV (.bool (decide (bn > 1099511627776)))) ::
  []) hz hd (by kernel_rfl) ?_ ?_
 refine ⟨?_, ?_, ?_, ?_, ?_, ?_, ?_, trivial⟩
 exact zMv hz (sv S0)
 exact sBin rfl rfl rfl hz rfl (Gd.none_ rfl) rfl (sd 0 rfl) kc (fun w => run_f (P := bn < 1) ((fun w => run_lss) w) hc3)
 exact zMv hz (sd 1 rfl)
 exact zMv hz (sv S0) (g := gT 2 rfl)
 exact sBin rfl rfl rfl hz rfl (gT 2 rfl) rfl (sd 3 rfl) kc (fun w => run_gtr)
 exact zPF hz (sd 2 rfl) (sd 4 rfl)
 exact zAs hz (sd 5 rfl)
 intro a' γ' W' hz' hd' hC hk hh
 have tp1 := Cp1.lt
 replace Cp1 := kC hC Cp1
 have tp2 := Cp2.lt
 replace Cp2 := kC hC Cp2
 replace S0 := kp hk S0
 replace S2 := kp hk S2
 replace S3 := kp hk S3
 replace S8 := kp hk S8
 replace S9 := kp hk S9
 replace S10 := kp hk S10
 replace S11 := kp hk S11
 have S17 := gotV hz' 6 hh rfl rfl rfl rfl
 clear tp1 tp2
 replace HB := aft_call HB (RelC.below_nil hC)
 clear hC hk hh; replace hz := hz'; replace hd := hd'; clear hz' hd'
 have hc4 : ¬ (bn > 1099511627776) := E2
 rw [decide_eq_false hc4] at S17
 refine wp_cond_false S17.ev ?_
 refine wp_seq ?_
 have hc5 : RtOk u := E3
 rw [decide_eq_true hc5] at S11
 have hc6 : ¬ (per < 1) := E5
 refine region_text (M := []) (
  rT (tV (.bool true)) ::
  rT (tV (.bool false)) ::
  rT (tV (.bool false)) ::
  rT (tV (.int .i64 per)) ::
  rT (tV (.bool false)) ::
  rT (tV (.bool false)) ::
  rT (tV (.bool false)) ::
  rT (tV (.int .i64 per)) ::
  rT (tV (.bool (decide (per > 1073741824)))) ::
  rT (tV (.bool (decide (per > 1073741824)))) ::
  rT (tV (.bool (decide (per > 1073741824)))) ::
  []) hz hd (by kernel_rfl) ?_ ?_
 refine ⟨?_, ?_, ?_, ?_, ?_, ?_, ?_, ?_, ?_, ?_, ?_, trivial⟩
 exact zMv hz (sv S11)
 exact zNot hz (sd 0 rfl)
 exact zMv hz (sd 1 rfl)
 exact zMv hz (sv S2) (g := gT 2 rfl)
 exact sBin rfl rfl rfl hz rfl (gT 2 rfl) rfl (sd 3 rfl) kc (fun w => run_f (P := per < 1) ((fun w => run_lss) w) hc6)
 exact zPF hz (sd 2 rfl) (sd 4 rfl)
 exact zMv hz (sd 5 rfl)
 exact zMv hz (sv S2) (g := gT 6 rfl)
 exact sBin rfl rfl rfl hz rfl (gT 6 rfl) rfl (sd 7 rfl) kc (fun w => run_gtr)
 exact zPF hz (sd 6 rfl) (sd 8 rfl)
 exact zAs hz (sd 9 rfl)
 intro a' γ' W' hz' hd' hC hk hh
 have tp1 := Cp1.lt
 replace Cp1 := kC hC Cp1
 have tp2 := Cp2.lt
 replace Cp2 := kC hC Cp2
 replace S0 := kp hk S0
 replace S2 := kp hk S2
 replace S3 := kp hk S3
 replace S8 := kp hk S8
 replace S9 := kp hk S9
 replace S10 := kp hk S10
 clear S11
 clear S17
 have S25 := gotV hz' 10 hh rfl rfl rfl rfl
 clear tp1 tp2
 replace HB := aft_call HB (RelC.below_nil hC)
 clear hC hk hh; replace hz := hz'; replace hd := hd'; clear hz' hd'
 have hc7 : ¬ (per > 1073741824) := E6
 rw [decide_eq_false hc7] at S25
 refine wp_cond_false S25.ev ?_
 refine wp_seq ?_
 have hc8 : ¬ (t < 0) := E7
 refine region_text (M := []) (
  rT (tV (.int .i64 t)) ::
  rT (tV (.bool false)) ::
  rT (tV (.bool false)) ::
  rT (tV (.int .i64 t)) ::
  rT (tV (.bool (decide (t > 4611686018427387904)))) ::
  rT (tV (.bool (decide (t > 4611686018427387904)))) ::
  rT (tV (.bool (decide (t > 4611686018427387904)))) ::
  []) hz hd (by kernel_rfl) ?_ ?_
 refine ⟨?_, ?_, ?_, ?_, ?_, ?_, ?_, trivial⟩
 exact zMv hz (sv S3)
 exact sBin rfl rfl rfl hz rfl (Gd.none_ rfl) rfl (sd 0 rfl) kc (fun w => run_f (P := t < 0) ((fun w => run_lss) w) hc8)
 exact zMv hz (sd 1 rfl)
 exact zMv hz (sv S3) (g := gT 2 rfl)
 exact sBin rfl rfl rfl hz rfl (gT 2 rfl) rfl (sd 3 rfl) kc (fun w => run_gtr)
 exact zPF hz (sd 2 rfl) (sd 4 rfl)
 exact zAs hz (sd 5 rfl)
 intro a' γ' W' hz' hd' hC hk hh
 have tp1 := Cp1.lt
 replace Cp1 := kC hC Cp1
 have tp2 := Cp2.lt
 replace Cp2 := kC hC Cp2
 replace S0 := kp hk S0
 replace S2 := kp hk S2
 replace S3 := kp hk S3
 replace S8 := kp hk S8
 replace S9 := kp hk S9
 replace S10 := kp hk S10
 clear S25
 have S37 := gotV hz' 6 hh rfl rfl rfl rfl
 clear tp1 tp2
 replace HB := aft_call HB (RelC.below_nil hC)
 clear hC hk hh; replace hz := hz'; replace hd := hd'; clear hz' hd'
 have hc9 : ¬ (t > 4611686018427387904) := E8
 rw [decide_eq_false hc9] at S37
 refine wp_cond_false S37.ev ?_
 refine wp_skip ?_
 refine wp_seq ?_
 refine region_text (M := [p2]) (
  rT (tQ B32 l (rtQ u)) ::
  rT (tV (.int .i64 per)) ::
  rT (tT [tQ B32 (l + 65) (divI (rtQ u) per), tV (.bool (decide (1 ≤ per)))]) ::
  rT (tT [tQ B32 (l + 65) (divI (rtQ u) per), tV (.bool (decide (1 ≤ per)))]) ::
  rT (tQ B32 (l + 65) (divI (rtQ u) per)) ::
  rT (tV (.bool (decide (1 ≤ per)))) ::
  rE 0 35 (tQ B32 (l + 65) (divI (rtQ u) per)) p2 ::
  []) hz hd (by kernel_rfl) ?_ ?_
 refine ⟨?_, ?_, ?_, ?_, ?_, ?_, ?_, trivial⟩
 exact sLoadM rfl rfl rfl hz rfl (Gd.none_ rfl) rfl (sv S10) Cp2 (k := 0) (by simp [tagOf]) (by kernel_rfl) ld_q32
 exact zMv hz (sv S2)
 exact zC2 hz Try.func13 (sd 0 rfl) (sd 1 rfl) (k01 (fun _ _ h0 => dq_divint (n := per) h0 (by omega) (by omega)))
 exact zMv hz (sd 2 rfl)
 exact zExt hz (sd 3 rfl)
 exact zExt hz (sd 3 rfl)
 exact zSE rfl (sv S10) (by simp [tagOf]) (Cp2.var tQ_nd) (sd 4 rfl) st_q32
 intro a' γ' W' hz' hd' hC hk hh
 have tp1 := Cp1.lt
 replace Cp1 := kC hC Cp1 (by simp [tagOf, n_p1_p2])
 replace Cp2 := gotE (T := tQ B32 (l + 65) (divI (rtQ u) per)) (id := 35) (p := p2) 6 hh rfl rfl
 replace S0 := kp hk S0
 clear S2
 replace S3 := kp hk S3
 replace S8 := kp hk S8
 replace S9 := kp hk S9
 replace S10 := kp hk S10
 clear S37
 clear tp1
 replace HB := RelC.aftM HB hC (by intro m hm; simp at hm; rcases hm with rfl <;> assumption)
 clear hC hk hh; replace hz := hz'; replace hd := hd'; clear hz' hd'
 refine wp_seq ?_
 refine region_drawn (M := [p1]) (
  rT (tV (.int .i64 bn)) ::
  rT (tQ B32 (l + 65) (divI (rtQ u) per)) ::
  rT (tQ B32 1 0) ::
  rT (tV (.int .i64 t)) ::
  rT (tO [tV (.int .i64 bn), tQ B32 (l + 65) (divI (rtQ u) per), tQ B32 1 0, tV (.int .i64 t)] [1, 2, 2, 1]) ::
  rE 0 59 (tO [tV (.int .i64 bn), tQ B32 (l + 65) (divI (rtQ u) per), tQ B32 1 0, tV (.int .i64 t)] [1, 2, 2, 1]) p1 ::
  rT (tV (.int .i64 0)) ::
  []) hz hd (by kernel_rfl) (by kernel_rfl) ?_ ?_
 refine ⟨?_, ?_, ?_, ?_, ?_, ?_, ?_, trivial⟩
 exact zMv hz (sv S0)
 exact zLd hz (sv S10) Cp2 ld_q32 (by simp [tagOf, n_p2_p1])
 exact zC0 hz Try.func35 (fun _ => dq_zero)
 exact zMv hz (sv S3)
 exact zBd4 hz (sd 0 rfl) (sd 1 rfl) (sd 2 rfl) (sd 3 rfl) (mk_r8 p2_q p2_q)
 exact zSE rfl (sv S8) (by simp [tagOf]) (Cp1.var (tO_nd (nd_c nd_int (nd_c nd_r (nd_c nd_r (nd_c nd_int nd_nil)))))) (sd 4 rfl) (st_of (sto_r8 p2_q p2_q))
 exact zAs hz kc
 intro a' γ' W' hz' hd' hC hk hh
 replace Cp1 := gotE (T := tO [tV (.int .i64 bn), tQ B32 (l + 65) (divI (rtQ u) per), tQ B32 1 0, tV (.int .i64 t)] [1, 2, 2, 1]) (id := 59) (p := p1) 5 hh rfl rfl
 have tp2 := Cp2.lt
 clear Cp2
 clear S0
 clear S3
 replace S8 := kp hk S8
 clear S9
 clear S10
 have S9 := gotV hz' 6 hh rfl rfl rfl rfl
 clear tp2
 replace HB := RelC.aftM HB hC (by intro m hm; simp at hm; rcases hm with rfl <;> assumption)
 clear hC hk hh; replace hz := hz'; replace hd := hd'; clear hz' hd'
 refine wp_ret ?_
 refine ret_to (T := tT [tO [tV (.int .i64 bn), tQ B32 (l + 65) (divI (rtQ u) per), tQ B32 1 0, tV (.int .i64 t)] [1, 2, 2, 1], tV (.int .i64 0)]) (retct_o (ldo_r8 p2_q p2_q) (by kernel_rfl) S8 S9 hd Cp1 HB) ?_
 exact to2 (rn_to hl hE) idT

set_option maxRecDepth 10000 in
set_option maxHeartbeats 2000000 in
theorem d_new_no {l u : Nat} {bn per t : Int} {w : World} (hl : 1100 ≤ l) (hl2 : l ≤ 90000) (hu : u < 18446744073709551616) (hp : per < 9223372036854775808) (hE : newE bn u per t ≠ 0) :
    Calls Try.prog 24 #[.int .i64 bn, .int .u64 (u : Int), .int .i64 per, .int .i64 t] w (Ret (tT [tO [tV (.int .i64 0), tR B32 0 0 0 0, tR B32 0 0 0 0, tV (.int .i64 0)] [1, 2, 2, 1], tV (.int .i64 (newE bn u per t))]) w) := by
 refine enter Try.func24 rfl Try.ntmps24 (by simp) ?_
 intro a hz hd ha
 have S0 := ha 0 _ rfl
 have S1 := ha 1 _ rfl
 have S2 := ha 2 _ rfl
 have S3 := ha 3 _ rfl
 clear ha
 have HB : Below w.heap.size w w := Below.refl _ _
 refine wp_seq ?_
 refine region_text (M := []) (
  rB 0 59 (tO [tV (.int .i64 0), tR B32 0 0 0 0, tR B32 0 0 0 0, tV (.int .i64 0)] [1, 2, 2, 1]) none 0 ::
  rT (tV (.int .i64 0)) ::
  []) hz hd (by kernel_rfl) ?_ ?_
 refine ⟨?_, ?_, trivial⟩
 exact zNew hz z_r8 al_r8
 exact zAs hz kc
 intro a' γ' W' hz' hd' hC hk hh
 replace S0 := kp hk S0
 replace S1 := kp hk S1
 replace S2 := kp hk S2
 replace S3 := kp hk S3
 obtain ⟨p1, S8, Cp1, lp1, gp1⟩ := gotB hz' 0 hC hh rfl rfl rfl rfl rfl rfl
 have S9 := gotV hz' 1 hh rfl rfl rfl rfl
 have bp1 : w.heap.size ≤ p1 := Nat.le_trans HB.size lp1
 clear lp1 gp1
 replace HB := aft_call HB (RelC.below_nil hC)
 clear hC hk hh; replace hz := hz'; replace hd := hd'; clear hz' hd'
 refine wp_seq ?_
 refine region_text (M := []) (
  rT (tV (.int .u64 (u : Int))) ::
  rT (tT [tQ B32 l (rtQ u), tV (.bool (decide (RtOk u)))]) ::
  rT (tT [tQ B32 l (rtQ u), tV (.bool (decide (RtOk u)))]) ::
  rT (tQ B32 l (rtQ u)) ::
  rT (tV (.bool (decide (RtOk u)))) ::
  rVar 5 35 2 ::
  rB 5 35 (tQ B32 l (rtQ u)) (some 5) 6 ::
  rT (tV (.bool (decide (RtOk u)))) ::
  []) hz hd (by kernel_rfl) ?_ ?_
 refine ⟨?_, ?_, ?_, ?_, ?_, ?_, ?_, ?_, trivial⟩
 exact zMv hz (sv S1)
 exact zC1 hz Try.func11 (sd 0 rfl) (k1 (fun _ => d_rate (l := l) (u := u) hu hl))
 exact zMv hz (sd 1 rfl)
 exact zExt hz (sd 2 rfl)
 exact zExt hz (sd 2 rfl)
 exact zAl hz nd_rat al_r32
 exact zSt (sd 3 rfl) st_q32
 exact zAs hz (sd 4 rfl)
 intro a' γ' W' hz' hd' hC hk hh
 have ep1 := Cp1.lt
 have tp1 := Cp1.lt
 replace Cp1 := kC hC Cp1
 replace S0 := kp hk S0
 clear S1
 replace S2 := kp hk S2
 replace S3 := kp hk S3
 replace S8 := kp hk S8
 replace S9 := kp hk S9
 obtain ⟨p2, S10, Cp2, lp2, gp2⟩ := gotB hz' 6 hC hh rfl rfl rfl rfl rfl rfl
 have S11 := gotV hz' 7 hh rfl rfl rfl rfl
 have n_p2_p1 : p2 ≠ p1 := by omega
 have n_p1_p2 : p1 ≠ p2 := by have := ep1; omega
 have bp2 : w.heap.size ≤ p2 := Nat.le_trans HB.size lp2
 clear lp2 gp2
 clear tp1
 clear ep1
 replace HB := aft_call HB (RelC.below_nil hC)
 clear hC hk hh; replace hz := hz'; replace hd := hd'; clear hz' hd'
 refine wp_seq ?_
 refine wp_block ?_
 refine wp_seq ?_
 by_cases hc3 : bn < 1
 refine region_text (M := []) (
  rT (tV (.int .i64 bn)) ::
  rT (tV (.bool true)) ::
  rT (tV (.bool true)) ::
  rT (tV undef) ::
  rT (tV undef) ::
  rT (tV (.bool true)) ::
  rT (tV (.bool true)) ::
  []) hz hd (by kernel_rfl) ?_ ?_
 refine ⟨?_, ?_, ?_, ?_, ?_, ?_, ?_, trivial⟩
 exact zMv hz (sv S0)
 exact sBin rfl rfl rfl hz rfl (Gd.none_ rfl) rfl (sd 0 rfl) kc (fun w => run_t (P := bn < 1) ((fun w => run_lss) w) hc3)
 exact zMv hz (sd 1 rfl)
 exact zSkU hz (gN 2 rfl)
 exact zSkU hz (gN 2 rfl)
 exact zPT hz (sd 2 rfl) kc
 exact zAs hz (sd 5 rfl)
 intro a' γ' W' hz' hd' hC hk hh
 have tp1 := Cp1.lt
 replace Cp1 := kC hC Cp1
 have tp2 := Cp2.lt
 replace Cp2 := kC hC Cp2
 replace S0 := kp hk S0
 replace S2 := kp hk S2
 replace S3 := kp hk S3
 replace S8 := kp hk S8
 replace S9 := kp hk S9
 replace S10 := kp hk S10
 replace S11 := kp hk S11
 have S17 := gotV hz' 6 hh rfl rfl rfl rfl
 clear tp1 tp2
 replace HB := aft_call HB (RelC.below_nil hC)
 clear hC hk hh; replace hz := hz'; replace hd := hd'; clear hz' hd'
 refine wp_cond_true S17.ev ?_
 refine wp_seq ?_
 refine region_text (M := [p1]) (
  rT (tO [tV (.int .i64 0), tR B32 0 0 0 0, tR B32 0 0 0 0, tV (.int .i64 0)] [1, 2, 2, 1]) ::
  rE 0 59 (tO [tV (.int .i64 0), tR B32 0 0 0 0, tR B32 0 0 0 0, tV (.int .i64 0)] [1, 2, 2, 1]) p1 ::
  rT (tV (.int .i64 97)) ::
  []) hz hd (by kernel_rfl) ?_ ?_
 refine ⟨?_, ?_, ?_, trivial⟩
 exact sBuild0 rfl rfl rfl hz rfl (Gd.none_ rfl) rfl bd_r8 (fun _ => z_r8 _)
 exact zSE rfl (sv S8) (by simp [tagOf]) (Cp1.var (tO_nd (nd_c nd_int (nd_c nd_r (nd_c nd_r (nd_c nd_int nd_nil)))))) (sd 0 rfl) (st_of (sto_r8 p2_r p2_r))
 exact zAs hz kc
 intro a' γ' W' hz' hd' hC hk hh
 replace Cp1 := gotE (T := tO [tV (.int .i64 0), tR B32 0 0 0 0, tR B32 0 0 0 0, tV (.int .i64 0)] [1, 2, 2, 1]) (id := 59) (p := p1) 1 hh rfl rfl
 have tp2 := Cp2.lt
 replace Cp2 := kC hC Cp2 (by simp [tagOf, n_p2_p1])
 replace S0 := kp hk S0
 replace S2 := kp hk S2
 replace S3 := kp hk S3
 replace S8 := kp hk S8
 clear S9
 replace S10 := kp hk S10
 clear S11
 clear S17
 have S9 := gotV hz' 2 hh rfl rfl rfl rfl
 clear tp2
 replace HB := RelC.aftM HB hC (by intro m hm; simp at hm; rcases hm with rfl <;> assumption)
 clear hC hk hh; replace hz := hz'; replace hd := hd'; clear hz' hd'
 refine wp_ret ?_
 refine ret_to (T := tT [tO [tV (.int .i64 0), tR B32 0 0 0 0, tR B32 0 0 0 0, tV (.int .i64 0)] [1, 2, 2, 1], tV (.int .i64 97)]) (retct_o (ldo_r8 p2_r p2_r) (by kernel_rfl) S8 S9 hd Cp1 HB) ?_
 exact to2 idT (tV_to (by rw [newE_97 (.inl hc3)]))
 refine region_text (M := []) (
  rT (tV (.int .i64 bn)) ::
  rT (tV (.bool false)) ::
  rT (tV (.bool false)) ::
  rT (tV (.int .i64 bn)) ::
  rT (tV (.bool (decide (bn > 1099511627776)))) ::
  rT (tV (.bool (decide (bn > 1099511627776)))) ::
  rT (tV (.bool (decide (bn > 1099511627776)))) ::
  []) hz hd (by kernel_rfl) ?_ ?_
 refine ⟨?_, ?_, ?_, ?_, ?_, ?_, ?_, trivial⟩
 exact zMv hz (sv S0)
 exact sBin rfl rfl rfl hz rfl (Gd.none_ rfl) rfl (sd 0 rfl) kc (fun w => run_f (P := bn < 1) ((fun w => run_lss) w) hc3)
 exact zMv hz (sd 1 rfl)
 exact zMv hz (sv S0) (g := gT 2 rfl)
 exact sBin rfl rfl rfl hz rfl (gT 2 rfl) rfl (sd 3 rfl) kc (fun w => run_gtr)
 exact zPF hz (sd 2 rfl) (sd 4 rfl)
 exact zAs hz (sd 5 rfl)
 intro a' γ' W' hz' hd' hC hk hh
 have tp1 := Cp1.lt
 replace Cp1 := kC hC Cp1
 have tp2 := Cp2.lt
 replace Cp2 := kC hC Cp2
 replace S0 := kp hk S0
 replace S2 := kp hk S2
 replace S3 := kp hk S3
 replace S8 := kp hk S8
 replace S9 := kp hk S9
 replace S10 := kp hk S10
 replace S11 := kp hk S11
 have S17 := gotV hz' 6 hh rfl rfl rfl rfl
 clear tp1 tp2
 replace HB := aft_call HB (RelC.below_nil hC)
 clear hC hk hh; replace hz := hz'; replace hd := hd'; clear hz' hd'
 by_cases hc4 : bn > 1099511627776
 rw [decide_eq_true hc4] at S17
 refine wp_cond_true S17.ev ?_
 refine wp_seq ?_
 refine region_text (M := [p1]) (
  rT (tO [tV (.int .i64 0), tR B32 0 0 0 0, tR B32 0 0 0 0, tV (.int .i64 0)] [1, 2, 2, 1]) ::
  rE 0 59 (tO [tV (.int .i64 0), tR B32 0 0 0 0, tR B32 0 0 0 0, tV (.int .i64 0)] [1, 2, 2, 1]) p1 ::
  rT (tV (.int .i64 97)) ::
  []) hz hd (by kernel_rfl) ?_ ?_
 refine ⟨?_, ?_, ?_, trivial⟩
 exact sBuild0 rfl rfl rfl hz rfl (Gd.none_ rfl) rfl bd_r8 (fun _ => z_r8 _)
 exact zSE rfl (sv S8) (by simp [tagOf]) (Cp1.var (tO_nd (nd_c nd_int (nd_c nd_r (nd_c nd_r (nd_c nd_int nd_nil)))))) (sd 0 rfl) (st_of (sto_r8 p2_r p2_r))
 exact zAs hz kc
 intro a' γ' W' hz' hd' hC hk hh
 replace Cp1 := gotE (T := tO [tV (.int .i64 0), tR B32 0 0 0 0, tR B32 0 0 0 0, tV (.int .i64 0)] [1, 2, 2, 1]) (id := 59) (p := p1) 1 hh rfl rfl
 have tp2 := Cp2.lt
 replace Cp2 := kC hC Cp2 (by simp [tagOf, n_p2_p1])
 replace S0 := kp hk S0
 replace S2 := kp hk S2
 replace S3 := kp hk S3
 replace S8 := kp hk S8
 clear S9
 replace S10 := kp hk S10
 clear S11
 clear S17
 have S9 := gotV hz' 2 hh rfl rfl rfl rfl
 clear tp2
 replace HB := RelC.aftM HB hC (by intro m hm; simp at hm; rcases hm with rfl <;> assumption)
 clear hC hk hh; replace hz := hz'; replace hd := hd'; clear hz' hd'
 refine wp_ret ?_
 refine ret_to (T := tT [tO [tV (.int .i64 0), tR B32 0 0 0 0, tR B32 0 0 0 0, tV (.int .i64 0)] [1, 2, 2, 1], tV (.int .i64 97)]) (retct_o (ldo_r8 p2_r p2_r) (by kernel_rfl) S8 S9 hd Cp1 HB) ?_
 exact to2 idT (tV_to (by rw [newE_97 (.inr hc4)]))
 rw [decide_eq_false hc4] at S17
 refine wp_cond_false S17.ev ?_
 refine wp_seq ?_
 by_cases hc5 : RtOk u
 rw [decide_eq_true hc5] at S11
 by_cases hc6 : per < 1
 refine region_text (M := []) (
  rT (tV (.bool true)) ::
  rT (tV (.bool false)) ::
  rT (tV (.bool false)) ::
  rT (tV (.int .i64 per)) ::
  rT (tV (.bool true)) ::
  rT (tV (.bool true)) ::
  rT (tV (.bool true)) ::
  rT (tV undef) ::
  rT (tV undef) ::
  rT (tV (.bool true)) ::
  rT (tV (.bool true)) ::
  []) hz hd (by kernel_rfl) ?_ ?_
 refine ⟨?_, ?_, ?_, ?_, ?_, ?_, ?_, ?_, ?_, ?_, ?_, trivial⟩
 exact zMv hz (sv S11)
 exact zNot hz (sd 0 rfl)
 exact zMv hz (sd 1 rfl)
 exact zMv hz (sv S2) (g := gT 2 rfl)
 exact sBin rfl rfl rfl hz rfl (gT 2 rfl) rfl (sd 3 rfl) kc (fun w => run_t (P := per < 1) ((fun w => run_lss) w) hc6)
 exact zPF hz (sd 2 rfl) (sd 4 rfl)
 exact zMv hz (sd 5 rfl)
 exact zSkU hz (gN 6 rfl)
 exact zSkU hz (gN 6 rfl)
 exact zPT hz (sd 6 rfl) kc
 exact zAs hz (sd 9 rfl)
 intro a' γ' W' hz' hd' hC hk hh
 have tp1 := Cp1.lt
 replace Cp1 := kC hC Cp1
 have tp2 := Cp2.lt
 replace Cp2 := kC hC Cp2
 replace S0 := kp hk S0
 replace S2 := kp hk S2
 replace S3 := kp hk S3
 replace S8 := kp hk S8
 replace S9 := kp hk S9
 replace S10 := kp hk S10
 clear S11
 clear S17
 have S25 := gotV hz' 10 hh rfl rfl rfl rfl
 clear tp1 tp2
 replace HB := aft_call HB (RelC.below_nil hC)
 clear hC hk hh; replace hz := hz'; replace hd := hd'; clear hz' hd'
 refine wp_cond_true S25.ev ?_
 refine wp_seq ?_
 refine region_text (M := [p1]) (
  rT (tO [tV (.int .i64 0), tR B32 0 0 0 0, tR B32 0 0 0 0, tV (.int .i64 0)] [1, 2, 2, 1]) ::
  rE 0 59 (tO [tV (.int .i64 0), tR B32 0 0 0 0, tR B32 0 0 0 0, tV (.int .i64 0)] [1, 2, 2, 1]) p1 ::
  rT (tV (.int .i64 98)) ::
  []) hz hd (by kernel_rfl) ?_ ?_
 refine ⟨?_, ?_, ?_, trivial⟩
 exact sBuild0 rfl rfl rfl hz rfl (Gd.none_ rfl) rfl bd_r8 (fun _ => z_r8 _)
 exact zSE rfl (sv S8) (by simp [tagOf]) (Cp1.var (tO_nd (nd_c nd_int (nd_c nd_r (nd_c nd_r (nd_c nd_int nd_nil)))))) (sd 0 rfl) (st_of (sto_r8 p2_r p2_r))
 exact zAs hz kc
 intro a' γ' W' hz' hd' hC hk hh
 replace Cp1 := gotE (T := tO [tV (.int .i64 0), tR B32 0 0 0 0, tR B32 0 0 0 0, tV (.int .i64 0)] [1, 2, 2, 1]) (id := 59) (p := p1) 1 hh rfl rfl
 have tp2 := Cp2.lt
 replace Cp2 := kC hC Cp2 (by simp [tagOf, n_p2_p1])
 replace S0 := kp hk S0
 replace S2 := kp hk S2
 replace S3 := kp hk S3
 replace S8 := kp hk S8
 clear S9
 replace S10 := kp hk S10
 clear S25
 have S9 := gotV hz' 2 hh rfl rfl rfl rfl
 clear tp2
 replace HB := RelC.aftM HB hC (by intro m hm; simp at hm; rcases hm with rfl <;> assumption)
 clear hC hk hh; replace hz := hz'; replace hd := hd'; clear hz' hd'
 refine wp_ret ?_
 refine ret_to (T := tT [tO [tV (.int .i64 0), tR B32 0 0 0 0, tR B32 0 0 0 0, tV (.int .i64 0)] [1, 2, 2, 1], tV (.int .i64 98)]) (retct_o (ldo_r8 p2_r p2_r) (by kernel_rfl) S8 S9 hd Cp1 HB) ?_
 exact to2 idT (tV_to (by rw [newE_98 hc3 hc4 (.inr (.inl hc6))]))
 refine region_text (M := []) (
  rT (tV (.bool true)) ::
  rT (tV (.bool false)) ::
  rT (tV (.bool false)) ::
  rT (tV (.int .i64 per)) ::
  rT (tV (.bool false)) ::
  rT (tV (.bool false)) ::
  rT (tV (.bool false)) ::
  rT (tV (.int .i64 per)) ::
  rT (tV (.bool (decide (per > 1073741824)))) ::
  rT (tV (.bool (decide (per > 1073741824)))) ::
  rT (tV (.bool (decide (per > 1073741824)))) ::
  []) hz hd (by kernel_rfl) ?_ ?_
 refine ⟨?_, ?_, ?_, ?_, ?_, ?_, ?_, ?_, ?_, ?_, ?_, trivial⟩
 exact zMv hz (sv S11)
 exact zNot hz (sd 0 rfl)
 exact zMv hz (sd 1 rfl)
 exact zMv hz (sv S2) (g := gT 2 rfl)
 exact sBin rfl rfl rfl hz rfl (gT 2 rfl) rfl (sd 3 rfl) kc (fun w => run_f (P := per < 1) ((fun w => run_lss) w) hc6)
 exact zPF hz (sd 2 rfl) (sd 4 rfl)
 exact zMv hz (sd 5 rfl)
 exact zMv hz (sv S2) (g := gT 6 rfl)
 exact sBin rfl rfl rfl hz rfl (gT 6 rfl) rfl (sd 7 rfl) kc (fun w => run_gtr)
 exact zPF hz (sd 6 rfl) (sd 8 rfl)
 exact zAs hz (sd 9 rfl)
 intro a' γ' W' hz' hd' hC hk hh
 have tp1 := Cp1.lt
 replace Cp1 := kC hC Cp1
 have tp2 := Cp2.lt
 replace Cp2 := kC hC Cp2
 replace S0 := kp hk S0
 replace S2 := kp hk S2
 replace S3 := kp hk S3
 replace S8 := kp hk S8
 replace S9 := kp hk S9
 replace S10 := kp hk S10
 clear S11
 clear S17
 have S25 := gotV hz' 10 hh rfl rfl rfl rfl
 clear tp1 tp2
 replace HB := aft_call HB (RelC.below_nil hC)
 clear hC hk hh; replace hz := hz'; replace hd := hd'; clear hz' hd'
 by_cases hc7 : per > 1073741824
 rw [decide_eq_true hc7] at S25
 refine wp_cond_true S25.ev ?_
 refine wp_seq ?_
 refine region_text (M := [p1]) (
  rT (tO [tV (.int .i64 0), tR B32 0 0 0 0, tR B32 0 0 0 0, tV (.int .i64 0)] [1, 2, 2, 1]) ::
  rE 0 59 (tO [tV (.int .i64 0), tR B32 0 0 0 0, tR B32 0 0 0 0, tV (.int .i64 0)] [1, 2, 2, 1]) p1 ::
  rT (tV (.int .i64 98)) ::
  []) hz hd (by kernel_rfl) ?_ ?_
 refine ⟨?_, ?_, ?_, trivial⟩
 exact sBuild0 rfl rfl rfl hz rfl (Gd.none_ rfl) rfl bd_r8 (fun _ => z_r8 _)
 exact zSE rfl (sv S8) (by simp [tagOf]) (Cp1.var (tO_nd (nd_c nd_int (nd_c nd_r (nd_c nd_r (nd_c nd_int nd_nil)))))) (sd 0 rfl) (st_of (sto_r8 p2_r p2_r))
 exact zAs hz kc
 intro a' γ' W' hz' hd' hC hk hh
 replace Cp1 := gotE (T := tO [tV (.int .i64 0), tR B32 0 0 0 0, tR B32 0 0 0 0, tV (.int .i64 0)] [1, 2, 2, 1]) (id := 59) (p := p1) 1 hh rfl rfl
 have tp2 := Cp2.lt
 replace Cp2 := kC hC Cp2 (by simp [tagOf, n_p2_p1])
 replace S0 := kp hk S0
 replace S2 := kp hk S2
 replace S3 := kp hk S3
 replace S8 := kp hk S8
 clear S9
 replace S10 := kp hk S10
 clear S25
 have S9 := gotV hz' 2 hh rfl rfl rfl rfl
 clear tp2
 replace HB := RelC.aftM HB hC (by intro m hm; simp at hm; rcases hm with rfl <;> assumption)
 clear hC hk hh; replace hz := hz'; replace hd := hd'; clear hz' hd'
 refine wp_ret ?_
 refine ret_to (T := tT [tO [tV (.int .i64 0), tR B32 0 0 0 0, tR B32 0 0 0 0, tV (.int .i64 0)] [1, 2, 2, 1], tV (.int .i64 98)]) (retct_o (ldo_r8 p2_r p2_r) (by kernel_rfl) S8 S9 hd Cp1 HB) ?_
 exact to2 idT (tV_to (by rw [newE_98 hc3 hc4 (.inr (.inr hc7))]))
 rw [decide_eq_false hc7] at S25
 refine wp_cond_false S25.ev ?_
 refine wp_seq ?_
 by_cases hc8 : t < 0
 refine region_text (M := []) (
  rT (tV (.int .i64 t)) ::
  rT (tV (.bool true)) ::
  rT (tV (.bool true)) ::
  rT (tV undef) ::
  rT (tV undef) ::
  rT (tV (.bool true)) ::
  rT (tV (.bool true)) ::
  []) hz hd (by kernel_rfl) ?_ ?_
 refine ⟨?_, ?_, ?_, ?_, ?_, ?_, ?_, trivial⟩
 exact zMv hz (sv S3)
 exact sBin rfl rfl rfl hz rfl (Gd.none_ rfl) rfl (sd 0 rfl) kc (fun w => run_t (P := t < 0) ((fun w => run_lss) w) hc8)
 exact zMv hz (sd 1 rfl)
 exact zSkU hz (gN 2 rfl)
 exact zSkU hz (gN 2 rfl)
 exact zPT hz (sd 2 rfl) kc
 exact zAs hz (sd 5 rfl)
 intro a' γ' W' hz' hd' hC hk hh
 have tp1 := Cp1.lt
 replace Cp1 := kC hC Cp1
 have tp2 := Cp2.lt
 replace Cp2 := kC hC Cp2
 replace S0 := kp hk S0
 replace S2 := kp hk S2
 replace S3 := kp hk S3
 replace S8 := kp hk S8
 replace S9 := kp hk S9
 replace S10 := kp hk S10
 clear S25
 have S37 := gotV hz' 6 hh rfl rfl rfl rfl
 clear tp1 tp2
 replace HB := aft_call HB (RelC.below_nil hC)
 clear hC hk hh; replace hz := hz'; replace hd := hd'; clear hz' hd'
 refine wp_cond_true S37.ev ?_
 refine wp_seq ?_
 refine region_text (M := [p1]) (
  rT (tO [tV (.int .i64 0), tR B32 0 0 0 0, tR B32 0 0 0 0, tV (.int .i64 0)] [1, 2, 2, 1]) ::
  rE 0 59 (tO [tV (.int .i64 0), tR B32 0 0 0 0, tR B32 0 0 0 0, tV (.int .i64 0)] [1, 2, 2, 1]) p1 ::
  rT (tV (.int .i64 1)) ::
  []) hz hd (by kernel_rfl) ?_ ?_
 refine ⟨?_, ?_, ?_, trivial⟩
 exact sBuild0 rfl rfl rfl hz rfl (Gd.none_ rfl) rfl bd_r8 (fun _ => z_r8 _)
 exact zSE rfl (sv S8) (by simp [tagOf]) (Cp1.var (tO_nd (nd_c nd_int (nd_c nd_r (nd_c nd_r (nd_c nd_int nd_nil)))))) (sd 0 rfl) (st_of (sto_r8 p2_r p2_r))
 exact zAs hz kc
 intro a' γ' W' hz' hd' hC hk hh
 replace Cp1 := gotE (T := tO [tV (.int .i64 0), tR B32 0 0 0 0, tR B32 0 0 0 0, tV (.int .i64 0)] [1, 2, 2, 1]) (id := 59) (p := p1) 1 hh rfl rfl
 have tp2 := Cp2.lt
 replace Cp2 := kC hC Cp2 (by simp [tagOf, n_p2_p1])
 replace S0 := kp hk S0
 replace S2 := kp hk S2
 replace S3 := kp hk S3
 replace S8 := kp hk S8
 clear S9
 replace S10 := kp hk S10
 clear S37
 have S9 := gotV hz' 2 hh rfl rfl rfl rfl
 clear tp2
 replace HB := RelC.aftM HB hC (by intro m hm; simp at hm; rcases hm with rfl <;> assumption)
 clear hC hk hh; replace hz := hz'; replace hd := hd'; clear hz' hd'
 refine wp_ret ?_
 refine ret_to (T := tT [tO [tV (.int .i64 0), tR B32 0 0 0 0, tR B32 0 0 0 0, tV (.int .i64 0)] [1, 2, 2, 1], tV (.int .i64 1)]) (retct_o (ldo_r8 p2_r p2_r) (by kernel_rfl) S8 S9 hd Cp1 HB) ?_
 exact to2 idT (tV_to (by rw [newE_1 hc3 hc4 hc5 hc6 hc7 (.inl hc8)]))
 refine region_text (M := []) (
  rT (tV (.int .i64 t)) ::
  rT (tV (.bool false)) ::
  rT (tV (.bool false)) ::
  rT (tV (.int .i64 t)) ::
  rT (tV (.bool (decide (t > 4611686018427387904)))) ::
  rT (tV (.bool (decide (t > 4611686018427387904)))) ::
  rT (tV (.bool (decide (t > 4611686018427387904)))) ::
  []) hz hd (by kernel_rfl) ?_ ?_
 refine ⟨?_, ?_, ?_, ?_, ?_, ?_, ?_, trivial⟩
 exact zMv hz (sv S3)
 exact sBin rfl rfl rfl hz rfl (Gd.none_ rfl) rfl (sd 0 rfl) kc (fun w => run_f (P := t < 0) ((fun w => run_lss) w) hc8)
 exact zMv hz (sd 1 rfl)
 exact zMv hz (sv S3) (g := gT 2 rfl)
 exact sBin rfl rfl rfl hz rfl (gT 2 rfl) rfl (sd 3 rfl) kc (fun w => run_gtr)
 exact zPF hz (sd 2 rfl) (sd 4 rfl)
 exact zAs hz (sd 5 rfl)
 intro a' γ' W' hz' hd' hC hk hh
 have tp1 := Cp1.lt
 replace Cp1 := kC hC Cp1
 have tp2 := Cp2.lt
 replace Cp2 := kC hC Cp2
 replace S0 := kp hk S0
 replace S2 := kp hk S2
 replace S3 := kp hk S3
 replace S8 := kp hk S8
 replace S9 := kp hk S9
 replace S10 := kp hk S10
 clear S25
 have S37 := gotV hz' 6 hh rfl rfl rfl rfl
 clear tp1 tp2
 replace HB := aft_call HB (RelC.below_nil hC)
 clear hC hk hh; replace hz := hz'; replace hd := hd'; clear hz' hd'
 by_cases hc9 : t > 4611686018427387904
 rw [decide_eq_true hc9] at S37
 refine wp_cond_true S37.ev ?_
 refine wp_seq ?_
 refine region_text (M := [p1]) (
  rT (tO [tV (.int .i64 0), tR B32 0 0 0 0, tR B32 0 0 0 0, tV (.int .i64 0)] [1, 2, 2, 1]) ::
  rE 0 59 (tO [tV (.int .i64 0), tR B32 0 0 0 0, tR B32 0 0 0 0, tV (.int .i64 0)] [1, 2, 2, 1]) p1 ::
  rT (tV (.int .i64 1)) ::
  []) hz hd (by kernel_rfl) ?_ ?_
 refine ⟨?_, ?_, ?_, trivial⟩
 exact sBuild0 rfl rfl rfl hz rfl (Gd.none_ rfl) rfl bd_r8 (fun _ => z_r8 _)
 exact zSE rfl (sv S8) (by simp [tagOf]) (Cp1.var (tO_nd (nd_c nd_int (nd_c nd_r (nd_c nd_r (nd_c nd_int nd_nil)))))) (sd 0 rfl) (st_of (sto_r8 p2_r p2_r))
 exact zAs hz kc
 intro a' γ' W' hz' hd' hC hk hh
 replace Cp1 := gotE (T := tO [tV (.int .i64 0), tR B32 0 0 0 0, tR B32 0 0 0 0, tV (.int .i64 0)] [1, 2, 2, 1]) (id := 59) (p := p1) 1 hh rfl rfl
 have tp2 := Cp2.lt
 replace Cp2 := kC hC Cp2 (by simp [tagOf, n_p2_p1])
 replace S0 := kp hk S0
 replace S2 := kp hk S2
 replace S3 := kp hk S3
 replace S8 := kp hk S8
 clear S9
 replace S10 := kp hk S10
 clear S37
 have S9 := gotV hz' 2 hh rfl rfl rfl rfl
 clear tp2
 replace HB := RelC.aftM HB hC (by intro m hm; simp at hm; rcases hm with rfl <;> assumption)
 clear hC hk hh; replace hz := hz'; replace hd := hd'; clear hz' hd'
 refine wp_ret ?_
 refine ret_to (T := tT [tO [tV (.int .i64 0), tR B32 0 0 0 0, tR B32 0 0 0 0, tV (.int .i64 0)] [1, 2, 2, 1], tV (.int .i64 1)]) (retct_o (ldo_r8 p2_r p2_r) (by kernel_rfl) S8 S9 hd Cp1 HB) ?_
 exact to2 idT (tV_to (by rw [newE_1 hc3 hc4 hc5 hc6 hc7 (.inr hc9)]))
 exact absurd (newE_0 hc3 hc4 hc5 hc6 hc7 hc8 hc9) hE
 rw [decide_eq_false hc5] at S11
 refine region_text (M := []) (
  rT (tV (.bool false)) ::
  rT (tV (.bool true)) ::
  rT (tV (.bool true)) ::
  rT (tV undef) ::
  rT (tV undef) ::
  rT (tV (.bool true)) ::
  rT (tV (.bool true)) ::
  rT (tV undef) ::
  rT (tV undef) ::
  rT (tV (.bool true)) ::
  rT (tV (.bool true)) ::
  []) hz hd (by kernel_rfl) ?_ ?_
 refine ⟨?_, ?_, ?_, ?_, ?_, ?_, ?_, ?_, ?_, ?_, ?_, trivial⟩
 exact zMv hz (sv S11)
 exact zNot hz (sd 0 rfl)
 exact zMv hz (sd 1 rfl)
 exact zSkU hz (gN 2 rfl)
 exact zSkU hz (gN 2 rfl)
 exact zPT hz (sd 2 rfl) kc
 exact zMv hz (sd 5 rfl)
 exact zSkU hz (gN 6 rfl)
 exact zSkU hz (gN 6 rfl)
 exact zPT hz (sd 6 rfl) kc
 exact zAs hz (sd 9 rfl)
 intro a' γ' W' hz' hd' hC hk hh
 have tp1 := Cp1.lt
 replace Cp1 := kC hC Cp1
 have tp2 := Cp2.lt
 replace Cp2 := kC hC Cp2
 replace S0 := kp hk S0
 replace S2 := kp hk S2
 replace S3 := kp hk S3
 replace S8 := kp hk S8
 replace S9 := kp hk S9
 replace S10 := kp hk S10
 clear S11
 clear S17
 have S25 := gotV hz' 10 hh rfl rfl rfl rfl
 clear tp1 tp2
 replace HB := aft_call HB (RelC.below_nil hC)
 clear hC hk hh; replace hz := hz'; replace hd := hd'; clear hz' hd'
 refine wp_cond_true S25.ev ?_
 refine wp_seq ?_
 refine region_text (M := [p1]) (
  rT (tO [tV (.int .i64 0), tR B32 0 0 0 0, tR B32 0 0 0 0, tV (.int .i64 0)] [1, 2, 2, 1]) ::
  rE 0 59 (tO [tV (.int .i64 0), tR B32 0 0 0 0, tR B32 0 0 0 0, tV (.int .i64 0)] [1, 2, 2, 1]) p1 ::
  rT (tV (.int .i64 98)) ::
  []) hz hd (by kernel_rfl) ?_ ?_
 refine ⟨?_, ?_, ?_, trivial⟩
 exact sBuild0 rfl rfl rfl hz rfl (Gd.none_ rfl) rfl bd_r8 (fun _ => z_r8 _)
 exact zSE rfl (sv S8) (by simp [tagOf]) (Cp1.var (tO_nd (nd_c nd_int (nd_c nd_r (nd_c nd_r (nd_c nd_int nd_nil)))))) (sd 0 rfl) (st_of (sto_r8 p2_r p2_r))
 exact zAs hz kc
 intro a' γ' W' hz' hd' hC hk hh
 replace Cp1 := gotE (T := tO [tV (.int .i64 0), tR B32 0 0 0 0, tR B32 0 0 0 0, tV (.int .i64 0)] [1, 2, 2, 1]) (id := 59) (p := p1) 1 hh rfl rfl
 have tp2 := Cp2.lt
 replace Cp2 := kC hC Cp2 (by simp [tagOf, n_p2_p1])
 replace S0 := kp hk S0
 replace S2 := kp hk S2
 replace S3 := kp hk S3
 replace S8 := kp hk S8
 clear S9
 replace S10 := kp hk S10
 clear S25
 have S9 := gotV hz' 2 hh rfl rfl rfl rfl
 clear tp2
 replace HB := RelC.aftM HB hC (by intro m hm; simp at hm; rcases hm with rfl <;> assumption)
 clear hC hk hh; replace hz := hz'; replace hd := hd'; clear hz' hd'
 refine wp_ret ?_
 refine ret_to (T := tT [tO [tV (.int .i64 0), tR B32 0 0 0 0, tR B32 0 0 0 0, tV (.int .i64 0)] [1, 2, 2, 1], tV (.int .i64 98)]) (retct_o (ldo_r8 p2_r p2_r) (by kernel_rfl) S8 S9 hd Cp1 HB) ?_
 exact to2 idT (tV_to (by rw [newE_98 hc3 hc4 (.inl hc5)]))

set_option maxRecDepth 10000 in
set_option maxHeartbeats 2000000 in
theorem d_at {l : Nat} {bn t n : Int} {h r : Rat}  {v0 : Value} {w : World} (h0 : (R8o l bn t h r).p v0 w) (I : BInv l t h (bn : Rat) r) (hl : l ≤ 100000) (hbn : 1 ≤ bn ∧ bn ≤ 1099511627776) (hn : n < 9223372036854775808)  :
    Calls Try.prog 26 #[v0, .int .i64 n] w (Ret (R8o l bn (TT t n) (atH t h (bn : Rat) r n) r) w) := by
 refine enter Try.func26 rfl Try.ntmps26 (by simp) ?_
 intro a hz hd ha
 have S0 := ha 0 _ rfl
 have H0 := h0
 have S1 := ha 1 _ rfl
 clear ha
 have HB : Below w.heap.size w w := Below.refl _ _
 have ht0 := I.t0
 have ht1 := I.t1
 have hT0 := TT_le t n
 have hT1 := TT_hi (t' := n) I.t1
 refine wp_seq ?_
 refine region_text (M := []) (
  rB 0 59 (tO [tV (.int .i64 bn), tQ B32 l r, tQ B32 (l + 41) h, tV (.int .i64 t)] [1, 2, 2, 1]) none 0 ::
  rB 1 59 (tO [tV (.int .i64 0), tR B32 0 0 0 0, tR B32 0 0 0 0, tV (.int .i64 0)] [1, 2, 2, 1]) none 0 ::
  []) hz hd (by kernel_rfl) ?_ ?_
 refine ⟨?_, ?_, trivial⟩
 exact zBox hz (so S0 H0) (box_r8 p2_q p2_q)
 exact zNew hz z_r8 al_r8
 intro a' γ' W' hz' hd' hC hk hh
 clear S0 H0
 replace S1 := kp hk S1
 obtain ⟨p1, S2, Cp1, lp1, gp1⟩ := gotB hz' 0 hC hh rfl rfl rfl rfl rfl rfl
 obtain ⟨p2, S4, Cp2, lp2, gp2⟩ := gotB hz' 1 hC hh rfl rfl rfl rfl rfl rfl
 have n_p1_p2 : p1 ≠ p2 := by intro e; rw [e, gp2] at gp1; omega
 have n_p2_p1 : p2 ≠ p1 := by intro e; rw [e, gp1] at gp2; omega
 have bp1 : w.heap.size ≤ p1 := Nat.le_trans HB.size lp1
 have bp2 : w.heap.size ≤ p2 := Nat.le_trans HB.size lp2
 clear lp1 gp1 lp2 gp2
 replace HB := aft_call HB (RelC.below_nil hC)
 clear hC hk hh; replace hz := hz'; replace hd := hd'; clear hz' hd'
 refine wp_seq ?_
 refine region_text (M := []) (
  rT (tV (.int .i64 n)) ::
  rT (tV (.pointer (some ⟨p1, 5, none⟩))) ::
  rT (tV (.int .i64 t)) ::
  rT (tV (.int .i64 (mxT n t))) ::
  rT (tV (.int .i64 (TT t n))) ::
  rT (tV (.int .i64 (TT t n))) ::
  []) hz hd (by kernel_rfl) ?_ ?_
 refine ⟨?_, ?_, ?_, ?_, ?_, ?_, trivial⟩
 exact zMv hz (sv S1)
 exact zFAo hz rfl rfl (sv S2) (fun w => by simp [go_sem])
 exact zLdO 3 hz (sd 1 rfl) (cl0 Cp1) ldo_int
 exact zB2max hz rfl (sd 0 rfl) (sd 2 rfl) (fun w => run_max n t w)
 exact zB2min hz rfl (sd 3 rfl) (kc (v := .int .i64 4611686018427387904)) (fun w => run_mm I w)
 exact zAs hz (sd 4 rfl)
 intro a' γ' W' hz' hd' hC hk hh
 have tp1 := Cp1.lt
 replace Cp1 := kC hC Cp1
 have tp2 := Cp2.lt
 replace Cp2 := kC hC Cp2
 clear S1
 replace S2 := kp hk S2
 replace S4 := kp hk S4
 have S1 := gotV hz' 5 hh rfl rfl rfl rfl
 clear tp1 tp2
 replace HB := aft_call HB (RelC.below_nil hC)
 clear hC hk hh; replace hz := hz'; replace hd := hd'; clear hz' hd'
 refine wp_seq ?_
 refine region_text (M := []) (
  rT (tV (.pointer (some ⟨p1, 1, none⟩))) ::
  rT (tQ B32 l r) ::
  rT (tV (.int .i64 (TT t n))) ::
  rT (tV (.pointer (some ⟨p1, 5, none⟩))) ::
  rT (tV (.int .i64 t)) ::
  rT (tV (.int .i64 (TT t n - t))) ::
  rT (tT [tQ B32 (l + 64) (mulI r (TT t n - t)), tV (.bool (decide (0 ≤ TT t n - t)))]) ::
  rT (tT [tQ B32 (l + 64) (mulI r (TT t n - t)), tV (.bool (decide (0 ≤ TT t n - t)))]) ::
  rT (tQ B32 (l + 64) (mulI r (TT t n - t))) ::
  rT (tV (.bool (decide (0 ≤ TT t n - t)))) ::
  rVar 10 35 2 ::
  rB 10 35 (tQ B32 (l + 64) (mulI r (TT t n - t))) (some 10) 11 ::
  rT (tV (.bool (decide (0 ≤ TT t n - t)))) ::
  []) hz hd (by kernel_rfl) ?_ ?_
 refine ⟨?_, ?_, ?_, ?_, ?_, ?_, ?_, ?_, ?_, ?_, ?_, ?_, ?_, trivial⟩
 exact zFAo hz rfl rfl (sv S2) (fun w => by simp [go_sem])
 exact zLdO 1 hz (sd 0 rfl) (cl0 Cp1) ldo_q32
 exact zMv hz (sv S1)
 exact zFAo hz rfl rfl (sv S2) (fun w => by simp [go_sem])
 exact zLdO 3 hz (sd 3 rfl) (cl0 Cp1) ldo_int
 exact sBin rfl rfl rfl hz rfl (Gd.none_ rfl) rfl (sd 2 rfl) (sd 4 rfl) (fun w => r_sub I w)
 exact zC2 hz Try.func15 (sd 1 rfl) (sd 5 rfl) (k01 (fun _ _ h0 => dq_mulint (n := (TT t n - t)) h0 (by omega) (by omega)))
 exact zMv hz (sd 6 rfl)
 exact zExt hz (sd 7 rfl)
 exact zExt hz (sd 7 rfl)
 exact zAl hz nd_rat al_r32
 exact zSt (sd 8 rfl) st_q32
 exact zAs hz (sd 9 rfl)
 intro a' γ' W' hz' hd' hC hk hh
 have ep1 := Cp1.lt
 have ep2 := Cp2.lt
 have tp1 := Cp1.lt
 replace Cp1 := kC hC Cp1
 have tp2 := Cp2.lt
 replace Cp2 := kC hC Cp2
 replace S2 := kp hk S2
 replace S4 := kp hk S4
 replace S1 := kp hk S1
 obtain ⟨p3, S5, Cp3, lp3, gp3⟩ := gotB hz' 11 hC hh rfl rfl rfl rfl rfl rfl
 have n_p3_p1 : p3 ≠ p1 := by omega
 have n_p3_p2 : p3 ≠ p2 := by omega
 have n_p1_p3 : p1 ≠ p3 := by have := ep1; omega
 have n_p2_p3 : p2 ≠ p3 := by have := ep2; omega
 have bp3 : w.heap.size ≤ p3 := Nat.le_trans HB.size lp3
 clear lp3 gp3
 clear tp1 tp2
 clear ep1 ep2
 replace HB := aft_call HB (RelC.below_nil hC)
 clear hC hk hh; replace hz := hz'; replace hd := hd'; clear hz' hd'
 refine wp_seq ?_
 refine region_text (M := [p1]) (
  rT (tV (.pointer (some ⟨p1, 3, none⟩))) ::
  rT (tQ B32 (l + 41) h) ::
  rT (tQ B32 (l + 64) (mulI r (TT t n - t))) ::
  rT (tQ B32 ((l + 41) + (l + 64) + 1) (h + (mulI r (TT t n - t)))) ::
  rT (tV (.pointer (some ⟨p1, 3, none⟩))) ::
  rE 0 59 (tO [tV (.int .i64 bn), tQ B32 l r, tQ B32 ((l + 41) + (l + 64) + 1) (h + (mulI r (TT t n - t))), tV (.int .i64 t)] [1, 2, 2, 1]) p1 ::
  []) hz hd (by kernel_rfl) ?_ ?_
 refine ⟨?_, ?_, ?_, ?_, ?_, ?_, trivial⟩
 exact zFAo hz rfl rfl (sv S2) (fun w => by simp [go_sem])
 exact zLdO 2 hz (sd 0 rfl) (clM (k := 0) Cp1 (by simp [tagOf])) ldo_q32
 exact zLd hz (sv S5) Cp3 ld_q32 (by simp [tagOf, n_p3_p1])
 exact zC2 hz Try.func16 (sd 1 rfl) (sd 2 rfl) (fun _ _ _ h0 h1 => dq_add h0 h1 (by omega) (by omega))
 exact zFAo hz rfl rfl (sv S2) (fun w => by simp [go_sem])
 exact zStO 2 rfl (sd 4 rfl) (by simp [tagOf]) (clM (k := 0) Cp1 (by simp [tagOf])) Cp1.lt (sd 3 rfl) sto_q32 (nd_c nd_int (nd_c nd_q (nd_c nd_q (nd_c nd_int nd_nil))))
 intro a' γ' W' hz' hd' hC hk hh
 replace Cp1 := gotE (T := tO [tV (.int .i64 bn), tQ B32 l r, tQ B32 ((l + 41) + (l + 64) + 1) (h + (mulI r (TT t n - t))), tV (.int .i64 t)] [1, 2, 2, 1]) (id := 59) (p := p1) 5 hh rfl rfl
 have tp2 := Cp2.lt
 replace Cp2 := kC hC Cp2 (by simp [tagOf, n_p2_p1])
 have tp3 := Cp3.lt
 clear Cp3
 replace S2 := kp hk S2
 replace S4 := kp hk S4
 replace S1 := kp hk S1
 clear S5
 clear tp2 tp3
 replace HB := RelC.aftM HB hC (by intro m hm; simp at hm; rcases hm with rfl <;> assumption)
 clear hC hk hh; replace hz := hz'; replace hd := hd'; clear hz' hd'
 refine wp_seq ?_
 refine wp_seq ?_
 refine region_text (M := []) (
  rT (tV (.pointer (some ⟨p1, 0, none⟩))) ::
  rT (tV (.int .i64 bn)) ::
  rT (tV (.int .u64 ((bn.toNat : Nat) : Int))) ::
  rT (tQ B32 64 (((bn.toNat : Nat) : Rat))) ::
  rVar 4 35 2 ::
  rB 4 35 (tQ B32 64 (((bn.toNat : Nat) : Rat))) (some 4) 5 ::
  []) hz hd (by kernel_rfl) ?_ ?_
 refine ⟨?_, ?_, ?_, ?_, ?_, ?_, trivial⟩
 exact zFAo hz rfl rfl (sv S2) (fun w => by simp [go_sem])
 exact zLdO 0 hz (sd 0 rfl) (cl0 Cp1) ldo_int
 exact sConv (T' := tV (.int .i64 bn)) rfl rfl rfl hz rfl (Gd.none_ rfl) rfl (sd 1 rfl) (fun v_ w_ h_ => by have h_ : v_ = .int .i64 bn := h_; subst h_; exact ⟨_, by simp [go_sem, IntKind.wrap_u64]; omega, rfl⟩)
 exact zC1 hz Try.func17 (sd 2 rfl) (k1 (fun _ => dq_whole (l := 63) (by omega) (by decide)))
 exact zAl hz nd_rat al_r32
 exact zSt (sd 3 rfl) st_q32
 intro a' γ' W' hz' hd' hC hk hh
 have ep1 := Cp1.lt
 have ep2 := Cp2.lt
 have tp1 := Cp1.lt
 replace Cp1 := kC hC Cp1
 have tp2 := Cp2.lt
 replace Cp2 := kC hC Cp2
 replace S2 := kp hk S2
 replace S4 := kp hk S4
 replace S1 := kp hk S1
 obtain ⟨p4, S7, Cp4, lp4, gp4⟩ := gotB hz' 5 hC hh rfl rfl rfl rfl rfl rfl
 have n_p4_p1 : p4 ≠ p1 := by omega
 have n_p4_p2 : p4 ≠ p2 := by omega
 have n_p1_p4 : p1 ≠ p4 := by have := ep1; omega
 have n_p2_p4 : p2 ≠ p4 := by have := ep2; omega
 have bp4 : w.heap.size ≤ p4 := Nat.le_trans HB.size lp4
 clear lp4 gp4
 clear tp1 tp2
 clear ep1 ep2
 replace HB := aft_call HB (RelC.below_nil hC)
 clear hC hk hh; replace hz := hz'; replace hd := hd'; clear hz' hd'
 refine wp_seq ?_
 refine region_text (M := []) (
  rT (tV (.pointer (some ⟨p1, 3, none⟩))) ::
  rT (tQ B32 ((l + 41) + (l + 64) + 1) (h + (mulI r (TT t n - t)))) ::
  rT (tQ B32 64 (((bn.toNat : Nat) : Rat))) ::
  rT (tV (.int .i64 (cmpQ (h + (mulI r (TT t n - t))) (((bn.toNat : Nat) : Rat))))) ::
  rT (tV (.bool (decide (((bn.toNat : Nat) : Rat) < h + (mulI r (TT t n - t)))))) ::
  []) hz hd (by kernel_rfl) ?_ ?_
 refine ⟨?_, ?_, ?_, ?_, ?_, trivial⟩
 exact zFAo hz rfl rfl (sv S2) (fun w => by simp [go_sem])
 exact zLdO 2 hz (sd 0 rfl) (cl0 Cp1) ldo_q32
 exact zLd hz (sv S7) Cp4 ld_q32
 exact zC2 hz Try.func18 (sd 1 rfl) (sd 2 rfl) (fun _ _ _ h0 h1 => dq_cmp h0 h1 (by omega) (by decide))
 exact sBin rfl rfl rfl hz rfl (Gd.none_ rfl) rfl (sd 3 rfl) kc (fun w => run_cQ_gtr (h + (mulI r (TT t n - t))) (((bn.toNat : Nat) : Rat)) w)
 intro a' γ' W' hz' hd' hC hk hh
 have tp1 := Cp1.lt
 replace Cp1 := kC hC Cp1
 have tp2 := Cp2.lt
 replace Cp2 := kC hC Cp2
 have tp4 := Cp4.lt
 replace Cp4 := kC hC Cp4
 replace S2 := kp hk S2
 replace S4 := kp hk S4
 replace S1 := kp hk S1
 replace S7 := kp hk S7
 have S36 := gotV hz' 4 hh rfl rfl rfl rfl
 clear tp1 tp2 tp4
 replace HB := aft_call HB (RelC.below_nil hC)
 clear hC hk hh; replace hz := hz'; replace hd := hd'; clear hz' hd'
 by_cases hc5 : ((bn.toNat : Nat) : Rat) < h + (mulI r (TT t n - t))
 rw [decide_eq_true hc5] at S36
 refine wp_cond_true S36.ev ?_
 refine region_text (M := [p1]) (
  rT (tQ B32 64 (((bn.toNat : Nat) : Rat))) ::
  rT (tV (.pointer (some ⟨p1, 3, none⟩))) ::
  rE 0 59 (tO [tV (.int .i64 bn), tQ B32 l r, tQ B32 64 (((bn.toNat : Nat) : Rat)), tV (.int .i64 t)] [1, 2, 2, 1]) p1 ::
  []) hz hd (by kernel_rfl) ?_ ?_
 refine ⟨?_, ?_, ?_, trivial⟩
 exact zLd hz (sv S7) Cp4 ld_q32 (by simp [tagOf, n_p4_p1])
 exact zFAo hz rfl rfl (sv S2) (fun w => by simp [go_sem])
 exact zStO 2 rfl (sd 1 rfl) (by simp [tagOf]) (clM (k := 0) Cp1 (by simp [tagOf])) Cp1.lt (sd 0 rfl) sto_q32 (nd_c nd_int (nd_c nd_q (nd_c nd_q (nd_c nd_int nd_nil))))
 intro a' γ' W' hz' hd' hC hk hh
 replace Cp1 := gotE (T := tO [tV (.int .i64 bn), tQ B32 l r, tQ B32 64 (((bn.toNat : Nat) : Rat)), tV (.int .i64 t)] [1, 2, 2, 1]) (id := 59) (p := p1) 2 hh rfl rfl
 have tp2 := Cp2.lt
 replace Cp2 := kC hC Cp2 (by simp [tagOf, n_p2_p1])
 have tp4 := Cp4.lt
 clear Cp4
 replace S2 := kp hk S2
 replace S4 := kp hk S4
 replace S1 := kp hk S1
 clear S7
 clear S36
 clear tp2 tp4
 replace HB := RelC.aftM HB hC (by intro m hm; simp at hm; rcases hm with rfl <;> assumption)
 clear hC hk hh; replace hz := hz'; replace hd := hd'; clear hz' hd'
 refine wp_seq ?_
 refine region_text (M := [p1]) (
  rT (tV (.int .i64 (TT t n))) ::
  rT (tV (.pointer (some ⟨p1, 5, none⟩))) ::
  rE 0 59 (tO [tV (.int .i64 bn), tQ B32 l r, tQ B32 64 (((bn.toNat : Nat) : Rat)), tV (.int .i64 (TT t n))] [1, 2, 2, 1]) p1 ::
  []) hz hd (by kernel_rfl) ?_ ?_
 refine ⟨?_, ?_, ?_, trivial⟩
 exact zMv hz (sv S1)
 exact zFAo hz rfl rfl (sv S2) (fun w => by simp [go_sem])
 exact zStO 3 rfl (sd 1 rfl) (by simp [tagOf]) (clM (k := 0) Cp1 (by simp [tagOf])) Cp1.lt (sd 0 rfl) sto_int (nd_c nd_int (nd_c nd_q (nd_c nd_q (nd_c nd_int nd_nil))))
 intro a' γ' W' hz' hd' hC hk hh
 replace Cp1 := gotE (T := tO [tV (.int .i64 bn), tQ B32 l r, tQ B32 64 (((bn.toNat : Nat) : Rat)), tV (.int .i64 (TT t n))] [1, 2, 2, 1]) (id := 59) (p := p1) 2 hh rfl rfl
 have tp2 := Cp2.lt
 replace Cp2 := kC hC Cp2 (by simp [tagOf, n_p2_p1])
 replace S2 := kp hk S2
 replace S4 := kp hk S4
 clear S1
 clear tp2
 replace HB := RelC.aftM HB hC (by intro m hm; simp at hm; rcases hm with rfl <;> assumption)
 clear hC hk hh; replace hz := hz'; replace hd := hd'; clear hz' hd'
 refine wp_seq ?_
 refine region_text (M := [p2]) (
  rT (tO [tV (.int .i64 bn), tQ B32 l r, tQ B32 64 (((bn.toNat : Nat) : Rat)), tV (.int .i64 (TT t n))] [1, 2, 2, 1]) ::
  rE 0 59 (tO [tV (.int .i64 bn), tQ B32 l r, tQ B32 64 (((bn.toNat : Nat) : Rat)), tV (.int .i64 (TT t n))] [1, 2, 2, 1]) p2 ::
  []) hz hd (by kernel_rfl) ?_ ?_
 refine ⟨?_, ?_, trivial⟩
 exact zLdW hz (sv S2) (cl0 Cp1 (by simp [tagOf, n_p1_p2])) (ldo_r8 p2_q p2_q)
 exact zSE rfl (sv S4) (by simp [tagOf]) (Cp2.var (tO_nd (nd_c nd_int (nd_c nd_r (nd_c nd_r (nd_c nd_int nd_nil)))))) (sd 0 rfl) (st_of (sto_r8 p2_q p2_q))
 intro a' γ' W' hz' hd' hC hk hh
 have tp1 := Cp1.lt
 clear Cp1
 replace Cp2 := gotE (T := tO [tV (.int .i64 bn), tQ B32 l r, tQ B32 64 (((bn.toNat : Nat) : Rat)), tV (.int .i64 (TT t n))] [1, 2, 2, 1]) (id := 59) (p := p2) 1 hh rfl rfl
 clear S2
 replace S4 := kp hk S4
 clear tp1
 replace HB := RelC.aftM HB hC (by intro m hm; simp at hm; rcases hm with rfl <;> assumption)
 clear hC hk hh; replace hz := hz'; replace hd := hd'; clear hz' hd'
 refine wp_ret ?_
 refine ret_to (T := tO [tV (.int .i64 bn), tQ B32 l r, tQ B32 64 (((bn.toNat : Nat) : Rat)), tV (.int .i64 (TT t n))] [1, 2, 2, 1]) (ret1_o (ldo_r8 p2_q p2_q) (by kernel_rfl) S4 hd Cp2 HB) ?_
 exact tO_to ⟨idT, idT, atr_to I (atr_cap I hbn.1 hc5).symm, idT, trivial⟩
 rw [decide_eq_false hc5] at S36
 refine wp_cond_false S36.ev ?_
 refine wp_skip ?_
 refine wp_seq ?_
 refine region_text (M := [p1]) (
  rT (tV (.int .i64 (TT t n))) ::
  rT (tV (.pointer (some ⟨p1, 5, none⟩))) ::
  rE 0 59 (tO [tV (.int .i64 bn), tQ B32 l r, tQ B32 ((l + 41) + (l + 64) + 1) (h + (mulI r (TT t n - t))), tV (.int .i64 (TT t n))] [1, 2, 2, 1]) p1 ::
  []) hz hd (by kernel_rfl) ?_ ?_
 refine ⟨?_, ?_, ?_, trivial⟩
 exact zMv hz (sv S1)
 exact zFAo hz rfl rfl (sv S2) (fun w => by simp [go_sem])
 exact zStO 3 rfl (sd 1 rfl) (by simp [tagOf]) (clM (k := 0) Cp1 (by simp [tagOf])) Cp1.lt (sd 0 rfl) sto_int (nd_c nd_int (nd_c nd_q (nd_c nd_q (nd_c nd_int nd_nil))))
 intro a' γ' W' hz' hd' hC hk hh
 replace Cp1 := gotE (T := tO [tV (.int .i64 bn), tQ B32 l r, tQ B32 ((l + 41) + (l + 64) + 1) (h + (mulI r (TT t n - t))), tV (.int .i64 (TT t n))] [1, 2, 2, 1]) (id := 59) (p := p1) 2 hh rfl rfl
 have tp2 := Cp2.lt
 replace Cp2 := kC hC Cp2 (by simp [tagOf, n_p2_p1])
 have tp4 := Cp4.lt
 clear Cp4
 replace S2 := kp hk S2
 replace S4 := kp hk S4
 clear S1
 clear S7
 clear S36
 clear tp2 tp4
 replace HB := RelC.aftM HB hC (by intro m hm; simp at hm; rcases hm with rfl <;> assumption)
 clear hC hk hh; replace hz := hz'; replace hd := hd'; clear hz' hd'
 refine wp_seq ?_
 refine region_text (M := [p2]) (
  rT (tO [tV (.int .i64 bn), tQ B32 l r, tQ B32 ((l + 41) + (l + 64) + 1) (h + (mulI r (TT t n - t))), tV (.int .i64 (TT t n))] [1, 2, 2, 1]) ::
  rE 0 59 (tO [tV (.int .i64 bn), tQ B32 l r, tQ B32 ((l + 41) + (l + 64) + 1) (h + (mulI r (TT t n - t))), tV (.int .i64 (TT t n))] [1, 2, 2, 1]) p2 ::
  []) hz hd (by kernel_rfl) ?_ ?_
 refine ⟨?_, ?_, trivial⟩
 exact zLdW hz (sv S2) (cl0 Cp1 (by simp [tagOf, n_p1_p2])) (ldo_r8 p2_q p2_q)
 exact zSE rfl (sv S4) (by simp [tagOf]) (Cp2.var (tO_nd (nd_c nd_int (nd_c nd_r (nd_c nd_r (nd_c nd_int nd_nil)))))) (sd 0 rfl) (st_of (sto_r8 p2_q p2_q))
 intro a' γ' W' hz' hd' hC hk hh
 have tp1 := Cp1.lt
 clear Cp1
 replace Cp2 := gotE (T := tO [tV (.int .i64 bn), tQ B32 l r, tQ B32 ((l + 41) + (l + 64) + 1) (h + (mulI r (TT t n - t))), tV (.int .i64 (TT t n))] [1, 2, 2, 1]) (id := 59) (p := p2) 1 hh rfl rfl
 clear S2
 replace S4 := kp hk S4
 clear tp1
 replace HB := RelC.aftM HB hC (by intro m hm; simp at hm; rcases hm with rfl <;> assumption)
 clear hC hk hh; replace hz := hz'; replace hd := hd'; clear hz' hd'
 refine wp_ret ?_
 refine ret_to (T := tO [tV (.int .i64 bn), tQ B32 l r, tQ B32 ((l + 41) + (l + 64) + 1) (h + (mulI r (TT t n - t))), tV (.int .i64 (TT t n))] [1, 2, 2, 1]) (ret1_o (ldo_r8 p2_q p2_q) (by kernel_rfl) S4 hd Cp2 HB) ?_
 exact tO_to ⟨idT, idT, atr_to I (atr_new I hbn.1 hc5).symm, idT, trivial⟩

set_option maxRecDepth 10000 in
set_option maxHeartbeats 2000000 in
theorem d_take {l : Nat} {bn t n : Int} {h r : Rat} {m : Int} {v0 : Value} {w : World} (h0 : (R8o l bn t h r).p v0 w) (I : BInv l t h (bn : Rat) r) (hl : l ≤ 100000) (hbn : 1 ≤ bn ∧ bn ≤ 1099511627776) (hn : n < 9223372036854775808) (hm : m < 9223372036854775808) :
    Calls Try.prog 27 #[v0, .int .i64 n, .int .i64 m] w (Ret (tT [R8o l bn (TT t n) (tkH (atH t h (bn : Rat) r n) m) r, tV (.int .i64 (tkE (atH t h (bn : Rat) r n) m))]) w) := by
 refine enter Try.func27 rfl Try.ntmps27 (by simp) ?_
 intro a hz hd ha
 have S0 := ha 0 _ rfl
 have H0 := h0
 have S1 := ha 1 _ rfl
 have S2 := ha 2 _ rfl
 clear ha
 have HB : Below w.heap.size w w := Below.refl _ _
 have ht0 := I.t0
 have ht1 := I.t1
 have hT0 := TT_le t n
 have hT1 := TT_hi (t' := n) I.t1
 refine wp_seq ?_
 refine region_text (M := []) (
  rB 0 59 (tO [tV (.int .i64 bn), tQ B32 l r, tQ B32 (l + 41) h, tV (.int .i64 t)] [1, 2, 2, 1]) none 0 ::
  rB 1 59 (tO [tV (.int .i64 0), tR B32 0 0 0 0, tR B32 0 0 0 0, tV (.int .i64 0)] [1, 2, 2, 1]) none 0 ::
  rT (tV (.int .i64 0)) ::
  []) hz hd (by kernel_rfl) ?_ ?_
 refine ⟨?_, ?_, ?_, trivial⟩
 exact zBox hz (so S0 H0) (box_r8 p2_q p2_q)
 exact zNew hz z_r8 al_r8
 exact zAs hz kc
 intro a' γ' W' hz' hd' hC hk hh
 clear S0 H0
 replace S1 := kp hk S1
 replace S2 := kp hk S2
 obtain ⟨p1, S3, Cp1, lp1, gp1⟩ := gotB hz' 0 hC hh rfl rfl rfl rfl rfl rfl
 obtain ⟨p2, S6, Cp2, lp2, gp2⟩ := gotB hz' 1 hC hh rfl rfl rfl rfl rfl rfl
 have S7 := gotV hz' 2 hh rfl rfl rfl rfl
 have n_p1_p2 : p1 ≠ p2 := by intro e; rw [e, gp2] at gp1; omega
 have n_p2_p1 : p2 ≠ p1 := by intro e; rw [e, gp1] at gp2; omega
 have bp1 : w.heap.size ≤ p1 := Nat.le_trans HB.size lp1
 have bp2 : w.heap.size ≤ p2 := Nat.le_trans HB.size lp2
 clear lp1 gp1 lp2 gp2
 replace HB := aft_call HB (RelC.below_nil hC)
 clear hC hk hh; replace hz := hz'; replace hd := hd'; clear hz' hd'
 refine wp_seq ?_
 refine region_text (M := [p1]) (
  rT (tO [tV (.int .i64 bn), tQ B32 l r, tQ B32 (l + 41) h, tV (.int .i64 t)] [1, 2, 2, 1]) ::
  rT (tV (.int .i64 n)) ::
  rT (tO [tV (.int .i64 bn), tQ B32 l r, tQ B32 (l + 41) (atH t h (bn : Rat) r n), tV (.int .i64 (TT t n))] [1, 2, 2, 1]) ::
  rE 0 59 (tO [tV (.int .i64 bn), tQ B32 l r, tQ B32 (l + 41) (atH t h (bn : Rat) r n), tV (.int .i64 (TT t n))] [1, 2, 2, 1]) p1 ::
  []) hz hd (by kernel_rfl) ?_ ?_
 refine ⟨?_, ?_, ?_, ?_, trivial⟩
 exact zLdW hz (sv S3) (clM (k := 0) Cp1 (by simp [tagOf])) (ldo_r8 p2_q p2_q)
 exact zMv hz (sv S1)
 exact zC2 hz Try.func26 (sd 0 rfl) (sd 1 rfl) (k01 (fun _ _ h0 => d_at (n := n) h0 I hl hbn (by omega)))
 exact zSE rfl (sv S3) (by simp [tagOf]) (Cp1.var (tO_nd (nd_c nd_int (nd_c nd_q (nd_c nd_q (nd_c nd_int nd_nil)))))) (sd 2 rfl) (st_of (sto_r8 p2_q p2_q))
 intro a' γ' W' hz' hd' hC hk hh
 replace Cp1 := gotE (T := tO [tV (.int .i64 bn), tQ B32 l r, tQ B32 (l + 41) (atH t h (bn : Rat) r n), tV (.int .i64 (TT t n))] [1, 2, 2, 1]) (id := 59) (p := p1) 3 hh rfl rfl
 have tp2 := Cp2.lt
 replace Cp2 := kC hC Cp2 (by simp [tagOf, n_p2_p1])
 clear S1
 replace S2 := kp hk S2
 replace S3 := kp hk S3
 replace S6 := kp hk S6
 replace S7 := kp hk S7
 clear tp2
 replace HB := RelC.aftM HB hC (by intro m hm; simp at hm; rcases hm with rfl <;> assumption)
 clear hC hk hh; replace hz := hz'; replace hd := hd'; clear hz' hd'
 refine wp_seq ?_
 refine wp_seq ?_
 refine region_text (M := []) (
  rT (tV (.int .i64 m)) ::
  rT (tV (.bool (decide (m < 1)))) ::
  []) hz hd (by kernel_rfl) ?_ ?_
 refine ⟨?_, ?_, trivial⟩
 exact zMv hz (sv S2)
 exact sBin rfl rfl rfl hz rfl (Gd.none_ rfl) rfl (sd 0 rfl) kc (fun w => run_lss)
 intro a' γ' W' hz' hd' hC hk hh
 have tp1 := Cp1.lt
 replace Cp1 := kC hC Cp1
 have tp2 := Cp2.lt
 replace Cp2 := kC hC Cp2
 replace S2 := kp hk S2
 replace S3 := kp hk S3
 replace S6 := kp hk S6
 replace S7 := kp hk S7
 have S14 := gotV hz' 1 hh rfl rfl rfl rfl
 clear tp1 tp2
 replace HB := aft_call HB (RelC.below_nil hC)
 clear hC hk hh; replace hz := hz'; replace hd := hd'; clear hz' hd'
 by_cases hc3 : m < 1
 rw [decide_eq_true hc3] at S14
 refine wp_cond_true S14.ev ?_
 refine wp_seq ?_
 refine region_text (M := [p2]) (
  rT (tO [tV (.int .i64 bn), tQ B32 l r, tQ B32 (l + 41) (atH t h (bn : Rat) r n), tV (.int .i64 (TT t n))] [1, 2, 2, 1]) ::
  rE 0 59 (tO [tV (.int .i64 bn), tQ B32 l r, tQ B32 (l + 41) (atH t h (bn : Rat) r n), tV (.int .i64 (TT t n))] [1, 2, 2, 1]) p2 ::
  rT (tV (.int .i64 1)) ::
  []) hz hd (by kernel_rfl) ?_ ?_
 refine ⟨?_, ?_, ?_, trivial⟩
 exact zLdW hz (sv S3) (cl0 Cp1 (by simp [tagOf, n_p1_p2])) (ldo_r8 p2_q p2_q)
 exact zSE rfl (sv S6) (by simp [tagOf]) (Cp2.var (tO_nd (nd_c nd_int (nd_c nd_r (nd_c nd_r (nd_c nd_int nd_nil)))))) (sd 0 rfl) (st_of (sto_r8 p2_q p2_q))
 exact zAs hz kc
 intro a' γ' W' hz' hd' hC hk hh
 have tp1 := Cp1.lt
 replace Cp1 := kC hC Cp1 (by simp [tagOf, n_p1_p2])
 replace Cp2 := gotE (T := tO [tV (.int .i64 bn), tQ B32 l r, tQ B32 (l + 41) (atH t h (bn : Rat) r n), tV (.int .i64 (TT t n))] [1, 2, 2, 1]) (id := 59) (p := p2) 1 hh rfl rfl
 replace S2 := kp hk S2
 replace S3 := kp hk S3
 replace S6 := kp hk S6
 clear S7
 clear S14
 have S7 := gotV hz' 2 hh rfl rfl rfl rfl
 clear tp1
 replace HB := RelC.aftM HB hC (by intro m hm; simp at hm; rcases hm with rfl <;> assumption)
 clear hC hk hh; replace hz := hz'; replace hd := hd'; clear hz' hd'
 refine wp_ret ?_
 refine ret_to (T := tT [tO [tV (.int .i64 bn), tQ B32 l r, tQ B32 (l + 41) (atH t h (bn : Rat) r n), tV (.int .i64 (TT t n))] [1, 2, 2, 1], tV (.int .i64 1)]) (retct_o (ldo_r8 p2_q p2_q) (by kernel_rfl) S6 S7 hd Cp2 HB) ?_
 exact to2 (tO_to ⟨idT, idT, atk_to (I.at_ n) (by rw [tkH_1 hc3]), idT, trivial⟩) (tV_to (by rw [tkE_1 hc3]))
 rw [decide_eq_false hc3] at S14
 refine wp_cond_false S14.ev ?_
 refine wp_skip ?_
 refine wp_seq ?_
 refine region_drawn (M := []) (
  rT (tV (.pointer (some ⟨p1, 3, none⟩))) ::
  rT (tQ B32 (l + 41) (atH t h (bn : Rat) r n)) ::
  rT (tV (.int .i64 m)) ::
  rT (tV (.int .u64 ((m.toNat : Nat) : Int))) ::
  rT (tQ B32 64 (((m.toNat : Nat) : Rat))) ::
  rT (tT [tQ B32 ((l + 41) + 64 + 1) (subQ (atH t h (bn : Rat) r n) (((m.toNat : Nat) : Rat))), tV (.bool (decide (((m.toNat : Nat) : Rat) ≤ atH t h (bn : Rat) r n)))]) ::
  rT (tT [tQ B32 ((l + 41) + 64 + 1) (subQ (atH t h (bn : Rat) r n) (((m.toNat : Nat) : Rat))), tV (.bool (decide (((m.toNat : Nat) : Rat) ≤ atH t h (bn : Rat) r n)))]) ::
  rT (tQ B32 ((l + 41) + 64 + 1) (subQ (atH t h (bn : Rat) r n) (((m.toNat : Nat) : Rat)))) ::
  rT (tV (.bool (decide (((m.toNat : Nat) : Rat) ≤ atH t h (bn : Rat) r n)))) ::
  rVar 9 35 2 ::
  rB 9 35 (tQ B32 ((l + 41) + 64 + 1) (subQ (atH t h (bn : Rat) r n) (((m.toNat : Nat) : Rat)))) (some 9) 10 ::
  rT (tV (.bool (decide (((m.toNat : Nat) : Rat) ≤ atH t h (bn : Rat) r n)))) ::
  []) hz hd (by kernel_rfl) (by kernel_rfl) ?_ ?_
 refine ⟨?_, ?_, ?_, ?_, ?_, ?_, ?_, ?_, ?_, ?_, ?_, ?_, trivial⟩
 exact zFAo hz rfl rfl (sv S3) (fun w => by simp [go_sem])
 exact zLdO 2 hz (sd 0 rfl) (cl0 Cp1) ldo_q32
 exact zMv hz (sv S2)
 exact sConv (T' := tV (.int .i64 m)) rfl rfl rfl hz rfl (Gd.none_ rfl) rfl (sd 2 rfl) (fun v_ w_ h_ => by have h_ : v_ = .int .i64 m := h_; subst h_; exact ⟨_, by simp [go_sem, IntKind.wrap_u64]; omega, rfl⟩)
 exact zC1 hz Try.func17 (sd 3 rfl) (k1 (fun _ => dq_whole (l := 63) (by omega) (by decide)))
 exact zC2 hz Try.func53 (sd 1 rfl) (sd 4 rfl) (fun _ _ _ h0 h1 => dq_sub h0 h1 (by omega) (by decide))
 exact zMv hz (sd 5 rfl)
 exact zExt hz (sd 6 rfl)
 exact zExt hz (sd 6 rfl)
 exact zAl hz nd_rat al_r32
 exact zSt (sd 7 rfl) st_q32
 exact zAs hz (sd 8 rfl)
 intro a' γ' W' hz' hd' hC hk hh
 have ep1 := Cp1.lt
 have ep2 := Cp2.lt
 have tp1 := Cp1.lt
 replace Cp1 := kC hC Cp1
 have tp2 := Cp2.lt
 replace Cp2 := kC hC Cp2
 clear S2
 replace S3 := kp hk S3
 replace S6 := kp hk S6
 replace S7 := kp hk S7
 clear S14
 obtain ⟨p4, S8, Cp4, lp4, gp4⟩ := gotB hz' 10 hC hh rfl rfl rfl rfl rfl rfl
 have S9 := gotV hz' 11 hh rfl rfl rfl rfl
 have n_p4_p1 : p4 ≠ p1 := by omega
 have n_p4_p2 : p4 ≠ p2 := by omega
 have n_p1_p4 : p1 ≠ p4 := by have := ep1; omega
 have n_p2_p4 : p2 ≠ p4 := by have := ep2; omega
 have bp4 : w.heap.size ≤ p4 := Nat.le_trans HB.size lp4
 clear lp4 gp4
 clear tp1 tp2
 clear ep1 ep2
 replace HB := aft_call HB (RelC.below_nil hC)
 clear hC hk hh; replace hz := hz'; replace hd := hd'; clear hz' hd'
 refine wp_seq ?_
 refine wp_seq ?_
 by_cases hc5 : ((m.toNat : Nat) : Rat) ≤ atH t h (bn : Rat) r n
 rw [decide_eq_true hc5] at S9
 refine region_text (M := []) (
  rT (tV (.bool true)) ::
  rT (tV (.bool false)) ::
  []) hz hd (by kernel_rfl) ?_ ?_
 refine ⟨?_, ?_, trivial⟩
 exact zMv hz (sv S9)
 exact zNot hz (sd 0 rfl)
 intro a' γ' W' hz' hd' hC hk hh
 have tp1 := Cp1.lt
 replace Cp1 := kC hC Cp1
 have tp2 := Cp2.lt
 replace Cp2 := kC hC Cp2
 have tp4 := Cp4.lt
 replace Cp4 := kC hC Cp4
 replace S3 := kp hk S3
 replace S6 := kp hk S6
 replace S7 := kp hk S7
 replace S8 := kp hk S8
 clear S9
 have S26 := gotV hz' 1 hh rfl rfl rfl rfl
 clear tp1 tp2 tp4
 replace HB := aft_call HB (RelC.below_nil hC)
 clear hC hk hh; replace hz := hz'; replace hd := hd'; clear hz' hd'
 refine wp_cond_false S26.ev ?_
 refine wp_skip ?_
 refine wp_seq ?_
 refine region_text (M := [p1]) (
  rT (tQ B32 ((l + 41) + 64 + 1) (subQ (atH t h (bn : Rat) r n) (((m.toNat : Nat) : Rat)))) ::
  rT (tV (.pointer (some ⟨p1, 3, none⟩))) ::
  rE 0 59 (tO [tV (.int .i64 bn), tQ B32 l r, tQ B32 ((l + 41) + 64 + 1) (subQ (atH t h (bn : Rat) r n) (((m.toNat : Nat) : Rat))), tV (.int .i64 (TT t n))] [1, 2, 2, 1]) p1 ::
  []) hz hd (by kernel_rfl) ?_ ?_
 refine ⟨?_, ?_, ?_, trivial⟩
 exact zLd hz (sv S8) Cp4 ld_q32 (by simp [tagOf, n_p4_p1])
 exact zFAo hz rfl rfl (sv S3) (fun w => by simp [go_sem])
 exact zStO 2 rfl (sd 1 rfl) (by simp [tagOf]) (clM (k := 0) Cp1 (by simp [tagOf])) Cp1.lt (sd 0 rfl) sto_q32 (nd_c nd_int (nd_c nd_q (nd_c nd_q (nd_c nd_int nd_nil))))
 intro a' γ' W' hz' hd' hC hk hh
 replace Cp1 := gotE (T := tO [tV (.int .i64 bn), tQ B32 l r, tQ B32 ((l + 41) + 64 + 1) (subQ (atH t h (bn : Rat) r n) (((m.toNat : Nat) : Rat))), tV (.int .i64 (TT t n))] [1, 2, 2, 1]) (id := 59) (p := p1) 2 hh rfl rfl
 have tp2 := Cp2.lt
 replace Cp2 := kC hC Cp2 (by simp [tagOf, n_p2_p1])
 have tp4 := Cp4.lt
 clear Cp4
 replace S3 := kp hk S3
 replace S6 := kp hk S6
 replace S7 := kp hk S7
 clear S8
 clear S26
 clear tp2 tp4
 replace HB := RelC.aftM HB hC (by intro m hm; simp at hm; rcases hm with rfl <;> assumption)
 clear hC hk hh; replace hz := hz'; replace hd := hd'; clear hz' hd'
 refine wp_seq ?_
 refine region_text (M := [p2]) (
  rT (tO [tV (.int .i64 bn), tQ B32 l r, tQ B32 ((l + 41) + 64 + 1) (subQ (atH t h (bn : Rat) r n) (((m.toNat : Nat) : Rat))), tV (.int .i64 (TT t n))] [1, 2, 2, 1]) ::
  rE 0 59 (tO [tV (.int .i64 bn), tQ B32 l r, tQ B32 ((l + 41) + 64 + 1) (subQ (atH t h (bn : Rat) r n) (((m.toNat : Nat) : Rat))), tV (.int .i64 (TT t n))] [1, 2, 2, 1]) p2 ::
  rT (tV (.int .i64 0)) ::
  []) hz hd (by kernel_rfl) ?_ ?_
 refine ⟨?_, ?_, ?_, trivial⟩
 exact zLdW hz (sv S3) (cl0 Cp1 (by simp [tagOf, n_p1_p2])) (ldo_r8 p2_q p2_q)
 exact zSE rfl (sv S6) (by simp [tagOf]) (Cp2.var (tO_nd (nd_c nd_int (nd_c nd_r (nd_c nd_r (nd_c nd_int nd_nil)))))) (sd 0 rfl) (st_of (sto_r8 p2_q p2_q))
 exact zAs hz kc
 intro a' γ' W' hz' hd' hC hk hh
 have tp1 := Cp1.lt
 clear Cp1
 replace Cp2 := gotE (T := tO [tV (.int .i64 bn), tQ B32 l r, tQ B32 ((l + 41) + 64 + 1) (subQ (atH t h (bn : Rat) r n) (((m.toNat : Nat) : Rat))), tV (.int .i64 (TT t n))] [1, 2, 2, 1]) (id := 59) (p := p2) 1 hh rfl rfl
 clear S3
 replace S6 := kp hk S6
 clear S7
 have S7 := gotV hz' 2 hh rfl rfl rfl rfl
 clear tp1
 replace HB := RelC.aftM HB hC (by intro m hm; simp at hm; rcases hm with rfl <;> assumption)
 clear hC hk hh; replace hz := hz'; replace hd := hd'; clear hz' hd'
 refine wp_ret ?_
 refine ret_to (T := tT [tO [tV (.int .i64 bn), tQ B32 l r, tQ B32 ((l + 41) + 64 + 1) (subQ (atH t h (bn : Rat) r n) (((m.toNat : Nat) : Rat))), tV (.int .i64 (TT t n))] [1, 2, 2, 1], tV (.int .i64 0)]) (retct_o (ldo_r8 p2_q p2_q) (by kernel_rfl) S6 S7 hd Cp2 HB) ?_
 exact to2 (tO_to ⟨idT, idT, atk_to (I.at_ n) (by rw [tkH_2 hc3 (by rw [← toNat_rat (show 0 ≤ m by omega)]; exact hc5), toNat_rat (show 0 ≤ m by omega)]), idT, trivial⟩) (tV_to (by rw [tkE_2 hc3 (by rw [← toNat_rat (show 0 ≤ m by omega)]; exact hc5)]))
 rw [decide_eq_false hc5] at S9
 refine region_text (M := []) (
  rT (tV (.bool false)) ::
  rT (tV (.bool true)) ::
  []) hz hd (by kernel_rfl) ?_ ?_
 refine ⟨?_, ?_, trivial⟩
 exact zMv hz (sv S9)
 exact zNot hz (sd 0 rfl)
 intro a' γ' W' hz' hd' hC hk hh
 have tp1 := Cp1.lt
 replace Cp1 := kC hC Cp1
 have tp2 := Cp2.lt
 replace Cp2 := kC hC Cp2
 have tp4 := Cp4.lt
 replace Cp4 := kC hC Cp4
 replace S3 := kp hk S3
 replace S6 := kp hk S6
 replace S7 := kp hk S7
 replace S8 := kp hk S8
 clear S9
 have S26 := gotV hz' 1 hh rfl rfl rfl rfl
 clear tp1 tp2 tp4
 replace HB := aft_call HB (RelC.below_nil hC)
 clear hC hk hh; replace hz := hz'; replace hd := hd'; clear hz' hd'
 refine wp_cond_true S26.ev ?_
 refine wp_seq ?_
 refine region_text (M := [p2]) (
  rT (tO [tV (.int .i64 bn), tQ B32 l r, tQ B32 (l + 41) (atH t h (bn : Rat) r n), tV (.int .i64 (TT t n))] [1, 2, 2, 1]) ::
  rE 0 59 (tO [tV (.int .i64 bn), tQ B32 l r, tQ B32 (l + 41) (atH t h (bn : Rat) r n), tV (.int .i64 (TT t n))] [1, 2, 2, 1]) p2 ::
  rT (tV (.int .i64 80)) ::
  []) hz hd (by kernel_rfl) ?_ ?_
 refine ⟨?_, ?_, ?_, trivial⟩
 exact zLdW hz (sv S3) (cl0 Cp1 (by simp [tagOf, n_p1_p2])) (ldo_r8 p2_q p2_q)
 exact zSE rfl (sv S6) (by simp [tagOf]) (Cp2.var (tO_nd (nd_c nd_int (nd_c nd_r (nd_c nd_r (nd_c nd_int nd_nil)))))) (sd 0 rfl) (st_of (sto_r8 p2_q p2_q))
 exact zAs hz kc
 intro a' γ' W' hz' hd' hC hk hh
 have tp1 := Cp1.lt
 replace Cp1 := kC hC Cp1 (by simp [tagOf, n_p1_p2])
 replace Cp2 := gotE (T := tO [tV (.int .i64 bn), tQ B32 l r, tQ B32 (l + 41) (atH t h (bn : Rat) r n), tV (.int .i64 (TT t n))] [1, 2, 2, 1]) (id := 59) (p := p2) 1 hh rfl rfl
 have tp4 := Cp4.lt
 replace Cp4 := kC hC Cp4 (by simp [tagOf, n_p4_p2])
 replace S3 := kp hk S3
 replace S6 := kp hk S6
 clear S7
 replace S8 := kp hk S8
 clear S26
 have S7 := gotV hz' 2 hh rfl rfl rfl rfl
 clear tp1 tp4
 replace HB := RelC.aftM HB hC (by intro m hm; simp at hm; rcases hm with rfl <;> assumption)
 clear hC hk hh; replace hz := hz'; replace hd := hd'; clear hz' hd'
 refine wp_ret ?_
 refine ret_to (T := tT [tO [tV (.int .i64 bn), tQ B32 l r, tQ B32 (l + 41) (atH t h (bn : Rat) r n), tV (.int .i64 (TT t n))] [1, 2, 2, 1], tV (.int .i64 80)]) (retct_o (ldo_r8 p2_q p2_q) (by kernel_rfl) S6 S7 hd Cp2 HB) ?_
 exact to2 (tO_to ⟨idT, idT, atk_to (I.at_ n) (by rw [tkH_3 hc3 (by rw [← toNat_rat (show 0 ≤ m by omega)]; exact hc5)]), idT, trivial⟩) (tV_to (by rw [tkE_3 hc3 (by rw [← toNat_rat (show 0 ≤ m by omega)]; exact hc5)]))

set_option maxRecDepth 10000 in
set_option maxHeartbeats 2000000 in
theorem d_wait {l : Nat} {bn t n : Int} {h r : Rat}  {v0 : Value} {w : World} (h0 : (R8o l bn t h r).p v0 w) (I : BInv l t h (bn : Rat) r) (hl : l ≤ 100000) (hbn : 1 ≤ bn ∧ bn ≤ 1099511627776) (hn : n < 9223372036854775808)  :
    Calls Try.prog 29 #[v0, .int .i64 n] w (Ret (tT [tV (.int .i64 (wait t h (bn : Rat) r n).1), tV (.int .i64 (wait t h (bn : Rat) r n).2)]) w) := by
 refine enter Try.func29 rfl Try.ntmps29 (by simp) ?_
 intro a hz hd ha
 have S0 := ha 0 _ rfl
 have H0 := h0
 have S1 := ha 1 _ rfl
 clear ha
 have HB : Below w.heap.size w w := Below.refl _ _
 have ht0 := I.t0
 have ht1 := I.t1
 have hT0 := TT_le t n
 have hT1 := TT_hi (t' := n) I.t1
 refine wp_seq ?_
 refine region_text (M := []) (
  rB 0 59 (tO [tV (.int .i64 bn), tQ B32 l r, tQ B32 (l + 41) h, tV (.int .i64 t)] [1, 2, 2, 1]) none 0 ::
  rT (tV (.int .i64 0)) ::
  rT (tV (.int .i64 0)) ::
  []) hz hd (by kernel_rfl) ?_ ?_
 refine ⟨?_, ?_, ?_, trivial⟩
 exact zBox hz (so S0 H0) (box_r8 p2_q p2_q)
 exact zAs hz kc
 exact zAs hz kc
 intro a' γ' W' hz' hd' hC hk hh
 clear S0 H0
 replace S1 := kp hk S1
 obtain ⟨p1, S2, Cp1, lp1, gp1⟩ := gotB hz' 0 hC hh rfl rfl rfl rfl rfl rfl
 have S4 := gotV hz' 1 hh rfl rfl rfl rfl
 have S5 := gotV hz' 2 hh rfl rfl rfl rfl
 clear lp1 gp1
 replace HB := aft_call HB (RelC.below_nil hC)
 clear hC hk hh; replace hz := hz'; replace hd := hd'; clear hz' hd'
 refine wp_seq ?_
 refine wp_seq ?_
 refine region_text (M := []) (
  rT (tV (.int .i64 n)) ::
  rT (tV (.bool (decide (n < 1)))) ::
  []) hz hd (by kernel_rfl) ?_ ?_
 refine ⟨?_, ?_, trivial⟩
 exact zMv hz (sv S1)
 exact sBin rfl rfl rfl hz rfl (Gd.none_ rfl) rfl (sd 0 rfl) kc (fun w => run_lss)
 intro a' γ' W' hz' hd' hC hk hh
 replace Cp1 := kC hC Cp1
 replace S1 := kp hk S1
 replace S2 := kp hk S2
 replace S4 := kp hk S4
 replace S5 := kp hk S5
 have S13 := gotV hz' 1 hh rfl rfl rfl rfl
 replace HB := aft_call HB (RelC.below_nil hC)
 clear hC hk hh; replace hz := hz'; replace hd := hd'; clear hz' hd'
 by_cases hc2 : n < 1
 rw [decide_eq_true hc2] at S13
 refine wp_cond_true S13.ev ?_
 refine wp_seq ?_
 refine region_text (M := []) (
  rT (tV (.int .i64 0)) ::
  rT (tV (.int .i64 1)) ::
  []) hz hd (by kernel_rfl) ?_ ?_
 refine ⟨?_, ?_, trivial⟩
 exact zAs hz kc
 exact zAs hz kc
 intro a' γ' W' hz' hd' hC hk hh
 replace Cp1 := kC hC Cp1
 replace S1 := kp hk S1
 replace S2 := kp hk S2
 clear S4
 clear S5
 clear S13
 have S4 := gotV hz' 0 hh rfl rfl rfl rfl
 have S5 := gotV hz' 1 hh rfl rfl rfl rfl
 replace HB := aft_call HB (RelC.below_nil hC)
 clear hC hk hh; replace hz := hz'; replace hd := hd'; clear hz' hd'
 refine wp_ret ?_
 refine ret_to (T := tT [tV (.int .i64 0), tV (.int .i64 1)]) (rett2 (by kernel_rfl) S4 S5 hd HB) ?_
 exact to2 (tV_to (by rw [wait_1 hc2])) (tV_to (by rw [wait_1 hc2]))
 rw [decide_eq_false hc2] at S13
 refine wp_cond_false S13.ev ?_
 refine wp_skip ?_
 refine wp_seq ?_
 refine region_text (M := []) (
  rT (tV (.int .i64 n)) ::
  rT (tV (.int .u64 ((n.toNat : Nat) : Int))) ::
  rT (tQ B32 64 (((n.toNat : Nat) : Rat))) ::
  rVar 3 35 2 ::
  rB 3 35 (tQ B32 64 (((n.toNat : Nat) : Rat))) (some 3) 4 ::
  []) hz hd (by kernel_rfl) ?_ ?_
 refine ⟨?_, ?_, ?_, ?_, ?_, trivial⟩
 exact zMv hz (sv S1)
 exact sConv (T' := tV (.int .i64 n)) rfl rfl rfl hz rfl (Gd.none_ rfl) rfl (sd 0 rfl) (fun v_ w_ h_ => by have h_ : v_ = .int .i64 n := h_; subst h_; exact ⟨_, by simp [go_sem, IntKind.wrap_u64]; omega, rfl⟩)
 exact zC1 hz Try.func17 (sd 1 rfl) (k1 (fun _ => dq_whole (l := 63) (by omega) (by decide)))
 exact zAl hz nd_rat al_r32
 exact zSt (sd 2 rfl) st_q32
 intro a' γ' W' hz' hd' hC hk hh
 have ep1 := Cp1.lt
 replace Cp1 := kC hC Cp1
 replace S1 := kp hk S1
 replace S2 := kp hk S2
 replace S4 := kp hk S4
 replace S5 := kp hk S5
 clear S13
 obtain ⟨p3, S6, Cp3, lp3, gp3⟩ := gotB hz' 4 hC hh rfl rfl rfl rfl rfl rfl
 have n_p1_p3 : p1 ≠ p3 := by have := ep1; omega
 have bp3 : w.heap.size ≤ p3 := Nat.le_trans HB.size lp3
 clear lp3 gp3
 clear ep1
 replace HB := aft_call HB (RelC.below_nil hC)
 clear hC hk hh; replace hz := hz'; replace hd := hd'; clear hz' hd'
 refine wp_seq ?_
 refine wp_seq ?_
 refine region_text (M := []) (
  rT (tV (.pointer (some ⟨p1, 3, none⟩))) ::
  rT (tQ B32 (l + 41) h) ::
  rT (tQ B32 64 (((n.toNat : Nat) : Rat))) ::
  rT (tV (.int .i64 (cmpQ h (((n.toNat : Nat) : Rat))))) ::
  rT (tV (.bool (decide (((n.toNat : Nat) : Rat) ≤ h)))) ::
  []) hz hd (by kernel_rfl) ?_ ?_
 refine ⟨?_, ?_, ?_, ?_, ?_, trivial⟩
 exact zFAo hz rfl rfl (sv S2) (fun w => by simp [go_sem])
 exact zLdO 2 hz (sd 0 rfl) (cl0 Cp1) ldo_q32
 exact zLd hz (sv S6) Cp3 ld_q32
 exact zC2 hz Try.func18 (sd 1 rfl) (sd 2 rfl) (fun _ _ _ h0 h1 => dq_cmp h0 h1 (by omega) (by decide))
 exact sBin rfl rfl rfl hz rfl (Gd.none_ rfl) rfl (sd 3 rfl) kc (fun w => run_cQ_geq h (((n.toNat : Nat) : Rat)) w)
 intro a' γ' W' hz' hd' hC hk hh
 replace Cp1 := kC hC Cp1
 have tp3 := Cp3.lt
 replace Cp3 := kC hC Cp3
 replace S1 := kp hk S1
 replace S2 := kp hk S2
 replace S4 := kp hk S4
 replace S5 := kp hk S5
 replace S6 := kp hk S6
 have S21 := gotV hz' 4 hh rfl rfl rfl rfl
 clear tp3
 replace HB := aft_call HB (RelC.below_nil hC)
 clear hC hk hh; replace hz := hz'; replace hd := hd'; clear hz' hd'
 by_cases hc4 : ((n.toNat : Nat) : Rat) ≤ h
 rw [decide_eq_true hc4] at S21
 refine wp_cond_true S21.ev ?_
 refine wp_seq ?_
 refine region_text (M := []) (
  rT (tV (.pointer (some ⟨p1, 5, none⟩))) ::
  rT (tV (.int .i64 t)) ::
  rT (tV (.int .i64 t)) ::
  rT (tV (.int .i64 0)) ::
  []) hz hd (by kernel_rfl) ?_ ?_
 refine ⟨?_, ?_, ?_, ?_, trivial⟩
 exact zFAo hz rfl rfl (sv S2) (fun w => by simp [go_sem])
 exact zLdO 3 hz (sd 0 rfl) (cl0 Cp1) ldo_int
 exact zAs hz (sd 1 rfl)
 exact zAs hz kc
 intro a' γ' W' hz' hd' hC hk hh
 replace Cp1 := kC hC Cp1
 have tp3 := Cp3.lt
 replace Cp3 := kC hC Cp3
 replace S1 := kp hk S1
 replace S2 := kp hk S2
 clear S4
 clear S5
 replace S6 := kp hk S6
 clear S21
 have S4 := gotV hz' 2 hh rfl rfl rfl rfl
 have S5 := gotV hz' 3 hh rfl rfl rfl rfl
 clear tp3
 replace HB := aft_call HB (RelC.below_nil hC)
 clear hC hk hh; replace hz := hz'; replace hd := hd'; clear hz' hd'
 refine wp_ret ?_
 refine ret_to (T := tT [tV (.int .i64 t), tV (.int .i64 0)]) (rett2 (by kernel_rfl) S4 S5 hd HB) ?_
 exact to2 (tV_to (by rw [waitr_2 hc2 (by rw [← toNat_rat (show 0 ≤ n by omega)]; exact hc4)])) (tV_to (by rw [waitr_2 hc2 (by rw [← toNat_rat (show 0 ≤ n by omega)]; exact hc4)]))
 rw [decide_eq_false hc4] at S21
 refine wp_cond_false S21.ev ?_
 refine wp_skip ?_
 refine wp_seq ?_
 refine wp_seq ?_
 by_cases hc5 : n > bn
 refine region_text (M := []) (
  rT (tV (.int .i64 n)) ::
  rT (tV (.pointer (some ⟨p1, 0, none⟩))) ::
  rT (tV (.int .i64 bn)) ::
  rT (tV (.bool true)) ::
  rT (tV (.bool true)) ::
  rT (tV undef) ::
  rT (tV undef) ::
  rT (tV undef) ::
  rT (tV undef) ::
  rT (tV (.bool true)) ::
  []) hz hd (by kernel_rfl) ?_ ?_
 refine ⟨?_, ?_, ?_, ?_, ?_, ?_, ?_, ?_, ?_, ?_, trivial⟩
 exact zMv hz (sv S1)
 exact zFAo hz rfl rfl (sv S2) (fun w => by simp [go_sem])
 exact zLdO 0 hz (sd 1 rfl) (cl0 Cp1) ldo_int
 exact sBin rfl rfl rfl hz rfl (Gd.none_ rfl) rfl (sd 0 rfl) (sd 2 rfl) (fun w => run_t (P := n > bn) ((fun w => run_gtr) w) hc5)
 exact zMv hz (sd 3 rfl)
 exact zSkU hz (gN 4 rfl)
 exact zSkU hz (gN 4 rfl)
 exact zSkU hz (gN 4 rfl)
 exact zSkU hz (gN 4 rfl)
 exact zPT hz (sd 4 rfl) kc
 intro a' γ' W' hz' hd' hC hk hh
 replace Cp1 := kC hC Cp1
 have tp3 := Cp3.lt
 replace Cp3 := kC hC Cp3
 clear S1
 replace S2 := kp hk S2
 replace S4 := kp hk S4
 replace S5 := kp hk S5
 replace S6 := kp hk S6
 clear S21
 have S33 := gotV hz' 9 hh rfl rfl rfl rfl
 clear tp3
 replace HB := aft_call HB (RelC.below_nil hC)
 clear hC hk hh; replace hz := hz'; replace hd := hd'; clear hz' hd'
 refine wp_cond_true S33.ev ?_
 refine wp_seq ?_
 refine region_text (M := []) (
  rT (tV (.int .i64 0)) ::
  rT (tV (.int .i64 80)) ::
  []) hz hd (by kernel_rfl) ?_ ?_
 refine ⟨?_, ?_, trivial⟩
 exact zAs hz kc
 exact zAs hz kc
 intro a' γ' W' hz' hd' hC hk hh
 replace Cp1 := kC hC Cp1
 have tp3 := Cp3.lt
 replace Cp3 := kC hC Cp3
 replace S2 := kp hk S2
 clear S4
 clear S5
 replace S6 := kp hk S6
 clear S33
 have S4 := gotV hz' 0 hh rfl rfl rfl rfl
 have S5 := gotV hz' 1 hh rfl rfl rfl rfl
 clear tp3
 replace HB := aft_call HB (RelC.below_nil hC)
 clear hC hk hh; replace hz := hz'; replace hd := hd'; clear hz' hd'
 refine wp_ret ?_
 refine ret_to (T := tT [tV (.int .i64 0), tV (.int .i64 80)]) (rett2 (by kernel_rfl) S4 S5 hd HB) ?_
 exact to2 (tV_to (by rw [waitr_4 hc2 (by rw [← toNat_rat (show 0 ≤ n by omega)]; exact hc4) (.inr hc5)])) (tV_to (by rw [waitr_4 hc2 (by rw [← toNat_rat (show 0 ≤ n by omega)]; exact hc4) (.inr hc5)]))
 refine region_text (M := []) (
  rT (tV (.int .i64 n)) ::
  rT (tV (.pointer (some ⟨p1, 0, none⟩))) ::
  rT (tV (.int .i64 bn)) ::
  rT (tV (.bool false)) ::
  rT (tV (.bool false)) ::
  rT (tV (.pointer (some ⟨p1, 1, none⟩))) ::
  rT (tQ B32 l r) ::
  rT (tV (.int .i64 (sgQ r))) ::
  rT (tV (.bool (decide (sgQ r = 0)))) ::
  rT (tV (.bool (decide (sgQ r = 0)))) ::
  []) hz hd (by kernel_rfl) ?_ ?_
 refine ⟨?_, ?_, ?_, ?_, ?_, ?_, ?_, ?_, ?_, ?_, trivial⟩
 exact zMv hz (sv S1)
 exact zFAo hz rfl rfl (sv S2) (fun w => by simp [go_sem])
 exact zLdO 0 hz (sd 1 rfl) (cl0 Cp1) ldo_int
 exact sBin rfl rfl rfl hz rfl (Gd.none_ rfl) rfl (sd 0 rfl) (sd 2 rfl) (fun w => run_f (P := n > bn) ((fun w => run_gtr) w) hc5)
 exact zMv hz (sd 3 rfl)
 exact zFAo hz rfl rfl (sv S2) (fun w => by simp [go_sem]) (g := gT 4 rfl)
 exact zLdO 1 hz (sd 5 rfl) (cl0 Cp1) ldo_q32 (g := gT 4 rfl)
 exact zC1 hz Try.func57 (sd 6 rfl) (fun _ _ h0 => dq_sign h0 (by omega)) (g := gT 4 rfl)
 exact sBin rfl rfl rfl hz rfl (gT 4 rfl) rfl (sd 7 rfl) kc (fun w => run_eql)
 exact zPF hz (sd 4 rfl) (sd 8 rfl)
 intro a' γ' W' hz' hd' hC hk hh
 replace Cp1 := kC hC Cp1
 have tp3 := Cp3.lt
 replace Cp3 := kC hC Cp3
 clear S1
 replace S2 := kp hk S2
 replace S4 := kp hk S4
 replace S5 := kp hk S5
 replace S6 := kp hk S6
 clear S21
 have S33 := gotV hz' 9 hh rfl rfl rfl rfl
 clear tp3
 replace HB := aft_call HB (RelC.below_nil hC)
 clear hC hk hh; replace hz := hz'; replace hd := hd'; clear hz' hd'
 by_cases hc6 : sgQ r = 0
 rw [decide_eq_true hc6] at S33
 refine wp_cond_true S33.ev ?_
 refine wp_seq ?_
 refine region_text (M := []) (
  rT (tV (.int .i64 0)) ::
  rT (tV (.int .i64 80)) ::
  []) hz hd (by kernel_rfl) ?_ ?_
 refine ⟨?_, ?_, trivial⟩
 exact zAs hz kc
 exact zAs hz kc
 intro a' γ' W' hz' hd' hC hk hh
 replace Cp1 := kC hC Cp1
 have tp3 := Cp3.lt
 replace Cp3 := kC hC Cp3
 replace S2 := kp hk S2
 clear S4
 clear S5
 replace S6 := kp hk S6
 clear S33
 have S4 := gotV hz' 0 hh rfl rfl rfl rfl
 have S5 := gotV hz' 1 hh rfl rfl rfl rfl
 clear tp3
 replace HB := aft_call HB (RelC.below_nil hC)
 clear hC hk hh; replace hz := hz'; replace hd := hd'; clear hz' hd'
 refine wp_ret ?_
 refine ret_to (T := tT [tV (.int .i64 0), tV (.int .i64 80)]) (rett2 (by kernel_rfl) S4 S5 hd HB) ?_
 exact to2 (tV_to (by rw [waitr_4 hc2 (by rw [← toNat_rat (show 0 ≤ n by omega)]; exact hc4) (.inl (sg0.1 hc6))])) (tV_to (by rw [waitr_4 hc2 (by rw [← toNat_rat (show 0 ≤ n by omega)]; exact hc4) (.inl (sg0.1 hc6))]))
 rw [decide_eq_false hc6] at S33
 refine wp_cond_false S33.ev ?_
 refine wp_skip ?_
 refine wp_seq ?_
 refine region_drawn (M := []) (
  rT (tQ B32 64 (((n.toNat : Nat) : Rat))) ::
  rT (tV (.pointer (some ⟨p1, 3, none⟩))) ::
  rT (tQ B32 (l + 41) h) ::
  rT (tQ B32 (64 + (l + 41) + 1) (subQ (((n.toNat : Nat) : Rat)) h)) ::
  rT (tV (.pointer (some ⟨p1, 1, none⟩))) ::
  rT (tQ B32 l r) ::
  rT (tT [tQ B32 ((64 + (l + 41) + 1) + l + 1) ((subQ (((n.toNat : Nat) : Rat)) h) / r), tV (.bool (decide (r ≠ 0)))]) ::
  rT (tT [tQ B32 ((64 + (l + 41) + 1) + l + 1) ((subQ (((n.toNat : Nat) : Rat)) h) / r), tV (.bool (decide (r ≠ 0)))]) ::
  rT (tQ B32 ((64 + (l + 41) + 1) + l + 1) ((subQ (((n.toNat : Nat) : Rat)) h) / r)) ::
  rT (tV (.bool (decide (r ≠ 0)))) ::
  rVar 10 35 2 ::
  rB 10 35 (tQ B32 ((64 + (l + 41) + 1) + l + 1) ((subQ (((n.toNat : Nat) : Rat)) h) / r)) (some 10) 11 ::
  rT (tV (.bool (decide (r ≠ 0)))) ::
  []) hz hd (by kernel_rfl) (by kernel_rfl) ?_ ?_
 refine ⟨?_, ?_, ?_, ?_, ?_, ?_, ?_, ?_, ?_, ?_, ?_, ?_, ?_, trivial⟩
 exact zLd hz (sv S6) Cp3 ld_q32
 exact zFAo hz rfl rfl (sv S2) (fun w => by simp [go_sem])
 exact zLdO 2 hz (sd 1 rfl) (cl0 Cp1) ldo_q32
 exact zC2 hz Try.func58 (sd 0 rfl) (sd 2 rfl) (fun _ _ _ h0 h1 => dq_less h0 h1 (by decide) (by omega))
 exact zFAo hz rfl rfl (sv S2) (fun w => by simp [go_sem])
 exact zLdO 1 hz (sd 4 rfl) (cl0 Cp1) ldo_q32
 exact zC2 hz Try.func39 (sd 3 rfl) (sd 5 rfl) (fun _ _ _ h0 h1 => dq_div h0 h1 (by omega) (by omega))
 exact zMv hz (sd 6 rfl)
 exact zExt hz (sd 7 rfl)
 exact zExt hz (sd 7 rfl)
 exact zAl hz nd_rat al_r32
 exact zSt (sd 8 rfl) st_q32
 exact zAs hz (sd 9 rfl)
 intro a' γ' W' hz' hd' hC hk hh
 have ep1 := Cp1.lt
 have ep3 := Cp3.lt
 replace Cp1 := kC hC Cp1
 have tp3 := Cp3.lt
 clear Cp3
 replace S2 := kp hk S2
 replace S4 := kp hk S4
 replace S5 := kp hk S5
 clear S6
 clear S33
 obtain ⟨p7, S7, Cp7, lp7, gp7⟩ := gotB hz' 11 hC hh rfl rfl rfl rfl rfl rfl
 have n_p1_p7 : p1 ≠ p7 := by have := ep1; omega
 have bp7 : w.heap.size ≤ p7 := Nat.le_trans HB.size lp7
 clear lp7 gp7
 clear tp3
 clear ep1 ep3
 replace HB := aft_call HB (RelC.below_nil hC)
 clear hC hk hh; replace hz := hz'; replace hd := hd'; clear hz' hd'
 refine wp_seq ?_
 refine region_drawn (M := []) (
  rT (tQ B32 ((64 + (l + 41) + 1) + l + 1) ((subQ (((n.toNat : Nat) : Rat)) h) / r)) ::
  rT (tN B32 (((64 + (l + 41) + 1) + l + 1) + 3) (((subQ (((n.toNat : Nat) : Rat)) h) / r).ceil.toNat)) ::
  rT (tV (.pointer (some ⟨p1, 5, none⟩))) ::
  rT (tV (.int .i64 t)) ::
  rT (tV (.int .u64 ((t.toNat : Nat) : Int))) ::
  rT (tN B32 2 t.toNat) ::
  rT (tN B32 ((max (((64 + (l + 41) + 1) + l + 1) + 3) 2) + 1) ((((subQ (((n.toNat : Nat) : Rat)) h) / r).ceil.toNat) + t.toNat)) ::
  rVar 7 33 1 ::
  rB 7 33 (tN B32 ((max (((64 + (l + 41) + 1) + l + 1) + 3) 2) + 1) ((((subQ (((n.toNat : Nat) : Rat)) h) / r).ceil.toNat) + t.toNat)) (some 7) 8 ::
  []) hz hd (by kernel_rfl) (by kernel_rfl) ?_ ?_
 refine ⟨?_, ?_, ?_, ?_, ?_, ?_, ?_, ?_, ?_, trivial⟩
 exact zLd hz (sv S7) Cp7 ld_q32
 exact zC1 hz Try.func59 (sd 0 rfl) (fun _ _ h0 => dq_ceil h0 (by omega))
 exact zFAo hz rfl rfl (sv S2) (fun w => by simp [go_sem])
 exact zLdO 3 hz (sd 2 rfl) (cl0 Cp1) ldo_int
 exact sConv (T' := tV (.int .i64 t)) rfl rfl rfl hz rfl (Gd.none_ rfl) rfl (sd 3 rfl) (fun v_ w_ h_ => by have h_ : v_ = .int .i64 t := h_; subst h_; exact ⟨_, by simp [go_sem, IntKind.wrap_u64]; omega, rfl⟩)
 exact zC1 hz Try.func21 (sd 4 rfl) (k1 (fun _ => d_of (by unfold B64; omega)))
 exact zC2 hz Try.func43 (sd 1 rfl) (sd 5 rfl) (fun _ _ _ h0 h1 => d_add h0 h1 (by rw [big_eq]; omega) (by decide))
 exact zAl hz nd_slice al_n32
 exact zSt (sd 6 rfl) st_n32
 intro a' γ' W' hz' hd' hC hk hh
 have ep1 := Cp1.lt
 have ep7 := Cp7.lt
 clear Cp1
 have tp7 := Cp7.lt
 clear Cp7
 clear S2
 replace S4 := kp hk S4
 replace S5 := kp hk S5
 clear S7
 obtain ⟨p8, S9, Cp8, lp8, gp8⟩ := gotB hz' 8 hC hh rfl rfl rfl rfl rfl rfl
 have bp8 : w.heap.size ≤ p8 := Nat.le_trans HB.size lp8
 clear lp8 gp8
 clear tp7
 clear ep1 ep7
 replace HB := aft_call HB (RelC.below_nil hC)
 clear hC hk hh; replace hz := hz'; replace hd := hd'; clear hz' hd'
 refine wp_seq ?_
 refine wp_seq ?_
 refine region_drawn (M := []) (
  rT (tN B32 ((max (((64 + (l + 41) + 1) + l + 1) + 3) 2) + 1) ((((subQ (((n.toNat : Nat) : Rat)) h) / r).ceil.toNat) + t.toNat)) ::
  rT (tN B32 2 4611686018427387904) ::
  rT (tV (.int .i64 (cmpI ((((subQ (((n.toNat : Nat) : Rat)) h) / r).ceil.toNat) + t.toNat) 4611686018427387904))) ::
  rT (tV (.bool (decide (4611686018427387904 < (((subQ (((n.toNat : Nat) : Rat)) h) / r).ceil.toNat) + t.toNat)))) ::
  []) hz hd (by kernel_rfl) (by kernel_rfl) ?_ ?_
 refine ⟨?_, ?_, ?_, ?_, trivial⟩
 exact zLd hz (sv S9) Cp8 ld_n32
 exact zC1 hz Try.func21 (kc (v := .int .u64 4611686018427387904)) (k1 (fun _ => d_of (by decide)))
 exact zC2 hz Try.func19 (sd 0 rfl) (sd 1 rfl) (fun _ _ _ h0 h1 => d_cmp h0 h1 (by rw [big_eq]; omega) (by decide))
 exact sBin rfl rfl rfl hz rfl (Gd.none_ rfl) rfl (sd 2 rfl) kc (fun w => run_cI_gtr ((((subQ (((n.toNat : Nat) : Rat)) h) / r).ceil.toNat) + t.toNat) 4611686018427387904 w)
 intro a' γ' W' hz' hd' hC hk hh
 have tp8 := Cp8.lt
 replace Cp8 := kC hC Cp8
 replace S4 := kp hk S4
 replace S5 := kp hk S5
 replace S9 := kp hk S9
 have S54 := gotV hz' 3 hh rfl rfl rfl rfl
 clear tp8
 replace HB := aft_call HB (RelC.below_nil hC)
 clear hC hk hh; replace hz := hz'; replace hd := hd'; clear hz' hd'
 by_cases hc9 : 4611686018427387904 < (((subQ (((n.toNat : Nat) : Rat)) h) / r).ceil.toNat) + t.toNat
 rw [decide_eq_true hc9] at S54
 refine wp_cond_true S54.ev ?_
 refine wp_seq ?_
 refine region_text (M := []) (
  rT (tV (.int .i64 0)) ::
  rT (tV (.int .i64 80)) ::
  []) hz hd (by kernel_rfl) ?_ ?_
 refine ⟨?_, ?_, trivial⟩
 exact zAs hz kc
 exact zAs hz kc
 intro a' γ' W' hz' hd' hC hk hh
 have tp8 := Cp8.lt
 replace Cp8 := kC hC Cp8
 clear S4
 clear S5
 replace S9 := kp hk S9
 clear S54
 have S4 := gotV hz' 0 hh rfl rfl rfl rfl
 have S5 := gotV hz' 1 hh rfl rfl rfl rfl
 clear tp8
 replace HB := aft_call HB (RelC.below_nil hC)
 clear hC hk hh; replace hz := hz'; replace hd := hd'; clear hz' hd'
 refine wp_ret ?_
 refine ret_to (T := tT [tV (.int .i64 0), tV (.int .i64 80)]) (rett2 (by kernel_rfl) S4 S5 hd HB) ?_
 exact to2 (tV_to (by rw [waitr_6 I.r0 I.t0 I.t1 hc2 (by rw [← toNat_rat (show 0 ≤ n by omega)]; exact hc4) (fun g => hc6 (sg0.2 g)) hc5 hc9])) (tV_to (by rw [waitr_6 I.r0 I.t0 I.t1 hc2 (by rw [← toNat_rat (show 0 ≤ n by omega)]; exact hc4) (fun g => hc6 (sg0.2 g)) hc5 hc9]))
 have hU : uintOf ((((subQ (((n.toNat : Nat) : Rat)) h) / r).ceil.toNat) + t.toNat) = (((subQ (((n.toNat : Nat) : Rat)) h) / r).ceil.toNat) + t.toNat := uint_y (by unfold B64; omega)
 rw [decide_eq_false hc9] at S54
 refine wp_cond_false S54.ev ?_
 refine wp_skip ?_
 refine wp_seq ?_
 refine region_text (M := []) (
  rT (tN B32 ((max (((64 + (l + 41) + 1) + l + 1) + 3) 2) + 1) ((((subQ (((n.toNat : Nat) : Rat)) h) / r).ceil.toNat) + t.toNat)) ::
  rT (tT [tV (.int .u64 ((uintOf ((((subQ (((n.toNat : Nat) : Rat)) h) / r).ceil.toNat) + t.toNat) : Nat) : Int)), tV (.bool (decide ((((subQ (((n.toNat : Nat) : Rat)) h) / r).ceil.toNat) + t.toNat < B64)))]) ::
  rT (tT [tV (.int .u64 ((uintOf ((((subQ (((n.toNat : Nat) : Rat)) h) / r).ceil.toNat) + t.toNat) : Nat) : Int)), tV (.bool (decide ((((subQ (((n.toNat : Nat) : Rat)) h) / r).ceil.toNat) + t.toNat < B64)))]) ::
  rT (tV (.int .u64 ((uintOf ((((subQ (((n.toNat : Nat) : Rat)) h) / r).ceil.toNat) + t.toNat) : Nat) : Int))) ::
  rT (tV (.bool (decide ((((subQ (((n.toNat : Nat) : Rat)) h) / r).ceil.toNat) + t.toNat < B64)))) ::
  rT (tV (.int .u64 ((uintOf ((((subQ (((n.toNat : Nat) : Rat)) h) / r).ceil.toNat) + t.toNat) : Nat) : Int))) ::
  rT (tV (.bool (decide ((((subQ (((n.toNat : Nat) : Rat)) h) / r).ceil.toNat) + t.toNat < B64)))) ::
  []) hz hd (by kernel_rfl) ?_ ?_
 refine ⟨?_, ?_, ?_, ?_, ?_, ?_, ?_, trivial⟩
 exact zLd hz (sv S9) Cp8 ld_n32
 exact zC1 hz Try.func60 (sd 0 rfl) (fun _ _ h0 => d_uint h0 (by rw [big_eq]; omega))
 exact zMv hz (sd 1 rfl)
 exact zExt hz (sd 2 rfl)
 exact zExt hz (sd 2 rfl)
 exact zAs hz (sd 3 rfl)
 exact zAs hz (sd 4 rfl)
 intro a' γ' W' hz' hd' hC hk hh
 have tp8 := Cp8.lt
 clear Cp8
 replace S4 := kp hk S4
 replace S5 := kp hk S5
 clear S9
 clear S54
 have S10 := gotV hz' 5 hh rfl rfl rfl rfl
 clear tp8
 replace HB := aft_call HB (RelC.below_nil hC)
 clear hC hk hh; replace hz := hz'; replace hd := hd'; clear hz' hd'
 refine wp_seq ?_
 refine region_text (M := []) (
  rT (tV (.int .u64 ((uintOf ((((subQ (((n.toNat : Nat) : Rat)) h) / r).ceil.toNat) + t.toNat) : Nat) : Int))) ::
  rT (tV (.int .i64 ((uintOf ((((subQ (((n.toNat : Nat) : Rat)) h) / r).ceil.toNat) + t.toNat) : Nat) : Int))) ::
  rT (tV (.int .i64 ((uintOf ((((subQ (((n.toNat : Nat) : Rat)) h) / r).ceil.toNat) + t.toNat) : Nat) : Int))) ::
  rT (tV (.int .i64 0)) ::
  []) hz hd (by kernel_rfl) ?_ ?_
 refine ⟨?_, ?_, ?_, ?_, trivial⟩
 exact zMv hz (sv S10)
 exact sConv (T' := tV (.int .u64 ((uintOf ((((subQ (((n.toNat : Nat) : Rat)) h) / r).ceil.toNat) + t.toNat) : Nat) : Int))) rfl rfl rfl hz rfl (Gd.none_ rfl) rfl (sd 0 rfl) (fun v_ w_ h_ => by have h_ : v_ = .int .u64 ((uintOf ((((subQ (((n.toNat : Nat) : Rat)) h) / r).ceil.toNat) + t.toNat) : Nat) : Int) := h_; subst h_; exact ⟨_, by simp [go_sem, IntKind.wrap_i64]; omega, rfl⟩)
 exact zAs hz (sd 1 rfl)
 exact zAs hz kc
 intro a' γ' W' hz' hd' hC hk hh
 clear S4
 clear S5
 clear S10
 have S4 := gotV hz' 2 hh rfl rfl rfl rfl
 have S5 := gotV hz' 3 hh rfl rfl rfl rfl
 replace HB := aft_call HB (RelC.below_nil hC)
 clear hC hk hh; replace hz := hz'; replace hd := hd'; clear hz' hd'
 refine wp_ret ?_
 refine ret_to (T := tT [tV (.int .i64 ((uintOf ((((subQ (((n.toNat : Nat) : Rat)) h) / r).ceil.toNat) + t.toNat) : Nat) : Int)), tV (.int .i64 0)]) (rett2 (by kernel_rfl) S4 S5 hd HB) ?_
 exact to2 (tV_to (by rw [waitr_7 I.r0 I.t0 I.t1 hc2 (by rw [← toNat_rat (show 0 ≤ n by omega)]; exact hc4) (fun g => hc6 (sg0.2 g)) hc5 hc9 hU])) (tV_to (by rw [waitr_7 I.r0 I.t0 I.t1 hc2 (by rw [← toNat_rat (show 0 ≤ n by omega)]; exact hc4) (fun g => hc6 (sg0.2 g)) hc5 hc9 hU]))

end Go.Proofs.Ytojpiiboikomfaa.Rg

namespace Go.Proofs.Ytojpiiboikomfaa.Rg

open Go.RowKit Go.ChangeShapes Go.WideShapes Go.ChangeAt Go.Deep

theorem tagO_base {M : List Nat} {B g k : Nat} (hg : g < B) (hM : ∀ m ∈ M, B ≤ m) : tagOf M k g = 0 := by
  induction M generalizing k with
  | nil => rfl
  | cons m M ih =>
    unfold tagOf
    have := hM m List.mem_cons_self
    rw [if_neg (by omega)]
    exact ih fun x hx => hM x (List.mem_cons_of_mem _ hx)
theorem cell_oaft {M : List Nat} {B g o : Nat} {W w : World} {γ : Nat → Nat} {u : Value} (h : W.cell? ⟨g, o, none⟩ = some u) (hc : RelC M W γ w) (hg : g < B) (hM : ∀ m ∈ M, B ≤ m) : w.cell? ⟨g, o, none⟩ = some u := by
  rw [World.cell?_of_block (hc.1.block g (World.block_lt_of_cell? _ _ h) (.inr (by unfold mt; rw [if_pos (tagO_base hg hM)]; omega)))]; exact h
/-- Rows of k ints each. -/
def RI (k : Nat) (A : Option Addr) (n : Nat) (F : Nat → Int) (B : Nat) (w : World) : Prop :=
  ∀ i, i < n → ∃ g o, A = some ⟨g, o, none⟩ ∧ g < B ∧ ∀ f, f < k → w.cell? ⟨g, o + (i * k + f), none⟩ = some (.int .i64 (F (i * k + f)))
theorem RI.aft {k : Nat} {A : Option Addr} {n B : Nat} {F : Nat → Int} {M : List Nat} {W w : World} {γ : Nat → Nat} (h : RI k A n F B W) (hc : RelC M W γ w) (hM : ∀ m ∈ M, B ≤ m) : RI k A n F B w := by
  intro i hi
  obtain ⟨g, o, e, hg, h1⟩ := h i hi
  exact ⟨g, o, e, hg, fun f hf => cell_oaft (h1 f hf) hc hg hM⟩
theorem ri_in {k bytes : Nat} (hk : 0 < k) {w : World} {A : Option Addr} {n c : Nat} {l : List Int} (h : InI .i64 bytes k w A n c l) : RI k A n (fun j => l.getD j 0) w.heap.size w := by
  intro i hi
  obtain ⟨g, off, rfl, hg, hc⟩ := h.reads.flat (by omega) hk
  have hl := h.reads.1
  rw [List.length_map] at hl
  refine ⟨g, off, rfl, hg, fun f hf => hc _ _ ?_⟩
  have : i * k + f < l.length := by
    have : (i + 1) * k ≤ n * k := Nat.mul_le_mul_right k hi
    rw [Nat.add_mul, Nat.one_mul] at this
    omega
  rw [List.getElem?_map, List.getElem?_eq_getElem this]
  show _ = some (Value.int IntKind.i64 (l.getD (i * k + f) 0))
  rw [List.getD_eq_getElem?_getD, List.getElem?_eq_getElem this]; rfl
section

variable {P : Program} {ops : Array Oper} {Q : Exit → Act → World → Prop} {a0 : Act} {M : List Nat} {W : World} {rels : List Rel} {i : Nat} {o : Oper} {T : Ty} {N d : Nat} {x y : Operand}
theorem sLenK {id : TypeId} {A : Option Addr} {n c : Nat} (hz : a0.tmps.size = N) (hop : o.op = .call { callee := .builtin .len, args := #[x], argTypes := #[id] }) (s : Src ops a0 M W rels i o x (tV (.slice A n c))) (hid : ∀ w, (Builtin.len_ #[id] o.type #[.slice A n c]).run P w = .ok (.int .i64 n) w) (g : Gd ops a0 M W rels i o true := by exact Gd.none_ rfl)
    (ho : ops[i]? = some o := by rfl) (hr : rels[i]? = some (rT (tV (.int .i64 (n : Int)))) := by rfl) (hd : o.dst = some d := by rfl) (hlt : decide (d < N) = true := by rfl) : StepOk P ops a0 M W Q rels i o :=
  sOp ho hr hd hz hlt g fun a γ w U => by
    have e : a.eval x = .slice A n c := s a γ w U
    refine ⟨_, ?_, rfl⟩
    generalize a.eval = ρ at e ⊢
    unfold execOp; rw [hop]; simp [go_sem, e, hid]
/-- An element's address, a load: known ahead. -/
theorem zIxV {id : TypeId} {u v z : Value} (hz : a0.tmps.size = N) (hop : o.op = .indexAddr id x y) (sx : Src ops a0 M W rels i o x (tV u)) (sy : Src ops a0 M W rels i o y (tV v)) (h : ∀ w, (Instr.indexAt id u v).run P w = .ok z w)
    (g : Gd ops a0 M W rels i o true := by exact Gd.none_ rfl) (ho : ops[i]? = some o := by rfl) (hr : rels[i]? = some (rT (tV z)) := by rfl) (hd : o.dst = some d := by rfl) (hlt : decide (d < N) = true := by rfl) : StepOk P ops a0 M W Q rels i o :=
  sOp ho hr hd hz hlt g fun a γ w U => by
    have e : a.eval x = u := sx a γ w U
    have e2 : a.eval y = v := sy a γ w U
    refine ⟨_, ?_, rfl⟩
    unfold execOp; rw [hop]; simp only [e, e2, Sem.run_bind, h, Result.andThen, Sem.run_pure]
theorem zLdV {id : TypeId} {p : Value} (hz : a0.tmps.size = N) (hop : o.op = .load id x) (sx : Src ops a0 M W rels i o x (tV p)) (h : ∀ γ w, RelC M W γ w → ∃ v, (Instr.loadAt id p).run P w = .ok v w ∧ T.p v w)
    (g : Gd ops a0 M W rels i o true := by exact Gd.none_ rfl) (ho : ops[i]? = some o := by rfl) (hr : rels[i]? = some (rT T) := by rfl) (hd : o.dst = some d := by rfl) (hlt : decide (d < N) = true := by rfl) : StepOk P ops a0 M W Q rels i o :=
  sOp ho hr hd hz hlt g fun a γ w U => by
    have e : a.eval x = p := sx a γ w U
    obtain ⟨v, h1, h2⟩ := h γ w U.c
    refine ⟨v, ?_, h2⟩
    unfold execOp; rw [hop]; simp only [e, Sem.run_bind, h1, Result.andThen, Sem.run_pure]
end

section

variable {g o n c i : Nat} {A : Option Addr} {F : Nat → Int} {w : World} {k t u : Int}
/-- A step. -/
def S3 (k t u : Int) : Ty := tO [tV (.int .i64 k), tV (.int .i64 t), tV (.int .i64 u)] [1, 1, 1]
theorem ix_st (hA : A = some ⟨g, o, none⟩) (hi : i < n) : ∀ w : World, (Instr.indexAt 23 (.slice A n c) (.int .i64 (i : Int))).run Try.prog w = .ok (.pointer (some ⟨g, o + i * 3, none⟩)) w := by
  intro w; subst hA; simp [go_sem, hi]
theorem ld_s3 (h : ∀ f, f < 3 → w.cell? ⟨g, o + (i * 3 + f), none⟩ = some (.int .i64 (F (i * 3 + f)))) : ∃ v, (Instr.loadAt 42 (.pointer (some ⟨g, o + i * 3, none⟩))).run Try.prog w = .ok v w ∧ (tO [tV (.int .i64 (F (i * 3))), tV (.int .i64 (F (i * 3 + 1))), tV (.int .i64 (F (i * 3 + 2)))] [1, 1, 1]).p v w := by
  have h0 : w.cell? ⟨g, o + i * 3, none⟩ = some (.int .i64 (F (i * 3))) := h 0 (by decide)
  have h1 := h 1 (by decide)
  have h2 := h 2 (by decide)
  simp only [← Nat.add_assoc] at h1 h2
  refine ⟨.agg #[.int .i64 (F (i * 3)), .int .i64 (F (i * 3 + 1)), .int .i64 (F (i * 3 + 2))], by simp [go_sem, h0, h1, h2], [.int .i64 (F (i * 3)), .int .i64 (F (i * 3 + 1)), .int .i64 (F (i * 3 + 2))], rfl, ⟨rfl, rfl, rfl, trivial⟩, rfl⟩
theorem al_s3 : ∀ w : World, (Instr.alloc 42 true (.tuple #[])).run Try.prog w = .ok (.pointer (some ⟨w.heap.size, 0, none⟩)) (w.alloc (.cells (Value.agg #[.int .i64 0, .int .i64 0, .int .i64 0]).cells 42)) := by
  intro w; simp [go_sem, Value.cells]
theorem nd_s3 : ∀ u ∈ (Value.agg #[.int .i64 0, .int .i64 0, .int .i64 0]).cells, notDig u := by
  intro u hu
  simp [cells_agg] at hu
  subst hu
  intro k m hk h
  cases h; simp [digK] at hk
theorem S3_v {v : Value} (hv : (tO [tV (.int .i64 k), tV (.int .i64 t), tV (.int .i64 u)] [1, 1, 1]).p v w) : v = .agg #[.int .i64 k, .int .i64 t, .int .i64 u] := by
  obtain ⟨vs, rfl, ha, -⟩ := hv
  obtain ⟨v1, v2, v3, rfl, rfl, rfl, rfl⟩ := allT3 ha
  rfl
theorem sto_s3 : StoreOk Try.prog 42 (tO [tV (.int .i64 k), tV (.int .i64 t), tV (.int .i64 u)] [1, 1, 1]) 3 := by
  intro v w p us hv hs hb
  have hnd := (tO_nd (nd_c nd_int (nd_c nd_int (nd_c nd_int nd_nil))) v w hv).2
  obtain rfl := S3_v hv
  have b1 := hb.set_ 0 (.int .i64 k)
  have b2 := b1.set_ 1 (.int .i64 t)
  have b3 := b2.set_ 2 (.int .i64 u)
  obtain ⟨u0, g0⟩ := blk_lt hb 0 (by omega)
  obtain ⟨u1, g1⟩ := blk_lt hb 1 (by omega)
  obtain ⟨u2, g2⟩ := blk_lt hb 2 (by omega)
  have f0 := hb.frozen 0
  have f1 := hb.frozen 1
  have f2 := hb.frozen 2
  obtain ⟨u1', k1⟩ := blk_lt b1 1 (by simp; omega)
  obtain ⟨u2', k2⟩ := blk_lt b2 2 (by simp; omega)
  have q1 := b1.frozen 1
  have q2 := b2.frozen 2
  refine ⟨((w.setCell ⟨p, 0, none⟩ (.int .i64 k)).setCell ⟨p, 1, none⟩ (.int .i64 t)).setCell ⟨p, 2, none⟩ (.int .i64 u), ?_, ((But.set1 _ _ _ _).trans (But.set1 _ _ _ _)).trans (But.set1 _ _ _ _), ?_, rfl, hnd⟩
  · simp [go_sem, g0, g1, g2, f0, f1, f2, k1, k2, q1, q2]
  · have e : ((us.setIfInBounds 0 (.int .i64 k)).setIfInBounds 1 (.int .i64 t)).setIfInBounds 2 (.int .i64 u) = (Value.agg #[.int .i64 k, .int .i64 t, .int .i64 u]).cells := by
      obtain ⟨l⟩ := us
      match l, hs with
      | [a, b, c], _ => rfl
    rw [← e]; exact b3
end

end Go.Proofs.Ytojpiiboikomfaa.Rg
