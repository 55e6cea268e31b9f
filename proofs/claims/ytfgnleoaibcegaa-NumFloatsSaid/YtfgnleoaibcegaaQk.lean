/-
  Walks and plain laws, put together: VQ VR VS.
-/
import Derived.Test.YtfgnleoaibcegaaQj
import Derived.Test.YtfgnleoaibcegaaFr
set_option linter.unusedVariables false
set_option linter.unusedSimpArgs false
namespace Go.Proofs.Ytfgnleoaibcegaa.Rg

open Go.RowKit

set_option maxRecDepth 10000 in
set_option maxHeartbeats 2000000 in
theorem numFloats_ret {u : Nat} {w : World}  (hu : u < 18446744073709551616) :
    Calls Try.prog 3 #[.int .u64 (u : Int)] w (Ret (tV (.bool true)) w) := by
 refine enter Try.func3 rfl Try.ntmps3 (by simp) ?_
 intro a hz hd ha
 have S0 := ha 0 _ rfl
 clear ha
 have HB : Below w.heap.size w w := Below.refl _ _
 refine wp_seq ?_
 refine region_text (M := []) (
  rT (tV (.bool false)) ::
  []) hz hd (by kernel_rfl) ?_ ?_
 refine ⟨?_, trivial⟩
 exact zAs hz kc
 intro a' γ' W' hz' hd' hC hk hh
 replace S0 := kp hk S0
 have S2 := gotV hz' 0 hh rfl rfl rfl rfl
 replace HB := aft_call HB (RelC.below_nil hC)
 clear hC hk hh; replace hz := hz'; replace hd := hd'; clear hz' hd'
 refine wp_seq ?_
 refine wp_seq ?_
 refine region_text (M := []) (
  rT (tV (.int .i64 0)) ::
  []) hz hd (by kernel_rfl) ?_ ?_
 refine ⟨?_, trivial⟩
 exact zAs hz kc
 intro a' γ' W' hz' hd' hC hk hh
 replace S0 := kp hk S0
 replace S2 := kp hk S2
 have S3 := gotV hz' 0 hh rfl rfl rfl rfl
 replace HB := aft_call HB (RelC.below_nil hC)
 clear hC hk hh; replace hz := hz'; replace hd := hd'; clear hz' hd'
 refine wp_block ?_
 refine wp_loop_rounds 4 ?_
 show Code.wp _ _ _ _ _
 refine wp_seq ?_
 refine wp_seq ?_
 refine region_text (M := []) (
  rT (tV (.int .i64 0)) ::
  rT (tV (.bool true)) ::
  []) hz hd (by kernel_rfl) ?_ ?_
 refine ⟨?_, ?_, trivial⟩
 exact zMv hz (sv S3)
 exact sBin rfl rfl rfl hz rfl (Gd.none_ rfl) rfl (sd 0 rfl) kc (fun w => by simp [go_sem])
 intro a' γ' W' hz' hd' hC hk hh
 replace S0 := kp hk S0
 replace S2 := kp hk S2
 replace S3 := kp hk S3
 have S9 := gotV hz' 1 hh rfl rfl rfl rfl
 replace HB := aft_call HB (RelC.below_nil hC)
 clear hC hk hh; replace hz := hz'; replace hd := hd'; clear hz' hd'
 refine wp_cond_true S9.ev ?_
 refine wp_skip ?_
 refine wp_seq ?_
 refine wp_block ?_
 refine wp_seq ?_
 refine region_text (M := []) (
  rT (tV (.int .u64 (u : Int))) ::
  rT (tV (.float .f64 u)) ::
  rT (tT [tQ B64 1100 (flQ u), tV (.bool (decide (FOk u)))]) ::
  rT (tT [tQ B64 1100 (flQ u), tV (.bool (decide (FOk u)))]) ::
  rT (tQ B64 1100 (flQ u)) ::
  rT (tV (.bool (decide (FOk u)))) ::
  rVar 6 27 2 ::
  rB 6 27 (tQ B64 1100 (flQ u)) (some 6) 7 ::
  rT (tV (.bool (decide (FOk u)))) ::
  []) hz hd (by kernel_rfl) ?_ ?_
 refine ⟨?_, ?_, ?_, ?_, ?_, ?_, ?_, ?_, ?_, trivial⟩
 exact zMv hz (sv S0)
 exact zC1 hz Try.func7 (sd 0 rfl) (k1 (fun _ => c_float))
 exact zC1 hz Try.func6 (sd 1 rfl) (k1 (fun _ => c_fromfloat (l := 1100) hu (by decide)))
 exact zMv hz (sd 2 rfl)
 exact zExt hz (sd 3 rfl)
 exact zExt hz (sd 3 rfl)
 exact zAl hz nd_rat al_r64
 exact zSt (sd 4 rfl) st_q64
 exact zAs hz (sd 5 rfl)
 intro a' γ' W' hz' hd' hC hk hh
 replace S0 := kp hk S0
 replace S2 := kp hk S2
 replace S3 := kp hk S3
 replace S9 := kp hk S9
 obtain ⟨p1, S4, Cp1, lp1, gp1⟩ := gotB hz' 7 hC hh rfl rfl rfl rfl rfl rfl
 have S5 := gotV hz' 8 hh rfl rfl rfl rfl
 clear lp1 gp1
 replace HB := aft_call HB (RelC.below_nil hC)
 clear hC hk hh; replace hz := hz'; replace hd := hd'; clear hz' hd'
 refine wp_seq ?_
 refine region_text (M := []) (
  rT (tV (.int .u64 (u : Int))) ::
  rT (tT [tQ B32 1100 (flQ u), tV (.bool (decide (FOk u)))]) ::
  rT (tT [tQ B32 1100 (flQ u), tV (.bool (decide (FOk u)))]) ::
  rT (tQ B32 1100 (flQ u)) ::
  rT (tV (.bool (decide (FOk u)))) ::
  rVar 5 35 2 ::
  rB 5 35 (tQ B32 1100 (flQ u)) (some 5) 6 ::
  rT (tV (.bool (decide (FOk u)))) ::
  []) hz hd (by kernel_rfl) ?_ ?_
 refine ⟨?_, ?_, ?_, ?_, ?_, ?_, ?_, ?_, trivial⟩
 exact zMv hz (sv S0)
 exact zC1 hz Try.func8 (sd 0 rfl) (k1 (fun _ => d_fromfloat (l := 1100) hu (by decide)))
 exact zMv hz (sd 1 rfl)
 exact zExt hz (sd 2 rfl)
 exact zExt hz (sd 2 rfl)
 exact zAl hz nd_rat al_r32
 exact zSt (sd 3 rfl) st_q32
 exact zAs hz (sd 4 rfl)
 intro a' γ' W' hz' hd' hC hk hh
 replace Cp1 := kC hC Cp1
 replace S0 := kp hk S0
 replace S2 := kp hk S2
 replace S3 := kp hk S3
 replace S9 := kp hk S9
 replace S4 := kp hk S4
 replace S5 := kp hk S5
 obtain ⟨p2, S6, Cp2, lp2, gp2⟩ := gotB hz' 6 hC hh rfl rfl rfl rfl rfl rfl
 have S7 := gotV hz' 7 hh rfl rfl rfl rfl
 clear lp2 gp2
 replace HB := aft_call HB (RelC.below_nil hC)
 clear hC hk hh; replace hz := hz'; replace hd := hd'; clear hz' hd'
 refine wp_seq ?_
 by_cases hc3 : FOk u
 rw [decide_eq_true hc3] at S5
 rw [decide_eq_true hc3] at S7
 refine region_text (M := []) (
  rT (tV (.bool true)) ::
  rT (tV (.bool true)) ::
  rT (tV (.bool false)) ::
  rT (tV (.bool false)) ::
  rT (tQ B64 1100 (flQ u)) ::
  rT (tQ B32 1100 (flQ u)) ::
  rT (tV (.bool true)) ::
  rT (tV (.bool false)) ::
  rT (tV (.bool false)) ::
  []) hz hd (by kernel_rfl) ?_ ?_
 refine ⟨?_, ?_, ?_, ?_, ?_, ?_, ?_, ?_, ?_, trivial⟩
 exact zMv hz (sv S5)
 exact zMv hz (sv S7)
 exact sBin rfl rfl rfl hz rfl (Gd.none_ rfl) rfl (sd 0 rfl) (sd 1 rfl) (fun w => by kernel_rfl)
 exact zMv hz (sd 2 rfl)
 exact zLd hz (sv S4) Cp1 ld_q64 (g := gT 3 rfl)
 exact zLd hz (sv S6) Cp2 ld_q32 (g := gT 3 rfl)
 exact zC2 hz Try.func9 (sd 4 rfl) (sd 5 rfl) (fun _ _ _ h0 h1 => l_same3 h0 h1 (by decide) (by decide)) (g := gT 3 rfl)
 exact zNot hz (sd 6 rfl) (g := gT 3 rfl)
 exact zPF hz (sd 3 rfl) (sd 7 rfl)
 intro a' γ' W' hz' hd' hC hk hh
 replace Cp1 := kC hC Cp1
 replace Cp2 := kC hC Cp2
 replace S0 := kp hk S0
 replace S2 := kp hk S2
 replace S3 := kp hk S3
 replace S9 := kp hk S9
 replace S4 := kp hk S4
 replace S5 := kp hk S5
 replace S6 := kp hk S6
 replace S7 := kp hk S7
 have S31 := gotV hz' 8 hh rfl rfl rfl rfl
 replace HB := aft_call HB (RelC.below_nil hC)
 clear hC hk hh; replace hz := hz'; replace hd := hd'; clear hz' hd'
 refine wp_cond_false S31.ev ?_
 refine wp_skip ?_
 refine region_text (M := []) (
  rT (tV (.int .i64 0)) ::
  rT (tV (.int .i64 1)) ::
  rT (tV (.int .i64 1)) ::
  []) hz hd (by kernel_rfl) ?_ ?_
 refine ⟨?_, ?_, ?_, trivial⟩
 exact zMv hz (sv S3)
 exact sBin rfl rfl rfl hz rfl (Gd.none_ rfl) rfl (sd 0 rfl) kc (fun w => by kernel_rfl)
 exact zAs hz (sd 1 rfl)
 intro a' γ' W' hz' hd' hC hk hh
 replace Cp1 := kC hC Cp1
 replace Cp2 := kC hC Cp2
 replace S0 := kp hk S0
 replace S2 := kp hk S2
 clear S3
 replace S9 := kp hk S9
 replace S4 := kp hk S4
 replace S5 := kp hk S5
 replace S6 := kp hk S6
 replace S7 := kp hk S7
 replace S31 := kp hk S31
 have S3 := gotV hz' 2 hh rfl rfl rfl rfl
 replace HB := aft_call HB (RelC.below_nil hC)
 clear hC hk hh; replace hz := hz'; replace hd := hd'; clear hz' hd'
 show Code.wp _ _ _ _ _
 refine wp_seq ?_
 refine wp_seq ?_
 refine region_text (M := []) (
  rT (tV (.int .i64 1)) ::
  rT (tV (.bool true)) ::
  []) hz hd (by kernel_rfl) ?_ ?_
 refine ⟨?_, ?_, trivial⟩
 exact zMv hz (sv S3)
 exact sBin rfl rfl rfl hz rfl (Gd.none_ rfl) rfl (sd 0 rfl) kc (fun w => by simp [go_sem])
 intro a' γ' W' hz' hd' hC hk hh
 replace Cp1 := kC hC Cp1
 replace Cp2 := kC hC Cp2
 replace S0 := kp hk S0
 replace S2 := kp hk S2
 clear S9
 replace S4 := kp hk S4
 replace S5 := kp hk S5
 replace S6 := kp hk S6
 replace S7 := kp hk S7
 replace S31 := kp hk S31
 replace S3 := kp hk S3
 have S9 := gotV hz' 1 hh rfl rfl rfl rfl
 replace HB := aft_call HB (RelC.below_nil hC)
 clear hC hk hh; replace hz := hz'; replace hd := hd'; clear hz' hd'
 refine wp_cond_true S9.ev ?_
 refine wp_skip ?_
 refine wp_seq ?_
 refine wp_block ?_
 refine wp_seq ?_
 refine region_text (M := []) (
  rT (tV (.int .u64 (u : Int))) ::
  rT (tV (.float .f64 u)) ::
  rT (tT [tQ B64 1100 (flQ u), tV (.bool true)]) ::
  rT (tT [tQ B64 1100 (flQ u), tV (.bool true)]) ::
  rT (tQ B64 1100 (flQ u)) ::
  rT (tV (.bool true)) ::
  rVar 6 27 2 ::
  rB 6 27 (tQ B64 1100 (flQ u)) (some 6) 7 ::
  rT (tV (.bool true)) ::
  []) hz hd (by kernel_rfl) ?_ ?_
 refine ⟨?_, ?_, ?_, ?_, ?_, ?_, ?_, ?_, ?_, trivial⟩
 exact zMv hz (sv S0)
 exact zC1 hz Try.func7 (sd 0 rfl) (k1 (fun _ => c_float))
 exact zC1 hz Try.func6 (sd 1 rfl) (k1 (fun w_ => (by have hq := c_fromfloat (l := 1100) hu (by decide) (w := w_); simp only [decide_eq_true hc3] at hq; exact hq)))
 exact zMv hz (sd 2 rfl)
 exact zExt hz (sd 3 rfl)
 exact zExt hz (sd 3 rfl)
 exact zAl hz nd_rat al_r64
 exact zSt (sd 4 rfl) st_q64
 exact zAs hz (sd 5 rfl)
 intro a' γ' W' hz' hd' hC hk hh
 replace Cp1 := kC hC Cp1
 replace Cp2 := kC hC Cp2
 replace S0 := kp hk S0
 replace S2 := kp hk S2
 clear S4
 clear S5
 replace S6 := kp hk S6
 replace S7 := kp hk S7
 replace S31 := kp hk S31
 replace S3 := kp hk S3
 replace S9 := kp hk S9
 obtain ⟨p4, S4, Cp4, lp4, gp4⟩ := gotB hz' 7 hC hh rfl rfl rfl rfl rfl rfl
 have S5 := gotV hz' 8 hh rfl rfl rfl rfl
 clear lp4 gp4
 replace HB := aft_call HB (RelC.below_nil hC)
 clear hC hk hh; replace hz := hz'; replace hd := hd'; clear hz' hd'
 refine wp_seq ?_
 refine region_text (M := []) (
  rT (tV (.int .u64 (u : Int))) ::
  rT (tT [tQ B32 1100 (flQ u), tV (.bool true)]) ::
  rT (tT [tQ B32 1100 (flQ u), tV (.bool true)]) ::
  rT (tQ B32 1100 (flQ u)) ::
  rT (tV (.bool true)) ::
  rVar 5 35 2 ::
  rB 5 35 (tQ B32 1100 (flQ u)) (some 5) 6 ::
  rT (tV (.bool true)) ::
  []) hz hd (by kernel_rfl) ?_ ?_
 refine ⟨?_, ?_, ?_, ?_, ?_, ?_, ?_, ?_, trivial⟩
 exact zMv hz (sv S0)
 exact zC1 hz Try.func8 (sd 0 rfl) (k1 (fun w_ => (by have hq := d_fromfloat (l := 1100) hu (by decide) (w := w_); simp only [decide_eq_true hc3] at hq; exact hq)))
 exact zMv hz (sd 1 rfl)
 exact zExt hz (sd 2 rfl)
 exact zExt hz (sd 2 rfl)
 exact zAl hz nd_rat al_r32
 exact zSt (sd 3 rfl) st_q32
 exact zAs hz (sd 4 rfl)
 intro a' γ' W' hz' hd' hC hk hh
 clear Cp1
 replace Cp2 := kC hC Cp2
 replace Cp4 := kC hC Cp4
 replace S0 := kp hk S0
 replace S2 := kp hk S2
 clear S6
 clear S7
 replace S31 := kp hk S31
 replace S3 := kp hk S3
 replace S9 := kp hk S9
 replace S4 := kp hk S4
 replace S5 := kp hk S5
 obtain ⟨p5, S6, Cp5, lp5, gp5⟩ := gotB hz' 6 hC hh rfl rfl rfl rfl rfl rfl
 have S7 := gotV hz' 7 hh rfl rfl rfl rfl
 clear lp5 gp5
 replace HB := aft_call HB (RelC.below_nil hC)
 clear hC hk hh; replace hz := hz'; replace hd := hd'; clear hz' hd'
 refine wp_seq ?_
 refine region_text (M := []) (
  rT (tV (.bool true)) ::
  rT (tV (.bool true)) ::
  rT (tV (.bool false)) ::
  rT (tV (.bool false)) ::
  rT (tQ B64 1100 (flQ u)) ::
  rT (tQ B32 1100 (flQ u)) ::
  rT (tV (.bool true)) ::
  rT (tV (.bool false)) ::
  rT (tV (.bool false)) ::
  []) hz hd (by kernel_rfl) ?_ ?_
 refine ⟨?_, ?_, ?_, ?_, ?_, ?_, ?_, ?_, ?_, trivial⟩
 exact zMv hz (sv S5)
 exact zMv hz (sv S7)
 exact sBin rfl rfl rfl hz rfl (Gd.none_ rfl) rfl (sd 0 rfl) (sd 1 rfl) (fun w => by kernel_rfl)
 exact zMv hz (sd 2 rfl)
 exact zLd hz (sv S4) Cp4 ld_q64 (g := gT 3 rfl)
 exact zLd hz (sv S6) Cp5 ld_q32 (g := gT 3 rfl)
 exact zC2 hz Try.func9 (sd 4 rfl) (sd 5 rfl) (fun _ _ _ h0 h1 => l_same3 h0 h1 (by decide) (by decide)) (g := gT 3 rfl)
 exact zNot hz (sd 6 rfl) (g := gT 3 rfl)
 exact zPF hz (sd 3 rfl) (sd 7 rfl)
 intro a' γ' W' hz' hd' hC hk hh
 clear Cp2
 replace Cp4 := kC hC Cp4
 replace Cp5 := kC hC Cp5
 replace S0 := kp hk S0
 replace S2 := kp hk S2
 clear S31
 replace S3 := kp hk S3
 replace S9 := kp hk S9
 replace S4 := kp hk S4
 replace S5 := kp hk S5
 replace S6 := kp hk S6
 replace S7 := kp hk S7
 have S31 := gotV hz' 8 hh rfl rfl rfl rfl
 replace HB := aft_call HB (RelC.below_nil hC)
 clear hC hk hh; replace hz := hz'; replace hd := hd'; clear hz' hd'
 refine wp_cond_false S31.ev ?_
 refine wp_skip ?_
 refine region_text (M := []) (
  rT (tV (.int .i64 1)) ::
  rT (tV (.int .i64 2)) ::
  rT (tV (.int .i64 2)) ::
  []) hz hd (by kernel_rfl) ?_ ?_
 refine ⟨?_, ?_, ?_, trivial⟩
 exact zMv hz (sv S3)
 exact sBin rfl rfl rfl hz rfl (Gd.none_ rfl) rfl (sd 0 rfl) kc (fun w => by kernel_rfl)
 exact zAs hz (sd 1 rfl)
 intro a' γ' W' hz' hd' hC hk hh
 replace Cp4 := kC hC Cp4
 replace Cp5 := kC hC Cp5
 replace S0 := kp hk S0
 replace S2 := kp hk S2
 clear S3
 replace S9 := kp hk S9
 replace S4 := kp hk S4
 replace S5 := kp hk S5
 replace S6 := kp hk S6
 replace S7 := kp hk S7
 replace S31 := kp hk S31
 have S3 := gotV hz' 2 hh rfl rfl rfl rfl
 replace HB := aft_call HB (RelC.below_nil hC)
 clear hC hk hh; replace hz := hz'; replace hd := hd'; clear hz' hd'
 show Code.wp _ _ _ _ _
 refine wp_seq ?_
 refine wp_seq ?_
 refine region_text (M := []) (
  rT (tV (.int .i64 2)) ::
  rT (tV (.bool false)) ::
  []) hz hd (by kernel_rfl) ?_ ?_
 refine ⟨?_, ?_, trivial⟩
 exact zMv hz (sv S3)
 exact sBin rfl rfl rfl hz rfl (Gd.none_ rfl) rfl (sd 0 rfl) kc (fun w => by simp [go_sem])
 intro a' γ' W' hz' hd' hC hk hh
 replace Cp4 := kC hC Cp4
 replace Cp5 := kC hC Cp5
 replace S0 := kp hk S0
 replace S2 := kp hk S2
 clear S9
 replace S4 := kp hk S4
 replace S5 := kp hk S5
 replace S6 := kp hk S6
 replace S7 := kp hk S7
 replace S31 := kp hk S31
 replace S3 := kp hk S3
 have S9 := gotV hz' 1 hh rfl rfl rfl rfl
 replace HB := aft_call HB (RelC.below_nil hC)
 clear hC hk hh; replace hz := hz'; replace hd := hd'; clear hz' hd'
 refine wp_cond_false S9.ev ?_
 refine wp_exit ?_
 refine wp_seq ?_
 refine region_text (M := []) (
  rT (tV (.bool true)) ::
  rT (tV (.bool true)) ::
  []) hz hd (by kernel_rfl) ?_ ?_
 refine ⟨?_, ?_, trivial⟩
 exact zC0 hz Try.func10 (fun _ => l_started)
 exact zAs hz (sd 0 rfl)
 intro a' γ' W' hz' hd' hC hk hh
 clear Cp4
 clear Cp5
 clear S0
 clear S2
 clear S4
 clear S5
 clear S6
 clear S7
 clear S31
 clear S3
 clear S9
 have S2 := gotV hz' 1 hh rfl rfl rfl rfl
 replace HB := aft_call HB (RelC.below_nil hC)
 clear hC hk hh; replace hz := hz'; replace hd := hd'; clear hz' hd'
 refine wp_ret ?_
 refine ret_to (T := tV (.bool true)) (ret1 (by kernel_rfl) S2 hd ⟨_, rfl, rfl, HB⟩) ?_
 exact fun _ _ h => h
 rw [decide_eq_false hc3] at S5
 rw [decide_eq_false hc3] at S7
 refine region_text (M := []) (
  rT (tV (.bool false)) ::
  rT (tV (.bool false)) ::
  rT (tV (.bool false)) ::
  rT (tV (.bool false)) ::
  rT (tQ B64 1100 (flQ u)) ::
  rT (tQ B32 1100 (flQ u)) ::
  rT (tV (.bool true)) ::
  rT (tV (.bool false)) ::
  rT (tV (.bool false)) ::
  []) hz hd (by kernel_rfl) ?_ ?_
 refine ⟨?_, ?_, ?_, ?_, ?_, ?_, ?_, ?_, ?_, trivial⟩
 exact zMv hz (sv S5)
 exact zMv hz (sv S7)
 exact sBin rfl rfl rfl hz rfl (Gd.none_ rfl) rfl (sd 0 rfl) (sd 1 rfl) (fun w => by kernel_rfl)
 exact zMv hz (sd 2 rfl)
 exact zLd hz (sv S4) Cp1 ld_q64 (g := gT 3 rfl)
 exact zLd hz (sv S6) Cp2 ld_q32 (g := gT 3 rfl)
 exact zC2 hz Try.func9 (sd 4 rfl) (sd 5 rfl) (fun _ _ _ h0 h1 => l_same3 h0 h1 (by decide) (by decide)) (g := gT 3 rfl)
 exact zNot hz (sd 6 rfl) (g := gT 3 rfl)
 exact zPF hz (sd 3 rfl) (sd 7 rfl)
 intro a' γ' W' hz' hd' hC hk hh
 replace Cp1 := kC hC Cp1
 replace Cp2 := kC hC Cp2
 replace S0 := kp hk S0
 replace S2 := kp hk S2
 replace S3 := kp hk S3
 replace S9 := kp hk S9
 replace S4 := kp hk S4
 replace S5 := kp hk S5
 replace S6 := kp hk S6
 replace S7 := kp hk S7
 have S31 := gotV hz' 8 hh rfl rfl rfl rfl
 replace HB := aft_call HB (RelC.below_nil hC)
 clear hC hk hh; replace hz := hz'; replace hd := hd'; clear hz' hd'
 refine wp_cond_false S31.ev ?_
 refine wp_skip ?_
 refine region_text (M := []) (
  rT (tV (.int .i64 0)) ::
  rT (tV (.int .i64 1)) ::
  rT (tV (.int .i64 1)) ::
  []) hz hd (by kernel_rfl) ?_ ?_
 refine ⟨?_, ?_, ?_, trivial⟩
 exact zMv hz (sv S3)
 exact sBin rfl rfl rfl hz rfl (Gd.none_ rfl) rfl (sd 0 rfl) kc (fun w => by kernel_rfl)
 exact zAs hz (sd 1 rfl)
 intro a' γ' W' hz' hd' hC hk hh
 replace Cp1 := kC hC Cp1
 replace Cp2 := kC hC Cp2
 replace S0 := kp hk S0
 replace S2 := kp hk S2
 clear S3
 replace S9 := kp hk S9
 replace S4 := kp hk S4
 replace S5 := kp hk S5
 replace S6 := kp hk S6
 replace S7 := kp hk S7
 replace S31 := kp hk S31
 have S3 := gotV hz' 2 hh rfl rfl rfl rfl
 replace HB := aft_call HB (RelC.below_nil hC)
 clear hC hk hh; replace hz := hz'; replace hd := hd'; clear hz' hd'
 show Code.wp _ _ _ _ _
 refine wp_seq ?_
 refine wp_seq ?_
 refine region_text (M := []) (
  rT (tV (.int .i64 1)) ::
  rT (tV (.bool true)) ::
  []) hz hd (by kernel_rfl) ?_ ?_
 refine ⟨?_, ?_, trivial⟩
 exact zMv hz (sv S3)
 exact sBin rfl rfl rfl hz rfl (Gd.none_ rfl) rfl (sd 0 rfl) kc (fun w => by simp [go_sem])
 intro a' γ' W' hz' hd' hC hk hh
 replace Cp1 := kC hC Cp1
 replace Cp2 := kC hC Cp2
 replace S0 := kp hk S0
 replace S2 := kp hk S2
 clear S9
 replace S4 := kp hk S4
 replace S5 := kp hk S5
 replace S6 := kp hk S6
 replace S7 := kp hk S7
 replace S31 := kp hk S31
 replace S3 := kp hk S3
 have S9 := gotV hz' 1 hh rfl rfl rfl rfl
 replace HB := aft_call HB (RelC.below_nil hC)
 clear hC hk hh; replace hz := hz'; replace hd := hd'; clear hz' hd'
 refine wp_cond_true S9.ev ?_
 refine wp_skip ?_
 refine wp_seq ?_
 refine wp_block ?_
 refine wp_seq ?_
 refine region_text (M := []) (
  rT (tV (.int .u64 (u : Int))) ::
  rT (tV (.float .f64 u)) ::
  rT (tT [tQ B64 1100 (flQ u), tV (.bool false)]) ::
  rT (tT [tQ B64 1100 (flQ u), tV (.bool false)]) ::
  rT (tQ B64 1100 (flQ u)) ::
  rT (tV (.bool false)) ::
  rVar 6 27 2 ::
  rB 6 27 (tQ B64 1100 (flQ u)) (some 6) 7 ::
  rT (tV (.bool false)) ::
  []) hz hd (by kernel_rfl) ?_ ?_
 refine ⟨?_, ?_, ?_, ?_, ?_, ?_, ?_, ?_, ?_, trivial⟩
 exact zMv hz (sv S0)
 exact zC1 hz Try.func7 (sd 0 rfl) (k1 (fun _ => c_float))
 exact zC1 hz Try.func6 (sd 1 rfl) (k1 (fun w_ => (by have hq := c_fromfloat (l := 1100) hu (by decide) (w := w_); simp only [decide_eq_false hc3] at hq; exact hq)))
 exact zMv hz (sd 2 rfl)
 exact zExt hz (sd 3 rfl)
 exact zExt hz (sd 3 rfl)
 exact zAl hz nd_rat al_r64
 exact zSt (sd 4 rfl) st_q64
 exact zAs hz (sd 5 rfl)
 intro a' γ' W' hz' hd' hC hk hh
 replace Cp1 := kC hC Cp1
 replace Cp2 := kC hC Cp2
 replace S0 := kp hk S0
 replace S2 := kp hk S2
 clear S4
 clear S5
 replace S6 := kp hk S6
 replace S7 := kp hk S7
 replace S31 := kp hk S31
 replace S3 := kp hk S3
 replace S9 := kp hk S9
 obtain ⟨p6, S4, Cp6, lp6, gp6⟩ := gotB hz' 7 hC hh rfl rfl rfl rfl rfl rfl
 have S5 := gotV hz' 8 hh rfl rfl rfl rfl
 clear lp6 gp6
 replace HB := aft_call HB (RelC.below_nil hC)
 clear hC hk hh; replace hz := hz'; replace hd := hd'; clear hz' hd'
 refine wp_seq ?_
 refine region_text (M := []) (
  rT (tV (.int .u64 (u : Int))) ::
  rT (tT [tQ B32 1100 (flQ u), tV (.bool false)]) ::
  rT (tT [tQ B32 1100 (flQ u), tV (.bool false)]) ::
  rT (tQ B32 1100 (flQ u)) ::
  rT (tV (.bool false)) ::
  rVar 5 35 2 ::
  rB 5 35 (tQ B32 1100 (flQ u)) (some 5) 6 ::
  rT (tV (.bool false)) ::
  []) hz hd (by kernel_rfl) ?_ ?_
 refine ⟨?_, ?_, ?_, ?_, ?_, ?_, ?_, ?_, trivial⟩
 exact zMv hz (sv S0)
 exact zC1 hz Try.func8 (sd 0 rfl) (k1 (fun w_ => (by have hq := d_fromfloat (l := 1100) hu (by decide) (w := w_); simp only [decide_eq_false hc3] at hq; exact hq)))
 exact zMv hz (sd 1 rfl)
 exact zExt hz (sd 2 rfl)
 exact zExt hz (sd 2 rfl)
 exact zAl hz nd_rat al_r32
 exact zSt (sd 3 rfl) st_q32
 exact zAs hz (sd 4 rfl)
 intro a' γ' W' hz' hd' hC hk hh
 clear Cp1
 replace Cp2 := kC hC Cp2
 replace Cp6 := kC hC Cp6
 replace S0 := kp hk S0
 replace S2 := kp hk S2
 clear S6
 clear S7
 replace S31 := kp hk S31
 replace S3 := kp hk S3
 replace S9 := kp hk S9
 replace S4 := kp hk S4
 replace S5 := kp hk S5
 obtain ⟨p7, S6, Cp7, lp7, gp7⟩ := gotB hz' 6 hC hh rfl rfl rfl rfl rfl rfl
 have S7 := gotV hz' 7 hh rfl rfl rfl rfl
 clear lp7 gp7
 replace HB := aft_call HB (RelC.below_nil hC)
 clear hC hk hh; replace hz := hz'; replace hd := hd'; clear hz' hd'
 refine wp_seq ?_
 refine region_text (M := []) (
  rT (tV (.bool false)) ::
  rT (tV (.bool false)) ::
  rT (tV (.bool false)) ::
  rT (tV (.bool false)) ::
  rT (tQ B64 1100 (flQ u)) ::
  rT (tQ B32 1100 (flQ u)) ::
  rT (tV (.bool true)) ::
  rT (tV (.bool false)) ::
  rT (tV (.bool false)) ::
  []) hz hd (by kernel_rfl) ?_ ?_
 refine ⟨?_, ?_, ?_, ?_, ?_, ?_, ?_, ?_, ?_, trivial⟩
 exact zMv hz (sv S5)
 exact zMv hz (sv S7)
 exact sBin rfl rfl rfl hz rfl (Gd.none_ rfl) rfl (sd 0 rfl) (sd 1 rfl) (fun w => by kernel_rfl)
 exact zMv hz (sd 2 rfl)
 exact zLd hz (sv S4) Cp6 ld_q64 (g := gT 3 rfl)
 exact zLd hz (sv S6) Cp7 ld_q32 (g := gT 3 rfl)
 exact zC2 hz Try.func9 (sd 4 rfl) (sd 5 rfl) (fun _ _ _ h0 h1 => l_same3 h0 h1 (by decide) (by decide)) (g := gT 3 rfl)
 exact zNot hz (sd 6 rfl) (g := gT 3 rfl)
 exact zPF hz (sd 3 rfl) (sd 7 rfl)
 intro a' γ' W' hz' hd' hC hk hh
 clear Cp2
 replace Cp6 := kC hC Cp6
 replace Cp7 := kC hC Cp7
 replace S0 := kp hk S0
 replace S2 := kp hk S2
 clear S31
 replace S3 := kp hk S3
 replace S9 := kp hk S9
 replace S4 := kp hk S4
 replace S5 := kp hk S5
 replace S6 := kp hk S6
 replace S7 := kp hk S7
 have S31 := gotV hz' 8 hh rfl rfl rfl rfl
 replace HB := aft_call HB (RelC.below_nil hC)
 clear hC hk hh; replace hz := hz'; replace hd := hd'; clear hz' hd'
 refine wp_cond_false S31.ev ?_
 refine wp_skip ?_
 refine region_text (M := []) (
  rT (tV (.int .i64 1)) ::
  rT (tV (.int .i64 2)) ::
  rT (tV (.int .i64 2)) ::
  []) hz hd (by kernel_rfl) ?_ ?_
 refine ⟨?_, ?_, ?_, trivial⟩
 exact zMv hz (sv S3)
 exact sBin rfl rfl rfl hz rfl (Gd.none_ rfl) rfl (sd 0 rfl) kc (fun w => by kernel_rfl)
 exact zAs hz (sd 1 rfl)
 intro a' γ' W' hz' hd' hC hk hh
 replace Cp6 := kC hC Cp6
 replace Cp7 := kC hC Cp7
 replace S0 := kp hk S0
 replace S2 := kp hk S2
 clear S3
 replace S9 := kp hk S9
 replace S4 := kp hk S4
 replace S5 := kp hk S5
 replace S6 := kp hk S6
 replace S7 := kp hk S7
 replace S31 := kp hk S31
 have S3 := gotV hz' 2 hh rfl rfl rfl rfl
 replace HB := aft_call HB (RelC.below_nil hC)
 clear hC hk hh; replace hz := hz'; replace hd := hd'; clear hz' hd'
 show Code.wp _ _ _ _ _
 refine wp_seq ?_
 refine wp_seq ?_
 refine region_text (M := []) (
  rT (tV (.int .i64 2)) ::
  rT (tV (.bool false)) ::
  []) hz hd (by kernel_rfl) ?_ ?_
 refine ⟨?_, ?_, trivial⟩
 exact zMv hz (sv S3)
 exact sBin rfl rfl rfl hz rfl (Gd.none_ rfl) rfl (sd 0 rfl) kc (fun w => by simp [go_sem])
 intro a' γ' W' hz' hd' hC hk hh
 replace Cp6 := kC hC Cp6
 replace Cp7 := kC hC Cp7
 replace S0 := kp hk S0
 replace S2 := kp hk S2
 clear S9
 replace S4 := kp hk S4
 replace S5 := kp hk S5
 replace S6 := kp hk S6
 replace S7 := kp hk S7
 replace S31 := kp hk S31
 replace S3 := kp hk S3
 have S9 := gotV hz' 1 hh rfl rfl rfl rfl
 replace HB := aft_call HB (RelC.below_nil hC)
 clear hC hk hh; replace hz := hz'; replace hd := hd'; clear hz' hd'
 refine wp_cond_false S9.ev ?_
 refine wp_exit ?_
 refine wp_seq ?_
 refine region_text (M := []) (
  rT (tV (.bool true)) ::
  rT (tV (.bool true)) ::
  []) hz hd (by kernel_rfl) ?_ ?_
 refine ⟨?_, ?_, trivial⟩
 exact zC0 hz Try.func10 (fun _ => l_started)
 exact zAs hz (sd 0 rfl)
 intro a' γ' W' hz' hd' hC hk hh
 clear Cp6
 clear Cp7
 clear S0
 clear S2
 clear S4
 clear S5
 clear S6
 clear S7
 clear S31
 clear S3
 clear S9
 have S2 := gotV hz' 1 hh rfl rfl rfl rfl
 replace HB := aft_call HB (RelC.below_nil hC)
 clear hC hk hh; replace hz := hz'; replace hd := hd'; clear hz' hd'
 refine wp_ret ?_
 refine ret_to (T := tV (.bool true)) (ret1 (by kernel_rfl) S2 hd ⟨_, rfl, rfl, HB⟩) ?_
 exact fun _ _ h => h

end Go.Proofs.Ytfgnleoaibcegaa.Rg

namespace Go.Proofs.Ytfgnleoaibcegaa.Rg

open Go.RowKit Go.ChangeShapes Go.WideShapes Go.ChangeAt Go.Deep

theorem ret_out3 {P : Program} {f : FuncId} {args : Array Value} {w : World} {v : Value} (h : Calls P f args w (Ret (tV v) w)) : Calls P f args w fun e w' => e = .returned v ∧ Below w.heap.size w w' := by
  refine h.mono ?_
  rintro e w' ⟨u, rfl, h1, h2⟩
  have h1 : u = v := h1
  exact ⟨by rw [h1], h2⟩
theorem u64_r {a : Int} (h : (Lit.int .u64 a).wf = true) : ∃ u : Nat, a = (u : Int) ∧ u < 18446744073709551616 := by
  simp only [Lit.wf, decide_eq_true_eq, Bool.and_eq_true] at h
  have e1 : IntKind.u64.max = 18446744073709551615 := by decide
  have e2 : IntKind.u64.min = 0 := by decide
  rw [e1, e2] at h
  exact ⟨a.toNat, by omega, by omega⟩
end Go.Proofs.Ytfgnleoaibcegaa.Rg

namespace Go.Proofs.Ytfgnleoaibcegaa.Rg

open Go.RowKit Go.ChangeShapes Go.WideShapes Go.ChangeAt Go.Deep

theorem numFloats_walk (u : Int) (w : World) (hu : (Lit.int .u64 u).wf = true) : Calls Try.prog 3 #[.int .u64 u] w fun e w' => e = .returned (.bool true) ∧ Below w.heap.size w w' := by
  obtain ⟨u, rfl, hu2⟩ := u64_r hu
  exact ret_out3 (numFloats_ret hu2)
end Go.Proofs.Ytfgnleoaibcegaa.Rg
