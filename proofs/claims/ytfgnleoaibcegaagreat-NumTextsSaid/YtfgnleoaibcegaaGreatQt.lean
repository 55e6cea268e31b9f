/-
  Walks and plain laws, put together: VX VYT.
-/
import Derived.Test.YtfgnleoaibcegaaGreatQm
set_option linter.unusedVariables false
set_option linter.unusedSimpArgs false
namespace Go.Proofs.YtfgnleoaibcegaaGreat.Rg

open Go.RowKit

set_option maxRecDepth 10000 in
set_option maxHeartbeats 2000000 in
theorem numTexts_ret {l k : List Nat} {z f : Int} {v0 v1 : Value} {w : World} (h0 : (tBy 9223372036854775807 l).p v0 w) (h1 : (tBy 9223372036854775807 k).p v1 w)  :
    Calls Tryz.prog 5 #[v0, v1, .int .i64 (z), .int .i64 (f)] w (Ret (tV (.bool true)) w) := by
 refine enter Tryz.func5 rfl Tryz.ntmps5 (by simp) ?_
 intro a hz hd ha
 have S0 := ha 0 _ rfl
 have H0 := h0
 have S1 := ha 1 _ rfl
 have H1 := h1
 have S2 := ha 2 _ rfl
 have S3 := ha 3 _ rfl
 clear ha
 have HB : Below w.heap.size w w := Below.refl _ _
 refine wp_seq ?_
 refine region_text (M := []) (
  rT (tV (.bool false)) ::
  []) hz hd (by kernel_rfl) ?_ ?_
 refine ⟨?_, trivial⟩
 exact zAs hz kc
 intro a' γ' W' hz' hd' hC hk hh
 replace S0 := kp hk S0
 replace H0 := Ty.aft _ H0 hC
 replace S1 := kp hk S1
 replace H1 := Ty.aft _ H1 hC
 replace S2 := kp hk S2
 replace S3 := kp hk S3
 have S8 := gotV hz' 0 hh rfl rfl rfl rfl
 replace HB := aft_call HB (RelC.below_nil hC)
 clear hC hk hh; replace hz := hz'; replace hd := hd'; clear hz' hd'
 refine wp_seq ?_
 refine region_text (M := []) (
  rT (tBy 9223372036854775807 l) ::
  rT (tBy 9223372036854775807 k) ::
  rT (tT [tQ B64 2400 (mk3 l k), tQ B32 2400 (mk3 l k)]) ::
  rT (tT [tQ B64 2400 (mk3 l k), tQ B32 2400 (mk3 l k)]) ::
  rT (tQ B64 2400 (mk3 l k)) ::
  rT (tQ B32 2400 (mk3 l k)) ::
  rVar 6 28 2 ::
  rVar 7 32 2 ::
  rB 6 28 (tQ B64 2400 (mk3 l k)) (some 6) 7 ::
  rB 7 32 (tQ B32 2400 (mk3 l k)) (some 7) 8 ::
  []) hz hd (by kernel_rfl) ?_ ?_
 refine ⟨?_, ?_, ?_, ?_, ?_, ?_, ?_, ?_, ?_, ?_, trivial⟩
 exact zMv hz (so S0 H0)
 exact zMv hz (so S1 H1)
 exact zC2 hz Tryz.func7 (sd 0 rfl) (sd 1 rfl) (fun _ _ _ h0 h1 => l_made3 (m := 2400) h0 h1 (by decide))
 exact zMv hz (sd 2 rfl)
 exact zExt hz (sd 3 rfl)
 exact zExt hz (sd 3 rfl)
 exact zAl hz nd_rat al_r64
 exact zAl hz nd_rat al_r32
 exact zSt (sd 4 rfl) st_q64
 exact zSt (sd 5 rfl) st_q32
 intro a' γ' W' hz' hd' hC hk hh
 clear S0 H0
 clear S1 H1
 replace S2 := kp hk S2
 replace S3 := kp hk S3
 replace S8 := kp hk S8
 obtain ⟨p1, S9, Cp1, lp1, gp1⟩ := gotB hz' 8 hC hh rfl rfl rfl rfl rfl rfl
 obtain ⟨p2, S10, Cp2, lp2, gp2⟩ := gotB hz' 9 hC hh rfl rfl rfl rfl rfl rfl
 have n_p1_p2 : p1 ≠ p2 := by intro e; rw [e, gp2] at gp1; omega
 have n_p2_p1 : p2 ≠ p1 := by intro e; rw [e, gp1] at gp2; omega
 have bp1 : w.heap.size ≤ p1 := Nat.le_trans HB.size lp1
 have bp2 : w.heap.size ≤ p2 := Nat.le_trans HB.size lp2
 clear lp1 gp1 lp2 gp2
 replace HB := aft_call HB (RelC.below_nil hC)
 clear hC hk hh; replace hz := hz'; replace hd := hd'; clear hz' hd'
 refine wp_seq ?_
 refine wp_seq ?_
 refine region_drawn (M := []) (
  rT (tQ B64 2400 (mk3 l k)) ::
  rT (tV (.string (strB (fmtT (mk3 l k).num.toNat (mk3 l k).den)))) ::
  rT (tQ B32 2400 (mk3 l k)) ::
  rT (tV (.string (strB (fmtT (mk3 l k).num.toNat (mk3 l k).den)))) ::
  rT (tV (.bool false)) ::
  []) hz hd (by kernel_rfl) (by kernel_rfl) ?_ ?_
 refine ⟨?_, ?_, ?_, ?_, ?_, trivial⟩
 exact zLd hz (sv S9) Cp1 ld_q64
 exact zC1 hz Tryz.func27 (sd 0 rfl) (fun _ _ h0 => c_format h0 rfl rfl (by decide))
 exact zLd hz (sv S10) Cp2 ld_q32
 exact zC1 hz Tryz.func28 (sd 2 rfl) (fun _ _ h0 => dq_format h0 rfl rfl (by decide))
 exact sBin rfl rfl rfl hz rfl (Gd.none_ rfl) rfl (sd 1 rfl) (sd 3 rfl) (fun w => o_strne w)
 intro a' γ' W' hz' hd' hC hk hh
 have tp1 := Cp1.lt
 replace Cp1 := kC hC Cp1
 have tp2 := Cp2.lt
 replace Cp2 := kC hC Cp2
 replace S2 := kp hk S2
 replace S3 := kp hk S3
 replace S8 := kp hk S8
 replace S9 := kp hk S9
 replace S10 := kp hk S10
 have S27 := gotV hz' 4 hh rfl rfl rfl rfl
 clear tp1 tp2
 replace HB := aft_call HB (RelC.below_nil hC)
 clear hC hk hh; replace hz := hz'; replace hd := hd'; clear hz' hd'
 refine wp_cond_false S27.ev ?_
 refine wp_skip ?_
 refine wp_seq ?_
 refine region_text (M := []) (
  rT (tV (.int .i64 (z))) ::
  rT (tV (.int .i64 (f))) ::
  rT (tV (.int .i64 (bits .and .i64 f 127))) ::
  rSl 3 3 (tO [tV (.int .i64 (z)), tV (.int .i64 (bits .and .i64 f 127))] [1, 1]) 2 ::
  rSl 3 3 (tO [tV (.int .i64 (z)), tV (.int .i64 (bits .and .i64 f 127))] [1, 1]) 2 ::
  []) hz hd (by kernel_rfl) ?_ ?_
 refine ⟨?_, ?_, ?_, ?_, ?_, trivial⟩
 exact zMv hz (sv S2)
 exact zMv hz (sv S3)
 exact sBin rfl rfl rfl hz rfl (Gd.none_ rfl) rfl (sd 1 rfl) kc (fun w => by simp [go_sem])
 exact zSl2 hz (sd 0 rfl) (sd 2 rfl) (by simp [Value.cells]) (by simp [Value.cells]) (fun w => bl_two w)
 exact zSlAs hz (j := 3) rfl
 intro a' γ' W' hz' hd' hC hk hh
 have tp1 := Cp1.lt
 replace Cp1 := kC hC Cp1
 have tp2 := Cp2.lt
 replace Cp2 := kC hC Cp2
 clear S2
 clear S3
 replace S8 := kp hk S8
 replace S9 := kp hk S9
 replace S10 := kp hk S10
 clear S27
 obtain ⟨q0, S11, Cq0, lq0⟩ := gotSl hz' 4 hC hh rfl rfl rfl rfl rfl
 clear lq0
 clear tp1 tp2
 replace HB := aft_call HB (RelC.below_nil hC)
 clear hC hk hh; replace hz := hz'; replace hd := hd'; clear hz' hd'
 refine wp_seq ?_
 refine wp_seq ?_
 refine region_text (M := []) (
  rT (tV (.int .i64 0)) ::
  []) hz hd (by kernel_rfl) ?_ ?_
 refine ⟨?_, trivial⟩
 exact zAs hz kc
 intro a' γ' W' hz' hd' hC hk hh
 have tp1 := Cp1.lt
 replace Cp1 := kC hC Cp1
 have tp2 := Cp2.lt
 replace Cp2 := kC hC Cp2
 replace Cq0 := kC hC Cq0
 replace S8 := kp hk S8
 replace S9 := kp hk S9
 replace S10 := kp hk S10
 replace S11 := kp hk S11
 have S12 := gotV hz' 0 hh rfl rfl rfl rfl
 clear tp1 tp2
 replace HB := aft_call HB (RelC.below_nil hC)
 clear hC hk hh; replace hz := hz'; replace hd := hd'; clear hz' hd'
 refine wp_block ?_
 refine wp_loop_rounds 4 ?_
 show Code.wp _ _ _ _ _
 refine wp_seq ?_
 refine wp_seq ?_
 refine region_text (M := []) (
  rT (tV (.int .i64 0)) ::
  rT (tV (.slice (some ⟨q0, 0, none⟩) 2 2)) ::
  rT (tV (.int .i64 2)) ::
  rT (tV (.bool true)) ::
  []) hz hd (by kernel_rfl) ?_ ?_
 refine ⟨?_, ?_, ?_, ?_, trivial⟩
 exact zMv hz (sv S12)
 exact zMv hz (sv S11)
 exact sLenK hz rfl (sd 1 rfl) (fun w => by simp [go_sem])
 exact sBin rfl rfl rfl hz rfl (Gd.none_ rfl) rfl (sd 0 rfl) (sd 2 rfl) (fun w => by simp [go_sem])
 intro a' γ' W' hz' hd' hC hk hh
 have tp1 := Cp1.lt
 replace Cp1 := kC hC Cp1
 have tp2 := Cp2.lt
 replace Cp2 := kC hC Cp2
 replace Cq0 := kC hC Cq0
 replace S8 := kp hk S8
 replace S9 := kp hk S9
 replace S10 := kp hk S10
 replace S11 := kp hk S11
 replace S12 := kp hk S12
 have S35 := gotV hz' 3 hh rfl rfl rfl rfl
 clear tp1 tp2
 replace HB := aft_call HB (RelC.below_nil hC)
 clear hC hk hh; replace hz := hz'; replace hd := hd'; clear hz' hd'
 refine wp_cond_true S35.ev ?_
 refine wp_skip ?_
 refine wp_seq ?_
 refine wp_block ?_
 refine wp_seq ?_
 refine region_drawn (M := []) (
  rT (tQ B64 2400 (mk3 l k)) ::
  rT (tV (.slice (some ⟨q0, 0, none⟩) 2 2)) ::
  rT (tV (.int .i64 0)) ::
  rT (tV (.pointer (some ⟨q0, 0, none⟩))) ::
  rT (tV (.int .i64 (z))) ::
  rT (tT [tV (.string (strB (decR (mk3 l k).num.toNat (mk3 l k).den (z)))), tV (.bool (decOk (z)))]) ::
  rT (tT [tV (.string (strB (decR (mk3 l k).num.toNat (mk3 l k).den (z)))), tV (.bool (decOk (z)))]) ::
  rT (tV (.string (strB (decR (mk3 l k).num.toNat (mk3 l k).den (z))))) ::
  rT (tV (.bool (decOk (z)))) ::
  rT (tV (.string (strB (decR (mk3 l k).num.toNat (mk3 l k).den (z))))) ::
  rT (tV (.bool (decOk (z)))) ::
  []) hz hd (by kernel_rfl) (by kernel_rfl) ?_ ?_
 refine ⟨?_, ?_, ?_, ?_, ?_, ?_, ?_, ?_, ?_, ?_, ?_, trivial⟩
 exact zLd hz (sv S9) Cp1 ld_q64
 exact zMv hz (sv S11)
 exact zMv hz (sv S12)
 exact sIdx rfl rfl rfl hz rfl (Gd.none_ rfl) rfl (sd 1 rfl) (sd 2 rfl) (fun w => ix_two (j := 0) (by decide) w)
 exact zLdO 0 hz (sd 3 rfl) (cl0 Cq0) ldo_int
 exact zC2 hz Tryz.func29 (sd 0 rfl) (sd 4 rfl) (k01 (fun _ _ h0 => c_decimal_z (z := z) h0 rfl rfl (by decide)))
 exact zMv hz (sd 5 rfl)
 exact zExt hz (sd 6 rfl)
 exact zExt hz (sd 6 rfl)
 exact zAs hz (sd 7 rfl)
 exact zAs hz (sd 8 rfl)
 intro a' γ' W' hz' hd' hC hk hh
 have tp1 := Cp1.lt
 replace Cp1 := kC hC Cp1
 have tp2 := Cp2.lt
 replace Cp2 := kC hC Cp2
 replace Cq0 := kC hC Cq0
 replace S8 := kp hk S8
 replace S9 := kp hk S9
 replace S10 := kp hk S10
 replace S11 := kp hk S11
 replace S12 := kp hk S12
 replace S35 := kp hk S35
 have S13 := gotV hz' 9 hh rfl rfl rfl rfl
 have S14 := gotV hz' 10 hh rfl rfl rfl rfl
 clear tp1 tp2
 replace HB := aft_call HB (RelC.below_nil hC)
 clear hC hk hh; replace hz := hz'; replace hd := hd'; clear hz' hd'
 refine wp_seq ?_
 refine region_drawn (M := []) (
  rT (tQ B32 2400 (mk3 l k)) ::
  rT (tV (.slice (some ⟨q0, 0, none⟩) 2 2)) ::
  rT (tV (.int .i64 0)) ::
  rT (tV (.pointer (some ⟨q0, 0, none⟩))) ::
  rT (tV (.int .i64 (z))) ::
  rT (tT [tV (.string (strB (decR (mk3 l k).num.toNat (mk3 l k).den (z)))), tV (.bool (decOk (z)))]) ::
  rT (tT [tV (.string (strB (decR (mk3 l k).num.toNat (mk3 l k).den (z)))), tV (.bool (decOk (z)))]) ::
  rT (tV (.string (strB (decR (mk3 l k).num.toNat (mk3 l k).den (z))))) ::
  rT (tV (.bool (decOk (z)))) ::
  rT (tV (.string (strB (decR (mk3 l k).num.toNat (mk3 l k).den (z))))) ::
  rT (tV (.bool (decOk (z)))) ::
  []) hz hd (by kernel_rfl) (by kernel_rfl) ?_ ?_
 refine ⟨?_, ?_, ?_, ?_, ?_, ?_, ?_, ?_, ?_, ?_, ?_, trivial⟩
 exact zLd hz (sv S10) Cp2 ld_q32
 exact zMv hz (sv S11)
 exact zMv hz (sv S12)
 exact sIdx rfl rfl rfl hz rfl (Gd.none_ rfl) rfl (sd 1 rfl) (sd 2 rfl) (fun w => ix_two (j := 0) (by decide) w)
 exact zLdO 0 hz (sd 3 rfl) (cl0 Cq0) ldo_int
 exact zC2 hz Tryz.func30 (sd 0 rfl) (sd 4 rfl) (k01 (fun _ _ h0 => dq_decimal (z := z) h0 rfl rfl (by decide)))
 exact zMv hz (sd 5 rfl)
 exact zExt hz (sd 6 rfl)
 exact zExt hz (sd 6 rfl)
 exact zAs hz (sd 7 rfl)
 exact zAs hz (sd 8 rfl)
 intro a' γ' W' hz' hd' hC hk hh
 have tp1 := Cp1.lt
 replace Cp1 := kC hC Cp1
 have tp2 := Cp2.lt
 replace Cp2 := kC hC Cp2
 replace Cq0 := kC hC Cq0
 replace S8 := kp hk S8
 replace S9 := kp hk S9
 replace S10 := kp hk S10
 replace S11 := kp hk S11
 replace S12 := kp hk S12
 replace S35 := kp hk S35
 replace S13 := kp hk S13
 replace S14 := kp hk S14
 have S15 := gotV hz' 9 hh rfl rfl rfl rfl
 have S16 := gotV hz' 10 hh rfl rfl rfl rfl
 clear tp1 tp2
 replace HB := aft_call HB (RelC.below_nil hC)
 clear hC hk hh; replace hz := hz'; replace hd := hd'; clear hz' hd'
 refine wp_seq ?_
 refine region_text (M := []) (
  rT (tV (.string (strB (decR (mk3 l k).num.toNat (mk3 l k).den (z))))) ::
  rT (tV (.string (strB (decR (mk3 l k).num.toNat (mk3 l k).den (z))))) ::
  rT (tV (.bool false)) ::
  rT (tV (.bool false)) ::
  rT (tV (.bool (decOk (z)))) ::
  rT (tV (.bool (decOk (z)))) ::
  rT (tV (.bool false)) ::
  rT (tV (.bool false)) ::
  []) hz hd (by kernel_rfl) ?_ ?_
 refine ⟨?_, ?_, ?_, ?_, ?_, ?_, ?_, ?_, trivial⟩
 exact zMv hz (sv S13)
 exact zMv hz (sv S15)
 exact sBin rfl rfl rfl hz rfl (Gd.none_ rfl) rfl (sd 0 rfl) (sd 1 rfl) (fun w => o_strne w)
 exact zMv hz (sd 2 rfl)
 exact zMv hz (sv S14) (g := gT 3 rfl)
 exact zMv hz (sv S16) (g := gT 3 rfl)
 exact sBin rfl rfl rfl hz rfl (gT 3 rfl) rfl (sd 4 rfl) (sd 5 rfl) (fun w => by simp [go_sem])
 exact zPF hz (sd 3 rfl) (sd 6 rfl)
 intro a' γ' W' hz' hd' hC hk hh
 have tp1 := Cp1.lt
 replace Cp1 := kC hC Cp1
 have tp2 := Cp2.lt
 replace Cp2 := kC hC Cp2
 replace Cq0 := kC hC Cq0
 replace S8 := kp hk S8
 replace S9 := kp hk S9
 replace S10 := kp hk S10
 replace S11 := kp hk S11
 replace S12 := kp hk S12
 replace S35 := kp hk S35
 replace S13 := kp hk S13
 replace S14 := kp hk S14
 replace S15 := kp hk S15
 replace S16 := kp hk S16
 have S63 := gotV hz' 7 hh rfl rfl rfl rfl
 clear tp1 tp2
 replace HB := aft_call HB (RelC.below_nil hC)
 clear hC hk hh; replace hz := hz'; replace hd := hd'; clear hz' hd'
 refine wp_cond_false S63.ev ?_
 refine wp_skip ?_
 refine region_text (M := []) (
  rT (tV (.int .i64 0)) ::
  rT (tV (.int .i64 1)) ::
  rT (tV (.int .i64 1)) ::
  []) hz hd (by kernel_rfl) ?_ ?_
 refine ⟨?_, ?_, ?_, trivial⟩
 exact zMv hz (sv S12)
 exact sBin rfl rfl rfl hz rfl (Gd.none_ rfl) rfl (sd 0 rfl) kc (fun w => by kernel_rfl)
 exact zAs hz (sd 1 rfl)
 intro a' γ' W' hz' hd' hC hk hh
 have tp1 := Cp1.lt
 replace Cp1 := kC hC Cp1
 have tp2 := Cp2.lt
 replace Cp2 := kC hC Cp2
 replace Cq0 := kC hC Cq0
 replace S8 := kp hk S8
 replace S9 := kp hk S9
 replace S10 := kp hk S10
 replace S11 := kp hk S11
 clear S12
 replace S35 := kp hk S35
 replace S13 := kp hk S13
 replace S14 := kp hk S14
 replace S15 := kp hk S15
 replace S16 := kp hk S16
 replace S63 := kp hk S63
 have S12 := gotV hz' 2 hh rfl rfl rfl rfl
 clear tp1 tp2
 replace HB := aft_call HB (RelC.below_nil hC)
 clear hC hk hh; replace hz := hz'; replace hd := hd'; clear hz' hd'
 show Code.wp _ _ _ _ _
 refine wp_seq ?_
 refine wp_seq ?_
 refine region_text (M := []) (
  rT (tV (.int .i64 1)) ::
  rT (tV (.slice (some ⟨q0, 0, none⟩) 2 2)) ::
  rT (tV (.int .i64 2)) ::
  rT (tV (.bool true)) ::
  []) hz hd (by kernel_rfl) ?_ ?_
 refine ⟨?_, ?_, ?_, ?_, trivial⟩
 exact zMv hz (sv S12)
 exact zMv hz (sv S11)
 exact sLenK hz rfl (sd 1 rfl) (fun w => by simp [go_sem])
 exact sBin rfl rfl rfl hz rfl (Gd.none_ rfl) rfl (sd 0 rfl) (sd 2 rfl) (fun w => by simp [go_sem])
 intro a' γ' W' hz' hd' hC hk hh
 have tp1 := Cp1.lt
 replace Cp1 := kC hC Cp1
 have tp2 := Cp2.lt
 replace Cp2 := kC hC Cp2
 replace Cq0 := kC hC Cq0
 replace S8 := kp hk S8
 replace S9 := kp hk S9
 replace S10 := kp hk S10
 replace S11 := kp hk S11
 clear S35
 replace S13 := kp hk S13
 replace S14 := kp hk S14
 replace S15 := kp hk S15
 replace S16 := kp hk S16
 replace S63 := kp hk S63
 replace S12 := kp hk S12
 have S35 := gotV hz' 3 hh rfl rfl rfl rfl
 clear tp1 tp2
 replace HB := aft_call HB (RelC.below_nil hC)
 clear hC hk hh; replace hz := hz'; replace hd := hd'; clear hz' hd'
 refine wp_cond_true S35.ev ?_
 refine wp_skip ?_
 refine wp_seq ?_
 refine wp_block ?_
 refine wp_seq ?_
 refine region_drawn (M := []) (
  rT (tQ B64 2400 (mk3 l k)) ::
  rT (tV (.slice (some ⟨q0, 0, none⟩) 2 2)) ::
  rT (tV (.int .i64 1)) ::
  rT (tV (.pointer (some ⟨q0, 1, none⟩))) ::
  rT (tV (.int .i64 (bits .and .i64 f 127))) ::
  rT (tT [tV (.string (strB (decR (mk3 l k).num.toNat (mk3 l k).den (bits .and .i64 f 127)))), tV (.bool (decOk (bits .and .i64 f 127)))]) ::
  rT (tT [tV (.string (strB (decR (mk3 l k).num.toNat (mk3 l k).den (bits .and .i64 f 127)))), tV (.bool (decOk (bits .and .i64 f 127)))]) ::
  rT (tV (.string (strB (decR (mk3 l k).num.toNat (mk3 l k).den (bits .and .i64 f 127))))) ::
  rT (tV (.bool (decOk (bits .and .i64 f 127)))) ::
  rT (tV (.string (strB (decR (mk3 l k).num.toNat (mk3 l k).den (bits .and .i64 f 127))))) ::
  rT (tV (.bool (decOk (bits .and .i64 f 127)))) ::
  []) hz hd (by kernel_rfl) (by kernel_rfl) ?_ ?_
 refine ⟨?_, ?_, ?_, ?_, ?_, ?_, ?_, ?_, ?_, ?_, ?_, trivial⟩
 exact zLd hz (sv S9) Cp1 ld_q64
 exact zMv hz (sv S11)
 exact zMv hz (sv S12)
 exact sIdx rfl rfl rfl hz rfl (Gd.none_ rfl) rfl (sd 1 rfl) (sd 2 rfl) (fun w => ix_two (j := 1) (by decide) w)
 exact zLdO 1 hz (sd 3 rfl) (cl0 Cq0) ldo_int
 exact zC2 hz Tryz.func29 (sd 0 rfl) (sd 4 rfl) (k01 (fun _ _ h0 => c_decimal_z (z := bits .and .i64 f 127) h0 rfl rfl (by decide)))
 exact zMv hz (sd 5 rfl)
 exact zExt hz (sd 6 rfl)
 exact zExt hz (sd 6 rfl)
 exact zAs hz (sd 7 rfl)
 exact zAs hz (sd 8 rfl)
 intro a' γ' W' hz' hd' hC hk hh
 have tp1 := Cp1.lt
 replace Cp1 := kC hC Cp1
 have tp2 := Cp2.lt
 replace Cp2 := kC hC Cp2
 replace Cq0 := kC hC Cq0
 replace S8 := kp hk S8
 replace S9 := kp hk S9
 replace S10 := kp hk S10
 replace S11 := kp hk S11
 clear S13
 clear S14
 replace S15 := kp hk S15
 replace S16 := kp hk S16
 replace S63 := kp hk S63
 replace S12 := kp hk S12
 replace S35 := kp hk S35
 have S13 := gotV hz' 9 hh rfl rfl rfl rfl
 have S14 := gotV hz' 10 hh rfl rfl rfl rfl
 clear tp1 tp2
 replace HB := aft_call HB (RelC.below_nil hC)
 clear hC hk hh; replace hz := hz'; replace hd := hd'; clear hz' hd'
 refine wp_seq ?_
 refine region_drawn (M := []) (
  rT (tQ B32 2400 (mk3 l k)) ::
  rT (tV (.slice (some ⟨q0, 0, none⟩) 2 2)) ::
  rT (tV (.int .i64 1)) ::
  rT (tV (.pointer (some ⟨q0, 1, none⟩))) ::
  rT (tV (.int .i64 (bits .and .i64 f 127))) ::
  rT (tT [tV (.string (strB (decR (mk3 l k).num.toNat (mk3 l k).den (bits .and .i64 f 127)))), tV (.bool (decOk (bits .and .i64 f 127)))]) ::
  rT (tT [tV (.string (strB (decR (mk3 l k).num.toNat (mk3 l k).den (bits .and .i64 f 127)))), tV (.bool (decOk (bits .and .i64 f 127)))]) ::
  rT (tV (.string (strB (decR (mk3 l k).num.toNat (mk3 l k).den (bits .and .i64 f 127))))) ::
  rT (tV (.bool (decOk (bits .and .i64 f 127)))) ::
  rT (tV (.string (strB (decR (mk3 l k).num.toNat (mk3 l k).den (bits .and .i64 f 127))))) ::
  rT (tV (.bool (decOk (bits .and .i64 f 127)))) ::
  []) hz hd (by kernel_rfl) (by kernel_rfl) ?_ ?_
 refine ⟨?_, ?_, ?_, ?_, ?_, ?_, ?_, ?_, ?_, ?_, ?_, trivial⟩
 exact zLd hz (sv S10) Cp2 ld_q32
 exact zMv hz (sv S11)
 exact zMv hz (sv S12)
 exact sIdx rfl rfl rfl hz rfl (Gd.none_ rfl) rfl (sd 1 rfl) (sd 2 rfl) (fun w => ix_two (j := 1) (by decide) w)
 exact zLdO 1 hz (sd 3 rfl) (cl0 Cq0) ldo_int
 exact zC2 hz Tryz.func30 (sd 0 rfl) (sd 4 rfl) (k01 (fun _ _ h0 => dq_decimal (z := bits .and .i64 f 127) h0 rfl rfl (by decide)))
 exact zMv hz (sd 5 rfl)
 exact zExt hz (sd 6 rfl)
 exact zExt hz (sd 6 rfl)
 exact zAs hz (sd 7 rfl)
 exact zAs hz (sd 8 rfl)
 intro a' γ' W' hz' hd' hC hk hh
 have tp1 := Cp1.lt
 replace Cp1 := kC hC Cp1
 have tp2 := Cp2.lt
 replace Cp2 := kC hC Cp2
 replace Cq0 := kC hC Cq0
 replace S8 := kp hk S8
 replace S9 := kp hk S9
 replace S10 := kp hk S10
 replace S11 := kp hk S11
 clear S15
 clear S16
 replace S63 := kp hk S63
 replace S12 := kp hk S12
 replace S35 := kp hk S35
 replace S13 := kp hk S13
 replace S14 := kp hk S14
 have S15 := gotV hz' 9 hh rfl rfl rfl rfl
 have S16 := gotV hz' 10 hh rfl rfl rfl rfl
 clear tp1 tp2
 replace HB := aft_call HB (RelC.below_nil hC)
 clear hC hk hh; replace hz := hz'; replace hd := hd'; clear hz' hd'
 refine wp_seq ?_
 refine region_text (M := []) (
  rT (tV (.string (strB (decR (mk3 l k).num.toNat (mk3 l k).den (bits .and .i64 f 127))))) ::
  rT (tV (.string (strB (decR (mk3 l k).num.toNat (mk3 l k).den (bits .and .i64 f 127))))) ::
  rT (tV (.bool false)) ::
  rT (tV (.bool false)) ::
  rT (tV (.bool (decOk (bits .and .i64 f 127)))) ::
  rT (tV (.bool (decOk (bits .and .i64 f 127)))) ::
  rT (tV (.bool false)) ::
  rT (tV (.bool false)) ::
  []) hz hd (by kernel_rfl) ?_ ?_
 refine ⟨?_, ?_, ?_, ?_, ?_, ?_, ?_, ?_, trivial⟩
 exact zMv hz (sv S13)
 exact zMv hz (sv S15)
 exact sBin rfl rfl rfl hz rfl (Gd.none_ rfl) rfl (sd 0 rfl) (sd 1 rfl) (fun w => o_strne w)
 exact zMv hz (sd 2 rfl)
 exact zMv hz (sv S14) (g := gT 3 rfl)
 exact zMv hz (sv S16) (g := gT 3 rfl)
 exact sBin rfl rfl rfl hz rfl (gT 3 rfl) rfl (sd 4 rfl) (sd 5 rfl) (fun w => by simp [go_sem])
 exact zPF hz (sd 3 rfl) (sd 6 rfl)
 intro a' γ' W' hz' hd' hC hk hh
 have tp1 := Cp1.lt
 replace Cp1 := kC hC Cp1
 have tp2 := Cp2.lt
 replace Cp2 := kC hC Cp2
 replace Cq0 := kC hC Cq0
 replace S8 := kp hk S8
 replace S9 := kp hk S9
 replace S10 := kp hk S10
 replace S11 := kp hk S11
 clear S63
 replace S12 := kp hk S12
 replace S35 := kp hk S35
 replace S13 := kp hk S13
 replace S14 := kp hk S14
 replace S15 := kp hk S15
 replace S16 := kp hk S16
 have S63 := gotV hz' 7 hh rfl rfl rfl rfl
 clear tp1 tp2
 replace HB := aft_call HB (RelC.below_nil hC)
 clear hC hk hh; replace hz := hz'; replace hd := hd'; clear hz' hd'
 refine wp_cond_false S63.ev ?_
 refine wp_skip ?_
 refine region_text (M := []) (
  rT (tV (.int .i64 1)) ::
  rT (tV (.int .i64 2)) ::
  rT (tV (.int .i64 2)) ::
  []) hz hd (by kernel_rfl) ?_ ?_
 refine ⟨?_, ?_, ?_, trivial⟩
 exact zMv hz (sv S12)
 exact sBin rfl rfl rfl hz rfl (Gd.none_ rfl) rfl (sd 0 rfl) kc (fun w => by kernel_rfl)
 exact zAs hz (sd 1 rfl)
 intro a' γ' W' hz' hd' hC hk hh
 have tp1 := Cp1.lt
 replace Cp1 := kC hC Cp1
 have tp2 := Cp2.lt
 replace Cp2 := kC hC Cp2
 replace Cq0 := kC hC Cq0
 replace S8 := kp hk S8
 replace S9 := kp hk S9
 replace S10 := kp hk S10
 replace S11 := kp hk S11
 clear S12
 replace S35 := kp hk S35
 replace S13 := kp hk S13
 replace S14 := kp hk S14
 replace S15 := kp hk S15
 replace S16 := kp hk S16
 replace S63 := kp hk S63
 have S12 := gotV hz' 2 hh rfl rfl rfl rfl
 clear tp1 tp2
 replace HB := aft_call HB (RelC.below_nil hC)
 clear hC hk hh; replace hz := hz'; replace hd := hd'; clear hz' hd'
 show Code.wp _ _ _ _ _
 refine wp_seq ?_
 refine wp_seq ?_
 refine region_text (M := []) (
  rT (tV (.int .i64 2)) ::
  rT (tV (.slice (some ⟨q0, 0, none⟩) 2 2)) ::
  rT (tV (.int .i64 2)) ::
  rT (tV (.bool false)) ::
  []) hz hd (by kernel_rfl) ?_ ?_
 refine ⟨?_, ?_, ?_, ?_, trivial⟩
 exact zMv hz (sv S12)
 exact zMv hz (sv S11)
 exact sLenK hz rfl (sd 1 rfl) (fun w => by simp [go_sem])
 exact sBin rfl rfl rfl hz rfl (Gd.none_ rfl) rfl (sd 0 rfl) (sd 2 rfl) (fun w => by simp [go_sem])
 intro a' γ' W' hz' hd' hC hk hh
 have tp1 := Cp1.lt
 replace Cp1 := kC hC Cp1
 have tp2 := Cp2.lt
 replace Cp2 := kC hC Cp2
 replace Cq0 := kC hC Cq0
 replace S8 := kp hk S8
 replace S9 := kp hk S9
 replace S10 := kp hk S10
 replace S11 := kp hk S11
 clear S35
 replace S13 := kp hk S13
 replace S14 := kp hk S14
 replace S15 := kp hk S15
 replace S16 := kp hk S16
 replace S63 := kp hk S63
 replace S12 := kp hk S12
 have S35 := gotV hz' 3 hh rfl rfl rfl rfl
 clear tp1 tp2
 replace HB := aft_call HB (RelC.below_nil hC)
 clear hC hk hh; replace hz := hz'; replace hd := hd'; clear hz' hd'
 refine wp_cond_false S35.ev ?_
 refine wp_exit ?_
 refine wp_seq ?_
 refine region_text (M := []) (
  rT (tV (.bool true)) ::
  rT (tV (.bool true)) ::
  []) hz hd (by kernel_rfl) ?_ ?_
 refine ⟨?_, ?_, trivial⟩
 exact zC0 hz Tryz.func12 (fun _ => l_started)
 exact zAs hz (sd 0 rfl)
 intro a' γ' W' hz' hd' hC hk hh
 have tp1 := Cp1.lt
 clear Cp1
 have tp2 := Cp2.lt
 clear Cp2
 clear Cq0
 clear S8
 clear S9
 clear S10
 clear S11
 clear S13
 clear S14
 clear S15
 clear S16
 clear S63
 clear S12
 clear S35
 have S8 := gotV hz' 1 hh rfl rfl rfl rfl
 clear tp1 tp2
 replace HB := aft_call HB (RelC.below_nil hC)
 clear hC hk hh; replace hz := hz'; replace hd := hd'; clear hz' hd'
 refine wp_ret ?_
 refine ret_to (T := tV (.bool true)) (ret1 (by kernel_rfl) S8 hd ⟨_, rfl, rfl, HB⟩) ?_
 exact fun _ _ h => h

end Go.Proofs.YtfgnleoaibcegaaGreat.Rg

namespace Go.Proofs.YtfgnleoaibcegaaGreat.Rg

open Go.RowKit Go.ChangeShapes Go.WideShapes Go.ChangeAt Go.Deep

theorem by_in3 {w : World} {A : Option Addr} {n c : Nat} {l : List Int} (h : InI .u8 1 1 w A n c l) : (tBy 9223372036854775807 (l.map Int.toNat)).p (.slice A n c) w :=
  ⟨A, n, c, rfl, bat_in h, h.le, by have := h.le; have := h.reach; omega⟩
theorem numTexts_walk (A0 : Option Addr) (n0 c0 : Nat) (l0 : List Int) (A1 : Option Addr) (n1 c1 : Nat) (l1 : List Int) (z f : Int) (w : World) (h0 : InI .u8 1 1 w A0 n0 c0 l0) (h1 : InI .u8 1 1 w A1 n1 c1 l1) (hz : (Lit.int .i64 z).wf = true) (hf : (Lit.int .i64 f).wf = true) :
    Calls Tryz.prog 5 #[.slice A0 n0 c0, .slice A1 n1 c1, .int .i64 z, .int .i64 f] w fun e w' => e = .returned (.bool true) ∧ Below w.heap.size w w' :=
  ret_out3 (numTexts_ret (by_in3 h0) (by_in3 h1))
end Go.Proofs.YtfgnleoaibcegaaGreat.Rg
