/-
  Walks and plain laws, put together: TL T2.
-/
import Derived.Test.YthanbjbcpljcoaaPh
set_option linter.unusedVariables false
set_option linter.unusedSimpArgs false
namespace Go.Proofs.Ythanbjbcpljcoaa.Rg

open Go.RowKit

theorem mkF_nonneg (l k : List Nat) : 0 ≤ mkF l k := by
  refine q_nonneg (p := (mkF l k).num.toNat) ?_
  unfold mkF; rw [low_num _ _ (und_ne _)]; rfl
section

variable {a b c : Rat}
theorem la_le (ha : 0 ≤ a) : b ≤ a + b := by grind
theorem la_sub (ha : 0 ≤ a) : subQ (a + b) b = a := by unfold subQ; rw [if_pos (la_le ha)]; grind
theorem la_div (hb : b ≠ 0) : a * b / b = a := Rat.mul_div_cancel hb
theorem la_back (h : b ≤ a) : subQ a b + b = a := by unfold subQ; rw [if_pos h]; grind
theorem la_dist : a * (b + c) = a * b + a * c := Rat.mul_add a b c
theorem la_sum : 0 + a + b + c = c + (b + a) := by grind
end
theorem bs3_64 (u v t u' v' t' : Value) (w : World) : (Instr.buildSlice 104 3 #[(0, .agg #[u, u']), (1, .agg #[v, v']), (2, .agg #[t, t'])]).run Try.prog w = .ok (.slice (some ⟨w.heap.size, 0, none⟩) 3 3) (w.alloc (.cells #[u, u', v, v', t, t'] 29)) := by
  simp [go_sem, Instr.buildSlice, Instr.fill]

set_option maxRecDepth 10000 in
set_option maxHeartbeats 2000000 in
theorem ratLaws_ret {l1 m1 l2 m2 l3 m3 : List Nat} {v0 v1 v2 : Value} {w : World} (h0 : (tF l1 m1).p v0 w) (h1 : (tF l2 m2).p v1 w) (h2 : (tF l3 m3).p v2 w)  :
    Calls Try.prog 6 #[v0, v1, v2] w (Ret (tV (.bool true)) w) := by
  refine enter Try.func6 rfl Try.ntmps6 (by simp) ?_
  intro a hz hd ha
  have S0 := ha 0 _ rfl
  have H0 := h0
  have S1 := ha 1 _ rfl
  have H1 := h1
  have S2 := ha 2 _ rfl
  have H2 := h2
  clear ha
  have HB : Below w.heap.size w w := Below.refl _ _
  have ha := mkF_nonneg l1 m1
  refine wp_seq ?_
  refine region_text (M := []) (
      rB 0 24 (tF l1 m1) none 0 ::
      rB 1 24 (tF l2 m2) none 0 ::
      rB 2 24 (tF l3 m3) none 0 ::
      rT (tV (.bool false)) ::
      []) hz hd (by kernel_rfl) ?_ ?_
  · refine ⟨?_, ?_, ?_, ?_, trivial⟩
    · exact zBox hz (so S0 H0) box_f
    · exact zBox hz (so S1 H1) box_f
    · exact zBox hz (so S2 H2) box_f
    · exact zAs hz kc
  intro a' γ' W' hz' hd' hC hk hh
  clear S0 H0
  clear S1 H1
  clear S2 H2
  obtain ⟨p1, S3, Cp1, lp1, gp1⟩ := gotB hz' 0 hC hh rfl rfl rfl rfl rfl rfl
  obtain ⟨p2, S4, Cp2, lp2, gp2⟩ := gotB hz' 1 hC hh rfl rfl rfl rfl rfl rfl
  obtain ⟨p3, S5, Cp3, lp3, gp3⟩ := gotB hz' 2 hC hh rfl rfl rfl rfl rfl rfl
  have S6 := gotV hz' 3 hh rfl rfl rfl rfl
  clear lp1 gp1 lp2 gp2 lp3 gp3
  replace HB := aft_call HB (RelC.below_nil hC)
  clear hC hk hh; replace hz := hz'; replace hd := hd'; clear hz' hd'
  refine wp_seq ?_
  refine region_text (M := []) (
      rT (tF l1 m1) ::
      rT (tT [tQ B64 960 (mkF l1 m1), tQ B32 960 (mkF l1 m1)]) ::
      rT (tT [tQ B64 960 (mkF l1 m1), tQ B32 960 (mkF l1 m1)]) ::
      rT (tQ B64 960 (mkF l1 m1)) ::
      rT (tQ B32 960 (mkF l1 m1)) ::
      rVar 5 29 2 ::
      rVar 6 33 2 ::
      rB 5 29 (tQ B64 960 (mkF l1 m1)) (some 5) 6 ::
      rB 6 33 (tQ B32 960 (mkF l1 m1)) (some 6) 7 ::
      []) hz hd (by kernel_rfl) ?_ ?_
  · refine ⟨?_, ?_, ?_, ?_, ?_, ?_, ?_, ?_, ?_, trivial⟩
    · exact zLd hz (sv S3) Cp1 ld_f
    · exact zC1 hz Try.func9 (sd 0 rfl) (fun _ _ h0 => l_made h0)
    · exact zMv hz (sd 1 rfl)
    · exact zExt hz (sd 2 rfl)
    · exact zExt hz (sd 2 rfl)
    · exact zAl hz nd_rat al_r64
    · exact zAl hz nd_rat al_r32
    · exact zSt (sd 3 rfl) st_q64
    · exact zSt (sd 4 rfl) st_q32
  intro a' γ' W' hz' hd' hC hk hh
  have ep1 := Cp1.lt
  have ep2 := Cp2.lt
  have ep3 := Cp3.lt
  clear Cp1
  replace Cp2 := kC hC Cp2
  replace Cp3 := kC hC Cp3
  clear S3
  replace S4 := kp hk S4
  replace S5 := kp hk S5
  replace S6 := kp hk S6
  obtain ⟨p4, S7, Cp4, lp4, gp4⟩ := gotB hz' 7 hC hh rfl rfl rfl rfl rfl rfl
  have n_p2_p4 : p2 ≠ p4 := by have := ep2; omega
  have n_p3_p4 : p3 ≠ p4 := by have := ep3; omega
  have bp4 : w.heap.size ≤ p4 := Nat.le_trans HB.size lp4
  clear lp4 gp4
  clear ep1 ep2 ep3
  replace HB := aft_call HB (RelC.below_nil hC)
  clear hC hk hh; replace hz := hz'; replace hd := hd'; clear hz' hd'
  refine wp_seq ?_
  refine region_text (M := []) (
      rT (tF l2 m2) ::
      rT (tT [tQ B64 960 (mkF l2 m2), tQ B32 960 (mkF l2 m2)]) ::
      rT (tT [tQ B64 960 (mkF l2 m2), tQ B32 960 (mkF l2 m2)]) ::
      rT (tQ B64 960 (mkF l2 m2)) ::
      rT (tQ B32 960 (mkF l2 m2)) ::
      rVar 5 29 2 ::
      rVar 6 33 2 ::
      rB 5 29 (tQ B64 960 (mkF l2 m2)) (some 5) 6 ::
      rB 6 33 (tQ B32 960 (mkF l2 m2)) (some 6) 7 ::
      []) hz hd (by kernel_rfl) ?_ ?_
  · refine ⟨?_, ?_, ?_, ?_, ?_, ?_, ?_, ?_, ?_, trivial⟩
    · exact zLd hz (sv S4) Cp2 ld_f
    · exact zC1 hz Try.func9 (sd 0 rfl) (fun _ _ h0 => l_made h0)
    · exact zMv hz (sd 1 rfl)
    · exact zExt hz (sd 2 rfl)
    · exact zExt hz (sd 2 rfl)
    · exact zAl hz nd_rat al_r64
    · exact zAl hz nd_rat al_r32
    · exact zSt (sd 3 rfl) st_q64
    · exact zSt (sd 4 rfl) st_q32
  intro a' γ' W' hz' hd' hC hk hh
  have ep2 := Cp2.lt
  have ep3 := Cp3.lt
  have ep4 := Cp4.lt
  clear Cp2
  replace Cp3 := kC hC Cp3
  have tp4 := Cp4.lt
  replace Cp4 := kC hC Cp4
  clear S4
  replace S5 := kp hk S5
  replace S6 := kp hk S6
  replace S7 := kp hk S7
  obtain ⟨p5, S9, Cp5, lp5, gp5⟩ := gotB hz' 7 hC hh rfl rfl rfl rfl rfl rfl
  have n_p5_p4 : p5 ≠ p4 := by omega
  have n_p3_p5 : p3 ≠ p5 := by have := ep3; omega
  have n_p4_p5 : p4 ≠ p5 := by have := ep4; omega
  have bp5 : w.heap.size ≤ p5 := Nat.le_trans HB.size lp5
  clear lp5 gp5
  clear tp4
  clear ep2 ep3 ep4
  replace HB := aft_call HB (RelC.below_nil hC)
  clear hC hk hh; replace hz := hz'; replace hd := hd'; clear hz' hd'
  refine wp_seq ?_
  refine region_text (M := []) (
      rT (tF l3 m3) ::
      rT (tT [tQ B64 960 (mkF l3 m3), tQ B32 960 (mkF l3 m3)]) ::
      rT (tT [tQ B64 960 (mkF l3 m3), tQ B32 960 (mkF l3 m3)]) ::
      rT (tQ B64 960 (mkF l3 m3)) ::
      rT (tQ B32 960 (mkF l3 m3)) ::
      rVar 5 29 2 ::
      rVar 6 33 2 ::
      rB 5 29 (tQ B64 960 (mkF l3 m3)) (some 5) 6 ::
      rB 6 33 (tQ B32 960 (mkF l3 m3)) (some 6) 7 ::
      []) hz hd (by kernel_rfl) ?_ ?_
  · refine ⟨?_, ?_, ?_, ?_, ?_, ?_, ?_, ?_, ?_, trivial⟩
    · exact zLd hz (sv S5) Cp3 ld_f
    · exact zC1 hz Try.func9 (sd 0 rfl) (fun _ _ h0 => l_made h0)
    · exact zMv hz (sd 1 rfl)
    · exact zExt hz (sd 2 rfl)
    · exact zExt hz (sd 2 rfl)
    · exact zAl hz nd_rat al_r64
    · exact zAl hz nd_rat al_r32
    · exact zSt (sd 3 rfl) st_q64
    · exact zSt (sd 4 rfl) st_q32
  intro a' γ' W' hz' hd' hC hk hh
  have ep3 := Cp3.lt
  have ep4 := Cp4.lt
  have ep5 := Cp5.lt
  clear Cp3
  have tp4 := Cp4.lt
  replace Cp4 := kC hC Cp4
  have tp5 := Cp5.lt
  replace Cp5 := kC hC Cp5
  clear S5
  replace S6 := kp hk S6
  replace S7 := kp hk S7
  replace S9 := kp hk S9
  obtain ⟨p6, S11, Cp6, lp6, gp6⟩ := gotB hz' 7 hC hh rfl rfl rfl rfl rfl rfl
  have n_p6_p4 : p6 ≠ p4 := by omega
  have n_p6_p5 : p6 ≠ p5 := by omega
  have n_p4_p6 : p4 ≠ p6 := by have := ep4; omega
  have n_p5_p6 : p5 ≠ p6 := by have := ep5; omega
  have bp6 : w.heap.size ≤ p6 := Nat.le_trans HB.size lp6
  clear lp6 gp6
  clear tp4 tp5
  clear ep3 ep4 ep5
  replace HB := aft_call HB (RelC.below_nil hC)
  clear hC hk hh; replace hz := hz'; replace hd := hd'; clear hz' hd'
  refine wp_seq ?_
  refine region_drawn (M := []) (
      rT (tQ B64 960 (mkF l1 m1)) ::
      rT (tQ B64 960 (mkF l2 m2)) ::
      rT (tQ B64 1921 ((mkF l1 m1) + (mkF l2 m2))) ::
      rT (tQ B64 960 (mkF l2 m2)) ::
      rT (tT [tQ B64 2882 (subQ ((mkF l1 m1) + (mkF l2 m2)) (mkF l2 m2)), tV (.bool (decide (mkF l2 m2 ≤ (mkF l1 m1) + (mkF l2 m2))))]) ::
      rT (tT [tQ B64 2882 (subQ ((mkF l1 m1) + (mkF l2 m2)) (mkF l2 m2)), tV (.bool (decide (mkF l2 m2 ≤ (mkF l1 m1) + (mkF l2 m2))))]) ::
      rT (tQ B64 2882 (subQ ((mkF l1 m1) + (mkF l2 m2)) (mkF l2 m2))) ::
      rT (tV (.bool (decide (mkF l2 m2 ≤ (mkF l1 m1) + (mkF l2 m2))))) ::
      rVar 8 29 2 ::
      rB 8 29 (tQ B64 2882 (subQ ((mkF l1 m1) + (mkF l2 m2)) (mkF l2 m2))) (some 8) 9 ::
      rT (tV (.bool (decide (mkF l2 m2 ≤ (mkF l1 m1) + (mkF l2 m2))))) ::
      []) hz hd (by kernel_rfl) (by kernel_rfl) ?_ ?_
  · refine ⟨?_, ?_, ?_, ?_, ?_, ?_, ?_, ?_, ?_, ?_, ?_, trivial⟩
    · exact zLd hz (sv S7) Cp4 ld_q64
    · exact zLd hz (sv S9) Cp5 ld_q64
    · exact zC2 hz Try.func17 (sd 0 rfl) (sd 1 rfl) (fun _ _ _ h0 h1 => cq_add h0 h1 (by decide) (by decide))
    · exact zLd hz (sv S9) Cp5 ld_q64
    · exact zC2 hz Try.func37 (sd 2 rfl) (sd 3 rfl) (fun _ _ _ h0 h1 => cq_sub h0 h1 (by decide) (by decide))
    · exact zMv hz (sd 4 rfl)
    · exact zExt hz (sd 5 rfl)
    · exact zExt hz (sd 5 rfl)
    · exact zAl hz nd_rat al_r64
    · exact zSt (sd 6 rfl) st_q64
    · exact zAs hz (sd 7 rfl)
  intro a' γ' W' hz' hd' hC hk hh
  have ep4 := Cp4.lt
  have ep5 := Cp5.lt
  have ep6 := Cp6.lt
  have tp4 := Cp4.lt
  replace Cp4 := kC hC Cp4
  have tp5 := Cp5.lt
  replace Cp5 := kC hC Cp5
  have tp6 := Cp6.lt
  replace Cp6 := kC hC Cp6
  replace S6 := kp hk S6
  replace S7 := kp hk S7
  replace S9 := kp hk S9
  replace S11 := kp hk S11
  obtain ⟨p7, S13, Cp7, lp7, gp7⟩ := gotB hz' 9 hC hh rfl rfl rfl rfl rfl rfl
  have S14 := gotV hz' 10 hh rfl rfl rfl rfl
  have n_p7_p4 : p7 ≠ p4 := by omega
  have n_p7_p5 : p7 ≠ p5 := by omega
  have n_p7_p6 : p7 ≠ p6 := by omega
  have n_p4_p7 : p4 ≠ p7 := by have := ep4; omega
  have n_p5_p7 : p5 ≠ p7 := by have := ep5; omega
  have n_p6_p7 : p6 ≠ p7 := by have := ep6; omega
  have bp7 : w.heap.size ≤ p7 := Nat.le_trans HB.size lp7
  clear lp7 gp7
  clear tp4 tp5 tp6
  clear ep4 ep5 ep6
  replace HB := aft_call HB (RelC.below_nil hC)
  clear hC hk hh; replace hz := hz'; replace hd := hd'; clear hz' hd'
  refine wp_seq ?_
  refine wp_seq ?_
  have hc8 : mkF l2 m2 ≤ (mkF l1 m1) + (mkF l2 m2) := (la_le ha)
  rw [decide_eq_true hc8] at S14
  have hc9 : ¬ (subQ ((mkF l1 m1) + (mkF l2 m2)) (mkF l2 m2) ≠ mkF l1 m1) := (fun h => h (la_sub ha))
  have hc10 : ¬ ((mkF l1 m1) + (mkF l2 m2) ≠ (mkF l2 m2) + (mkF l1 m1)) := (fun h => h (Rat.add_comm _ _))
  refine region_drawn (M := []) (
      rT (tV (.bool true)) ::
      rT (tV (.bool false)) ::
      rT (tV (.bool false)) ::
      rT (tV (.bool true)) ::
      rT (tV (.bool false)) ::
      rT (tV (.bool false)) ::
      rT (tV (.bool false)) ::
      rT (tQ B64 2882 (subQ ((mkF l1 m1) + (mkF l2 m2)) (mkF l2 m2))) ::
      rT (tQ B64 960 (mkF l1 m1)) ::
      rT (tV (.int .i64 (cmpQ (subQ ((mkF l1 m1) + (mkF l2 m2)) (mkF l2 m2)) (mkF l1 m1)))) ::
      rT (tV (.bool false)) ::
      rT (tV (.bool false)) ::
      rT (tV (.bool false)) ::
      rT (tQ B64 960 (mkF l1 m1)) ::
      rT (tQ B64 960 (mkF l2 m2)) ::
      rT (tQ B64 1921 ((mkF l1 m1) + (mkF l2 m2))) ::
      rT (tQ B64 960 (mkF l2 m2)) ::
      rT (tQ B64 960 (mkF l1 m1)) ::
      rT (tQ B64 1921 ((mkF l2 m2) + (mkF l1 m1))) ::
      rT (tV (.int .i64 (cmpQ ((mkF l1 m1) + (mkF l2 m2)) ((mkF l2 m2) + (mkF l1 m1))))) ::
      rT (tV (.bool false)) ::
      rT (tV (.bool false)) ::
      rT (tV (.bool false)) ::
      rT (tQ B64 960 (mkF l1 m1)) ::
      rT (tQ B64 960 (mkF l2 m2)) ::
      rT (tQ B64 1920 ((mkF l1 m1) * (mkF l2 m2))) ::
      rT (tQ B64 960 (mkF l2 m2)) ::
      rT (tQ B64 960 (mkF l1 m1)) ::
      rT (tQ B64 1920 ((mkF l2 m2) * (mkF l1 m1))) ::
      rT (tV (.int .i64 (cmpQ ((mkF l1 m1) * (mkF l2 m2)) ((mkF l2 m2) * (mkF l1 m1))))) ::
      rT (tV (.bool (decide ((mkF l1 m1) * (mkF l2 m2) ≠ (mkF l2 m2) * (mkF l1 m1))))) ::
      rT (tV (.bool (decide ((mkF l1 m1) * (mkF l2 m2) ≠ (mkF l2 m2) * (mkF l1 m1))))) ::
      []) hz hd (by kernel_rfl) (by kernel_rfl) ?_ ?_
  · refine ⟨?_, ?_, ?_, ?_, ?_, ?_, ?_, ?_, ?_, ?_, ?_, ?_, ?_, ?_, ?_, ?_, ?_, ?_, ?_, ?_, ?_, ?_, ?_, ?_, ?_, ?_, ?_, ?_, ?_, ?_, ?_, ?_, trivial⟩
    · exact zC0 hz Try.func20 (fun _ => l_told)
    · exact zNot hz (sd 0 rfl)
    · exact zMv hz (sd 1 rfl)
    · exact zMv hz (sv S14) (g := gT 2 rfl)
    · exact zNot hz (sd 3 rfl) (g := gT 2 rfl)
    · exact zPF hz (sd 2 rfl) (sd 4 rfl)
    · exact zMv hz (sd 5 rfl)
    · exact zLd hz (sv S13) Cp7 ld_q64 (g := gT 6 rfl)
    · exact zLd hz (sv S7) Cp4 ld_q64 (g := gT 6 rfl)
    · exact zC2 hz Try.func38 (sd 7 rfl) (sd 8 rfl) (fun _ _ _ h0 h1 => cq_cmp h0 h1 (by decide) (by decide)) (g := gT 6 rfl)
    · exact sBin rfl rfl rfl hz rfl (gT 6 rfl) rfl (sd 9 rfl) kc (fun w => run_f (P := subQ ((mkF l1 m1) + (mkF l2 m2)) (mkF l2 m2) ≠ mkF l1 m1) ((fun w => run_cQ_neq (subQ ((mkF l1 m1) + (mkF l2 m2)) (mkF l2 m2)) (mkF l1 m1) w) w) hc9)
    · exact zPF hz (sd 6 rfl) (sd 10 rfl)
    · exact zMv hz (sd 11 rfl)
    · exact zLd hz (sv S7) Cp4 ld_q64 (g := gT 12 rfl)
    · exact zLd hz (sv S9) Cp5 ld_q64 (g := gT 12 rfl)
    · exact zC2 hz Try.func17 (sd 13 rfl) (sd 14 rfl) (fun _ _ _ h0 h1 => cq_add h0 h1 (by decide) (by decide)) (g := gT 12 rfl)
    · exact zLd hz (sv S9) Cp5 ld_q64 (g := gT 12 rfl)
    · exact zLd hz (sv S7) Cp4 ld_q64 (g := gT 12 rfl)
    · exact zC2 hz Try.func17 (sd 16 rfl) (sd 17 rfl) (fun _ _ _ h0 h1 => cq_add h0 h1 (by decide) (by decide)) (g := gT 12 rfl)
    · exact zC2 hz Try.func38 (sd 15 rfl) (sd 18 rfl) (fun _ _ _ h0 h1 => cq_cmp h0 h1 (by decide) (by decide)) (g := gT 12 rfl)
    · exact sBin rfl rfl rfl hz rfl (gT 12 rfl) rfl (sd 19 rfl) kc (fun w => run_f (P := (mkF l1 m1) + (mkF l2 m2) ≠ (mkF l2 m2) + (mkF l1 m1)) ((fun w => run_cQ_neq ((mkF l1 m1) + (mkF l2 m2)) ((mkF l2 m2) + (mkF l1 m1)) w) w) hc10)
    · exact zPF hz (sd 12 rfl) (sd 20 rfl)
    · exact zMv hz (sd 21 rfl)
    · exact zLd hz (sv S7) Cp4 ld_q64 (g := gT 22 rfl)
    · exact zLd hz (sv S9) Cp5 ld_q64 (g := gT 22 rfl)
    · exact zC2 hz Try.func39 (sd 23 rfl) (sd 24 rfl) (fun _ _ _ h0 h1 => cq_mul h0 h1 (by decide) (by decide)) (g := gT 22 rfl)
    · exact zLd hz (sv S9) Cp5 ld_q64 (g := gT 22 rfl)
    · exact zLd hz (sv S7) Cp4 ld_q64 (g := gT 22 rfl)
    · exact zC2 hz Try.func39 (sd 26 rfl) (sd 27 rfl) (fun _ _ _ h0 h1 => cq_mul h0 h1 (by decide) (by decide)) (g := gT 22 rfl)
    · exact zC2 hz Try.func38 (sd 25 rfl) (sd 28 rfl) (fun _ _ _ h0 h1 => cq_cmp h0 h1 (by decide) (by decide)) (g := gT 22 rfl)
    · exact sBin rfl rfl rfl hz rfl (gT 22 rfl) rfl (sd 29 rfl) kc (fun w => run_cQ_neq ((mkF l1 m1) * (mkF l2 m2)) ((mkF l2 m2) * (mkF l1 m1)) w)
    · exact zPF hz (sd 22 rfl) (sd 30 rfl)
  intro a' γ' W' hz' hd' hC hk hh
  have tp4 := Cp4.lt
  replace Cp4 := kC hC Cp4
  have tp5 := Cp5.lt
  replace Cp5 := kC hC Cp5
  have tp6 := Cp6.lt
  replace Cp6 := kC hC Cp6
  have tp7 := Cp7.lt
  clear Cp7
  replace S6 := kp hk S6
  replace S7 := kp hk S7
  replace S9 := kp hk S9
  replace S11 := kp hk S11
  clear S13
  clear S14
  have S74 := gotV hz' 31 hh rfl rfl rfl rfl
  clear tp4 tp5 tp6 tp7
  replace HB := aft_call HB (RelC.below_nil hC)
  clear hC hk hh; replace hz := hz'; replace hd := hd'; clear hz' hd'
  have hc11 : ¬ ((mkF l1 m1) * (mkF l2 m2) ≠ (mkF l2 m2) * (mkF l1 m1)) := (fun h => h (Rat.mul_comm _ _))
  rw [decide_eq_false hc11] at S74
  refine wp_cond_false S74.ev ?_
  refine wp_skip ?_
  refine wp_seq ?_
  refine wp_seq ?_
  have hc12 : ¬ (((mkF l1 m1) + (mkF l2 m2)) + (mkF l3 m3) ≠ (mkF l1 m1) + ((mkF l2 m2) + (mkF l3 m3))) := (fun h => h (Rat.add_assoc _ _ _))
  have hc13 : ¬ (((mkF l1 m1) * (mkF l2 m2)) * (mkF l3 m3) ≠ (mkF l1 m1) * ((mkF l2 m2) * (mkF l3 m3))) := (fun h => h (Rat.mul_assoc _ _ _))
  refine region_drawn (M := []) (
      rT (tQ B64 960 (mkF l1 m1)) ::
      rT (tQ B64 960 (mkF l2 m2)) ::
      rT (tQ B64 1921 ((mkF l1 m1) + (mkF l2 m2))) ::
      rT (tQ B64 960 (mkF l3 m3)) ::
      rT (tQ B64 2882 (((mkF l1 m1) + (mkF l2 m2)) + (mkF l3 m3))) ::
      rT (tQ B64 960 (mkF l1 m1)) ::
      rT (tQ B64 960 (mkF l2 m2)) ::
      rT (tQ B64 960 (mkF l3 m3)) ::
      rT (tQ B64 1921 ((mkF l2 m2) + (mkF l3 m3))) ::
      rT (tQ B64 2882 ((mkF l1 m1) + ((mkF l2 m2) + (mkF l3 m3)))) ::
      rT (tV (.int .i64 (cmpQ (((mkF l1 m1) + (mkF l2 m2)) + (mkF l3 m3)) ((mkF l1 m1) + ((mkF l2 m2) + (mkF l3 m3)))))) ::
      rT (tV (.bool false)) ::
      rT (tV (.bool false)) ::
      rT (tQ B64 960 (mkF l1 m1)) ::
      rT (tQ B64 960 (mkF l2 m2)) ::
      rT (tQ B64 1920 ((mkF l1 m1) * (mkF l2 m2))) ::
      rT (tQ B64 960 (mkF l3 m3)) ::
      rT (tQ B64 2880 (((mkF l1 m1) * (mkF l2 m2)) * (mkF l3 m3))) ::
      rT (tQ B64 960 (mkF l1 m1)) ::
      rT (tQ B64 960 (mkF l2 m2)) ::
      rT (tQ B64 960 (mkF l3 m3)) ::
      rT (tQ B64 1920 ((mkF l2 m2) * (mkF l3 m3))) ::
      rT (tQ B64 2880 ((mkF l1 m1) * ((mkF l2 m2) * (mkF l3 m3)))) ::
      rT (tV (.int .i64 (cmpQ (((mkF l1 m1) * (mkF l2 m2)) * (mkF l3 m3)) ((mkF l1 m1) * ((mkF l2 m2) * (mkF l3 m3)))))) ::
      rT (tV (.bool false)) ::
      rT (tV (.bool false)) ::
      rT (tV (.bool false)) ::
      rT (tQ B64 960 (mkF l1 m1)) ::
      rT (tQ B64 960 (mkF l2 m2)) ::
      rT (tQ B64 960 (mkF l3 m3)) ::
      rT (tQ B64 1921 ((mkF l2 m2) + (mkF l3 m3))) ::
      rT (tQ B64 2881 ((mkF l1 m1) * ((mkF l2 m2) + (mkF l3 m3)))) ::
      rT (tQ B64 960 (mkF l1 m1)) ::
      rT (tQ B64 960 (mkF l2 m2)) ::
      rT (tQ B64 1920 ((mkF l1 m1) * (mkF l2 m2))) ::
      rT (tQ B64 960 (mkF l1 m1)) ::
      rT (tQ B64 960 (mkF l3 m3)) ::
      rT (tQ B64 1920 ((mkF l1 m1) * (mkF l3 m3))) ::
      rT (tQ B64 3841 (((mkF l1 m1) * (mkF l2 m2)) + ((mkF l1 m1) * (mkF l3 m3)))) ::
      rT (tV (.int .i64 (cmpQ ((mkF l1 m1) * ((mkF l2 m2) + (mkF l3 m3))) (((mkF l1 m1) * (mkF l2 m2)) + ((mkF l1 m1) * (mkF l3 m3)))))) ::
      rT (tV (.bool (decide ((mkF l1 m1) * ((mkF l2 m2) + (mkF l3 m3)) ≠ ((mkF l1 m1) * (mkF l2 m2)) + ((mkF l1 m1) * (mkF l3 m3)))))) ::
      rT (tV (.bool (decide ((mkF l1 m1) * ((mkF l2 m2) + (mkF l3 m3)) ≠ ((mkF l1 m1) * (mkF l2 m2)) + ((mkF l1 m1) * (mkF l3 m3)))))) ::
      []) hz hd (by kernel_rfl) (by kernel_rfl) ?_ ?_
  · refine ⟨?_, ?_, ?_, ?_, ?_, ?_, ?_, ?_, ?_, ?_, ?_, ?_, ?_, ?_, ?_, ?_, ?_, ?_, ?_, ?_, ?_, ?_, ?_, ?_, ?_, ?_, ?_, ?_, ?_, ?_, ?_, ?_, ?_, ?_, ?_, ?_, ?_, ?_, ?_, ?_, ?_, ?_, trivial⟩
    · exact zLd hz (sv S7) Cp4 ld_q64
    · exact zLd hz (sv S9) Cp5 ld_q64
    · exact zC2 hz Try.func17 (sd 0 rfl) (sd 1 rfl) (fun _ _ _ h0 h1 => cq_add h0 h1 (by decide) (by decide))
    · exact zLd hz (sv S11) Cp6 ld_q64
    · exact zC2 hz Try.func17 (sd 2 rfl) (sd 3 rfl) (fun _ _ _ h0 h1 => cq_add h0 h1 (by decide) (by decide))
    · exact zLd hz (sv S7) Cp4 ld_q64
    · exact zLd hz (sv S9) Cp5 ld_q64
    · exact zLd hz (sv S11) Cp6 ld_q64
    · exact zC2 hz Try.func17 (sd 6 rfl) (sd 7 rfl) (fun _ _ _ h0 h1 => cq_add h0 h1 (by decide) (by decide))
    · exact zC2 hz Try.func17 (sd 5 rfl) (sd 8 rfl) (fun _ _ _ h0 h1 => cq_add h0 h1 (by decide) (by decide))
    · exact zC2 hz Try.func38 (sd 4 rfl) (sd 9 rfl) (fun _ _ _ h0 h1 => cq_cmp h0 h1 (by decide) (by decide))
    · exact sBin rfl rfl rfl hz rfl (Gd.none_ rfl) rfl (sd 10 rfl) kc (fun w => run_f (P := ((mkF l1 m1) + (mkF l2 m2)) + (mkF l3 m3) ≠ (mkF l1 m1) + ((mkF l2 m2) + (mkF l3 m3))) ((fun w => run_cQ_neq (((mkF l1 m1) + (mkF l2 m2)) + (mkF l3 m3)) ((mkF l1 m1) + ((mkF l2 m2) + (mkF l3 m3))) w) w) hc12)
    · exact zMv hz (sd 11 rfl)
    · exact zLd hz (sv S7) Cp4 ld_q64 (g := gT 12 rfl)
    · exact zLd hz (sv S9) Cp5 ld_q64 (g := gT 12 rfl)
    · exact zC2 hz Try.func39 (sd 13 rfl) (sd 14 rfl) (fun _ _ _ h0 h1 => cq_mul h0 h1 (by decide) (by decide)) (g := gT 12 rfl)
    · exact zLd hz (sv S11) Cp6 ld_q64 (g := gT 12 rfl)
    · exact zC2 hz Try.func39 (sd 15 rfl) (sd 16 rfl) (fun _ _ _ h0 h1 => cq_mul h0 h1 (by decide) (by decide)) (g := gT 12 rfl)
    · exact zLd hz (sv S7) Cp4 ld_q64 (g := gT 12 rfl)
    · exact zLd hz (sv S9) Cp5 ld_q64 (g := gT 12 rfl)
    · exact zLd hz (sv S11) Cp6 ld_q64 (g := gT 12 rfl)
    · exact zC2 hz Try.func39 (sd 19 rfl) (sd 20 rfl) (fun _ _ _ h0 h1 => cq_mul h0 h1 (by decide) (by decide)) (g := gT 12 rfl)
    · exact zC2 hz Try.func39 (sd 18 rfl) (sd 21 rfl) (fun _ _ _ h0 h1 => cq_mul h0 h1 (by decide) (by decide)) (g := gT 12 rfl)
    · exact zC2 hz Try.func38 (sd 17 rfl) (sd 22 rfl) (fun _ _ _ h0 h1 => cq_cmp h0 h1 (by decide) (by decide)) (g := gT 12 rfl)
    · exact sBin rfl rfl rfl hz rfl (gT 12 rfl) rfl (sd 23 rfl) kc (fun w => run_f (P := ((mkF l1 m1) * (mkF l2 m2)) * (mkF l3 m3) ≠ (mkF l1 m1) * ((mkF l2 m2) * (mkF l3 m3))) ((fun w => run_cQ_neq (((mkF l1 m1) * (mkF l2 m2)) * (mkF l3 m3)) ((mkF l1 m1) * ((mkF l2 m2) * (mkF l3 m3))) w) w) hc13)
    · exact zPF hz (sd 12 rfl) (sd 24 rfl)
    · exact zMv hz (sd 25 rfl)
    · exact zLd hz (sv S7) Cp4 ld_q64 (g := gT 26 rfl)
    · exact zLd hz (sv S9) Cp5 ld_q64 (g := gT 26 rfl)
    · exact zLd hz (sv S11) Cp6 ld_q64 (g := gT 26 rfl)
    · exact zC2 hz Try.func17 (sd 28 rfl) (sd 29 rfl) (fun _ _ _ h0 h1 => cq_add h0 h1 (by decide) (by decide)) (g := gT 26 rfl)
    · exact zC2 hz Try.func39 (sd 27 rfl) (sd 30 rfl) (fun _ _ _ h0 h1 => cq_mul h0 h1 (by decide) (by decide)) (g := gT 26 rfl)
    · exact zLd hz (sv S7) Cp4 ld_q64 (g := gT 26 rfl)
    · exact zLd hz (sv S9) Cp5 ld_q64 (g := gT 26 rfl)
    · exact zC2 hz Try.func39 (sd 32 rfl) (sd 33 rfl) (fun _ _ _ h0 h1 => cq_mul h0 h1 (by decide) (by decide)) (g := gT 26 rfl)
    · exact zLd hz (sv S7) Cp4 ld_q64 (g := gT 26 rfl)
    · exact zLd hz (sv S11) Cp6 ld_q64 (g := gT 26 rfl)
    · exact zC2 hz Try.func39 (sd 35 rfl) (sd 36 rfl) (fun _ _ _ h0 h1 => cq_mul h0 h1 (by decide) (by decide)) (g := gT 26 rfl)
    · exact zC2 hz Try.func17 (sd 34 rfl) (sd 37 rfl) (fun _ _ _ h0 h1 => cq_add h0 h1 (by decide) (by decide)) (g := gT 26 rfl)
    · exact zC2 hz Try.func38 (sd 31 rfl) (sd 38 rfl) (fun _ _ _ h0 h1 => cq_cmp h0 h1 (by decide) (by decide)) (g := gT 26 rfl)
    · exact sBin rfl rfl rfl hz rfl (gT 26 rfl) rfl (sd 39 rfl) kc (fun w => run_cQ_neq ((mkF l1 m1) * ((mkF l2 m2) + (mkF l3 m3))) (((mkF l1 m1) * (mkF l2 m2)) + ((mkF l1 m1) * (mkF l3 m3))) w)
    · exact zPF hz (sd 26 rfl) (sd 40 rfl)
  intro a' γ' W' hz' hd' hC hk hh
  have tp4 := Cp4.lt
  replace Cp4 := kC hC Cp4
  have tp5 := Cp5.lt
  replace Cp5 := kC hC Cp5
  have tp6 := Cp6.lt
  replace Cp6 := kC hC Cp6
  replace S6 := kp hk S6
  replace S7 := kp hk S7
  replace S9 := kp hk S9
  replace S11 := kp hk S11
  clear S74
  have S116 := gotV hz' 41 hh rfl rfl rfl rfl
  clear tp4 tp5 tp6
  replace HB := aft_call HB (RelC.below_nil hC)
  clear hC hk hh; replace hz := hz'; replace hd := hd'; clear hz' hd'
  have hc14 : ¬ ((mkF l1 m1) * ((mkF l2 m2) + (mkF l3 m3)) ≠ ((mkF l1 m1) * (mkF l2 m2)) + ((mkF l1 m1) * (mkF l3 m3))) := (fun h => h la_dist)
  rw [decide_eq_false hc14] at S116
  refine wp_cond_false S116.ev ?_
  refine wp_skip ?_
  refine wp_seq ?_
  refine region_text (M := []) (
      rB 0 29 (tQ B64 1 0) none 0 ::
      []) hz hd (by kernel_rfl) ?_ ?_
  · refine ⟨?_, trivial⟩
    · exact zNew hz (fun _ => tQ_nil) al_r64
  intro a' γ' W' hz' hd' hC hk hh
  have ep4 := Cp4.lt
  have ep5 := Cp5.lt
  have ep6 := Cp6.lt
  have tp4 := Cp4.lt
  replace Cp4 := kC hC Cp4
  have tp5 := Cp5.lt
  replace Cp5 := kC hC Cp5
  have tp6 := Cp6.lt
  replace Cp6 := kC hC Cp6
  replace S6 := kp hk S6
  replace S7 := kp hk S7
  replace S9 := kp hk S9
  replace S11 := kp hk S11
  clear S116
  obtain ⟨p15, S15, Cp15, lp15, gp15⟩ := gotB hz' 0 hC hh rfl rfl rfl rfl rfl rfl
  have n_p15_p4 : p15 ≠ p4 := by omega
  have n_p15_p5 : p15 ≠ p5 := by omega
  have n_p15_p6 : p15 ≠ p6 := by omega
  have n_p4_p15 : p4 ≠ p15 := by have := ep4; omega
  have n_p5_p15 : p5 ≠ p15 := by have := ep5; omega
  have n_p6_p15 : p6 ≠ p15 := by have := ep6; omega
  have bp15 : w.heap.size ≤ p15 := Nat.le_trans HB.size lp15
  clear lp15 gp15
  clear tp4 tp5 tp6
  clear ep4 ep5 ep6
  replace HB := aft_call HB (RelC.below_nil hC)
  clear hC hk hh; replace hz := hz'; replace hd := hd'; clear hz' hd'
  refine wp_seq ?_
  refine region_drawn (M := []) (
      rT (tQ B64 960 (mkF l1 m1)) ::
      rT (tQ B64 960 (mkF l2 m2)) ::
      rT (tQ B64 1920 ((mkF l1 m1) * (mkF l2 m2))) ::
      rT (tQ B64 960 (mkF l2 m2)) ::
      rT (tT [tQ B64 2881 (((mkF l1 m1) * (mkF l2 m2)) / (mkF l2 m2)), tV (.bool (decide (mkF l2 m2 ≠ 0)))]) ::
      rT (tT [tQ B64 2881 (((mkF l1 m1) * (mkF l2 m2)) / (mkF l2 m2)), tV (.bool (decide (mkF l2 m2 ≠ 0)))]) ::
      rT (tQ B64 2881 (((mkF l1 m1) * (mkF l2 m2)) / (mkF l2 m2))) ::
      rT (tV (.bool (decide (mkF l2 m2 ≠ 0)))) ::
      rVar 8 29 2 ::
      rB 8 29 (tQ B64 2881 (((mkF l1 m1) * (mkF l2 m2)) / (mkF l2 m2))) (some 8) 9 ::
      rT (tV (.bool (decide (mkF l2 m2 ≠ 0)))) ::
      []) hz hd (by kernel_rfl) (by kernel_rfl) ?_ ?_
  · refine ⟨?_, ?_, ?_, ?_, ?_, ?_, ?_, ?_, ?_, ?_, ?_, trivial⟩
    · exact zLd hz (sv S7) Cp4 ld_q64
    · exact zLd hz (sv S9) Cp5 ld_q64
    · exact zC2 hz Try.func39 (sd 0 rfl) (sd 1 rfl) (fun _ _ _ h0 h1 => cq_mul h0 h1 (by decide) (by decide))
    · exact zLd hz (sv S9) Cp5 ld_q64
    · exact zC2 hz Try.func40 (sd 2 rfl) (sd 3 rfl) (fun _ _ _ h0 h1 => cq_div h0 h1 (by decide) (by decide))
    · exact zMv hz (sd 4 rfl)
    · exact zExt hz (sd 5 rfl)
    · exact zExt hz (sd 5 rfl)
    · exact zAl hz nd_rat al_r64
    · exact zSt (sd 6 rfl) st_q64
    · exact zAs hz (sd 7 rfl)
  intro a' γ' W' hz' hd' hC hk hh
  have ep4 := Cp4.lt
  have ep5 := Cp5.lt
  have ep6 := Cp6.lt
  have ep15 := Cp15.lt
  have tp4 := Cp4.lt
  replace Cp4 := kC hC Cp4
  have tp5 := Cp5.lt
  replace Cp5 := kC hC Cp5
  have tp6 := Cp6.lt
  replace Cp6 := kC hC Cp6
  have tp15 := Cp15.lt
  replace Cp15 := kC hC Cp15
  replace S6 := kp hk S6
  replace S7 := kp hk S7
  replace S9 := kp hk S9
  replace S11 := kp hk S11
  replace S15 := kp hk S15
  obtain ⟨p16, S16, Cp16, lp16, gp16⟩ := gotB hz' 9 hC hh rfl rfl rfl rfl rfl rfl
  have S17 := gotV hz' 10 hh rfl rfl rfl rfl
  have n_p16_p4 : p16 ≠ p4 := by omega
  have n_p16_p5 : p16 ≠ p5 := by omega
  have n_p16_p6 : p16 ≠ p6 := by omega
  have n_p16_p15 : p16 ≠ p15 := by omega
  have n_p4_p16 : p4 ≠ p16 := by have := ep4; omega
  have n_p5_p16 : p5 ≠ p16 := by have := ep5; omega
  have n_p6_p16 : p6 ≠ p16 := by have := ep6; omega
  have n_p15_p16 : p15 ≠ p16 := by have := ep15; omega
  have bp16 : w.heap.size ≤ p16 := Nat.le_trans HB.size lp16
  clear lp16 gp16
  clear tp4 tp5 tp6 tp15
  clear ep4 ep5 ep6 ep15
  replace HB := aft_call HB (RelC.below_nil hC)
  clear hC hk hh; replace hz := hz'; replace hd := hd'; clear hz' hd'
  refine wp_seq ?_
  refine wp_seq ?_
  by_cases hc17 : mkF l2 m2 ≠ 0
  · rw [decide_eq_true hc17] at S17
    refine region_text (M := []) (
        rT (tV (.bool true)) ::
        rT (tQ B64 960 (mkF l2 m2)) ::
        rT (tQ B64 1 0) ::
        rT (tV (.int .i64 (cmpQ (mkF l2 m2) 0))) ::
        rT (tV (.bool true)) ::
        rT (tV (.bool false)) ::
        rT (tV (.bool false)) ::
        rT (tV (.bool true)) ::
        rT (tV (.bool true)) ::
        rT (tQ B64 2881 (((mkF l1 m1) * (mkF l2 m2)) / (mkF l2 m2))) ::
        rT (tQ B64 960 (mkF l1 m1)) ::
        rT (tV (.int .i64 (cmpQ (((mkF l1 m1) * (mkF l2 m2)) / (mkF l2 m2)) (mkF l1 m1)))) ::
        rT (tV (.bool (decide (((mkF l1 m1) * (mkF l2 m2)) / (mkF l2 m2) ≠ mkF l1 m1)))) ::
        rT (tV (.bool (decide (((mkF l1 m1) * (mkF l2 m2)) / (mkF l2 m2) ≠ mkF l1 m1)))) ::
        rT (tV (.bool (decide (((mkF l1 m1) * (mkF l2 m2)) / (mkF l2 m2) ≠ mkF l1 m1)))) ::
        []) hz hd (by kernel_rfl) ?_ ?_
    · refine ⟨?_, ?_, ?_, ?_, ?_, ?_, ?_, ?_, ?_, ?_, ?_, ?_, ?_, ?_, ?_, trivial⟩
      · exact zMv hz (sv S17)
      · exact zLd hz (sv S9) Cp5 ld_q64
      · exact zLd hz (sv S15) Cp15 ld_q64
      · exact zC2 hz Try.func38 (sd 1 rfl) (sd 2 rfl) (fun _ _ _ h0 h1 => cq_cmp h0 h1 (by decide) (by decide))
      · exact sBin rfl rfl rfl hz rfl (Gd.none_ rfl) rfl (sd 3 rfl) kc (fun w => run_t (P := mkF l2 m2 ≠ 0) ((fun w => run_cQ_neq (mkF l2 m2) 0 w) w) hc17)
      · exact sBin rfl rfl rfl hz rfl (Gd.none_ rfl) rfl (sd 0 rfl) (sd 4 rfl) (fun w => by kernel_rfl)
      · exact zMv hz (sd 5 rfl)
      · exact zMv hz (sv S17) (g := gT 6 rfl)
      · exact zMv hz (sd 7 rfl) (g := gT 6 rfl)
      · exact zLd hz (sv S16) Cp16 ld_q64 (g := gT 8 rfl)
      · exact zLd hz (sv S7) Cp4 ld_q64 (g := gT 8 rfl)
      · exact zC2 hz Try.func38 (sd 9 rfl) (sd 10 rfl) (fun _ _ _ h0 h1 => cq_cmp h0 h1 (by decide) (by decide)) (g := gT 8 rfl)
      · exact sBin rfl rfl rfl hz rfl (gT 8 rfl) rfl (sd 11 rfl) kc (fun w => run_cQ_neq (((mkF l1 m1) * (mkF l2 m2)) / (mkF l2 m2)) (mkF l1 m1) w)
      · exact zPT hz (sd 8 rfl) (sd 12 rfl) (g := gT 6 rfl)
      · exact zPF hz (sd 6 rfl) (sd 13 rfl)
    intro a' γ' W' hz' hd' hC hk hh
    have tp4 := Cp4.lt
    replace Cp4 := kC hC Cp4
    have tp5 := Cp5.lt
    replace Cp5 := kC hC Cp5
    have tp6 := Cp6.lt
    replace Cp6 := kC hC Cp6
    have tp15 := Cp15.lt
    clear Cp15
    have tp16 := Cp16.lt
    clear Cp16
    replace S6 := kp hk S6
    replace S7 := kp hk S7
    replace S9 := kp hk S9
    replace S11 := kp hk S11
    clear S15
    clear S16
    clear S17
    have S139 := gotV hz' 14 hh rfl rfl rfl rfl
    clear tp4 tp5 tp6 tp15 tp16
    replace HB := aft_call HB (RelC.below_nil hC)
    clear hC hk hh; replace hz := hz'; replace hd := hd'; clear hz' hd'
    have hc18 : ¬ (((mkF l1 m1) * (mkF l2 m2)) / (mkF l2 m2) ≠ mkF l1 m1) := (fun h => h (la_div hc17))
    rw [decide_eq_false hc18] at S139
    refine wp_cond_false S139.ev ?_
    refine wp_skip ?_
    refine wp_seq ?_
    refine region_text (M := []) (
        rT (tQ B64 960 (mkF l1 m1)) ::
        rT (tQ B64 960 (mkF l2 m2)) ::
        rT (tT [tQ B64 1921 (subQ (mkF l1 m1) (mkF l2 m2)), tV (.bool (decide (mkF l2 m2 ≤ mkF l1 m1)))]) ::
        rT (tT [tQ B64 1921 (subQ (mkF l1 m1) (mkF l2 m2)), tV (.bool (decide (mkF l2 m2 ≤ mkF l1 m1)))]) ::
        rT (tQ B64 1921 (subQ (mkF l1 m1) (mkF l2 m2))) ::
        rT (tV (.bool (decide (mkF l2 m2 ≤ mkF l1 m1)))) ::
        rVar 6 29 2 ::
        rB 6 29 (tQ B64 1921 (subQ (mkF l1 m1) (mkF l2 m2))) (some 6) 7 ::
        rT (tV (.bool (decide (mkF l2 m2 ≤ mkF l1 m1)))) ::
        []) hz hd (by kernel_rfl) ?_ ?_
    · refine ⟨?_, ?_, ?_, ?_, ?_, ?_, ?_, ?_, ?_, trivial⟩
      · exact zLd hz (sv S7) Cp4 ld_q64
      · exact zLd hz (sv S9) Cp5 ld_q64
      · exact zC2 hz Try.func37 (sd 0 rfl) (sd 1 rfl) (fun _ _ _ h0 h1 => cq_sub h0 h1 (by decide) (by decide))
      · exact zMv hz (sd 2 rfl)
      · exact zExt hz (sd 3 rfl)
      · exact zExt hz (sd 3 rfl)
      · exact zAl hz nd_rat al_r64
      · exact zSt (sd 4 rfl) st_q64
      · exact zAs hz (sd 5 rfl)
    intro a' γ' W' hz' hd' hC hk hh
    have ep4 := Cp4.lt
    have ep5 := Cp5.lt
    have ep6 := Cp6.lt
    have tp4 := Cp4.lt
    replace Cp4 := kC hC Cp4
    have tp5 := Cp5.lt
    replace Cp5 := kC hC Cp5
    have tp6 := Cp6.lt
    replace Cp6 := kC hC Cp6
    replace S6 := kp hk S6
    replace S7 := kp hk S7
    replace S9 := kp hk S9
    replace S11 := kp hk S11
    clear S139
    obtain ⟨p19, S18, Cp19, lp19, gp19⟩ := gotB hz' 7 hC hh rfl rfl rfl rfl rfl rfl
    have S19 := gotV hz' 8 hh rfl rfl rfl rfl
    have n_p19_p4 : p19 ≠ p4 := by omega
    have n_p19_p5 : p19 ≠ p5 := by omega
    have n_p19_p6 : p19 ≠ p6 := by omega
    have n_p4_p19 : p4 ≠ p19 := by have := ep4; omega
    have n_p5_p19 : p5 ≠ p19 := by have := ep5; omega
    have n_p6_p19 : p6 ≠ p19 := by have := ep6; omega
    have bp19 : w.heap.size ≤ p19 := Nat.le_trans HB.size lp19
    clear lp19 gp19
    clear tp4 tp5 tp6
    clear ep4 ep5 ep6
    replace HB := aft_call HB (RelC.below_nil hC)
    clear hC hk hh; replace hz := hz'; replace hd := hd'; clear hz' hd'
    refine wp_seq ?_
    by_cases hc20 : mkF l2 m2 ≤ mkF l1 m1
    · rw [decide_eq_true hc20] at S19
      have hc21 : (subQ (mkF l1 m1) (mkF l2 m2)) + (mkF l2 m2) = mkF l1 m1 := (la_back hc20)
      refine region_drawn (M := []) (
          rT (tV (.bool true)) ::
          rT (tQ B64 960 (mkF l1 m1)) ::
          rT (tQ B64 960 (mkF l2 m2)) ::
          rT (tV (.int .i64 (cmpQ (mkF l1 m1) (mkF l2 m2)))) ::
          rT (tV (.bool true)) ::
          rT (tV (.bool true)) ::
          rT (tV (.bool true)) ::
          rT (tQ B64 960 (mkF l1 m1)) ::
          rT (tQ B64 960 (mkF l2 m2)) ::
          rT (tV (.int .i64 (cmpQ (mkF l1 m1) (mkF l2 m2)))) ::
          rT (tQ B64 960 (mkF l2 m2)) ::
          rT (tQ B64 960 (mkF l1 m1)) ::
          rT (tV (.int .i64 (cmpQ (mkF l2 m2) (mkF l1 m1)))) ::
          rT (tV (.int .i64 (cmpQ (mkF l1 m1) (mkF l2 m2)))) ::
          rT (tV (.bool true)) ::
          rT (tV (.bool true)) ::
          rT (tV (.bool true)) ::
          rT (tV (.bool true)) ::
          rT (tV (.bool false)) ::
          rT (tV (.bool false)) ::
          rT (tQ B64 1921 (subQ (mkF l1 m1) (mkF l2 m2))) ::
          rT (tQ B64 960 (mkF l2 m2)) ::
          rT (tQ B64 2882 ((subQ (mkF l1 m1) (mkF l2 m2)) + (mkF l2 m2))) ::
          rT (tQ B64 960 (mkF l1 m1)) ::
          rT (tV (.int .i64 (cmpQ ((subQ (mkF l1 m1) (mkF l2 m2)) + (mkF l2 m2)) (mkF l1 m1)))) ::
          rT (tV (.bool true)) ::
          rT (tV (.bool true)) ::
          rT (tV (.bool true)) ::
          rT (tV (.bool true)) ::
          rT (tQ B64 960 (mkF l1 m1)) ::
          rT (tQ B64 960 (mkF l2 m2)) ::
          rT (tQ B64 960 (mkF l3 m3)) ::
          rRow 32 29 B64 960 [mkF l1 m1, mkF l2 m2, mkF l3 m3] ::
          rT (tQ B64 2884 (0 + (mkF l1 m1) + (mkF l2 m2) + (mkF l3 m3))) ::
          rT (tQ B64 960 (mkF l3 m3)) ::
          rT (tQ B64 960 (mkF l2 m2)) ::
          rT (tQ B64 960 (mkF l1 m1)) ::
          rT (tQ B64 1921 ((mkF l2 m2) + (mkF l1 m1))) ::
          rT (tQ B64 2882 ((mkF l3 m3) + ((mkF l2 m2) + (mkF l1 m1)))) ::
          rT (tV (.int .i64 (cmpQ (0 + (mkF l1 m1) + (mkF l2 m2) + (mkF l3 m3)) ((mkF l3 m3) + ((mkF l2 m2) + (mkF l1 m1)))))) ::
          rT (tV (.bool (decide (0 + (mkF l1 m1) + (mkF l2 m2) + (mkF l3 m3) = (mkF l3 m3) + ((mkF l2 m2) + (mkF l1 m1)))))) ::
          rT (tV (.bool (decide (0 + (mkF l1 m1) + (mkF l2 m2) + (mkF l3 m3) = (mkF l3 m3) + ((mkF l2 m2) + (mkF l1 m1)))))) ::
          rT (tV (.bool (decide (0 + (mkF l1 m1) + (mkF l2 m2) + (mkF l3 m3) = (mkF l3 m3) + ((mkF l2 m2) + (mkF l1 m1)))))) ::
          []) hz hd (by kernel_rfl) (by kernel_rfl) ?_ ?_
      · refine ⟨?_, ?_, ?_, ?_, ?_, ?_, ?_, ?_, ?_, ?_, ?_, ?_, ?_, ?_, ?_, ?_, ?_, ?_, ?_, ?_, ?_, ?_, ?_, ?_, ?_, ?_, ?_, ?_, ?_, ?_, ?_, ?_, ?_, ?_, ?_, ?_, ?_, ?_, ?_, ?_, ?_, ?_, ?_, trivial⟩
        · exact zMv hz (sv S19)
        · exact zLd hz (sv S7) Cp4 ld_q64
        · exact zLd hz (sv S9) Cp5 ld_q64
        · exact zC2 hz Try.func38 (sd 1 rfl) (sd 2 rfl) (fun _ _ _ h0 h1 => cq_cmp h0 h1 (by decide) (by decide))
        · exact sBin rfl rfl rfl hz rfl (Gd.none_ rfl) rfl (sd 3 rfl) kc (fun w => run_t (P := mkF l2 m2 ≤ mkF l1 m1) ((fun w => run_cQ_geq (mkF l1 m1) (mkF l2 m2) w) w) hc20)
        · exact sBin rfl rfl rfl hz rfl (Gd.none_ rfl) rfl (sd 0 rfl) (sd 4 rfl) (fun w => by kernel_rfl)
        · exact zMv hz (sd 5 rfl)
        · exact zLd hz (sv S7) Cp4 ld_q64 (g := gT 6 rfl)
        · exact zLd hz (sv S9) Cp5 ld_q64 (g := gT 6 rfl)
        · exact zC2 hz Try.func38 (sd 7 rfl) (sd 8 rfl) (fun _ _ _ h0 h1 => cq_cmp h0 h1 (by decide) (by decide)) (g := gT 6 rfl)
        · exact zLd hz (sv S9) Cp5 ld_q64 (g := gT 6 rfl)
        · exact zLd hz (sv S7) Cp4 ld_q64 (g := gT 6 rfl)
        · exact zC2 hz Try.func38 (sd 10 rfl) (sd 11 rfl) (fun _ _ _ h0 h1 => cq_cmp h0 h1 (by decide) (by decide)) (g := gT 6 rfl)
        · exact sUn rfl rfl rfl hz rfl (gT 6 rfl) rfl (sd 12 rfl) (fun w => run_cQ_neg (mkF l2 m2) (mkF l1 m1) w)
        · exact sBin rfl rfl rfl hz rfl (gT 6 rfl) rfl (sd 9 rfl) (sd 13 rfl) (fun w => by simp [go_sem])
        · exact zPT hz (sd 6 rfl) (sd 14 rfl)
        · exact zMv hz (sd 15 rfl)
        · exact zMv hz (sv S19) (g := gT 16 rfl)
        · exact zNot hz (sd 17 rfl) (g := gT 16 rfl)
        · exact zMv hz (sd 18 rfl) (g := gT 16 rfl)
        · exact zLd hz (sv S18) Cp19 ld_q64 (g := gT 19 rfl)
        · exact zLd hz (sv S9) Cp5 ld_q64 (g := gT 19 rfl)
        · exact zC2 hz Try.func17 (sd 20 rfl) (sd 21 rfl) (fun _ _ _ h0 h1 => cq_add h0 h1 (by decide) (by decide)) (g := gT 19 rfl)
        · exact zLd hz (sv S7) Cp4 ld_q64 (g := gT 19 rfl)
        · exact zC2 hz Try.func38 (sd 22 rfl) (sd 23 rfl) (fun _ _ _ h0 h1 => cq_cmp h0 h1 (by decide) (by decide)) (g := gT 19 rfl)
        · exact sBin rfl rfl rfl hz rfl (gT 19 rfl) rfl (sd 24 rfl) kc (fun w => run_t (P := (subQ (mkF l1 m1) (mkF l2 m2)) + (mkF l2 m2) = mkF l1 m1) ((fun w => run_cQ_eql ((subQ (mkF l1 m1) (mkF l2 m2)) + (mkF l2 m2)) (mkF l1 m1) w) w) hc21)
        · exact zPF hz (sd 19 rfl) (sd 25 rfl) (g := gT 16 rfl)
        · exact zPT hz (sd 16 rfl) (sd 26 rfl)
        · exact zMv hz (sd 27 rfl)
        · exact zLd hz (sv S7) Cp4 ld_q64 (g := gT 28 rfl)
        · exact zLd hz (sv S9) Cp5 ld_q64 (g := gT 28 rfl)
        · exact zLd hz (sv S11) Cp6 ld_q64 (g := gT 28 rfl)
        · exact sRow3 hz rfl (sd 29 rfl) (sd 30 rfl) (sd 31 rfl) bs3_64 (g := gT 28 rfl)
        · exact sCallRow (j := 32) hz Try.func41 rfl (fun p w h => cq_sum3 h (by decide)) (g := gT 28 rfl)
        · exact zLd hz (sv S11) Cp6 ld_q64 (g := gT 28 rfl)
        · exact zLd hz (sv S9) Cp5 ld_q64 (g := gT 28 rfl)
        · exact zLd hz (sv S7) Cp4 ld_q64 (g := gT 28 rfl)
        · exact zC2 hz Try.func17 (sd 35 rfl) (sd 36 rfl) (fun _ _ _ h0 h1 => cq_add h0 h1 (by decide) (by decide)) (g := gT 28 rfl)
        · exact zC2 hz Try.func17 (sd 34 rfl) (sd 37 rfl) (fun _ _ _ h0 h1 => cq_add h0 h1 (by decide) (by decide)) (g := gT 28 rfl)
        · exact zC2 hz Try.func38 (sd 33 rfl) (sd 38 rfl) (fun _ _ _ h0 h1 => cq_cmp h0 h1 (by decide) (by decide)) (g := gT 28 rfl)
        · exact sBin rfl rfl rfl hz rfl (gT 28 rfl) rfl (sd 39 rfl) kc (fun w => run_cQ_eql (0 + (mkF l1 m1) + (mkF l2 m2) + (mkF l3 m3)) ((mkF l3 m3) + ((mkF l2 m2) + (mkF l1 m1))) w)
        · exact zPT hz (sd 28 rfl) (sd 40 rfl)
        · exact zAs hz (sd 41 rfl)
      intro a' γ' W' hz' hd' hC hk hh
      have tp4 := Cp4.lt
      clear Cp4
      have tp5 := Cp5.lt
      clear Cp5
      have tp6 := Cp6.lt
      clear Cp6
      have tp19 := Cp19.lt
      clear Cp19
      clear S6
      clear S7
      clear S9
      clear S11
      clear S18
      clear S19
      have S6 := gotV hz' 42 hh rfl rfl rfl rfl
      clear tp4 tp5 tp6 tp19
      replace HB := aft_call HB (RelC.below_nil hC)
      clear hC hk hh; replace hz := hz'; replace hd := hd'; clear hz' hd'
      refine wp_ret ?_
      refine ret_to (T := tV (.bool (decide (0 + (mkF l1 m1) + (mkF l2 m2) + (mkF l3 m3) = (mkF l3 m3) + ((mkF l2 m2) + (mkF l1 m1)))))) (ret1 (by kernel_rfl) S6 hd ⟨_, rfl, rfl, HB⟩) ?_
      exact tV_to (by rw [decide_eq_true la_sum])
    · rw [decide_eq_false hc20] at S19
      refine region_drawn (M := []) (
          rT (tV (.bool false)) ::
          rT (tQ B64 960 (mkF l1 m1)) ::
          rT (tQ B64 960 (mkF l2 m2)) ::
          rT (tV (.int .i64 (cmpQ (mkF l1 m1) (mkF l2 m2)))) ::
          rT (tV (.bool false)) ::
          rT (tV (.bool true)) ::
          rT (tV (.bool true)) ::
          rT (tQ B64 960 (mkF l1 m1)) ::
          rT (tQ B64 960 (mkF l2 m2)) ::
          rT (tV (.int .i64 (cmpQ (mkF l1 m1) (mkF l2 m2)))) ::
          rT (tQ B64 960 (mkF l2 m2)) ::
          rT (tQ B64 960 (mkF l1 m1)) ::
          rT (tV (.int .i64 (cmpQ (mkF l2 m2) (mkF l1 m1)))) ::
          rT (tV (.int .i64 (cmpQ (mkF l1 m1) (mkF l2 m2)))) ::
          rT (tV (.bool true)) ::
          rT (tV (.bool true)) ::
          rT (tV (.bool true)) ::
          rT (tV (.bool false)) ::
          rT (tV (.bool true)) ::
          rT (tV (.bool true)) ::
          rT (tV undef) ::
          rT (tV undef) ::
          rT (tV undef) ::
          rT (tV undef) ::
          rT (tV undef) ::
          rT (tV undef) ::
          rT (tV (.bool true)) ::
          rT (tV (.bool true)) ::
          rT (tV (.bool true)) ::
          rT (tQ B64 960 (mkF l1 m1)) ::
          rT (tQ B64 960 (mkF l2 m2)) ::
          rT (tQ B64 960 (mkF l3 m3)) ::
          rRow 32 29 B64 960 [mkF l1 m1, mkF l2 m2, mkF l3 m3] ::
          rT (tQ B64 2884 (0 + (mkF l1 m1) + (mkF l2 m2) + (mkF l3 m3))) ::
          rT (tQ B64 960 (mkF l3 m3)) ::
          rT (tQ B64 960 (mkF l2 m2)) ::
          rT (tQ B64 960 (mkF l1 m1)) ::
          rT (tQ B64 1921 ((mkF l2 m2) + (mkF l1 m1))) ::
          rT (tQ B64 2882 ((mkF l3 m3) + ((mkF l2 m2) + (mkF l1 m1)))) ::
          rT (tV (.int .i64 (cmpQ (0 + (mkF l1 m1) + (mkF l2 m2) + (mkF l3 m3)) ((mkF l3 m3) + ((mkF l2 m2) + (mkF l1 m1)))))) ::
          rT (tV (.bool (decide (0 + (mkF l1 m1) + (mkF l2 m2) + (mkF l3 m3) = (mkF l3 m3) + ((mkF l2 m2) + (mkF l1 m1)))))) ::
          rT (tV (.bool (decide (0 + (mkF l1 m1) + (mkF l2 m2) + (mkF l3 m3) = (mkF l3 m3) + ((mkF l2 m2) + (mkF l1 m1)))))) ::
          rT (tV (.bool (decide (0 + (mkF l1 m1) + (mkF l2 m2) + (mkF l3 m3) = (mkF l3 m3) + ((mkF l2 m2) + (mkF l1 m1)))))) ::
          []) hz hd (by kernel_rfl) (by kernel_rfl) ?_ ?_
      · refine ⟨?_, ?_, ?_, ?_, ?_, ?_, ?_, ?_, ?_, ?_, ?_, ?_, ?_, ?_, ?_, ?_, ?_, ?_, ?_, ?_, ?_, ?_, ?_, ?_, ?_, ?_, ?_, ?_, ?_, ?_, ?_, ?_, ?_, ?_, ?_, ?_, ?_, ?_, ?_, ?_, ?_, ?_, ?_, trivial⟩
        · exact zMv hz (sv S19)
        · exact zLd hz (sv S7) Cp4 ld_q64
        · exact zLd hz (sv S9) Cp5 ld_q64
        · exact zC2 hz Try.func38 (sd 1 rfl) (sd 2 rfl) (fun _ _ _ h0 h1 => cq_cmp h0 h1 (by decide) (by decide))
        · exact sBin rfl rfl rfl hz rfl (Gd.none_ rfl) rfl (sd 3 rfl) kc (fun w => run_f (P := mkF l2 m2 ≤ mkF l1 m1) ((fun w => run_cQ_geq (mkF l1 m1) (mkF l2 m2) w) w) hc20)
        · exact sBin rfl rfl rfl hz rfl (Gd.none_ rfl) rfl (sd 0 rfl) (sd 4 rfl) (fun w => by kernel_rfl)
        · exact zMv hz (sd 5 rfl)
        · exact zLd hz (sv S7) Cp4 ld_q64 (g := gT 6 rfl)
        · exact zLd hz (sv S9) Cp5 ld_q64 (g := gT 6 rfl)
        · exact zC2 hz Try.func38 (sd 7 rfl) (sd 8 rfl) (fun _ _ _ h0 h1 => cq_cmp h0 h1 (by decide) (by decide)) (g := gT 6 rfl)
        · exact zLd hz (sv S9) Cp5 ld_q64 (g := gT 6 rfl)
        · exact zLd hz (sv S7) Cp4 ld_q64 (g := gT 6 rfl)
        · exact zC2 hz Try.func38 (sd 10 rfl) (sd 11 rfl) (fun _ _ _ h0 h1 => cq_cmp h0 h1 (by decide) (by decide)) (g := gT 6 rfl)
        · exact sUn rfl rfl rfl hz rfl (gT 6 rfl) rfl (sd 12 rfl) (fun w => run_cQ_neg (mkF l2 m2) (mkF l1 m1) w)
        · exact sBin rfl rfl rfl hz rfl (gT 6 rfl) rfl (sd 9 rfl) (sd 13 rfl) (fun w => by simp [go_sem])
        · exact zPT hz (sd 6 rfl) (sd 14 rfl)
        · exact zMv hz (sd 15 rfl)
        · exact zMv hz (sv S19) (g := gT 16 rfl)
        · exact zNot hz (sd 17 rfl) (g := gT 16 rfl)
        · exact zMv hz (sd 18 rfl) (g := gT 16 rfl)
        · exact zSkU hz (gN 19 rfl)
        · exact zSkU hz (gN 19 rfl)
        · exact zSkU hz (gN 19 rfl)
        · exact zSkU hz (gN 19 rfl)
        · exact zSkU hz (gN 19 rfl)
        · exact zSkU hz (gN 19 rfl)
        · exact zPT hz (sd 19 rfl) kc (g := gT 16 rfl)
        · exact zPT hz (sd 16 rfl) (sd 26 rfl)
        · exact zMv hz (sd 27 rfl)
        · exact zLd hz (sv S7) Cp4 ld_q64 (g := gT 28 rfl)
        · exact zLd hz (sv S9) Cp5 ld_q64 (g := gT 28 rfl)
        · exact zLd hz (sv S11) Cp6 ld_q64 (g := gT 28 rfl)
        · exact sRow3 hz rfl (sd 29 rfl) (sd 30 rfl) (sd 31 rfl) bs3_64 (g := gT 28 rfl)
        · exact sCallRow (j := 32) hz Try.func41 rfl (fun p w h => cq_sum3 h (by decide)) (g := gT 28 rfl)
        · exact zLd hz (sv S11) Cp6 ld_q64 (g := gT 28 rfl)
        · exact zLd hz (sv S9) Cp5 ld_q64 (g := gT 28 rfl)
        · exact zLd hz (sv S7) Cp4 ld_q64 (g := gT 28 rfl)
        · exact zC2 hz Try.func17 (sd 35 rfl) (sd 36 rfl) (fun _ _ _ h0 h1 => cq_add h0 h1 (by decide) (by decide)) (g := gT 28 rfl)
        · exact zC2 hz Try.func17 (sd 34 rfl) (sd 37 rfl) (fun _ _ _ h0 h1 => cq_add h0 h1 (by decide) (by decide)) (g := gT 28 rfl)
        · exact zC2 hz Try.func38 (sd 33 rfl) (sd 38 rfl) (fun _ _ _ h0 h1 => cq_cmp h0 h1 (by decide) (by decide)) (g := gT 28 rfl)
        · exact sBin rfl rfl rfl hz rfl (gT 28 rfl) rfl (sd 39 rfl) kc (fun w => run_cQ_eql (0 + (mkF l1 m1) + (mkF l2 m2) + (mkF l3 m3)) ((mkF l3 m3) + ((mkF l2 m2) + (mkF l1 m1))) w)
        · exact zPT hz (sd 28 rfl) (sd 40 rfl)
        · exact zAs hz (sd 41 rfl)
      intro a' γ' W' hz' hd' hC hk hh
      have tp4 := Cp4.lt
      clear Cp4
      have tp5 := Cp5.lt
      clear Cp5
      have tp6 := Cp6.lt
      clear Cp6
      have tp19 := Cp19.lt
      clear Cp19
      clear S6
      clear S7
      clear S9
      clear S11
      clear S18
      clear S19
      have S6 := gotV hz' 42 hh rfl rfl rfl rfl
      clear tp4 tp5 tp6 tp19
      replace HB := aft_call HB (RelC.below_nil hC)
      clear hC hk hh; replace hz := hz'; replace hd := hd'; clear hz' hd'
      refine wp_ret ?_
      refine ret_to (T := tV (.bool (decide (0 + (mkF l1 m1) + (mkF l2 m2) + (mkF l3 m3) = (mkF l3 m3) + ((mkF l2 m2) + (mkF l1 m1)))))) (ret1 (by kernel_rfl) S6 hd ⟨_, rfl, rfl, HB⟩) ?_
      exact tV_to (by rw [decide_eq_true la_sum])
  · rw [decide_eq_false hc17] at S17
    refine region_text (M := []) (
        rT (tV (.bool false)) ::
        rT (tQ B64 960 (mkF l2 m2)) ::
        rT (tQ B64 1 0) ::
        rT (tV (.int .i64 (cmpQ (mkF l2 m2) 0))) ::
        rT (tV (.bool false)) ::
        rT (tV (.bool false)) ::
        rT (tV (.bool false)) ::
        rT (tV (.bool false)) ::
        rT (tV (.bool false)) ::
        rT (tV undef) ::
        rT (tV undef) ::
        rT (tV undef) ::
        rT (tV undef) ::
        rT (tV (.bool false)) ::
        rT (tV (.bool false)) ::
        []) hz hd (by kernel_rfl) ?_ ?_
    · refine ⟨?_, ?_, ?_, ?_, ?_, ?_, ?_, ?_, ?_, ?_, ?_, ?_, ?_, ?_, ?_, trivial⟩
      · exact zMv hz (sv S17)
      · exact zLd hz (sv S9) Cp5 ld_q64
      · exact zLd hz (sv S15) Cp15 ld_q64
      · exact zC2 hz Try.func38 (sd 1 rfl) (sd 2 rfl) (fun _ _ _ h0 h1 => cq_cmp h0 h1 (by decide) (by decide))
      · exact sBin rfl rfl rfl hz rfl (Gd.none_ rfl) rfl (sd 3 rfl) kc (fun w => run_f (P := mkF l2 m2 ≠ 0) ((fun w => run_cQ_neq (mkF l2 m2) 0 w) w) hc17)
      · exact sBin rfl rfl rfl hz rfl (Gd.none_ rfl) rfl (sd 0 rfl) (sd 4 rfl) (fun w => by kernel_rfl)
      · exact zMv hz (sd 5 rfl)
      · exact zMv hz (sv S17) (g := gT 6 rfl)
      · exact zMv hz (sd 7 rfl) (g := gT 6 rfl)
      · exact zSkU hz (gN 8 rfl)
      · exact zSkU hz (gN 8 rfl)
      · exact zSkU hz (gN 8 rfl)
      · exact zSkU hz (gN 8 rfl)
      · exact zPF hz (sd 8 rfl) kc (g := gT 6 rfl)
      · exact zPF hz (sd 6 rfl) (sd 13 rfl)
    intro a' γ' W' hz' hd' hC hk hh
    have tp4 := Cp4.lt
    replace Cp4 := kC hC Cp4
    have tp5 := Cp5.lt
    replace Cp5 := kC hC Cp5
    have tp6 := Cp6.lt
    replace Cp6 := kC hC Cp6
    have tp15 := Cp15.lt
    clear Cp15
    have tp16 := Cp16.lt
    clear Cp16
    replace S6 := kp hk S6
    replace S7 := kp hk S7
    replace S9 := kp hk S9
    replace S11 := kp hk S11
    clear S15
    clear S16
    clear S17
    have S139 := gotV hz' 14 hh rfl rfl rfl rfl
    clear tp4 tp5 tp6 tp15 tp16
    replace HB := aft_call HB (RelC.below_nil hC)
    clear hC hk hh; replace hz := hz'; replace hd := hd'; clear hz' hd'
    refine wp_cond_false S139.ev ?_
    refine wp_skip ?_
    refine wp_seq ?_
    refine region_text (M := []) (
        rT (tQ B64 960 (mkF l1 m1)) ::
        rT (tQ B64 960 (mkF l2 m2)) ::
        rT (tT [tQ B64 1921 (subQ (mkF l1 m1) (mkF l2 m2)), tV (.bool (decide (mkF l2 m2 ≤ mkF l1 m1)))]) ::
        rT (tT [tQ B64 1921 (subQ (mkF l1 m1) (mkF l2 m2)), tV (.bool (decide (mkF l2 m2 ≤ mkF l1 m1)))]) ::
        rT (tQ B64 1921 (subQ (mkF l1 m1) (mkF l2 m2))) ::
        rT (tV (.bool (decide (mkF l2 m2 ≤ mkF l1 m1)))) ::
        rVar 6 29 2 ::
        rB 6 29 (tQ B64 1921 (subQ (mkF l1 m1) (mkF l2 m2))) (some 6) 7 ::
        rT (tV (.bool (decide (mkF l2 m2 ≤ mkF l1 m1)))) ::
        []) hz hd (by kernel_rfl) ?_ ?_
    · refine ⟨?_, ?_, ?_, ?_, ?_, ?_, ?_, ?_, ?_, trivial⟩
      · exact zLd hz (sv S7) Cp4 ld_q64
      · exact zLd hz (sv S9) Cp5 ld_q64
      · exact zC2 hz Try.func37 (sd 0 rfl) (sd 1 rfl) (fun _ _ _ h0 h1 => cq_sub h0 h1 (by decide) (by decide))
      · exact zMv hz (sd 2 rfl)
      · exact zExt hz (sd 3 rfl)
      · exact zExt hz (sd 3 rfl)
      · exact zAl hz nd_rat al_r64
      · exact zSt (sd 4 rfl) st_q64
      · exact zAs hz (sd 5 rfl)
    intro a' γ' W' hz' hd' hC hk hh
    have ep4 := Cp4.lt
    have ep5 := Cp5.lt
    have ep6 := Cp6.lt
    have tp4 := Cp4.lt
    replace Cp4 := kC hC Cp4
    have tp5 := Cp5.lt
    replace Cp5 := kC hC Cp5
    have tp6 := Cp6.lt
    replace Cp6 := kC hC Cp6
    replace S6 := kp hk S6
    replace S7 := kp hk S7
    replace S9 := kp hk S9
    replace S11 := kp hk S11
    clear S139
    obtain ⟨p22, S18, Cp22, lp22, gp22⟩ := gotB hz' 7 hC hh rfl rfl rfl rfl rfl rfl
    have S19 := gotV hz' 8 hh rfl rfl rfl rfl
    have n_p22_p4 : p22 ≠ p4 := by omega
    have n_p22_p5 : p22 ≠ p5 := by omega
    have n_p22_p6 : p22 ≠ p6 := by omega
    have n_p4_p22 : p4 ≠ p22 := by have := ep4; omega
    have n_p5_p22 : p5 ≠ p22 := by have := ep5; omega
    have n_p6_p22 : p6 ≠ p22 := by have := ep6; omega
    have bp22 : w.heap.size ≤ p22 := Nat.le_trans HB.size lp22
    clear lp22 gp22
    clear tp4 tp5 tp6
    clear ep4 ep5 ep6
    replace HB := aft_call HB (RelC.below_nil hC)
    clear hC hk hh; replace hz := hz'; replace hd := hd'; clear hz' hd'
    refine wp_seq ?_
    by_cases hc23 : mkF l2 m2 ≤ mkF l1 m1
    · rw [decide_eq_true hc23] at S19
      have hc24 : (subQ (mkF l1 m1) (mkF l2 m2)) + (mkF l2 m2) = mkF l1 m1 := (la_back hc23)
      refine region_drawn (M := []) (
          rT (tV (.bool true)) ::
          rT (tQ B64 960 (mkF l1 m1)) ::
          rT (tQ B64 960 (mkF l2 m2)) ::
          rT (tV (.int .i64 (cmpQ (mkF l1 m1) (mkF l2 m2)))) ::
          rT (tV (.bool true)) ::
          rT (tV (.bool true)) ::
          rT (tV (.bool true)) ::
          rT (tQ B64 960 (mkF l1 m1)) ::
          rT (tQ B64 960 (mkF l2 m2)) ::
          rT (tV (.int .i64 (cmpQ (mkF l1 m1) (mkF l2 m2)))) ::
          rT (tQ B64 960 (mkF l2 m2)) ::
          rT (tQ B64 960 (mkF l1 m1)) ::
          rT (tV (.int .i64 (cmpQ (mkF l2 m2) (mkF l1 m1)))) ::
          rT (tV (.int .i64 (cmpQ (mkF l1 m1) (mkF l2 m2)))) ::
          rT (tV (.bool true)) ::
          rT (tV (.bool true)) ::
          rT (tV (.bool true)) ::
          rT (tV (.bool true)) ::
          rT (tV (.bool false)) ::
          rT (tV (.bool false)) ::
          rT (tQ B64 1921 (subQ (mkF l1 m1) (mkF l2 m2))) ::
          rT (tQ B64 960 (mkF l2 m2)) ::
          rT (tQ B64 2882 ((subQ (mkF l1 m1) (mkF l2 m2)) + (mkF l2 m2))) ::
          rT (tQ B64 960 (mkF l1 m1)) ::
          rT (tV (.int .i64 (cmpQ ((subQ (mkF l1 m1) (mkF l2 m2)) + (mkF l2 m2)) (mkF l1 m1)))) ::
          rT (tV (.bool true)) ::
          rT (tV (.bool true)) ::
          rT (tV (.bool true)) ::
          rT (tV (.bool true)) ::
          rT (tQ B64 960 (mkF l1 m1)) ::
          rT (tQ B64 960 (mkF l2 m2)) ::
          rT (tQ B64 960 (mkF l3 m3)) ::
          rRow 32 29 B64 960 [mkF l1 m1, mkF l2 m2, mkF l3 m3] ::
          rT (tQ B64 2884 (0 + (mkF l1 m1) + (mkF l2 m2) + (mkF l3 m3))) ::
          rT (tQ B64 960 (mkF l3 m3)) ::
          rT (tQ B64 960 (mkF l2 m2)) ::
          rT (tQ B64 960 (mkF l1 m1)) ::
          rT (tQ B64 1921 ((mkF l2 m2) + (mkF l1 m1))) ::
          rT (tQ B64 2882 ((mkF l3 m3) + ((mkF l2 m2) + (mkF l1 m1)))) ::
          rT (tV (.int .i64 (cmpQ (0 + (mkF l1 m1) + (mkF l2 m2) + (mkF l3 m3)) ((mkF l3 m3) + ((mkF l2 m2) + (mkF l1 m1)))))) ::
          rT (tV (.bool (decide (0 + (mkF l1 m1) + (mkF l2 m2) + (mkF l3 m3) = (mkF l3 m3) + ((mkF l2 m2) + (mkF l1 m1)))))) ::
          rT (tV (.bool (decide (0 + (mkF l1 m1) + (mkF l2 m2) + (mkF l3 m3) = (mkF l3 m3) + ((mkF l2 m2) + (mkF l1 m1)))))) ::
          rT (tV (.bool (decide (0 + (mkF l1 m1) + (mkF l2 m2) + (mkF l3 m3) = (mkF l3 m3) + ((mkF l2 m2) + (mkF l1 m1)))))) ::
          []) hz hd (by kernel_rfl) (by kernel_rfl) ?_ ?_
      · refine ⟨?_, ?_, ?_, ?_, ?_, ?_, ?_, ?_, ?_, ?_, ?_, ?_, ?_, ?_, ?_, ?_, ?_, ?_, ?_, ?_, ?_, ?_, ?_, ?_, ?_, ?_, ?_, ?_, ?_, ?_, ?_, ?_, ?_, ?_, ?_, ?_, ?_, ?_, ?_, ?_, ?_, ?_, ?_, trivial⟩
        · exact zMv hz (sv S19)
        · exact zLd hz (sv S7) Cp4 ld_q64
        · exact zLd hz (sv S9) Cp5 ld_q64
        · exact zC2 hz Try.func38 (sd 1 rfl) (sd 2 rfl) (fun _ _ _ h0 h1 => cq_cmp h0 h1 (by decide) (by decide))
        · exact sBin rfl rfl rfl hz rfl (Gd.none_ rfl) rfl (sd 3 rfl) kc (fun w => run_t (P := mkF l2 m2 ≤ mkF l1 m1) ((fun w => run_cQ_geq (mkF l1 m1) (mkF l2 m2) w) w) hc23)
        · exact sBin rfl rfl rfl hz rfl (Gd.none_ rfl) rfl (sd 0 rfl) (sd 4 rfl) (fun w => by kernel_rfl)
        · exact zMv hz (sd 5 rfl)
        · exact zLd hz (sv S7) Cp4 ld_q64 (g := gT 6 rfl)
        · exact zLd hz (sv S9) Cp5 ld_q64 (g := gT 6 rfl)
        · exact zC2 hz Try.func38 (sd 7 rfl) (sd 8 rfl) (fun _ _ _ h0 h1 => cq_cmp h0 h1 (by decide) (by decide)) (g := gT 6 rfl)
        · exact zLd hz (sv S9) Cp5 ld_q64 (g := gT 6 rfl)
        · exact zLd hz (sv S7) Cp4 ld_q64 (g := gT 6 rfl)
        · exact zC2 hz Try.func38 (sd 10 rfl) (sd 11 rfl) (fun _ _ _ h0 h1 => cq_cmp h0 h1 (by decide) (by decide)) (g := gT 6 rfl)
        · exact sUn rfl rfl rfl hz rfl (gT 6 rfl) rfl (sd 12 rfl) (fun w => run_cQ_neg (mkF l2 m2) (mkF l1 m1) w)
        · exact sBin rfl rfl rfl hz rfl (gT 6 rfl) rfl (sd 9 rfl) (sd 13 rfl) (fun w => by simp [go_sem])
        · exact zPT hz (sd 6 rfl) (sd 14 rfl)
        · exact zMv hz (sd 15 rfl)
        · exact zMv hz (sv S19) (g := gT 16 rfl)
        · exact zNot hz (sd 17 rfl) (g := gT 16 rfl)
        · exact zMv hz (sd 18 rfl) (g := gT 16 rfl)
        · exact zLd hz (sv S18) Cp22 ld_q64 (g := gT 19 rfl)
        · exact zLd hz (sv S9) Cp5 ld_q64 (g := gT 19 rfl)
        · exact zC2 hz Try.func17 (sd 20 rfl) (sd 21 rfl) (fun _ _ _ h0 h1 => cq_add h0 h1 (by decide) (by decide)) (g := gT 19 rfl)
        · exact zLd hz (sv S7) Cp4 ld_q64 (g := gT 19 rfl)
        · exact zC2 hz Try.func38 (sd 22 rfl) (sd 23 rfl) (fun _ _ _ h0 h1 => cq_cmp h0 h1 (by decide) (by decide)) (g := gT 19 rfl)
        · exact sBin rfl rfl rfl hz rfl (gT 19 rfl) rfl (sd 24 rfl) kc (fun w => run_t (P := (subQ (mkF l1 m1) (mkF l2 m2)) + (mkF l2 m2) = mkF l1 m1) ((fun w => run_cQ_eql ((subQ (mkF l1 m1) (mkF l2 m2)) + (mkF l2 m2)) (mkF l1 m1) w) w) hc24)
        · exact zPF hz (sd 19 rfl) (sd 25 rfl) (g := gT 16 rfl)
        · exact zPT hz (sd 16 rfl) (sd 26 rfl)
        · exact zMv hz (sd 27 rfl)
        · exact zLd hz (sv S7) Cp4 ld_q64 (g := gT 28 rfl)
        · exact zLd hz (sv S9) Cp5 ld_q64 (g := gT 28 rfl)
        · exact zLd hz (sv S11) Cp6 ld_q64 (g := gT 28 rfl)
        · exact sRow3 hz rfl (sd 29 rfl) (sd 30 rfl) (sd 31 rfl) bs3_64 (g := gT 28 rfl)
        · exact sCallRow (j := 32) hz Try.func41 rfl (fun p w h => cq_sum3 h (by decide)) (g := gT 28 rfl)
        · exact zLd hz (sv S11) Cp6 ld_q64 (g := gT 28 rfl)
        · exact zLd hz (sv S9) Cp5 ld_q64 (g := gT 28 rfl)
        · exact zLd hz (sv S7) Cp4 ld_q64 (g := gT 28 rfl)
        · exact zC2 hz Try.func17 (sd 35 rfl) (sd 36 rfl) (fun _ _ _ h0 h1 => cq_add h0 h1 (by decide) (by decide)) (g := gT 28 rfl)
        · exact zC2 hz Try.func17 (sd 34 rfl) (sd 37 rfl) (fun _ _ _ h0 h1 => cq_add h0 h1 (by decide) (by decide)) (g := gT 28 rfl)
        · exact zC2 hz Try.func38 (sd 33 rfl) (sd 38 rfl) (fun _ _ _ h0 h1 => cq_cmp h0 h1 (by decide) (by decide)) (g := gT 28 rfl)
        · exact sBin rfl rfl rfl hz rfl (gT 28 rfl) rfl (sd 39 rfl) kc (fun w => run_cQ_eql (0 + (mkF l1 m1) + (mkF l2 m2) + (mkF l3 m3)) ((mkF l3 m3) + ((mkF l2 m2) + (mkF l1 m1))) w)
        · exact zPT hz (sd 28 rfl) (sd 40 rfl)
        · exact zAs hz (sd 41 rfl)
      intro a' γ' W' hz' hd' hC hk hh
      have tp4 := Cp4.lt
      clear Cp4
      have tp5 := Cp5.lt
      clear Cp5
      have tp6 := Cp6.lt
      clear Cp6
      have tp22 := Cp22.lt
      clear Cp22
      clear S6
      clear S7
      clear S9
      clear S11
      clear S18
      clear S19
      have S6 := gotV hz' 42 hh rfl rfl rfl rfl
      clear tp4 tp5 tp6 tp22
      replace HB := aft_call HB (RelC.below_nil hC)
      clear hC hk hh; replace hz := hz'; replace hd := hd'; clear hz' hd'
      refine wp_ret ?_
      refine ret_to (T := tV (.bool (decide (0 + (mkF l1 m1) + (mkF l2 m2) + (mkF l3 m3) = (mkF l3 m3) + ((mkF l2 m2) + (mkF l1 m1)))))) (ret1 (by kernel_rfl) S6 hd ⟨_, rfl, rfl, HB⟩) ?_
      exact tV_to (by rw [decide_eq_true la_sum])
    · rw [decide_eq_false hc23] at S19
      refine region_drawn (M := []) (
          rT (tV (.bool false)) ::
          rT (tQ B64 960 (mkF l1 m1)) ::
          rT (tQ B64 960 (mkF l2 m2)) ::
          rT (tV (.int .i64 (cmpQ (mkF l1 m1) (mkF l2 m2)))) ::
          rT (tV (.bool false)) ::
          rT (tV (.bool true)) ::
          rT (tV (.bool true)) ::
          rT (tQ B64 960 (mkF l1 m1)) ::
          rT (tQ B64 960 (mkF l2 m2)) ::
          rT (tV (.int .i64 (cmpQ (mkF l1 m1) (mkF l2 m2)))) ::
          rT (tQ B64 960 (mkF l2 m2)) ::
          rT (tQ B64 960 (mkF l1 m1)) ::
          rT (tV (.int .i64 (cmpQ (mkF l2 m2) (mkF l1 m1)))) ::
          rT (tV (.int .i64 (cmpQ (mkF l1 m1) (mkF l2 m2)))) ::
          rT (tV (.bool true)) ::
          rT (tV (.bool true)) ::
          rT (tV (.bool true)) ::
          rT (tV (.bool false)) ::
          rT (tV (.bool true)) ::
          rT (tV (.bool true)) ::
          rT (tV undef) ::
          rT (tV undef) ::
          rT (tV undef) ::
          rT (tV undef) ::
          rT (tV undef) ::
          rT (tV undef) ::
          rT (tV (.bool true)) ::
          rT (tV (.bool true)) ::
          rT (tV (.bool true)) ::
          rT (tQ B64 960 (mkF l1 m1)) ::
          rT (tQ B64 960 (mkF l2 m2)) ::
          rT (tQ B64 960 (mkF l3 m3)) ::
          rRow 32 29 B64 960 [mkF l1 m1, mkF l2 m2, mkF l3 m3] ::
          rT (tQ B64 2884 (0 + (mkF l1 m1) + (mkF l2 m2) + (mkF l3 m3))) ::
          rT (tQ B64 960 (mkF l3 m3)) ::
          rT (tQ B64 960 (mkF l2 m2)) ::
          rT (tQ B64 960 (mkF l1 m1)) ::
          rT (tQ B64 1921 ((mkF l2 m2) + (mkF l1 m1))) ::
          rT (tQ B64 2882 ((mkF l3 m3) + ((mkF l2 m2) + (mkF l1 m1)))) ::
          rT (tV (.int .i64 (cmpQ (0 + (mkF l1 m1) + (mkF l2 m2) + (mkF l3 m3)) ((mkF l3 m3) + ((mkF l2 m2) + (mkF l1 m1)))))) ::
          rT (tV (.bool (decide (0 + (mkF l1 m1) + (mkF l2 m2) + (mkF l3 m3) = (mkF l3 m3) + ((mkF l2 m2) + (mkF l1 m1)))))) ::
          rT (tV (.bool (decide (0 + (mkF l1 m1) + (mkF l2 m2) + (mkF l3 m3) = (mkF l3 m3) + ((mkF l2 m2) + (mkF l1 m1)))))) ::
          rT (tV (.bool (decide (0 + (mkF l1 m1) + (mkF l2 m2) + (mkF l3 m3) = (mkF l3 m3) + ((mkF l2 m2) + (mkF l1 m1)))))) ::
          []) hz hd (by kernel_rfl) (by kernel_rfl) ?_ ?_
      · refine ⟨?_, ?_, ?_, ?_, ?_, ?_, ?_, ?_, ?_, ?_, ?_, ?_, ?_, ?_, ?_, ?_, ?_, ?_, ?_, ?_, ?_, ?_, ?_, ?_, ?_, ?_, ?_, ?_, ?_, ?_, ?_, ?_, ?_, ?_, ?_, ?_, ?_, ?_, ?_, ?_, ?_, ?_, ?_, trivial⟩
        · exact zMv hz (sv S19)
        · exact zLd hz (sv S7) Cp4 ld_q64
        · exact zLd hz (sv S9) Cp5 ld_q64
        · exact zC2 hz Try.func38 (sd 1 rfl) (sd 2 rfl) (fun _ _ _ h0 h1 => cq_cmp h0 h1 (by decide) (by decide))
        · exact sBin rfl rfl rfl hz rfl (Gd.none_ rfl) rfl (sd 3 rfl) kc (fun w => run_f (P := mkF l2 m2 ≤ mkF l1 m1) ((fun w => run_cQ_geq (mkF l1 m1) (mkF l2 m2) w) w) hc23)
        · exact sBin rfl rfl rfl hz rfl (Gd.none_ rfl) rfl (sd 0 rfl) (sd 4 rfl) (fun w => by kernel_rfl)
        · exact zMv hz (sd 5 rfl)
        · exact zLd hz (sv S7) Cp4 ld_q64 (g := gT 6 rfl)
        · exact zLd hz (sv S9) Cp5 ld_q64 (g := gT 6 rfl)
        · exact zC2 hz Try.func38 (sd 7 rfl) (sd 8 rfl) (fun _ _ _ h0 h1 => cq_cmp h0 h1 (by decide) (by decide)) (g := gT 6 rfl)
        · exact zLd hz (sv S9) Cp5 ld_q64 (g := gT 6 rfl)
        · exact zLd hz (sv S7) Cp4 ld_q64 (g := gT 6 rfl)
        · exact zC2 hz Try.func38 (sd 10 rfl) (sd 11 rfl) (fun _ _ _ h0 h1 => cq_cmp h0 h1 (by decide) (by decide)) (g := gT 6 rfl)
        · exact sUn rfl rfl rfl hz rfl (gT 6 rfl) rfl (sd 12 rfl) (fun w => run_cQ_neg (mkF l2 m2) (mkF l1 m1) w)
        · exact sBin rfl rfl rfl hz rfl (gT 6 rfl) rfl (sd 9 rfl) (sd 13 rfl) (fun w => by simp [go_sem])
        · exact zPT hz (sd 6 rfl) (sd 14 rfl)
        · exact zMv hz (sd 15 rfl)
        · exact zMv hz (sv S19) (g := gT 16 rfl)
        · exact zNot hz (sd 17 rfl) (g := gT 16 rfl)
        · exact zMv hz (sd 18 rfl) (g := gT 16 rfl)
        · exact zSkU hz (gN 19 rfl)
        · exact zSkU hz (gN 19 rfl)
        · exact zSkU hz (gN 19 rfl)
        · exact zSkU hz (gN 19 rfl)
        · exact zSkU hz (gN 19 rfl)
        · exact zSkU hz (gN 19 rfl)
        · exact zPT hz (sd 19 rfl) kc (g := gT 16 rfl)
        · exact zPT hz (sd 16 rfl) (sd 26 rfl)
        · exact zMv hz (sd 27 rfl)
        · exact zLd hz (sv S7) Cp4 ld_q64 (g := gT 28 rfl)
        · exact zLd hz (sv S9) Cp5 ld_q64 (g := gT 28 rfl)
        · exact zLd hz (sv S11) Cp6 ld_q64 (g := gT 28 rfl)
        · exact sRow3 hz rfl (sd 29 rfl) (sd 30 rfl) (sd 31 rfl) bs3_64 (g := gT 28 rfl)
        · exact sCallRow (j := 32) hz Try.func41 rfl (fun p w h => cq_sum3 h (by decide)) (g := gT 28 rfl)
        · exact zLd hz (sv S11) Cp6 ld_q64 (g := gT 28 rfl)
        · exact zLd hz (sv S9) Cp5 ld_q64 (g := gT 28 rfl)
        · exact zLd hz (sv S7) Cp4 ld_q64 (g := gT 28 rfl)
        · exact zC2 hz Try.func17 (sd 35 rfl) (sd 36 rfl) (fun _ _ _ h0 h1 => cq_add h0 h1 (by decide) (by decide)) (g := gT 28 rfl)
        · exact zC2 hz Try.func17 (sd 34 rfl) (sd 37 rfl) (fun _ _ _ h0 h1 => cq_add h0 h1 (by decide) (by decide)) (g := gT 28 rfl)
        · exact zC2 hz Try.func38 (sd 33 rfl) (sd 38 rfl) (fun _ _ _ h0 h1 => cq_cmp h0 h1 (by decide) (by decide)) (g := gT 28 rfl)
        · exact sBin rfl rfl rfl hz rfl (gT 28 rfl) rfl (sd 39 rfl) kc (fun w => run_cQ_eql (0 + (mkF l1 m1) + (mkF l2 m2) + (mkF l3 m3)) ((mkF l3 m3) + ((mkF l2 m2) + (mkF l1 m1))) w)
        · exact zPT hz (sd 28 rfl) (sd 40 rfl)
        · exact zAs hz (sd 41 rfl)
      intro a' γ' W' hz' hd' hC hk hh
      have tp4 := Cp4.lt
      clear Cp4
      have tp5 := Cp5.lt
      clear Cp5
      have tp6 := Cp6.lt
      clear Cp6
      have tp22 := Cp22.lt
      clear Cp22
      clear S6
      clear S7
      clear S9
      clear S11
      clear S18
      clear S19
      have S6 := gotV hz' 42 hh rfl rfl rfl rfl
      clear tp4 tp5 tp6 tp22
      replace HB := aft_call HB (RelC.below_nil hC)
      clear hC hk hh; replace hz := hz'; replace hd := hd'; clear hz' hd'
      refine wp_ret ?_
      refine ret_to (T := tV (.bool (decide (0 + (mkF l1 m1) + (mkF l2 m2) + (mkF l3 m3) = (mkF l3 m3) + ((mkF l2 m2) + (mkF l1 m1)))))) (ret1 (by kernel_rfl) S6 hd ⟨_, rfl, rfl, HB⟩) ?_
      exact tV_to (by rw [decide_eq_true la_sum])
end Go.Proofs.Ythanbjbcpljcoaa.Rg

namespace Go.Proofs.Ythanbjbcpljcoaa.Rg

open Go.RowKit

theorem ratLaws_walk (v0 : Value) (l1 m1 : List Nat) (v1 : Value) (l2 m2 : List Nat) (v2 : Value) (l3 m3 : List Nat) (w : World) (h0 : (tF l1 m1).p v0 w) (h1 : (tF l2 m2).p v1 w) (h2 : (tF l3 m3).p v2 w) : Calls Try.prog 6 #[v0, v1, v2] w fun e w' => e = .returned (.bool true) ∧ Below w.heap.size w w' := ret_out (ratLaws_ret h0 h1 h2)
end Go.Proofs.Ythanbjbcpljcoaa.Rg
