/-
  Walks and plain laws, put together: TK T3.
-/
import Derived.Test.YthanbjbcpljcoaaPh
import Derived.Test.YthanbjbcpljcoaaBC
set_option linter.unusedVariables false
set_option linter.unusedSimpArgs false
namespace Go.Proofs.Ythanbjbcpljcoaa.Rg

open Go.RowKit

theorem mkF_nonneg (l k : List Nat) : 0 ≤ mkF l k := by
  refine q_nonneg (p := (mkF l k).num.toNat) ?_
  unfold mkF; rw [low_num _ _ (und_ne _)]; rfl
theorem mkF_fl {l k : List Nat} {v : Value} {w : World} {m : Nat} (hm : 960 ≤ m) (h : (tF l k).p v w) : (mkF l k).floor.toNat < 2 ^ m := by
  refine Nat.lt_of_le_of_lt (Nat.le_trans (floor_num (mkF_nonneg l k)) ?_) (tF_bits hm h).1
  unfold mkF; rw [low_num _ _ (und_ne _)]; exact Nat.div_le_self _ _
section

variable {a b x y : Rat}
theorem bsim_gt (ha : 0 ≤ a) (hb : 0 ≤ b) (h : b < a) : Sim b a (btw a b) := by unfold btw; rw [if_pos h]; exact btw0_sim hb (Rat.le_of_lt h)
theorem bsim_le (ha : 0 ≤ a) (hb : 0 ≤ b) (h : ¬ b < a) : Sim a b (btw a b) := by unfold btw; rw [if_neg h]; exact btw0_sim ha (Rat.not_lt.1 h)
theorem bs_den {z : Rat} (h : Sim a b z) (h1 : ¬ y < a) (h2 : ¬ b < y) (h3 : ¬ z.den < y.den) : z.den = y.den := by
  have := (h.least y (Rat.not_lt.1 h1) (Rat.not_lt.1 h2)).1; omega
theorem bs_le {z : Rat} (h : Sim a b z) (h1 : ¬ y < a) (h2 : ¬ b < y) (h3 : z.den = y.den) : z ≤ y := by
  have := (h.least y (Rat.not_lt.1 h1) (Rat.not_lt.1 h2)).2
  rw [Rat.le_iff, h3]
  exact Int.mul_le_mul_of_nonneg_right this (by omega)
end

set_option maxRecDepth 10000 in
set_option maxHeartbeats 2000000 in
theorem ratBetween_ret {l1 m1 l2 m2 : List Nat} {n d : Int} {n1 d1 : Nat} {v0 v1 : Value} {w : World} (h0 : (tF l1 m1).p v0 w) (h1 : (tF l2 m2).p v1 w) (hn : bits .and .i64 n 4095 = (n1 : Int)) (hd0 : bits .and .i64 d 4095 = (d1 : Int)) (hn1 : n1 < 4096) (hd1 : d1 < 4096) (hw1 : IntKind.i64.wrap ((d1 : Int) + 1) = (d1 : Int) + 1) :
    Calls Try.prog 7 #[v0, v1, .int .i64 n, .int .i64 d] w (Ret (tV (.bool true)) w) := by
  refine enter Try.func7 rfl Try.ntmps7 (by simp) ?_
  intro a hz hd ha
  have S0 := ha 0 _ rfl
  have H0 := h0
  have S1 := ha 1 _ rfl
  have H1 := h1
  have S2 := ha 2 _ rfl
  have S3 := ha 3 _ rfl
  clear ha
  have HB : Below w.heap.size w w := Below.refl _ _
  have hfa := Lib.hid (mkF_fl (m := 960) (Nat.le_refl _) h0)
  have hfb := Lib.hid (mkF_fl (m := 960) (Nat.le_refl _) h1)
  refine wp_seq ?_
  refine region_text (M := []) (
      rB 0 24 (tF l1 m1) none 0 ::
      rB 1 24 (tF l2 m2) none 0 ::
      rT (tV (.bool false)) ::
      []) hz hd (by kernel_rfl) ?_ ?_
  · refine ⟨?_, ?_, ?_, trivial⟩
    · exact zBox hz (so S0 H0) box_f
    · exact zBox hz (so S1 H1) box_f
    · exact zAs hz kc
  intro a' γ' W' hz' hd' hC hk hh
  clear S0 H0
  clear S1 H1
  replace S2 := kp hk S2
  replace S3 := kp hk S3
  obtain ⟨p1, S4, Cp1, lp1, gp1⟩ := gotB hz' 0 hC hh rfl rfl rfl rfl rfl rfl
  obtain ⟨p2, S5, Cp2, lp2, gp2⟩ := gotB hz' 1 hC hh rfl rfl rfl rfl rfl rfl
  have S8 := gotV hz' 2 hh rfl rfl rfl rfl
  clear lp1 gp1 lp2 gp2
  replace HB := aft_call HB (RelC.below_nil hC)
  clear hC hk hh; replace hz := hz'; replace hd := hd'; clear hz' hd'
  refine wp_seq ?_
  refine region_text (M := []) (
      rT (tF l1 m1) ::
      rT (tT [tQ B64 960 (mkF l1 m1), tQ B32 960 (mkF l1 m1)]) ::
      rT (tT [tQ B64 960 (mkF l1 m1), tQ B32 960 (mkF l1 m1)]) ::
      rT (tQ B64 960 (mkF l1 m1)) ::
      rT (tQ B32 960 (mkF l1 m1)) ::
      rVar 5 29 2 ::
      rVar 6 33 2 ::
      rB 5 29 (tQ B64 960 (mkF l1 m1)) (some 5) 6 ::
      rB 6 33 (tQ B32 960 (mkF l1 m1)) (some 6) 7 ::
      []) hz hd (by kernel_rfl) ?_ ?_
  · refine ⟨?_, ?_, ?_, ?_, ?_, ?_, ?_, ?_, ?_, trivial⟩
    · exact zLd hz (sv S4) Cp1 ld_f
    · exact zC1 hz Try.func9 (sd 0 rfl) (fun _ _ h0 => l_made h0)
    · exact zMv hz (sd 1 rfl)
    · exact zExt hz (sd 2 rfl)
    · exact zExt hz (sd 2 rfl)
    · exact zAl hz nd_rat al_r64
    · exact zAl hz nd_rat al_r32
    · exact zSt (sd 3 rfl) st_q64
    · exact zSt (sd 4 rfl) st_q32
  intro a' γ' W' hz' hd' hC hk hh
  have ep1 := Cp1.lt
  have ep2 := Cp2.lt
  clear Cp1
  replace Cp2 := kC hC Cp2
  replace S2 := kp hk S2
  replace S3 := kp hk S3
  clear S4
  replace S5 := kp hk S5
  replace S8 := kp hk S8
  obtain ⟨p3, S9, Cp3, lp3, gp3⟩ := gotB hz' 7 hC hh rfl rfl rfl rfl rfl rfl
  have n_p2_p3 : p2 ≠ p3 := by have := ep2; omega
  have bp3 : w.heap.size ≤ p3 := Nat.le_trans HB.size lp3
  clear lp3 gp3
  clear ep1 ep2
  replace HB := aft_call HB (RelC.below_nil hC)
  clear hC hk hh; replace hz := hz'; replace hd := hd'; clear hz' hd'
  refine wp_seq ?_
  refine region_text (M := []) (
      rT (tF l2 m2) ::
      rT (tT [tQ B64 960 (mkF l2 m2), tQ B32 960 (mkF l2 m2)]) ::
      rT (tT [tQ B64 960 (mkF l2 m2), tQ B32 960 (mkF l2 m2)]) ::
      rT (tQ B64 960 (mkF l2 m2)) ::
      rT (tQ B32 960 (mkF l2 m2)) ::
      rVar 5 29 2 ::
      rVar 6 33 2 ::
      rB 5 29 (tQ B64 960 (mkF l2 m2)) (some 5) 6 ::
      rB 6 33 (tQ B32 960 (mkF l2 m2)) (some 6) 7 ::
      []) hz hd (by kernel_rfl) ?_ ?_
  · refine ⟨?_, ?_, ?_, ?_, ?_, ?_, ?_, ?_, ?_, trivial⟩
    · exact zLd hz (sv S5) Cp2 ld_f
    · exact zC1 hz Try.func9 (sd 0 rfl) (fun _ _ h0 => l_made h0)
    · exact zMv hz (sd 1 rfl)
    · exact zExt hz (sd 2 rfl)
    · exact zExt hz (sd 2 rfl)
    · exact zAl hz nd_rat al_r64
    · exact zAl hz nd_rat al_r32
    · exact zSt (sd 3 rfl) st_q64
    · exact zSt (sd 4 rfl) st_q32
  intro a' γ' W' hz' hd' hC hk hh
  have ep2 := Cp2.lt
  have ep3 := Cp3.lt
  clear Cp2
  have tp3 := Cp3.lt
  replace Cp3 := kC hC Cp3
  replace S2 := kp hk S2
  replace S3 := kp hk S3
  clear S5
  replace S8 := kp hk S8
  replace S9 := kp hk S9
  obtain ⟨p4, S11, Cp4, lp4, gp4⟩ := gotB hz' 7 hC hh rfl rfl rfl rfl rfl rfl
  have n_p4_p3 : p4 ≠ p3 := by omega
  have n_p3_p4 : p3 ≠ p4 := by have := ep3; omega
  have bp4 : w.heap.size ≤ p4 := Nat.le_trans HB.size lp4
  clear lp4 gp4
  clear tp3
  clear ep2 ep3
  replace HB := aft_call HB (RelC.below_nil hC)
  clear hC hk hh; replace hz := hz'; replace hd := hd'; clear hz' hd'
  refine wp_seq ?_
  refine region_text (M := []) (
      rT (tQ B64 960 (mkF l1 m1)) ::
      rT (tQ B64 960 (mkF l2 m2)) ::
      rT (tQ B64 960 (btw (mkF l1 m1) (mkF l2 m2))) ::
      rVar 3 29 2 ::
      rB 3 29 (tQ B64 960 (btw (mkF l1 m1) (mkF l2 m2))) (some 3) 4 ::
      []) hz hd (by kernel_rfl) ?_ ?_
  · refine ⟨?_, ?_, ?_, ?_, ?_, trivial⟩
    · exact zLd hz (sv S9) Cp3 ld_q64
    · exact zLd hz (sv S11) Cp4 ld_q64
    · exact zC2 hz Try.func42 (sd 0 rfl) (sd 1 rfl) (fun _ _ _ h0 h1 => cq_btw h0 h1 (by decide))
    · exact zAl hz nd_rat al_r64
    · exact zSt (sd 2 rfl) st_q64
  intro a' γ' W' hz' hd' hC hk hh
  have ep3 := Cp3.lt
  have ep4 := Cp4.lt
  have tp3 := Cp3.lt
  replace Cp3 := kC hC Cp3
  have tp4 := Cp4.lt
  replace Cp4 := kC hC Cp4
  replace S2 := kp hk S2
  replace S3 := kp hk S3
  replace S8 := kp hk S8
  replace S9 := kp hk S9
  replace S11 := kp hk S11
  obtain ⟨p5, S13, Cp5, lp5, gp5⟩ := gotB hz' 4 hC hh rfl rfl rfl rfl rfl rfl
  have n_p5_p3 : p5 ≠ p3 := by omega
  have n_p5_p4 : p5 ≠ p4 := by omega
  have n_p3_p5 : p3 ≠ p5 := by have := ep3; omega
  have n_p4_p5 : p4 ≠ p5 := by have := ep4; omega
  have bp5 : w.heap.size ≤ p5 := Nat.le_trans HB.size lp5
  clear lp5 gp5
  clear tp3 tp4
  clear ep3 ep4
  replace HB := aft_call HB (RelC.below_nil hC)
  clear hC hk hh; replace hz := hz'; replace hd := hd'; clear hz' hd'
  refine wp_seq ?_
  refine region_drawn (M := []) (
      rT (tQ B64 960 (mkF l1 m1)) ::
      rT (tQ B64 960 (mkF l2 m2)) ::
      rVar 2 29 2 ::
      rVar 3 29 2 ::
      rB 2 29 (tQ B64 960 (mkF l1 m1)) (some 2) 3 ::
      rB 3 29 (tQ B64 960 (mkF l2 m2)) (some 3) 4 ::
      []) hz hd (by kernel_rfl) (by kernel_rfl) ?_ ?_
  · refine ⟨?_, ?_, ?_, ?_, ?_, ?_, trivial⟩
    · exact zLd hz (sv S9) Cp3 ld_q64
    · exact zLd hz (sv S11) Cp4 ld_q64
    · exact zAl hz nd_rat al_r64
    · exact zAl hz nd_rat al_r64
    · exact zSt (sd 0 rfl) st_q64
    · exact zSt (sd 1 rfl) st_q64
  intro a' γ' W' hz' hd' hC hk hh
  have ep3 := Cp3.lt
  have ep4 := Cp4.lt
  have ep5 := Cp5.lt
  have tp3 := Cp3.lt
  replace Cp3 := kC hC Cp3
  have tp4 := Cp4.lt
  replace Cp4 := kC hC Cp4
  have tp5 := Cp5.lt
  replace Cp5 := kC hC Cp5
  replace S2 := kp hk S2
  replace S3 := kp hk S3
  replace S8 := kp hk S8
  replace S9 := kp hk S9
  replace S11 := kp hk S11
  replace S13 := kp hk S13
  obtain ⟨p6, S14, Cp6, lp6, gp6⟩ := gotB hz' 4 hC hh rfl rfl rfl rfl rfl rfl
  obtain ⟨p7, S15, Cp7, lp7, gp7⟩ := gotB hz' 5 hC hh rfl rfl rfl rfl rfl rfl
  have n_p6_p3 : p6 ≠ p3 := by omega
  have n_p6_p4 : p6 ≠ p4 := by omega
  have n_p6_p5 : p6 ≠ p5 := by omega
  have n_p6_p7 : p6 ≠ p7 := by intro e; rw [e, gp7] at gp6; omega
  have n_p7_p3 : p7 ≠ p3 := by omega
  have n_p7_p4 : p7 ≠ p4 := by omega
  have n_p7_p5 : p7 ≠ p5 := by omega
  have n_p7_p6 : p7 ≠ p6 := by intro e; rw [e, gp6] at gp7; omega
  have n_p3_p6 : p3 ≠ p6 := by have := ep3; omega
  have n_p4_p6 : p4 ≠ p6 := by have := ep4; omega
  have n_p5_p6 : p5 ≠ p6 := by have := ep5; omega
  have n_p3_p7 : p3 ≠ p7 := by have := ep3; omega
  have n_p4_p7 : p4 ≠ p7 := by have := ep4; omega
  have n_p5_p7 : p5 ≠ p7 := by have := ep5; omega
  have bp6 : w.heap.size ≤ p6 := Nat.le_trans HB.size lp6
  have bp7 : w.heap.size ≤ p7 := Nat.le_trans HB.size lp7
  clear lp6 gp6 lp7 gp7
  clear tp3 tp4 tp5
  clear ep3 ep4 ep5
  replace HB := aft_call HB (RelC.below_nil hC)
  clear hC hk hh; replace hz := hz'; replace hd := hd'; clear hz' hd'
  refine wp_seq ?_
  refine wp_seq ?_
  refine region_text (M := []) (
      rT (tQ B64 960 (mkF l1 m1)) ::
      rT (tQ B64 960 (mkF l2 m2)) ::
      rT (tV (.int .i64 (cmpQ (mkF l1 m1) (mkF l2 m2)))) ::
      rT (tV (.bool (decide (mkF l2 m2 < mkF l1 m1)))) ::
      []) hz hd (by kernel_rfl) ?_ ?_
  · refine ⟨?_, ?_, ?_, ?_, trivial⟩
    · exact zLd hz (sv S9) Cp3 ld_q64
    · exact zLd hz (sv S11) Cp4 ld_q64
    · exact zC2 hz Try.func38 (sd 0 rfl) (sd 1 rfl) (fun _ _ _ h0 h1 => cq_cmp h0 h1 (by decide) (by decide))
    · exact sBin rfl rfl rfl hz rfl (Gd.none_ rfl) rfl (sd 2 rfl) kc (fun w => run_cQ_gtr (mkF l1 m1) (mkF l2 m2) w)
  intro a' γ' W' hz' hd' hC hk hh
  have tp3 := Cp3.lt
  replace Cp3 := kC hC Cp3
  have tp4 := Cp4.lt
  replace Cp4 := kC hC Cp4
  have tp5 := Cp5.lt
  replace Cp5 := kC hC Cp5
  have tp6 := Cp6.lt
  replace Cp6 := kC hC Cp6
  have tp7 := Cp7.lt
  replace Cp7 := kC hC Cp7
  replace S2 := kp hk S2
  replace S3 := kp hk S3
  replace S8 := kp hk S8
  replace S9 := kp hk S9
  replace S11 := kp hk S11
  replace S13 := kp hk S13
  replace S14 := kp hk S14
  replace S15 := kp hk S15
  have S44 := gotV hz' 3 hh rfl rfl rfl rfl
  clear tp3 tp4 tp5 tp6 tp7
  replace HB := aft_call HB (RelC.below_nil hC)
  clear hC hk hh; replace hz := hz'; replace hd := hd'; clear hz' hd'
  by_cases hc8 : mkF l2 m2 < mkF l1 m1
  · have hs := bsim_gt (mkF_nonneg l1 m1) (mkF_nonneg l2 m2) hc8
    rw [decide_eq_true hc8] at S44
    refine wp_cond_true S44.ev ?_
    refine wp_seq ?_
    refine region_text (M := [p6]) (
        rT (tQ B64 960 (mkF l2 m2)) ::
        rE 0 29 (tQ B64 960 (mkF l2 m2)) p6 ::
        []) hz hd (by kernel_rfl) ?_ ?_
    · refine ⟨?_, ?_, trivial⟩
      · exact zLd hz (sv S11) Cp4 ld_q64 (by simp [tagOf, n_p4_p6])
      · exact zSE rfl (sv S14) (by simp [tagOf]) (Cp6.var tQ_nd) (sd 0 rfl) st_q64
    intro a' γ' W' hz' hd' hC hk hh
    have tp3 := Cp3.lt
    replace Cp3 := kC hC Cp3 (by simp [tagOf, n_p3_p6])
    have tp4 := Cp4.lt
    clear Cp4
    have tp5 := Cp5.lt
    replace Cp5 := kC hC Cp5 (by simp [tagOf, n_p5_p6])
    replace Cp6 := gotE (T := tQ B64 960 (mkF l2 m2)) (id := 29) (p := p6) 1 hh rfl rfl
    have tp7 := Cp7.lt
    replace Cp7 := kC hC Cp7 (by simp [tagOf, n_p7_p6])
    replace S2 := kp hk S2
    replace S3 := kp hk S3
    replace S8 := kp hk S8
    replace S9 := kp hk S9
    clear S11
    replace S13 := kp hk S13
    replace S14 := kp hk S14
    replace S15 := kp hk S15
    clear S44
    clear tp3 tp4 tp5 tp7
    replace HB := RelC.aftM HB hC (by intro m hm; simp at hm; rcases hm with rfl <;> assumption)
    clear hC hk hh; replace hz := hz'; replace hd := hd'; clear hz' hd'
    refine region_text (M := [p7]) (
        rT (tQ B64 960 (mkF l1 m1)) ::
        rE 0 29 (tQ B64 960 (mkF l1 m1)) p7 ::
        []) hz hd (by kernel_rfl) ?_ ?_
    · refine ⟨?_, ?_, trivial⟩
      · exact zLd hz (sv S9) Cp3 ld_q64 (by simp [tagOf, n_p3_p7])
      · exact zSE rfl (sv S15) (by simp [tagOf]) (Cp7.var tQ_nd) (sd 0 rfl) st_q64
    intro a' γ' W' hz' hd' hC hk hh
    have tp3 := Cp3.lt
    clear Cp3
    have tp5 := Cp5.lt
    replace Cp5 := kC hC Cp5 (by simp [tagOf, n_p5_p7])
    have tp6 := Cp6.lt
    replace Cp6 := kC hC Cp6 (by simp [tagOf, n_p6_p7])
    replace Cp7 := gotE (T := tQ B64 960 (mkF l1 m1)) (id := 29) (p := p7) 1 hh rfl rfl
    replace S2 := kp hk S2
    replace S3 := kp hk S3
    replace S8 := kp hk S8
    clear S9
    replace S13 := kp hk S13
    replace S14 := kp hk S14
    replace S15 := kp hk S15
    clear tp3 tp5 tp6
    replace HB := RelC.aftM HB hC (by intro m hm; simp at hm; rcases hm with rfl <;> assumption)
    clear hC hk hh; replace hz := hz'; replace hd := hd'; clear hz' hd'
    refine wp_seq ?_
    refine wp_seq ?_
    have hc9 : ¬ (btw (mkF l1 m1) (mkF l2 m2) < mkF l2 m2) := (Rat.not_lt.2 hs.lo)
    refine region_text (M := []) (
        rT (tV (.bool true)) ::
        rT (tV (.bool false)) ::
        rT (tV (.bool false)) ::
        rT (tQ B64 960 (btw (mkF l1 m1) (mkF l2 m2))) ::
        rT (tQ B64 960 (mkF l2 m2)) ::
        rT (tV (.int .i64 (cmpQ (btw (mkF l1 m1) (mkF l2 m2)) (mkF l2 m2)))) ::
        rT (tV (.bool false)) ::
        rT (tV (.bool false)) ::
        rT (tV (.bool false)) ::
        rT (tQ B64 960 (btw (mkF l1 m1) (mkF l2 m2))) ::
        rT (tQ B64 960 (mkF l1 m1)) ::
        rT (tV (.int .i64 (cmpQ (btw (mkF l1 m1) (mkF l2 m2)) (mkF l1 m1)))) ::
        rT (tV (.bool (decide (mkF l1 m1 < btw (mkF l1 m1) (mkF l2 m2))))) ::
        rT (tV (.bool (decide (mkF l1 m1 < btw (mkF l1 m1) (mkF l2 m2))))) ::
        []) hz hd (by kernel_rfl) ?_ ?_
    · refine ⟨?_, ?_, ?_, ?_, ?_, ?_, ?_, ?_, ?_, ?_, ?_, ?_, ?_, ?_, trivial⟩
      · exact zC0 hz Try.func20 (fun _ => l_told)
      · exact zNot hz (sd 0 rfl)
      · exact zMv hz (sd 1 rfl)
      · exact zLd hz (sv S13) Cp5 ld_q64 (g := gT 2 rfl)
      · exact zLd hz (sv S14) Cp6 ld_q64 (g := gT 2 rfl)
      · exact zC2 hz Try.func38 (sd 3 rfl) (sd 4 rfl) (fun _ _ _ h0 h1 => cq_cmp h0 h1 (by decide) (by decide)) (g := gT 2 rfl)
      · exact sBin rfl rfl rfl hz rfl (gT 2 rfl) rfl (sd 5 rfl) kc (fun w => run_f (P := btw (mkF l1 m1) (mkF l2 m2) < mkF l2 m2) ((fun w => run_cQ_lss (btw (mkF l1 m1) (mkF l2 m2)) (mkF l2 m2) w) w) hc9)
      · exact zPF hz (sd 2 rfl) (sd 6 rfl)
      · exact zMv hz (sd 7 rfl)
      · exact zLd hz (sv S13) Cp5 ld_q64 (g := gT 8 rfl)
      · exact zLd hz (sv S15) Cp7 ld_q64 (g := gT 8 rfl)
      · exact zC2 hz Try.func38 (sd 9 rfl) (sd 10 rfl) (fun _ _ _ h0 h1 => cq_cmp h0 h1 (by decide) (by decide)) (g := gT 8 rfl)
      · exact sBin rfl rfl rfl hz rfl (gT 8 rfl) rfl (sd 11 rfl) kc (fun w => run_cQ_gtr (btw (mkF l1 m1) (mkF l2 m2)) (mkF l1 m1) w)
      · exact zPF hz (sd 8 rfl) (sd 12 rfl)
    intro a' γ' W' hz' hd' hC hk hh
    have tp5 := Cp5.lt
    replace Cp5 := kC hC Cp5
    have tp6 := Cp6.lt
    replace Cp6 := kC hC Cp6
    have tp7 := Cp7.lt
    replace Cp7 := kC hC Cp7
    replace S2 := kp hk S2
    replace S3 := kp hk S3
    replace S8 := kp hk S8
    replace S13 := kp hk S13
    replace S14 := kp hk S14
    replace S15 := kp hk S15
    have S60 := gotV hz' 13 hh rfl rfl rfl rfl
    clear tp5 tp6 tp7
    replace HB := aft_call HB (RelC.below_nil hC)
    clear hC hk hh; replace hz := hz'; replace hd := hd'; clear hz' hd'
    have hc10 : ¬ (mkF l1 m1 < btw (mkF l1 m1) (mkF l2 m2)) := (Rat.not_lt.2 hs.hi)
    rw [decide_eq_false hc10] at S60
    refine wp_cond_false S60.ev ?_
    refine wp_skip ?_
    refine wp_seq ?_
    refine region_text (M := []) (
        rT (tV (.int .i64 d)) ::
        rT (tV (.int .i64 (d1 : Int))) ::
        rT (tV (.int .i64 ((d1 : Int) + 1))) ::
        rT (tV (.int .i64 ((d1 : Int) + 1))) ::
        []) hz hd (by kernel_rfl) ?_ ?_
    · refine ⟨?_, ?_, ?_, ?_, trivial⟩
      · exact zMv hz (sv S3)
      · exact sBin rfl rfl rfl hz rfl (Gd.none_ rfl) rfl (sd 0 rfl) kc (fun w => by simp [go_sem, hd0])
      · exact sBin rfl rfl rfl hz rfl (Gd.none_ rfl) rfl (sd 1 rfl) kc (fun w => by simp [go_sem, hw1])
      · exact zAs hz (sd 2 rfl)
    intro a' γ' W' hz' hd' hC hk hh
    have tp5 := Cp5.lt
    replace Cp5 := kC hC Cp5
    have tp6 := Cp6.lt
    replace Cp6 := kC hC Cp6
    have tp7 := Cp7.lt
    replace Cp7 := kC hC Cp7
    replace S2 := kp hk S2
    clear S3
    replace S8 := kp hk S8
    replace S13 := kp hk S13
    replace S14 := kp hk S14
    replace S15 := kp hk S15
    clear S60
    have S3 := gotV hz' 3 hh rfl rfl rfl rfl
    clear tp5 tp6 tp7
    replace HB := aft_call HB (RelC.below_nil hC)
    clear hC hk hh; replace hz := hz'; replace hd := hd'; clear hz' hd'
    refine wp_seq ?_
    refine region_text (M := []) (
        rT (tV (.int .i64 n)) ::
        rT (tV (.int .i64 (n1 : Int))) ::
        rT (tV (.int .i64 ((d1 : Int) + 1))) ::
        rT (tT [tQ B64 63 (ofQ (n1 : Int) ((d1 : Int) + 1)), tV (.bool (decide (OfOk (n1 : Int) ((d1 : Int) + 1))))]) ::
        rT (tT [tQ B64 63 (ofQ (n1 : Int) ((d1 : Int) + 1)), tV (.bool (decide (OfOk (n1 : Int) ((d1 : Int) + 1))))]) ::
        rT (tQ B64 63 (ofQ (n1 : Int) ((d1 : Int) + 1))) ::
        rT (tV (.bool (decide (OfOk (n1 : Int) ((d1 : Int) + 1))))) ::
        rVar 7 29 2 ::
        rB 7 29 (tQ B64 63 (ofQ (n1 : Int) ((d1 : Int) + 1))) (some 7) 8 ::
        rT (tV (.bool (decide (OfOk (n1 : Int) ((d1 : Int) + 1))))) ::
        []) hz hd (by kernel_rfl) ?_ ?_
    · refine ⟨?_, ?_, ?_, ?_, ?_, ?_, ?_, ?_, ?_, ?_, trivial⟩
      · exact zMv hz (sv S2)
      · exact sBin rfl rfl rfl hz rfl (Gd.none_ rfl) rfl (sd 0 rfl) kc (fun w => by simp [go_sem, hn])
      · exact zMv hz (sv S3)
      · exact zC2 hz Try.func30 (sd 1 rfl) (sd 2 rfl) (k11 (fun _ => cq_of (a := (n1 : Int)) (b := ((d1 : Int) + 1)) (by omega) (by omega)))
      · exact zMv hz (sd 3 rfl)
      · exact zExt hz (sd 4 rfl)
      · exact zExt hz (sd 4 rfl)
      · exact zAl hz nd_rat al_r64
      · exact zSt (sd 5 rfl) st_q64
      · exact zAs hz (sd 6 rfl)
    intro a' γ' W' hz' hd' hC hk hh
    have ep5 := Cp5.lt
    have ep6 := Cp6.lt
    have ep7 := Cp7.lt
    have tp5 := Cp5.lt
    replace Cp5 := kC hC Cp5
    have tp6 := Cp6.lt
    replace Cp6 := kC hC Cp6
    have tp7 := Cp7.lt
    replace Cp7 := kC hC Cp7
    clear S2
    replace S8 := kp hk S8
    replace S13 := kp hk S13
    replace S14 := kp hk S14
    replace S15 := kp hk S15
    clear S3
    obtain ⟨p11, S16, Cp11, lp11, gp11⟩ := gotB hz' 8 hC hh rfl rfl rfl rfl rfl rfl
    have n_p11_p5 : p11 ≠ p5 := by omega
    have n_p11_p6 : p11 ≠ p6 := by omega
    have n_p11_p7 : p11 ≠ p7 := by omega
    have n_p5_p11 : p5 ≠ p11 := by have := ep5; omega
    have n_p6_p11 : p6 ≠ p11 := by have := ep6; omega
    have n_p7_p11 : p7 ≠ p11 := by have := ep7; omega
    have bp11 : w.heap.size ≤ p11 := Nat.le_trans HB.size lp11
    clear lp11 gp11
    clear tp5 tp6 tp7
    clear ep5 ep6 ep7
    replace HB := aft_call HB (RelC.below_nil hC)
    clear hC hk hh; replace hz := hz'; replace hd := hd'; clear hz' hd'
    refine wp_seq ?_
    refine region_text (M := []) (
        rT (tQ B64 960 (mkF l2 m2)) ::
        rT (tN B64 960 ((mkF l2 m2).floor.toNat)) ::
        rT (tN B64 1 1) ::
        rT (tT [tQ B64 960 (mkRat ((mkF l2 m2).floor.toNat) 1), tV (.bool (decide (1 ≠ 0)))]) ::
        rT (tT [tQ B64 960 (mkRat ((mkF l2 m2).floor.toNat) 1), tV (.bool (decide (1 ≠ 0)))]) ::
        rT (tQ B64 960 (mkRat ((mkF l2 m2).floor.toNat) 1)) ::
        rT (tV (.bool (decide (1 ≠ 0)))) ::
        rVar 7 29 2 ::
        rB 7 29 (tQ B64 960 (mkRat ((mkF l2 m2).floor.toNat) 1)) (some 7) 8 ::
        rT (tV (.bool (decide (1 ≠ 0)))) ::
        []) hz hd (by kernel_rfl) ?_ ?_
    · refine ⟨?_, ?_, ?_, ?_, ?_, ?_, ?_, ?_, ?_, ?_, trivial⟩
      · exact zLd hz (sv S14) Cp6 ld_q64
      · exact zC1 hz Try.func27 (sd 0 rfl) (fun _ _ h0 => cq_floor h0 (by decide))
      · exact zC1 hz Try.func13 (kc (v := .int .u64 1)) (k1 (fun _ => c_of (by decide)))
      · exact zC2 hz Try.func11 (sd 1 rfl) (sd 2 rfl) (fun _ _ _ h0 h1 => cq_from (l := 960) h0 h1 (by decide) (by decide) hfb.out (one_960 (m := 960) (Nat.le_refl _)) (by decide))
      · exact zMv hz (sd 3 rfl)
      · exact zExt hz (sd 4 rfl)
      · exact zExt hz (sd 4 rfl)
      · exact zAl hz nd_rat al_r64
      · exact zSt (sd 5 rfl) st_q64
      · exact zAs hz (sd 6 rfl)
    intro a' γ' W' hz' hd' hC hk hh
    have ep5 := Cp5.lt
    have ep6 := Cp6.lt
    have ep7 := Cp7.lt
    have ep11 := Cp11.lt
    have tp5 := Cp5.lt
    replace Cp5 := kC hC Cp5
    have tp6 := Cp6.lt
    replace Cp6 := kC hC Cp6
    have tp7 := Cp7.lt
    replace Cp7 := kC hC Cp7
    have tp11 := Cp11.lt
    replace Cp11 := kC hC Cp11
    replace S8 := kp hk S8
    replace S13 := kp hk S13
    replace S14 := kp hk S14
    replace S15 := kp hk S15
    replace S16 := kp hk S16
    obtain ⟨p12, S18, Cp12, lp12, gp12⟩ := gotB hz' 8 hC hh rfl rfl rfl rfl rfl rfl
    have n_p12_p5 : p12 ≠ p5 := by omega
    have n_p12_p6 : p12 ≠ p6 := by omega
    have n_p12_p7 : p12 ≠ p7 := by omega
    have n_p12_p11 : p12 ≠ p11 := by omega
    have n_p5_p12 : p5 ≠ p12 := by have := ep5; omega
    have n_p6_p12 : p6 ≠ p12 := by have := ep6; omega
    have n_p7_p12 : p7 ≠ p12 := by have := ep7; omega
    have n_p11_p12 : p11 ≠ p12 := by have := ep11; omega
    have bp12 : w.heap.size ≤ p12 := Nat.le_trans HB.size lp12
    clear lp12 gp12
    clear tp5 tp6 tp7 tp11
    clear ep5 ep6 ep7 ep11
    replace HB := aft_call HB (RelC.below_nil hC)
    clear hC hk hh; replace hz := hz'; replace hd := hd'; clear hz' hd'
    refine wp_seq ?_
    refine region_text (M := []) (
        rT (tQ B64 960 (mkRat ((mkF l2 m2).floor.toNat) 1)) ::
        rT (tQ B64 63 (ofQ (n1 : Int) ((d1 : Int) + 1))) ::
        rT (tQ B64 1024 ((mkRat ((mkF l2 m2).floor.toNat) 1) + (ofQ (n1 : Int) ((d1 : Int) + 1)))) ::
        rVar 3 29 2 ::
        rB 3 29 (tQ B64 1024 ((mkRat ((mkF l2 m2).floor.toNat) 1) + (ofQ (n1 : Int) ((d1 : Int) + 1)))) (some 3) 4 ::
        []) hz hd (by kernel_rfl) ?_ ?_
    · refine ⟨?_, ?_, ?_, ?_, ?_, trivial⟩
      · exact zLd hz (sv S18) Cp12 ld_q64
      · exact zLd hz (sv S16) Cp11 ld_q64
      · exact zC2 hz Try.func17 (sd 0 rfl) (sd 1 rfl) (fun _ _ _ h0 h1 => cq_add h0 h1 (by decide) (by decide))
      · exact zAl hz nd_rat al_r64
      · exact zSt (sd 2 rfl) st_q64
    intro a' γ' W' hz' hd' hC hk hh
    have ep5 := Cp5.lt
    have ep6 := Cp6.lt
    have ep7 := Cp7.lt
    have ep11 := Cp11.lt
    have ep12 := Cp12.lt
    have tp5 := Cp5.lt
    replace Cp5 := kC hC Cp5
    have tp6 := Cp6.lt
    replace Cp6 := kC hC Cp6
    have tp7 := Cp7.lt
    replace Cp7 := kC hC Cp7
    have tp11 := Cp11.lt
    clear Cp11
    have tp12 := Cp12.lt
    clear Cp12
    replace S8 := kp hk S8
    replace S13 := kp hk S13
    replace S14 := kp hk S14
    replace S15 := kp hk S15
    clear S16
    clear S18
    obtain ⟨p13, S20, Cp13, lp13, gp13⟩ := gotB hz' 4 hC hh rfl rfl rfl rfl rfl rfl
    have n_p13_p5 : p13 ≠ p5 := by omega
    have n_p13_p6 : p13 ≠ p6 := by omega
    have n_p13_p7 : p13 ≠ p7 := by omega
    have n_p5_p13 : p5 ≠ p13 := by have := ep5; omega
    have n_p6_p13 : p6 ≠ p13 := by have := ep6; omega
    have n_p7_p13 : p7 ≠ p13 := by have := ep7; omega
    have bp13 : w.heap.size ≤ p13 := Nat.le_trans HB.size lp13
    clear lp13 gp13
    clear tp5 tp6 tp7 tp11 tp12
    clear ep5 ep6 ep7 ep11 ep12
    replace HB := aft_call HB (RelC.below_nil hC)
    clear hC hk hh; replace hz := hz'; replace hd := hd'; clear hz' hd'
    refine wp_seq ?_
    refine wp_seq ?_
    by_cases hc14 : (mkRat ((mkF l2 m2).floor.toNat) 1) + (ofQ (n1 : Int) ((d1 : Int) + 1)) < mkF l2 m2
    · refine region_text (M := []) (
          rT (tQ B64 1024 ((mkRat ((mkF l2 m2).floor.toNat) 1) + (ofQ (n1 : Int) ((d1 : Int) + 1)))) ::
          rT (tQ B64 960 (mkF l2 m2)) ::
          rT (tV (.int .i64 (cmpQ ((mkRat ((mkF l2 m2).floor.toNat) 1) + (ofQ (n1 : Int) ((d1 : Int) + 1))) (mkF l2 m2)))) ::
          rT (tV (.bool true)) ::
          rT (tV (.bool true)) ::
          rT (tV undef) ::
          rT (tV undef) ::
          rT (tV undef) ::
          rT (tV undef) ::
          rT (tV (.bool true)) ::
          []) hz hd (by kernel_rfl) ?_ ?_
      · refine ⟨?_, ?_, ?_, ?_, ?_, ?_, ?_, ?_, ?_, ?_, trivial⟩
        · exact zLd hz (sv S20) Cp13 ld_q64
        · exact zLd hz (sv S14) Cp6 ld_q64
        · exact zC2 hz Try.func38 (sd 0 rfl) (sd 1 rfl) (fun _ _ _ h0 h1 => cq_cmp h0 h1 (by decide) (by decide))
        · exact sBin rfl rfl rfl hz rfl (Gd.none_ rfl) rfl (sd 2 rfl) kc (fun w => run_t (P := (mkRat ((mkF l2 m2).floor.toNat) 1) + (ofQ (n1 : Int) ((d1 : Int) + 1)) < mkF l2 m2) ((fun w => run_cQ_lss ((mkRat ((mkF l2 m2).floor.toNat) 1) + (ofQ (n1 : Int) ((d1 : Int) + 1))) (mkF l2 m2) w) w) hc14)
        · exact zMv hz (sd 3 rfl)
        · exact zSkU hz (gN 4 rfl)
        · exact zSkU hz (gN 4 rfl)
        · exact zSkU hz (gN 4 rfl)
        · exact zSkU hz (gN 4 rfl)
        · exact zPT hz (sd 4 rfl) kc
      intro a' γ' W' hz' hd' hC hk hh
      have tp5 := Cp5.lt
      replace Cp5 := kC hC Cp5
      have tp6 := Cp6.lt
      clear Cp6
      have tp7 := Cp7.lt
      clear Cp7
      have tp13 := Cp13.lt
      replace Cp13 := kC hC Cp13
      replace S8 := kp hk S8
      replace S13 := kp hk S13
      clear S14
      clear S15
      replace S20 := kp hk S20
      have S90 := gotV hz' 9 hh rfl rfl rfl rfl
      clear tp5 tp6 tp7 tp13
      replace HB := aft_call HB (RelC.below_nil hC)
      clear hC hk hh; replace hz := hz'; replace hd := hd'; clear hz' hd'
      refine wp_cond_true S90.ev ?_
      refine wp_seq ?_
      refine region_text (M := []) (
          rT (tV (.bool true)) ::
          []) hz hd (by kernel_rfl) ?_ ?_
      · refine ⟨?_, trivial⟩
        · exact zAs hz kc
      intro a' γ' W' hz' hd' hC hk hh
      have tp5 := Cp5.lt
      replace Cp5 := kC hC Cp5
      have tp13 := Cp13.lt
      replace Cp13 := kC hC Cp13
      clear S8
      replace S13 := kp hk S13
      replace S20 := kp hk S20
      clear S90
      have S8 := gotV hz' 0 hh rfl rfl rfl rfl
      clear tp5 tp13
      replace HB := aft_call HB (RelC.below_nil hC)
      clear hC hk hh; replace hz := hz'; replace hd := hd'; clear hz' hd'
      refine wp_ret ?_
      refine ret_to (T := tV (.bool true)) (ret1 (by kernel_rfl) S8 hd ⟨_, rfl, rfl, HB⟩) ?_
      exact fun _ _ h => h
    · refine region_text (M := []) (
          rT (tQ B64 1024 ((mkRat ((mkF l2 m2).floor.toNat) 1) + (ofQ (n1 : Int) ((d1 : Int) + 1)))) ::
          rT (tQ B64 960 (mkF l2 m2)) ::
          rT (tV (.int .i64 (cmpQ ((mkRat ((mkF l2 m2).floor.toNat) 1) + (ofQ (n1 : Int) ((d1 : Int) + 1))) (mkF l2 m2)))) ::
          rT (tV (.bool false)) ::
          rT (tV (.bool false)) ::
          rT (tQ B64 1024 ((mkRat ((mkF l2 m2).floor.toNat) 1) + (ofQ (n1 : Int) ((d1 : Int) + 1)))) ::
          rT (tQ B64 960 (mkF l1 m1)) ::
          rT (tV (.int .i64 (cmpQ ((mkRat ((mkF l2 m2).floor.toNat) 1) + (ofQ (n1 : Int) ((d1 : Int) + 1))) (mkF l1 m1)))) ::
          rT (tV (.bool (decide (mkF l1 m1 < (mkRat ((mkF l2 m2).floor.toNat) 1) + (ofQ (n1 : Int) ((d1 : Int) + 1)))))) ::
          rT (tV (.bool (decide (mkF l1 m1 < (mkRat ((mkF l2 m2).floor.toNat) 1) + (ofQ (n1 : Int) ((d1 : Int) + 1)))))) ::
          []) hz hd (by kernel_rfl) ?_ ?_
      · refine ⟨?_, ?_, ?_, ?_, ?_, ?_, ?_, ?_, ?_, ?_, trivial⟩
        · exact zLd hz (sv S20) Cp13 ld_q64
        · exact zLd hz (sv S14) Cp6 ld_q64
        · exact zC2 hz Try.func38 (sd 0 rfl) (sd 1 rfl) (fun _ _ _ h0 h1 => cq_cmp h0 h1 (by decide) (by decide))
        · exact sBin rfl rfl rfl hz rfl (Gd.none_ rfl) rfl (sd 2 rfl) kc (fun w => run_f (P := (mkRat ((mkF l2 m2).floor.toNat) 1) + (ofQ (n1 : Int) ((d1 : Int) + 1)) < mkF l2 m2) ((fun w => run_cQ_lss ((mkRat ((mkF l2 m2).floor.toNat) 1) + (ofQ (n1 : Int) ((d1 : Int) + 1))) (mkF l2 m2) w) w) hc14)
        · exact zMv hz (sd 3 rfl)
        · exact zLd hz (sv S20) Cp13 ld_q64 (g := gT 4 rfl)
        · exact zLd hz (sv S15) Cp7 ld_q64 (g := gT 4 rfl)
        · exact zC2 hz Try.func38 (sd 5 rfl) (sd 6 rfl) (fun _ _ _ h0 h1 => cq_cmp h0 h1 (by decide) (by decide)) (g := gT 4 rfl)
        · exact sBin rfl rfl rfl hz rfl (gT 4 rfl) rfl (sd 7 rfl) kc (fun w => run_cQ_gtr ((mkRat ((mkF l2 m2).floor.toNat) 1) + (ofQ (n1 : Int) ((d1 : Int) + 1))) (mkF l1 m1) w)
        · exact zPF hz (sd 4 rfl) (sd 8 rfl)
      intro a' γ' W' hz' hd' hC hk hh
      have tp5 := Cp5.lt
      replace Cp5 := kC hC Cp5
      have tp6 := Cp6.lt
      clear Cp6
      have tp7 := Cp7.lt
      clear Cp7
      have tp13 := Cp13.lt
      replace Cp13 := kC hC Cp13
      replace S8 := kp hk S8
      replace S13 := kp hk S13
      clear S14
      clear S15
      replace S20 := kp hk S20
      have S90 := gotV hz' 9 hh rfl rfl rfl rfl
      clear tp5 tp6 tp7 tp13
      replace HB := aft_call HB (RelC.below_nil hC)
      clear hC hk hh; replace hz := hz'; replace hd := hd'; clear hz' hd'
      by_cases hc15 : mkF l1 m1 < (mkRat ((mkF l2 m2).floor.toNat) 1) + (ofQ (n1 : Int) ((d1 : Int) + 1))
      · rw [decide_eq_true hc15] at S90
        refine wp_cond_true S90.ev ?_
        refine wp_seq ?_
        refine region_text (M := []) (
            rT (tV (.bool true)) ::
            []) hz hd (by kernel_rfl) ?_ ?_
        · refine ⟨?_, trivial⟩
          · exact zAs hz kc
        intro a' γ' W' hz' hd' hC hk hh
        have tp5 := Cp5.lt
        replace Cp5 := kC hC Cp5
        have tp13 := Cp13.lt
        replace Cp13 := kC hC Cp13
        clear S8
        replace S13 := kp hk S13
        replace S20 := kp hk S20
        clear S90
        have S8 := gotV hz' 0 hh rfl rfl rfl rfl
        clear tp5 tp13
        replace HB := aft_call HB (RelC.below_nil hC)
        clear hC hk hh; replace hz := hz'; replace hd := hd'; clear hz' hd'
        refine wp_ret ?_
        refine ret_to (T := tV (.bool true)) (ret1 (by kernel_rfl) S8 hd ⟨_, rfl, rfl, HB⟩) ?_
        exact fun _ _ h => h
      · rw [decide_eq_false hc15] at S90
        refine wp_cond_false S90.ev ?_
        refine wp_skip ?_
        refine wp_seq ?_
        refine region_text (M := []) (
            rT (tQ B64 960 (btw (mkF l1 m1) (mkF l2 m2))) ::
            rT (tT [tN B64 960 ((btw (mkF l1 m1) (mkF l2 m2)).num.toNat), tN B64 961 ((btw (mkF l1 m1) (mkF l2 m2)).den)]) ::
            rT (tT [tN B64 960 ((btw (mkF l1 m1) (mkF l2 m2)).num.toNat), tN B64 961 ((btw (mkF l1 m1) (mkF l2 m2)).den)]) ::
            rT (tN B64 960 ((btw (mkF l1 m1) (mkF l2 m2)).num.toNat)) ::
            rT (tN B64 961 ((btw (mkF l1 m1) (mkF l2 m2)).den)) ::
            rVar 5 27 1 ::
            rVar 6 27 1 ::
            rB 5 27 (tN B64 960 ((btw (mkF l1 m1) (mkF l2 m2)).num.toNat)) (some 5) 6 ::
            rB 6 27 (tN B64 961 ((btw (mkF l1 m1) (mkF l2 m2)).den)) (some 6) 7 ::
            []) hz hd (by kernel_rfl) ?_ ?_
        · refine ⟨?_, ?_, ?_, ?_, ?_, ?_, ?_, ?_, ?_, trivial⟩
          · exact zLd hz (sv S13) Cp5 ld_q64
          · exact zC1 hz Try.func18 (sd 0 rfl) (fun _ _ h0 => cq_parts h0 (by decide))
          · exact zMv hz (sd 1 rfl)
          · exact zExt hz (sd 2 rfl)
          · exact zExt hz (sd 2 rfl)
          · exact zAl hz nd_slice al_n64
          · exact zAl hz nd_slice al_n64
          · exact zSt (sd 3 rfl) st_n64
          · exact zSt (sd 4 rfl) st_n64
        intro a' γ' W' hz' hd' hC hk hh
        have ep5 := Cp5.lt
        have ep13 := Cp13.lt
        have tp5 := Cp5.lt
        replace Cp5 := kC hC Cp5
        have tp13 := Cp13.lt
        replace Cp13 := kC hC Cp13
        replace S8 := kp hk S8
        replace S13 := kp hk S13
        replace S20 := kp hk S20
        clear S90
        obtain ⟨p16, S22, Cp16, lp16, gp16⟩ := gotB hz' 8 hC hh rfl rfl rfl rfl rfl rfl
        have n_p16_p5 : p16 ≠ p5 := by omega
        have n_p16_p13 : p16 ≠ p13 := by omega
        have n_p5_p16 : p5 ≠ p16 := by have := ep5; omega
        have n_p13_p16 : p13 ≠ p16 := by have := ep13; omega
        have bp16 : w.heap.size ≤ p16 := Nat.le_trans HB.size lp16
        clear lp16 gp16
        clear tp5 tp13
        clear ep5 ep13
        replace HB := aft_call HB (RelC.below_nil hC)
        clear hC hk hh; replace hz := hz'; replace hd := hd'; clear hz' hd'
        refine wp_seq ?_
        refine region_text (M := []) (
            rT (tQ B64 1024 ((mkRat ((mkF l2 m2).floor.toNat) 1) + (ofQ (n1 : Int) ((d1 : Int) + 1)))) ::
            rT (tT [tN B64 1024 (((mkRat ((mkF l2 m2).floor.toNat) 1) + (ofQ (n1 : Int) ((d1 : Int) + 1))).num.toNat), tN B64 1025 (((mkRat ((mkF l2 m2).floor.toNat) 1) + (ofQ (n1 : Int) ((d1 : Int) + 1))).den)]) ::
            rT (tT [tN B64 1024 (((mkRat ((mkF l2 m2).floor.toNat) 1) + (ofQ (n1 : Int) ((d1 : Int) + 1))).num.toNat), tN B64 1025 (((mkRat ((mkF l2 m2).floor.toNat) 1) + (ofQ (n1 : Int) ((d1 : Int) + 1))).den)]) ::
            rT (tN B64 1024 (((mkRat ((mkF l2 m2).floor.toNat) 1) + (ofQ (n1 : Int) ((d1 : Int) + 1))).num.toNat)) ::
            rT (tN B64 1025 (((mkRat ((mkF l2 m2).floor.toNat) 1) + (ofQ (n1 : Int) ((d1 : Int) + 1))).den)) ::
            rVar 5 27 1 ::
            rVar 6 27 1 ::
            rB 5 27 (tN B64 1024 (((mkRat ((mkF l2 m2).floor.toNat) 1) + (ofQ (n1 : Int) ((d1 : Int) + 1))).num.toNat)) (some 5) 6 ::
            rB 6 27 (tN B64 1025 (((mkRat ((mkF l2 m2).floor.toNat) 1) + (ofQ (n1 : Int) ((d1 : Int) + 1))).den)) (some 6) 7 ::
            []) hz hd (by kernel_rfl) ?_ ?_
        · refine ⟨?_, ?_, ?_, ?_, ?_, ?_, ?_, ?_, ?_, trivial⟩
          · exact zLd hz (sv S20) Cp13 ld_q64
          · exact zC1 hz Try.func18 (sd 0 rfl) (fun _ _ h0 => cq_parts h0 (by decide))
          · exact zMv hz (sd 1 rfl)
          · exact zExt hz (sd 2 rfl)
          · exact zExt hz (sd 2 rfl)
          · exact zAl hz nd_slice al_n64
          · exact zAl hz nd_slice al_n64
          · exact zSt (sd 3 rfl) st_n64
          · exact zSt (sd 4 rfl) st_n64
        intro a' γ' W' hz' hd' hC hk hh
        have ep5 := Cp5.lt
        have ep13 := Cp13.lt
        have ep16 := Cp16.lt
        have tp5 := Cp5.lt
        replace Cp5 := kC hC Cp5
        have tp13 := Cp13.lt
        replace Cp13 := kC hC Cp13
        have tp16 := Cp16.lt
        replace Cp16 := kC hC Cp16
        replace S8 := kp hk S8
        replace S13 := kp hk S13
        replace S20 := kp hk S20
        replace S22 := kp hk S22
        obtain ⟨p17, S24, Cp17, lp17, gp17⟩ := gotB hz' 8 hC hh rfl rfl rfl rfl rfl rfl
        have n_p17_p5 : p17 ≠ p5 := by omega
        have n_p17_p13 : p17 ≠ p13 := by omega
        have n_p17_p16 : p17 ≠ p16 := by omega
        have n_p5_p17 : p5 ≠ p17 := by have := ep5; omega
        have n_p13_p17 : p13 ≠ p17 := by have := ep13; omega
        have n_p16_p17 : p16 ≠ p17 := by have := ep16; omega
        have bp17 : w.heap.size ≤ p17 := Nat.le_trans HB.size lp17
        clear lp17 gp17
        clear tp5 tp13 tp16
        clear ep5 ep13 ep16
        replace HB := aft_call HB (RelC.below_nil hC)
        clear hC hk hh; replace hz := hz'; replace hd := hd'; clear hz' hd'
        refine wp_seq ?_
        refine region_text (M := []) (
            rT (tN B64 961 ((btw (mkF l1 m1) (mkF l2 m2)).den)) ::
            rT (tN B64 1025 (((mkRat ((mkF l2 m2).floor.toNat) 1) + (ofQ (n1 : Int) ((d1 : Int) + 1))).den)) ::
            rT (tV (.int .i64 (cmpI ((btw (mkF l1 m1) (mkF l2 m2)).den) (((mkRat ((mkF l2 m2).floor.toNat) 1) + (ofQ (n1 : Int) ((d1 : Int) + 1))).den)))) ::
            rT (tV (.int .i64 (cmpI ((btw (mkF l1 m1) (mkF l2 m2)).den) (((mkRat ((mkF l2 m2).floor.toNat) 1) + (ofQ (n1 : Int) ((d1 : Int) + 1))).den)))) ::
            []) hz hd (by kernel_rfl) ?_ ?_
        · refine ⟨?_, ?_, ?_, ?_, trivial⟩
          · exact zLd hz (sv S22) Cp16 ld_n64
          · exact zLd hz (sv S24) Cp17 ld_n64
          · exact zC2 hz Try.func43 (sd 0 rfl) (sd 1 rfl) (fun _ _ _ h0 h1 => c_cmp h0 h1 (by decide) (by decide))
          · exact zAs hz (sd 2 rfl)
        intro a' γ' W' hz' hd' hC hk hh
        have tp5 := Cp5.lt
        replace Cp5 := kC hC Cp5
        have tp13 := Cp13.lt
        replace Cp13 := kC hC Cp13
        have tp16 := Cp16.lt
        clear Cp16
        have tp17 := Cp17.lt
        clear Cp17
        replace S8 := kp hk S8
        replace S13 := kp hk S13
        replace S20 := kp hk S20
        clear S22
        clear S24
        have S25 := gotV hz' 3 hh rfl rfl rfl rfl
        clear tp5 tp13 tp16 tp17
        replace HB := aft_call HB (RelC.below_nil hC)
        clear hC hk hh; replace hz := hz'; replace hd := hd'; clear hz' hd'
        refine wp_seq ?_
        by_cases hc18 : (btw (mkF l1 m1) (mkF l2 m2)).den < ((mkRat ((mkF l2 m2).floor.toNat) 1) + (ofQ (n1 : Int) ((d1 : Int) + 1))).den
        · refine region_text (M := []) (
              rT (tV (.int .i64 (cmpI ((btw (mkF l1 m1) (mkF l2 m2)).den) (((mkRat ((mkF l2 m2).floor.toNat) 1) + (ofQ (n1 : Int) ((d1 : Int) + 1))).den)))) ::
              rT (tV (.bool true)) ::
              rT (tV (.bool true)) ::
              rT (tV undef) ::
              rT (tV undef) ::
              rT (tV undef) ::
              rT (tV undef) ::
              rT (tV undef) ::
              rT (tV undef) ::
              rT (tV undef) ::
              rT (tV undef) ::
              rT (tV (.bool true)) ::
              rT (tV (.bool true)) ::
              []) hz hd (by kernel_rfl) ?_ ?_
          · refine ⟨?_, ?_, ?_, ?_, ?_, ?_, ?_, ?_, ?_, ?_, ?_, ?_, ?_, trivial⟩
            · exact zMv hz (sv S25)
            · exact sBin rfl rfl rfl hz rfl (Gd.none_ rfl) rfl (sd 0 rfl) kc (fun w => run_t (P := (btw (mkF l1 m1) (mkF l2 m2)).den < ((mkRat ((mkF l2 m2).floor.toNat) 1) + (ofQ (n1 : Int) ((d1 : Int) + 1))).den) ((fun w => run_cI_lss ((btw (mkF l1 m1) (mkF l2 m2)).den) (((mkRat ((mkF l2 m2).floor.toNat) 1) + (ofQ (n1 : Int) ((d1 : Int) + 1))).den) w) w) hc18)
            · exact zMv hz (sd 1 rfl)
            · exact zSkU hz (gN 2 rfl)
            · exact zSkU hz (gN 2 rfl)
            · exact zSkU hz (gN 2 rfl)
            · exact zSkU hz (gU 5 rfl)
            · exact zSkU hz (gU 5 rfl)
            · exact zSkU hz (gU 5 rfl)
            · exact zSkU hz (gU 5 rfl)
            · exact zSkU hz (gN 2 rfl)
            · exact zPT hz (sd 2 rfl) kc
            · exact zAs hz (sd 11 rfl)
          intro a' γ' W' hz' hd' hC hk hh
          have tp5 := Cp5.lt
          clear Cp5
          have tp13 := Cp13.lt
          clear Cp13
          clear S8
          clear S13
          clear S20
          clear S25
          have S8 := gotV hz' 12 hh rfl rfl rfl rfl
          clear tp5 tp13
          replace HB := aft_call HB (RelC.below_nil hC)
          clear hC hk hh; replace hz := hz'; replace hd := hd'; clear hz' hd'
          refine wp_ret ?_
          refine ret_to (T := tV (.bool true)) (ret1 (by kernel_rfl) S8 hd ⟨_, rfl, rfl, HB⟩) ?_
          exact fun _ _ h => h
        · have hc19 : (btw (mkF l1 m1) (mkF l2 m2)).den = ((mkRat ((mkF l2 m2).floor.toNat) 1) + (ofQ (n1 : Int) ((d1 : Int) + 1))).den := (bs_den hs hc14 hc15 hc18)
          refine region_text (M := []) (
              rT (tV (.int .i64 (cmpI ((btw (mkF l1 m1) (mkF l2 m2)).den) (((mkRat ((mkF l2 m2).floor.toNat) 1) + (ofQ (n1 : Int) ((d1 : Int) + 1))).den)))) ::
              rT (tV (.bool false)) ::
              rT (tV (.bool false)) ::
              rT (tV (.int .i64 (cmpI ((btw (mkF l1 m1) (mkF l2 m2)).den) (((mkRat ((mkF l2 m2).floor.toNat) 1) + (ofQ (n1 : Int) ((d1 : Int) + 1))).den)))) ::
              rT (tV (.bool true)) ::
              rT (tV (.bool true)) ::
              rT (tQ B64 960 (btw (mkF l1 m1) (mkF l2 m2))) ::
              rT (tQ B64 1024 ((mkRat ((mkF l2 m2).floor.toNat) 1) + (ofQ (n1 : Int) ((d1 : Int) + 1)))) ::
              rT (tV (.int .i64 (cmpQ (btw (mkF l1 m1) (mkF l2 m2)) ((mkRat ((mkF l2 m2).floor.toNat) 1) + (ofQ (n1 : Int) ((d1 : Int) + 1)))))) ::
              rT (tV (.bool (decide (btw (mkF l1 m1) (mkF l2 m2) ≤ (mkRat ((mkF l2 m2).floor.toNat) 1) + (ofQ (n1 : Int) ((d1 : Int) + 1)))))) ::
              rT (tV (.bool (decide (btw (mkF l1 m1) (mkF l2 m2) ≤ (mkRat ((mkF l2 m2).floor.toNat) 1) + (ofQ (n1 : Int) ((d1 : Int) + 1)))))) ::
              rT (tV (.bool (decide (btw (mkF l1 m1) (mkF l2 m2) ≤ (mkRat ((mkF l2 m2).floor.toNat) 1) + (ofQ (n1 : Int) ((d1 : Int) + 1)))))) ::
              rT (tV (.bool (decide (btw (mkF l1 m1) (mkF l2 m2) ≤ (mkRat ((mkF l2 m2).floor.toNat) 1) + (ofQ (n1 : Int) ((d1 : Int) + 1)))))) ::
              []) hz hd (by kernel_rfl) ?_ ?_
          · refine ⟨?_, ?_, ?_, ?_, ?_, ?_, ?_, ?_, ?_, ?_, ?_, ?_, ?_, trivial⟩
            · exact zMv hz (sv S25)
            · exact sBin rfl rfl rfl hz rfl (Gd.none_ rfl) rfl (sd 0 rfl) kc (fun w => run_f (P := (btw (mkF l1 m1) (mkF l2 m2)).den < ((mkRat ((mkF l2 m2).floor.toNat) 1) + (ofQ (n1 : Int) ((d1 : Int) + 1))).den) ((fun w => run_cI_lss ((btw (mkF l1 m1) (mkF l2 m2)).den) (((mkRat ((mkF l2 m2).floor.toNat) 1) + (ofQ (n1 : Int) ((d1 : Int) + 1))).den) w) w) hc18)
            · exact zMv hz (sd 1 rfl)
            · exact zMv hz (sv S25) (g := gT 2 rfl)
            · exact sBin rfl rfl rfl hz rfl (gT 2 rfl) rfl (sd 3 rfl) kc (fun w => run_t (P := (btw (mkF l1 m1) (mkF l2 m2)).den = ((mkRat ((mkF l2 m2).floor.toNat) 1) + (ofQ (n1 : Int) ((d1 : Int) + 1))).den) ((fun w => run_cI_eql ((btw (mkF l1 m1) (mkF l2 m2)).den) (((mkRat ((mkF l2 m2).floor.toNat) 1) + (ofQ (n1 : Int) ((d1 : Int) + 1))).den) w) w) hc19)
            · exact zMv hz (sd 4 rfl) (g := gT 2 rfl)
            · exact zLd hz (sv S13) Cp5 ld_q64 (g := gT 5 rfl)
            · exact zLd hz (sv S20) Cp13 ld_q64 (g := gT 5 rfl)
            · exact zC2 hz Try.func38 (sd 6 rfl) (sd 7 rfl) (fun _ _ _ h0 h1 => cq_cmp h0 h1 (by decide) (by decide)) (g := gT 5 rfl)
            · exact sBin rfl rfl rfl hz rfl (gT 5 rfl) rfl (sd 8 rfl) kc (fun w => run_cQ_leq (btw (mkF l1 m1) (mkF l2 m2)) ((mkRat ((mkF l2 m2).floor.toNat) 1) + (ofQ (n1 : Int) ((d1 : Int) + 1))) w)
            · exact zPT hz (sd 5 rfl) (sd 9 rfl) (g := gT 2 rfl)
            · exact zPF hz (sd 2 rfl) (sd 10 rfl)
            · exact zAs hz (sd 11 rfl)
          intro a' γ' W' hz' hd' hC hk hh
          have tp5 := Cp5.lt
          clear Cp5
          have tp13 := Cp13.lt
          clear Cp13
          clear S8
          clear S13
          clear S20
          clear S25
          have S8 := gotV hz' 12 hh rfl rfl rfl rfl
          clear tp5 tp13
          replace HB := aft_call HB (RelC.below_nil hC)
          clear hC hk hh; replace hz := hz'; replace hd := hd'; clear hz' hd'
          refine wp_ret ?_
          refine ret_to (T := tV (.bool (decide (btw (mkF l1 m1) (mkF l2 m2) ≤ (mkRat ((mkF l2 m2).floor.toNat) 1) + (ofQ (n1 : Int) ((d1 : Int) + 1)))))) (ret1 (by kernel_rfl) S8 hd ⟨_, rfl, rfl, HB⟩) ?_
          exact tV_to (by rw [decide_eq_true (bs_le hs hc14 hc15 hc19)])
  · have hs := bsim_le (mkF_nonneg l1 m1) (mkF_nonneg l2 m2) hc8
    rw [decide_eq_false hc8] at S44
    refine wp_cond_false S44.ev ?_
    refine wp_skip ?_
    refine wp_seq ?_
    refine wp_seq ?_
    have hc20 : ¬ (btw (mkF l1 m1) (mkF l2 m2) < mkF l1 m1) := (Rat.not_lt.2 hs.lo)
    refine region_text (M := []) (
        rT (tV (.bool true)) ::
        rT (tV (.bool false)) ::
        rT (tV (.bool false)) ::
        rT (tQ B64 960 (btw (mkF l1 m1) (mkF l2 m2))) ::
        rT (tQ B64 960 (mkF l1 m1)) ::
        rT (tV (.int .i64 (cmpQ (btw (mkF l1 m1) (mkF l2 m2)) (mkF l1 m1)))) ::
        rT (tV (.bool false)) ::
        rT (tV (.bool false)) ::
        rT (tV (.bool false)) ::
        rT (tQ B64 960 (btw (mkF l1 m1) (mkF l2 m2))) ::
        rT (tQ B64 960 (mkF l2 m2)) ::
        rT (tV (.int .i64 (cmpQ (btw (mkF l1 m1) (mkF l2 m2)) (mkF l2 m2)))) ::
        rT (tV (.bool (decide (mkF l2 m2 < btw (mkF l1 m1) (mkF l2 m2))))) ::
        rT (tV (.bool (decide (mkF l2 m2 < btw (mkF l1 m1) (mkF l2 m2))))) ::
        []) hz hd (by kernel_rfl) ?_ ?_
    · refine ⟨?_, ?_, ?_, ?_, ?_, ?_, ?_, ?_, ?_, ?_, ?_, ?_, ?_, ?_, trivial⟩
      · exact zC0 hz Try.func20 (fun _ => l_told)
      · exact zNot hz (sd 0 rfl)
      · exact zMv hz (sd 1 rfl)
      · exact zLd hz (sv S13) Cp5 ld_q64 (g := gT 2 rfl)
      · exact zLd hz (sv S14) Cp6 ld_q64 (g := gT 2 rfl)
      · exact zC2 hz Try.func38 (sd 3 rfl) (sd 4 rfl) (fun _ _ _ h0 h1 => cq_cmp h0 h1 (by decide) (by decide)) (g := gT 2 rfl)
      · exact sBin rfl rfl rfl hz rfl (gT 2 rfl) rfl (sd 5 rfl) kc (fun w => run_f (P := btw (mkF l1 m1) (mkF l2 m2) < mkF l1 m1) ((fun w => run_cQ_lss (btw (mkF l1 m1) (mkF l2 m2)) (mkF l1 m1) w) w) hc20)
      · exact zPF hz (sd 2 rfl) (sd 6 rfl)
      · exact zMv hz (sd 7 rfl)
      · exact zLd hz (sv S13) Cp5 ld_q64 (g := gT 8 rfl)
      · exact zLd hz (sv S15) Cp7 ld_q64 (g := gT 8 rfl)
      · exact zC2 hz Try.func38 (sd 9 rfl) (sd 10 rfl) (fun _ _ _ h0 h1 => cq_cmp h0 h1 (by decide) (by decide)) (g := gT 8 rfl)
      · exact sBin rfl rfl rfl hz rfl (gT 8 rfl) rfl (sd 11 rfl) kc (fun w => run_cQ_gtr (btw (mkF l1 m1) (mkF l2 m2)) (mkF l2 m2) w)
      · exact zPF hz (sd 8 rfl) (sd 12 rfl)
    intro a' γ' W' hz' hd' hC hk hh
    have tp3 := Cp3.lt
    clear Cp3
    have tp4 := Cp4.lt
    clear Cp4
    have tp5 := Cp5.lt
    replace Cp5 := kC hC Cp5
    have tp6 := Cp6.lt
    replace Cp6 := kC hC Cp6
    have tp7 := Cp7.lt
    replace Cp7 := kC hC Cp7
    replace S2 := kp hk S2
    replace S3 := kp hk S3
    replace S8 := kp hk S8
    clear S9
    clear S11
    replace S13 := kp hk S13
    replace S14 := kp hk S14
    replace S15 := kp hk S15
    clear S44
    have S60 := gotV hz' 13 hh rfl rfl rfl rfl
    clear tp3 tp4 tp5 tp6 tp7
    replace HB := aft_call HB (RelC.below_nil hC)
    clear hC hk hh; replace hz := hz'; replace hd := hd'; clear hz' hd'
    have hc21 : ¬ (mkF l2 m2 < btw (mkF l1 m1) (mkF l2 m2)) := (Rat.not_lt.2 hs.hi)
    rw [decide_eq_false hc21] at S60
    refine wp_cond_false S60.ev ?_
    refine wp_skip ?_
    refine wp_seq ?_
    refine region_text (M := []) (
        rT (tV (.int .i64 d)) ::
        rT (tV (.int .i64 (d1 : Int))) ::
        rT (tV (.int .i64 ((d1 : Int) + 1))) ::
        rT (tV (.int .i64 ((d1 : Int) + 1))) ::
        []) hz hd (by kernel_rfl) ?_ ?_
    · refine ⟨?_, ?_, ?_, ?_, trivial⟩
      · exact zMv hz (sv S3)
      · exact sBin rfl rfl rfl hz rfl (Gd.none_ rfl) rfl (sd 0 rfl) kc (fun w => by simp [go_sem, hd0])
      · exact sBin rfl rfl rfl hz rfl (Gd.none_ rfl) rfl (sd 1 rfl) kc (fun w => by simp [go_sem, hw1])
      · exact zAs hz (sd 2 rfl)
    intro a' γ' W' hz' hd' hC hk hh
    have tp5 := Cp5.lt
    replace Cp5 := kC hC Cp5
    have tp6 := Cp6.lt
    replace Cp6 := kC hC Cp6
    have tp7 := Cp7.lt
    replace Cp7 := kC hC Cp7
    replace S2 := kp hk S2
    clear S3
    replace S8 := kp hk S8
    replace S13 := kp hk S13
    replace S14 := kp hk S14
    replace S15 := kp hk S15
    clear S60
    have S3 := gotV hz' 3 hh rfl rfl rfl rfl
    clear tp5 tp6 tp7
    replace HB := aft_call HB (RelC.below_nil hC)
    clear hC hk hh; replace hz := hz'; replace hd := hd'; clear hz' hd'
    refine wp_seq ?_
    refine region_text (M := []) (
        rT (tV (.int .i64 n)) ::
        rT (tV (.int .i64 (n1 : Int))) ::
        rT (tV (.int .i64 ((d1 : Int) + 1))) ::
        rT (tT [tQ B64 63 (ofQ (n1 : Int) ((d1 : Int) + 1)), tV (.bool (decide (OfOk (n1 : Int) ((d1 : Int) + 1))))]) ::
        rT (tT [tQ B64 63 (ofQ (n1 : Int) ((d1 : Int) + 1)), tV (.bool (decide (OfOk (n1 : Int) ((d1 : Int) + 1))))]) ::
        rT (tQ B64 63 (ofQ (n1 : Int) ((d1 : Int) + 1))) ::
        rT (tV (.bool (decide (OfOk (n1 : Int) ((d1 : Int) + 1))))) ::
        rVar 7 29 2 ::
        rB 7 29 (tQ B64 63 (ofQ (n1 : Int) ((d1 : Int) + 1))) (some 7) 8 ::
        rT (tV (.bool (decide (OfOk (n1 : Int) ((d1 : Int) + 1))))) ::
        []) hz hd (by kernel_rfl) ?_ ?_
    · refine ⟨?_, ?_, ?_, ?_, ?_, ?_, ?_, ?_, ?_, ?_, trivial⟩
      · exact zMv hz (sv S2)
      · exact sBin rfl rfl rfl hz rfl (Gd.none_ rfl) rfl (sd 0 rfl) kc (fun w => by simp [go_sem, hn])
      · exact zMv hz (sv S3)
      · exact zC2 hz Try.func30 (sd 1 rfl) (sd 2 rfl) (k11 (fun _ => cq_of (a := (n1 : Int)) (b := ((d1 : Int) + 1)) (by omega) (by omega)))
      · exact zMv hz (sd 3 rfl)
      · exact zExt hz (sd 4 rfl)
      · exact zExt hz (sd 4 rfl)
      · exact zAl hz nd_rat al_r64
      · exact zSt (sd 5 rfl) st_q64
      · exact zAs hz (sd 6 rfl)
    intro a' γ' W' hz' hd' hC hk hh
    have ep5 := Cp5.lt
    have ep6 := Cp6.lt
    have ep7 := Cp7.lt
    have tp5 := Cp5.lt
    replace Cp5 := kC hC Cp5
    have tp6 := Cp6.lt
    replace Cp6 := kC hC Cp6
    have tp7 := Cp7.lt
    replace Cp7 := kC hC Cp7
    clear S2
    replace S8 := kp hk S8
    replace S13 := kp hk S13
    replace S14 := kp hk S14
    replace S15 := kp hk S15
    clear S3
    obtain ⟨p22, S16, Cp22, lp22, gp22⟩ := gotB hz' 8 hC hh rfl rfl rfl rfl rfl rfl
    have n_p22_p5 : p22 ≠ p5 := by omega
    have n_p22_p6 : p22 ≠ p6 := by omega
    have n_p22_p7 : p22 ≠ p7 := by omega
    have n_p5_p22 : p5 ≠ p22 := by have := ep5; omega
    have n_p6_p22 : p6 ≠ p22 := by have := ep6; omega
    have n_p7_p22 : p7 ≠ p22 := by have := ep7; omega
    have bp22 : w.heap.size ≤ p22 := Nat.le_trans HB.size lp22
    clear lp22 gp22
    clear tp5 tp6 tp7
    clear ep5 ep6 ep7
    replace HB := aft_call HB (RelC.below_nil hC)
    clear hC hk hh; replace hz := hz'; replace hd := hd'; clear hz' hd'
    refine wp_seq ?_
    refine region_text (M := []) (
        rT (tQ B64 960 (mkF l1 m1)) ::
        rT (tN B64 960 ((mkF l1 m1).floor.toNat)) ::
        rT (tN B64 1 1) ::
        rT (tT [tQ B64 960 (mkRat ((mkF l1 m1).floor.toNat) 1), tV (.bool (decide (1 ≠ 0)))]) ::
        rT (tT [tQ B64 960 (mkRat ((mkF l1 m1).floor.toNat) 1), tV (.bool (decide (1 ≠ 0)))]) ::
        rT (tQ B64 960 (mkRat ((mkF l1 m1).floor.toNat) 1)) ::
        rT (tV (.bool (decide (1 ≠ 0)))) ::
        rVar 7 29 2 ::
        rB 7 29 (tQ B64 960 (mkRat ((mkF l1 m1).floor.toNat) 1)) (some 7) 8 ::
        rT (tV (.bool (decide (1 ≠ 0)))) ::
        []) hz hd (by kernel_rfl) ?_ ?_
    · refine ⟨?_, ?_, ?_, ?_, ?_, ?_, ?_, ?_, ?_, ?_, trivial⟩
      · exact zLd hz (sv S14) Cp6 ld_q64
      · exact zC1 hz Try.func27 (sd 0 rfl) (fun _ _ h0 => cq_floor h0 (by decide))
      · exact zC1 hz Try.func13 (kc (v := .int .u64 1)) (k1 (fun _ => c_of (by decide)))
      · exact zC2 hz Try.func11 (sd 1 rfl) (sd 2 rfl) (fun _ _ _ h0 h1 => cq_from (l := 960) h0 h1 (by decide) (by decide) hfa.out (one_960 (m := 960) (Nat.le_refl _)) (by decide))
      · exact zMv hz (sd 3 rfl)
      · exact zExt hz (sd 4 rfl)
      · exact zExt hz (sd 4 rfl)
      · exact zAl hz nd_rat al_r64
      · exact zSt (sd 5 rfl) st_q64
      · exact zAs hz (sd 6 rfl)
    intro a' γ' W' hz' hd' hC hk hh
    have ep5 := Cp5.lt
    have ep6 := Cp6.lt
    have ep7 := Cp7.lt
    have ep22 := Cp22.lt
    have tp5 := Cp5.lt
    replace Cp5 := kC hC Cp5
    have tp6 := Cp6.lt
    replace Cp6 := kC hC Cp6
    have tp7 := Cp7.lt
    replace Cp7 := kC hC Cp7
    have tp22 := Cp22.lt
    replace Cp22 := kC hC Cp22
    replace S8 := kp hk S8
    replace S13 := kp hk S13
    replace S14 := kp hk S14
    replace S15 := kp hk S15
    replace S16 := kp hk S16
    obtain ⟨p23, S18, Cp23, lp23, gp23⟩ := gotB hz' 8 hC hh rfl rfl rfl rfl rfl rfl
    have n_p23_p5 : p23 ≠ p5 := by omega
    have n_p23_p6 : p23 ≠ p6 := by omega
    have n_p23_p7 : p23 ≠ p7 := by omega
    have n_p23_p22 : p23 ≠ p22 := by omega
    have n_p5_p23 : p5 ≠ p23 := by have := ep5; omega
    have n_p6_p23 : p6 ≠ p23 := by have := ep6; omega
    have n_p7_p23 : p7 ≠ p23 := by have := ep7; omega
    have n_p22_p23 : p22 ≠ p23 := by have := ep22; omega
    have bp23 : w.heap.size ≤ p23 := Nat.le_trans HB.size lp23
    clear lp23 gp23
    clear tp5 tp6 tp7 tp22
    clear ep5 ep6 ep7 ep22
    replace HB := aft_call HB (RelC.below_nil hC)
    clear hC hk hh; replace hz := hz'; replace hd := hd'; clear hz' hd'
    refine wp_seq ?_
    refine region_text (M := []) (
        rT (tQ B64 960 (mkRat ((mkF l1 m1).floor.toNat) 1)) ::
        rT (tQ B64 63 (ofQ (n1 : Int) ((d1 : Int) + 1))) ::
        rT (tQ B64 1024 ((mkRat ((mkF l1 m1).floor.toNat) 1) + (ofQ (n1 : Int) ((d1 : Int) + 1)))) ::
        rVar 3 29 2 ::
        rB 3 29 (tQ B64 1024 ((mkRat ((mkF l1 m1).floor.toNat) 1) + (ofQ (n1 : Int) ((d1 : Int) + 1)))) (some 3) 4 ::
        []) hz hd (by kernel_rfl) ?_ ?_
    · refine ⟨?_, ?_, ?_, ?_, ?_, trivial⟩
      · exact zLd hz (sv S18) Cp23 ld_q64
      · exact zLd hz (sv S16) Cp22 ld_q64
      · exact zC2 hz Try.func17 (sd 0 rfl) (sd 1 rfl) (fun _ _ _ h0 h1 => cq_add h0 h1 (by decide) (by decide))
      · exact zAl hz nd_rat al_r64
      · exact zSt (sd 2 rfl) st_q64
    intro a' γ' W' hz' hd' hC hk hh
    have ep5 := Cp5.lt
    have ep6 := Cp6.lt
    have ep7 := Cp7.lt
    have ep22 := Cp22.lt
    have ep23 := Cp23.lt
    have tp5 := Cp5.lt
    replace Cp5 := kC hC Cp5
    have tp6 := Cp6.lt
    replace Cp6 := kC hC Cp6
    have tp7 := Cp7.lt
    replace Cp7 := kC hC Cp7
    have tp22 := Cp22.lt
    clear Cp22
    have tp23 := Cp23.lt
    clear Cp23
    replace S8 := kp hk S8
    replace S13 := kp hk S13
    replace S14 := kp hk S14
    replace S15 := kp hk S15
    clear S16
    clear S18
    obtain ⟨p24, S20, Cp24, lp24, gp24⟩ := gotB hz' 4 hC hh rfl rfl rfl rfl rfl rfl
    have n_p24_p5 : p24 ≠ p5 := by omega
    have n_p24_p6 : p24 ≠ p6 := by omega
    have n_p24_p7 : p24 ≠ p7 := by omega
    have n_p5_p24 : p5 ≠ p24 := by have := ep5; omega
    have n_p6_p24 : p6 ≠ p24 := by have := ep6; omega
    have n_p7_p24 : p7 ≠ p24 := by have := ep7; omega
    have bp24 : w.heap.size ≤ p24 := Nat.le_trans HB.size lp24
    clear lp24 gp24
    clear tp5 tp6 tp7 tp22 tp23
    clear ep5 ep6 ep7 ep22 ep23
    replace HB := aft_call HB (RelC.below_nil hC)
    clear hC hk hh; replace hz := hz'; replace hd := hd'; clear hz' hd'
    refine wp_seq ?_
    refine wp_seq ?_
    by_cases hc25 : (mkRat ((mkF l1 m1).floor.toNat) 1) + (ofQ (n1 : Int) ((d1 : Int) + 1)) < mkF l1 m1
    · refine region_text (M := []) (
          rT (tQ B64 1024 ((mkRat ((mkF l1 m1).floor.toNat) 1) + (ofQ (n1 : Int) ((d1 : Int) + 1)))) ::
          rT (tQ B64 960 (mkF l1 m1)) ::
          rT (tV (.int .i64 (cmpQ ((mkRat ((mkF l1 m1).floor.toNat) 1) + (ofQ (n1 : Int) ((d1 : Int) + 1))) (mkF l1 m1)))) ::
          rT (tV (.bool true)) ::
          rT (tV (.bool true)) ::
          rT (tV undef) ::
          rT (tV undef) ::
          rT (tV undef) ::
          rT (tV undef) ::
          rT (tV (.bool true)) ::
          []) hz hd (by kernel_rfl) ?_ ?_
      · refine ⟨?_, ?_, ?_, ?_, ?_, ?_, ?_, ?_, ?_, ?_, trivial⟩
        · exact zLd hz (sv S20) Cp24 ld_q64
        · exact zLd hz (sv S14) Cp6 ld_q64
        · exact zC2 hz Try.func38 (sd 0 rfl) (sd 1 rfl) (fun _ _ _ h0 h1 => cq_cmp h0 h1 (by decide) (by decide))
        · exact sBin rfl rfl rfl hz rfl (Gd.none_ rfl) rfl (sd 2 rfl) kc (fun w => run_t (P := (mkRat ((mkF l1 m1).floor.toNat) 1) + (ofQ (n1 : Int) ((d1 : Int) + 1)) < mkF l1 m1) ((fun w => run_cQ_lss ((mkRat ((mkF l1 m1).floor.toNat) 1) + (ofQ (n1 : Int) ((d1 : Int) + 1))) (mkF l1 m1) w) w) hc25)
        · exact zMv hz (sd 3 rfl)
        · exact zSkU hz (gN 4 rfl)
        · exact zSkU hz (gN 4 rfl)
        · exact zSkU hz (gN 4 rfl)
        · exact zSkU hz (gN 4 rfl)
        · exact zPT hz (sd 4 rfl) kc
      intro a' γ' W' hz' hd' hC hk hh
      have tp5 := Cp5.lt
      replace Cp5 := kC hC Cp5
      have tp6 := Cp6.lt
      clear Cp6
      have tp7 := Cp7.lt
      clear Cp7
      have tp24 := Cp24.lt
      replace Cp24 := kC hC Cp24
      replace S8 := kp hk S8
      replace S13 := kp hk S13
      clear S14
      clear S15
      replace S20 := kp hk S20
      have S90 := gotV hz' 9 hh rfl rfl rfl rfl
      clear tp5 tp6 tp7 tp24
      replace HB := aft_call HB (RelC.below_nil hC)
      clear hC hk hh; replace hz := hz'; replace hd := hd'; clear hz' hd'
      refine wp_cond_true S90.ev ?_
      refine wp_seq ?_
      refine region_text (M := []) (
          rT (tV (.bool true)) ::
          []) hz hd (by kernel_rfl) ?_ ?_
      · refine ⟨?_, trivial⟩
        · exact zAs hz kc
      intro a' γ' W' hz' hd' hC hk hh
      have tp5 := Cp5.lt
      replace Cp5 := kC hC Cp5
      have tp24 := Cp24.lt
      replace Cp24 := kC hC Cp24
      clear S8
      replace S13 := kp hk S13
      replace S20 := kp hk S20
      clear S90
      have S8 := gotV hz' 0 hh rfl rfl rfl rfl
      clear tp5 tp24
      replace HB := aft_call HB (RelC.below_nil hC)
      clear hC hk hh; replace hz := hz'; replace hd := hd'; clear hz' hd'
      refine wp_ret ?_
      refine ret_to (T := tV (.bool true)) (ret1 (by kernel_rfl) S8 hd ⟨_, rfl, rfl, HB⟩) ?_
      exact fun _ _ h => h
    · refine region_text (M := []) (
          rT (tQ B64 1024 ((mkRat ((mkF l1 m1).floor.toNat) 1) + (ofQ (n1 : Int) ((d1 : Int) + 1)))) ::
          rT (tQ B64 960 (mkF l1 m1)) ::
          rT (tV (.int .i64 (cmpQ ((mkRat ((mkF l1 m1).floor.toNat) 1) + (ofQ (n1 : Int) ((d1 : Int) + 1))) (mkF l1 m1)))) ::
          rT (tV (.bool false)) ::
          rT (tV (.bool false)) ::
          rT (tQ B64 1024 ((mkRat ((mkF l1 m1).floor.toNat) 1) + (ofQ (n1 : Int) ((d1 : Int) + 1)))) ::
          rT (tQ B64 960 (mkF l2 m2)) ::
          rT (tV (.int .i64 (cmpQ ((mkRat ((mkF l1 m1).floor.toNat) 1) + (ofQ (n1 : Int) ((d1 : Int) + 1))) (mkF l2 m2)))) ::
          rT (tV (.bool (decide (mkF l2 m2 < (mkRat ((mkF l1 m1).floor.toNat) 1) + (ofQ (n1 : Int) ((d1 : Int) + 1)))))) ::
          rT (tV (.bool (decide (mkF l2 m2 < (mkRat ((mkF l1 m1).floor.toNat) 1) + (ofQ (n1 : Int) ((d1 : Int) + 1)))))) ::
          []) hz hd (by kernel_rfl) ?_ ?_
      · refine ⟨?_, ?_, ?_, ?_, ?_, ?_, ?_, ?_, ?_, ?_, trivial⟩
        · exact zLd hz (sv S20) Cp24 ld_q64
        · exact zLd hz (sv S14) Cp6 ld_q64
        · exact zC2 hz Try.func38 (sd 0 rfl) (sd 1 rfl) (fun _ _ _ h0 h1 => cq_cmp h0 h1 (by decide) (by decide))
        · exact sBin rfl rfl rfl hz rfl (Gd.none_ rfl) rfl (sd 2 rfl) kc (fun w => run_f (P := (mkRat ((mkF l1 m1).floor.toNat) 1) + (ofQ (n1 : Int) ((d1 : Int) + 1)) < mkF l1 m1) ((fun w => run_cQ_lss ((mkRat ((mkF l1 m1).floor.toNat) 1) + (ofQ (n1 : Int) ((d1 : Int) + 1))) (mkF l1 m1) w) w) hc25)
        · exact zMv hz (sd 3 rfl)
        · exact zLd hz (sv S20) Cp24 ld_q64 (g := gT 4 rfl)
        · exact zLd hz (sv S15) Cp7 ld_q64 (g := gT 4 rfl)
        · exact zC2 hz Try.func38 (sd 5 rfl) (sd 6 rfl) (fun _ _ _ h0 h1 => cq_cmp h0 h1 (by decide) (by decide)) (g := gT 4 rfl)
        · exact sBin rfl rfl rfl hz rfl (gT 4 rfl) rfl (sd 7 rfl) kc (fun w => run_cQ_gtr ((mkRat ((mkF l1 m1).floor.toNat) 1) + (ofQ (n1 : Int) ((d1 : Int) + 1))) (mkF l2 m2) w)
        · exact zPF hz (sd 4 rfl) (sd 8 rfl)
      intro a' γ' W' hz' hd' hC hk hh
      have tp5 := Cp5.lt
      replace Cp5 := kC hC Cp5
      have tp6 := Cp6.lt
      clear Cp6
      have tp7 := Cp7.lt
      clear Cp7
      have tp24 := Cp24.lt
      replace Cp24 := kC hC Cp24
      replace S8 := kp hk S8
      replace S13 := kp hk S13
      clear S14
      clear S15
      replace S20 := kp hk S20
      have S90 := gotV hz' 9 hh rfl rfl rfl rfl
      clear tp5 tp6 tp7 tp24
      replace HB := aft_call HB (RelC.below_nil hC)
      clear hC hk hh; replace hz := hz'; replace hd := hd'; clear hz' hd'
      by_cases hc26 : mkF l2 m2 < (mkRat ((mkF l1 m1).floor.toNat) 1) + (ofQ (n1 : Int) ((d1 : Int) + 1))
      · rw [decide_eq_true hc26] at S90
        refine wp_cond_true S90.ev ?_
        refine wp_seq ?_
        refine region_text (M := []) (
            rT (tV (.bool true)) ::
            []) hz hd (by kernel_rfl) ?_ ?_
        · refine ⟨?_, trivial⟩
          · exact zAs hz kc
        intro a' γ' W' hz' hd' hC hk hh
        have tp5 := Cp5.lt
        replace Cp5 := kC hC Cp5
        have tp24 := Cp24.lt
        replace Cp24 := kC hC Cp24
        clear S8
        replace S13 := kp hk S13
        replace S20 := kp hk S20
        clear S90
        have S8 := gotV hz' 0 hh rfl rfl rfl rfl
        clear tp5 tp24
        replace HB := aft_call HB (RelC.below_nil hC)
        clear hC hk hh; replace hz := hz'; replace hd := hd'; clear hz' hd'
        refine wp_ret ?_
        refine ret_to (T := tV (.bool true)) (ret1 (by kernel_rfl) S8 hd ⟨_, rfl, rfl, HB⟩) ?_
        exact fun _ _ h => h
      · rw [decide_eq_false hc26] at S90
        refine wp_cond_false S90.ev ?_
        refine wp_skip ?_
        refine wp_seq ?_
        refine region_text (M := []) (
            rT (tQ B64 960 (btw (mkF l1 m1) (mkF l2 m2))) ::
            rT (tT [tN B64 960 ((btw (mkF l1 m1) (mkF l2 m2)).num.toNat), tN B64 961 ((btw (mkF l1 m1) (mkF l2 m2)).den)]) ::
            rT (tT [tN B64 960 ((btw (mkF l1 m1) (mkF l2 m2)).num.toNat), tN B64 961 ((btw (mkF l1 m1) (mkF l2 m2)).den)]) ::
            rT (tN B64 960 ((btw (mkF l1 m1) (mkF l2 m2)).num.toNat)) ::
            rT (tN B64 961 ((btw (mkF l1 m1) (mkF l2 m2)).den)) ::
            rVar 5 27 1 ::
            rVar 6 27 1 ::
            rB 5 27 (tN B64 960 ((btw (mkF l1 m1) (mkF l2 m2)).num.toNat)) (some 5) 6 ::
            rB 6 27 (tN B64 961 ((btw (mkF l1 m1) (mkF l2 m2)).den)) (some 6) 7 ::
            []) hz hd (by kernel_rfl) ?_ ?_
        · refine ⟨?_, ?_, ?_, ?_, ?_, ?_, ?_, ?_, ?_, trivial⟩
          · exact zLd hz (sv S13) Cp5 ld_q64
          · exact zC1 hz Try.func18 (sd 0 rfl) (fun _ _ h0 => cq_parts h0 (by decide))
          · exact zMv hz (sd 1 rfl)
          · exact zExt hz (sd 2 rfl)
          · exact zExt hz (sd 2 rfl)
          · exact zAl hz nd_slice al_n64
          · exact zAl hz nd_slice al_n64
          · exact zSt (sd 3 rfl) st_n64
          · exact zSt (sd 4 rfl) st_n64
        intro a' γ' W' hz' hd' hC hk hh
        have ep5 := Cp5.lt
        have ep24 := Cp24.lt
        have tp5 := Cp5.lt
        replace Cp5 := kC hC Cp5
        have tp24 := Cp24.lt
        replace Cp24 := kC hC Cp24
        replace S8 := kp hk S8
        replace S13 := kp hk S13
        replace S20 := kp hk S20
        clear S90
        obtain ⟨p27, S22, Cp27, lp27, gp27⟩ := gotB hz' 8 hC hh rfl rfl rfl rfl rfl rfl
        have n_p27_p5 : p27 ≠ p5 := by omega
        have n_p27_p24 : p27 ≠ p24 := by omega
        have n_p5_p27 : p5 ≠ p27 := by have := ep5; omega
        have n_p24_p27 : p24 ≠ p27 := by have := ep24; omega
        have bp27 : w.heap.size ≤ p27 := Nat.le_trans HB.size lp27
        clear lp27 gp27
        clear tp5 tp24
        clear ep5 ep24
        replace HB := aft_call HB (RelC.below_nil hC)
        clear hC hk hh; replace hz := hz'; replace hd := hd'; clear hz' hd'
        refine wp_seq ?_
        refine region_text (M := []) (
            rT (tQ B64 1024 ((mkRat ((mkF l1 m1).floor.toNat) 1) + (ofQ (n1 : Int) ((d1 : Int) + 1)))) ::
            rT (tT [tN B64 1024 (((mkRat ((mkF l1 m1).floor.toNat) 1) + (ofQ (n1 : Int) ((d1 : Int) + 1))).num.toNat), tN B64 1025 (((mkRat ((mkF l1 m1).floor.toNat) 1) + (ofQ (n1 : Int) ((d1 : Int) + 1))).den)]) ::
            rT (tT [tN B64 1024 (((mkRat ((mkF l1 m1).floor.toNat) 1) + (ofQ (n1 : Int) ((d1 : Int) + 1))).num.toNat), tN B64 1025 (((mkRat ((mkF l1 m1).floor.toNat) 1) + (ofQ (n1 : Int) ((d1 : Int) + 1))).den)]) ::
            rT (tN B64 1024 (((mkRat ((mkF l1 m1).floor.toNat) 1) + (ofQ (n1 : Int) ((d1 : Int) + 1))).num.toNat)) ::
            rT (tN B64 1025 (((mkRat ((mkF l1 m1).floor.toNat) 1) + (ofQ (n1 : Int) ((d1 : Int) + 1))).den)) ::
            rVar 5 27 1 ::
            rVar 6 27 1 ::
            rB 5 27 (tN B64 1024 (((mkRat ((mkF l1 m1).floor.toNat) 1) + (ofQ (n1 : Int) ((d1 : Int) + 1))).num.toNat)) (some 5) 6 ::
            rB 6 27 (tN B64 1025 (((mkRat ((mkF l1 m1).floor.toNat) 1) + (ofQ (n1 : Int) ((d1 : Int) + 1))).den)) (some 6) 7 ::
            []) hz hd (by kernel_rfl) ?_ ?_
        · refine ⟨?_, ?_, ?_, ?_, ?_, ?_, ?_, ?_, ?_, trivial⟩
          · exact zLd hz (sv S20) Cp24 ld_q64
          · exact zC1 hz Try.func18 (sd 0 rfl) (fun _ _ h0 => cq_parts h0 (by decide))
          · exact zMv hz (sd 1 rfl)
          · exact zExt hz (sd 2 rfl)
          · exact zExt hz (sd 2 rfl)
          · exact zAl hz nd_slice al_n64
          · exact zAl hz nd_slice al_n64
          · exact zSt (sd 3 rfl) st_n64
          · exact zSt (sd 4 rfl) st_n64
        intro a' γ' W' hz' hd' hC hk hh
        have ep5 := Cp5.lt
        have ep24 := Cp24.lt
        have ep27 := Cp27.lt
        have tp5 := Cp5.lt
        replace Cp5 := kC hC Cp5
        have tp24 := Cp24.lt
        replace Cp24 := kC hC Cp24
        have tp27 := Cp27.lt
        replace Cp27 := kC hC Cp27
        replace S8 := kp hk S8
        replace S13 := kp hk S13
        replace S20 := kp hk S20
        replace S22 := kp hk S22
        obtain ⟨p28, S24, Cp28, lp28, gp28⟩ := gotB hz' 8 hC hh rfl rfl rfl rfl rfl rfl
        have n_p28_p5 : p28 ≠ p5 := by omega
        have n_p28_p24 : p28 ≠ p24 := by omega
        have n_p28_p27 : p28 ≠ p27 := by omega
        have n_p5_p28 : p5 ≠ p28 := by have := ep5; omega
        have n_p24_p28 : p24 ≠ p28 := by have := ep24; omega
        have n_p27_p28 : p27 ≠ p28 := by have := ep27; omega
        have bp28 : w.heap.size ≤ p28 := Nat.le_trans HB.size lp28
        clear lp28 gp28
        clear tp5 tp24 tp27
        clear ep5 ep24 ep27
        replace HB := aft_call HB (RelC.below_nil hC)
        clear hC hk hh; replace hz := hz'; replace hd := hd'; clear hz' hd'
        refine wp_seq ?_
        refine region_text (M := []) (
            rT (tN B64 961 ((btw (mkF l1 m1) (mkF l2 m2)).den)) ::
            rT (tN B64 1025 (((mkRat ((mkF l1 m1).floor.toNat) 1) + (ofQ (n1 : Int) ((d1 : Int) + 1))).den)) ::
            rT (tV (.int .i64 (cmpI ((btw (mkF l1 m1) (mkF l2 m2)).den) (((mkRat ((mkF l1 m1).floor.toNat) 1) + (ofQ (n1 : Int) ((d1 : Int) + 1))).den)))) ::
            rT (tV (.int .i64 (cmpI ((btw (mkF l1 m1) (mkF l2 m2)).den) (((mkRat ((mkF l1 m1).floor.toNat) 1) + (ofQ (n1 : Int) ((d1 : Int) + 1))).den)))) ::
            []) hz hd (by kernel_rfl) ?_ ?_
        · refine ⟨?_, ?_, ?_, ?_, trivial⟩
          · exact zLd hz (sv S22) Cp27 ld_n64
          · exact zLd hz (sv S24) Cp28 ld_n64
          · exact zC2 hz Try.func43 (sd 0 rfl) (sd 1 rfl) (fun _ _ _ h0 h1 => c_cmp h0 h1 (by decide) (by decide))
          · exact zAs hz (sd 2 rfl)
        intro a' γ' W' hz' hd' hC hk hh
        have tp5 := Cp5.lt
        replace Cp5 := kC hC Cp5
        have tp24 := Cp24.lt
        replace Cp24 := kC hC Cp24
        have tp27 := Cp27.lt
        clear Cp27
        have tp28 := Cp28.lt
        clear Cp28
        replace S8 := kp hk S8
        replace S13 := kp hk S13
        replace S20 := kp hk S20
        clear S22
        clear S24
        have S25 := gotV hz' 3 hh rfl rfl rfl rfl
        clear tp5 tp24 tp27 tp28
        replace HB := aft_call HB (RelC.below_nil hC)
        clear hC hk hh; replace hz := hz'; replace hd := hd'; clear hz' hd'
        refine wp_seq ?_
        by_cases hc29 : (btw (mkF l1 m1) (mkF l2 m2)).den < ((mkRat ((mkF l1 m1).floor.toNat) 1) + (ofQ (n1 : Int) ((d1 : Int) + 1))).den
        · refine region_text (M := []) (
              rT (tV (.int .i64 (cmpI ((btw (mkF l1 m1) (mkF l2 m2)).den) (((mkRat ((mkF l1 m1).floor.toNat) 1) + (ofQ (n1 : Int) ((d1 : Int) + 1))).den)))) ::
              rT (tV (.bool true)) ::
              rT (tV (.bool true)) ::
              rT (tV undef) ::
              rT (tV undef) ::
              rT (tV undef) ::
              rT (tV undef) ::
              rT (tV undef) ::
              rT (tV undef) ::
              rT (tV undef) ::
              rT (tV undef) ::
              rT (tV (.bool true)) ::
              rT (tV (.bool true)) ::
              []) hz hd (by kernel_rfl) ?_ ?_
          · refine ⟨?_, ?_, ?_, ?_, ?_, ?_, ?_, ?_, ?_, ?_, ?_, ?_, ?_, trivial⟩
            · exact zMv hz (sv S25)
            · exact sBin rfl rfl rfl hz rfl (Gd.none_ rfl) rfl (sd 0 rfl) kc (fun w => run_t (P := (btw (mkF l1 m1) (mkF l2 m2)).den < ((mkRat ((mkF l1 m1).floor.toNat) 1) + (ofQ (n1 : Int) ((d1 : Int) + 1))).den) ((fun w => run_cI_lss ((btw (mkF l1 m1) (mkF l2 m2)).den) (((mkRat ((mkF l1 m1).floor.toNat) 1) + (ofQ (n1 : Int) ((d1 : Int) + 1))).den) w) w) hc29)
            · exact zMv hz (sd 1 rfl)
            · exact zSkU hz (gN 2 rfl)
            · exact zSkU hz (gN 2 rfl)
            · exact zSkU hz (gN 2 rfl)
            · exact zSkU hz (gU 5 rfl)
            · exact zSkU hz (gU 5 rfl)
            · exact zSkU hz (gU 5 rfl)
            · exact zSkU hz (gU 5 rfl)
            · exact zSkU hz (gN 2 rfl)
            · exact zPT hz (sd 2 rfl) kc
            · exact zAs hz (sd 11 rfl)
          intro a' γ' W' hz' hd' hC hk hh
          have tp5 := Cp5.lt
          clear Cp5
          have tp24 := Cp24.lt
          clear Cp24
          clear S8
          clear S13
          clear S20
          clear S25
          have S8 := gotV hz' 12 hh rfl rfl rfl rfl
          clear tp5 tp24
          replace HB := aft_call HB (RelC.below_nil hC)
          clear hC hk hh; replace hz := hz'; replace hd := hd'; clear hz' hd'
          refine wp_ret ?_
          refine ret_to (T := tV (.bool true)) (ret1 (by kernel_rfl) S8 hd ⟨_, rfl, rfl, HB⟩) ?_
          exact fun _ _ h => h
        · have hc30 : (btw (mkF l1 m1) (mkF l2 m2)).den = ((mkRat ((mkF l1 m1).floor.toNat) 1) + (ofQ (n1 : Int) ((d1 : Int) + 1))).den := (bs_den hs hc25 hc26 hc29)
          refine region_text (M := []) (
              rT (tV (.int .i64 (cmpI ((btw (mkF l1 m1) (mkF l2 m2)).den) (((mkRat ((mkF l1 m1).floor.toNat) 1) + (ofQ (n1 : Int) ((d1 : Int) + 1))).den)))) ::
              rT (tV (.bool false)) ::
              rT (tV (.bool false)) ::
              rT (tV (.int .i64 (cmpI ((btw (mkF l1 m1) (mkF l2 m2)).den) (((mkRat ((mkF l1 m1).floor.toNat) 1) + (ofQ (n1 : Int) ((d1 : Int) + 1))).den)))) ::
              rT (tV (.bool true)) ::
              rT (tV (.bool true)) ::
              rT (tQ B64 960 (btw (mkF l1 m1) (mkF l2 m2))) ::
              rT (tQ B64 1024 ((mkRat ((mkF l1 m1).floor.toNat) 1) + (ofQ (n1 : Int) ((d1 : Int) + 1)))) ::
              rT (tV (.int .i64 (cmpQ (btw (mkF l1 m1) (mkF l2 m2)) ((mkRat ((mkF l1 m1).floor.toNat) 1) + (ofQ (n1 : Int) ((d1 : Int) + 1)))))) ::
              rT (tV (.bool (decide (btw (mkF l1 m1) (mkF l2 m2) ≤ (mkRat ((mkF l1 m1).floor.toNat) 1) + (ofQ (n1 : Int) ((d1 : Int) + 1)))))) ::
              rT (tV (.bool (decide (btw (mkF l1 m1) (mkF l2 m2) ≤ (mkRat ((mkF l1 m1).floor.toNat) 1) + (ofQ (n1 : Int) ((d1 : Int) + 1)))))) ::
              rT (tV (.bool (decide (btw (mkF l1 m1) (mkF l2 m2) ≤ (mkRat ((mkF l1 m1).floor.toNat) 1) + (ofQ (n1 : Int) ((d1 : Int) + 1)))))) ::
              rT (tV (.bool (decide (btw (mkF l1 m1) (mkF l2 m2) ≤ (mkRat ((mkF l1 m1).floor.toNat) 1) + (ofQ (n1 : Int) ((d1 : Int) + 1)))))) ::
              []) hz hd (by kernel_rfl) ?_ ?_
          · refine ⟨?_, ?_, ?_, ?_, ?_, ?_, ?_, ?_, ?_, ?_, ?_, ?_, ?_, trivial⟩
            · exact zMv hz (sv S25)
            · exact sBin rfl rfl rfl hz rfl (Gd.none_ rfl) rfl (sd 0 rfl) kc (fun w => run_f (P := (btw (mkF l1 m1) (mkF l2 m2)).den < ((mkRat ((mkF l1 m1).floor.toNat) 1) + (ofQ (n1 : Int) ((d1 : Int) + 1))).den) ((fun w => run_cI_lss ((btw (mkF l1 m1) (mkF l2 m2)).den) (((mkRat ((mkF l1 m1).floor.toNat) 1) + (ofQ (n1 : Int) ((d1 : Int) + 1))).den) w) w) hc29)
            · exact zMv hz (sd 1 rfl)
            · exact zMv hz (sv S25) (g := gT 2 rfl)
            · exact sBin rfl rfl rfl hz rfl (gT 2 rfl) rfl (sd 3 rfl) kc (fun w => run_t (P := (btw (mkF l1 m1) (mkF l2 m2)).den = ((mkRat ((mkF l1 m1).floor.toNat) 1) + (ofQ (n1 : Int) ((d1 : Int) + 1))).den) ((fun w => run_cI_eql ((btw (mkF l1 m1) (mkF l2 m2)).den) (((mkRat ((mkF l1 m1).floor.toNat) 1) + (ofQ (n1 : Int) ((d1 : Int) + 1))).den) w) w) hc30)
            · exact zMv hz (sd 4 rfl) (g := gT 2 rfl)
            · exact zLd hz (sv S13) Cp5 ld_q64 (g := gT 5 rfl)
            · exact zLd hz (sv S20) Cp24 ld_q64 (g := gT 5 rfl)
            · exact zC2 hz Try.func38 (sd 6 rfl) (sd 7 rfl) (fun _ _ _ h0 h1 => cq_cmp h0 h1 (by decide) (by decide)) (g := gT 5 rfl)
            · exact sBin rfl rfl rfl hz rfl (gT 5 rfl) rfl (sd 8 rfl) kc (fun w => run_cQ_leq (btw (mkF l1 m1) (mkF l2 m2)) ((mkRat ((mkF l1 m1).floor.toNat) 1) + (ofQ (n1 : Int) ((d1 : Int) + 1))) w)
            · exact zPT hz (sd 5 rfl) (sd 9 rfl) (g := gT 2 rfl)
            · exact zPF hz (sd 2 rfl) (sd 10 rfl)
            · exact zAs hz (sd 11 rfl)
          intro a' γ' W' hz' hd' hC hk hh
          have tp5 := Cp5.lt
          clear Cp5
          have tp24 := Cp24.lt
          clear Cp24
          clear S8
          clear S13
          clear S20
          clear S25
          have S8 := gotV hz' 12 hh rfl rfl rfl rfl
          clear tp5 tp24
          replace HB := aft_call HB (RelC.below_nil hC)
          clear hC hk hh; replace hz := hz'; replace hd := hd'; clear hz' hd'
          refine wp_ret ?_
          refine ret_to (T := tV (.bool (decide (btw (mkF l1 m1) (mkF l2 m2) ≤ (mkRat ((mkF l1 m1).floor.toNat) 1) + (ofQ (n1 : Int) ((d1 : Int) + 1)))))) (ret1 (by kernel_rfl) S8 hd ⟨_, rfl, rfl, HB⟩) ?_
          exact tV_to (by rw [decide_eq_true (bs_le hs hc25 hc26 hc30)])
end Go.Proofs.Ythanbjbcpljcoaa.Rg

namespace Go.Proofs.Ythanbjbcpljcoaa.Rg

open Go.RowKit

theorem ratBetween_walk (v0 : Value) (l1 m1 : List Nat) (v1 : Value) (l2 m2 : List Nat) (n d : Int) (w : World) (h0 : (tF l1 m1).p v0 w) (h1 : (tF l2 m2).p v1 w) (hn : (Lit.int .i64 n).wf = true) (hd : (Lit.int .i64 d).wf = true) : Calls Try.prog 7 #[v0, v1, .int .i64 n, .int .i64 d] w fun e w' => e = .returned (.bool true) ∧ Below w.heap.size w w' := by
  obtain ⟨n1, hn1, en⟩ := and_i64 n 12 (by omega)
  obtain ⟨d1, hd1, ed⟩ := and_i64 d 12 (by omega)
  exact ret_out (ratBetween_ret h0 h1 en ed hn1 hd1 (by rw [IntKind.wrap_i64]; omega))
end Go.Proofs.Ythanbjbcpljcoaa.Rg
