/-
  Walks and plain laws, put together: UF UG T4.
-/
import Derived.Test.YthanbjbcpljcoaaQg
import Derived.Test.YthanbjbcpljcoaaXBC
set_option linter.unusedVariables false
set_option linter.unusedSimpArgs false
namespace Go.Proofs.Ythanbjbcpljcoaa.Rg

open Go.RowKit

/-- What a call makes. -/
noncomputable def playV (f : Nat → Rat) (kind : Int) (a b c : Nat) (n : Int) : Rat :=
  if kind = 0 then f a + f b else if kind = 1 then subQ (f a) (f b) else if kind = 2 then f a * f b else if kind = 3 then f a / f b else if kind = 4 then mulI (f a) n else if kind = 5 then divI (f a) n else if kind = 6 then 0 + f a + f b + f c else if kind = 7 then btw (f a) (f b) else f a
theorem pl_eqb {b : Bool} {ox oy : Operand} (w : World) : (do eqGuard .eql 4 ox oy (.bool b) (.bool b); binOp .eql 4 (.bool b) (.bool b) : Sem Value).run Try.prog w = .ok (.bool true) w := by
  cases b <;> simp [go_sem]
theorem to3 {T1 T2 T3 U1 U2 U3 : Ty} (h1 : ∀ v w, T1.p v w → U1.p v w) (h2 : ∀ v w, T2.p v w → U2.p v w) (h3 : ∀ v w, T3.p v w → U3.p v w) : ∀ v w, (tT [T1, T2, T3]).p v w → (tT [U1, U2, U3]).p v w := by
  rintro v w ⟨vs, e, ha⟩
  obtain ⟨v1, v2, v3, rfl, g1, g2, g3⟩ := allT3 ha
  exact ⟨[v1, v2, v3], e, h1 _ _ g1, h2 _ _ g2, h3 _ _ g3, trivial⟩

set_option maxRecDepth 10000 in
set_option maxHeartbeats 2000000 in
theorem l_play {f : Nat → Rat} {kind n : Int} {ia ib ic : Nat} {v0 v1 : Value} {w : World} (h0 : (tA fun j => tQ B64 3000 (f j)).p v0 w) (h1 : (tA fun j => tQ B32 3000 (f j)).p v1 w) (h4ia : ia < 4) (h4ib : ib < 4) (h4ic : ic < 4) (hc3 : bits .and .i64 n 3 = (ic : Int)) (hn1 : -9223372036854775808 ≤ n) (hn2 : n < 9223372036854775808) :
    Calls Try.prog 45 #[v0, v1, .int .i64 kind, .int .i64 (ia : Int), .int .i64 (ib : Int), .int .i64 n] w (Ret (tT [tQ B64 20000 (playV f kind ia ib ic n), tQ B32 20000 (playV f kind ia ib ic n), tV (.bool true)]) w) := by
 refine enter Try.func45 rfl Try.ntmps45 (by simp) ?_
 intro a hz hd ha
 have S0 := ha 0 _ rfl
 have H0 := h0
 have S1 := ha 1 _ rfl
 have H1 := h1
 have S2 := ha 2 _ rfl
 have S3 := ha 3 _ rfl
 have S4 := ha 4 _ rfl
 have S5 := ha 5 _ rfl
 clear ha
 have HB : Below w.heap.size w w := Below.refl _ _
 refine wp_seq ?_
 refine region_text (M := []) (
  rB 0 76 (tA (fun j => tQ B64 3000 (f j))) none 0 ::
  rB 1 77 (tA (fun j => tQ B32 3000 (f j))) none 0 ::
  rB 2 29 (tQ B64 1 0) none 0 ::
  rB 3 33 (tR B32 0 0 0 0) none 0 ::
  rT (tV (.bool false)) ::
  []) hz hd (by kernel_rfl) ?_ ?_
 refine ⟨?_, ?_, ?_, ?_, ?_, trivial⟩
 exact zBox hz (so S0 H0) box_a64
 exact zBox hz (so S1 H1) box_a32
 exact zNew hz (fun _ => tQ_nil) al_r64
 exact zNew hz (fun _ => tR_nil) al_r32
 exact zAs hz kc
 intro a' γ' W' hz' hd' hC hk hh
 clear S0 H0
 clear S1 H1
 replace S2 := kp hk S2
 replace S3 := kp hk S3
 replace S4 := kp hk S4
 replace S5 := kp hk S5
 obtain ⟨p1, S6, Cp1, lp1, gp1⟩ := gotB hz' 0 hC hh rfl rfl rfl rfl rfl rfl
 obtain ⟨p2, S7, Cp2, lp2, gp2⟩ := gotB hz' 1 hC hh rfl rfl rfl rfl rfl rfl
 obtain ⟨p3, S12, Cp3, lp3, gp3⟩ := gotB hz' 2 hC hh rfl rfl rfl rfl rfl rfl
 obtain ⟨p4, S13, Cp4, lp4, gp4⟩ := gotB hz' 3 hC hh rfl rfl rfl rfl rfl rfl
 have S14 := gotV hz' 4 hh rfl rfl rfl rfl
 have n_p1_p3 : p1 ≠ p3 := by intro e; rw [e, gp3] at gp1; omega
 have n_p1_p4 : p1 ≠ p4 := by intro e; rw [e, gp4] at gp1; omega
 have n_p2_p3 : p2 ≠ p3 := by intro e; rw [e, gp3] at gp2; omega
 have n_p2_p4 : p2 ≠ p4 := by intro e; rw [e, gp4] at gp2; omega
 have n_p3_p4 : p3 ≠ p4 := by intro e; rw [e, gp4] at gp3; omega
 have n_p4_p3 : p4 ≠ p3 := by intro e; rw [e, gp3] at gp4; omega
 have bp3 : w.heap.size ≤ p3 := Nat.le_trans HB.size lp3
 have bp4 : w.heap.size ≤ p4 := Nat.le_trans HB.size lp4
 clear lp1 gp1 lp2 gp2 lp3 gp3 lp4 gp4
 replace HB := aft_call HB (RelC.below_nil hC)
 clear hC hk hh; replace hz := hz'; replace hd := hd'; clear hz' hd'
 refine wp_seq ?_
 refine region_drawn (M := []) (
  rT (tV (.int .i64 (ia : Int))) ::
  rT (tV (.pointer (some ⟨p1, ia * 2, none⟩))) ::
  rT (tQ B64 3000 (f ia)) ::
  rT (tV (.int .i64 (ia : Int))) ::
  rT (tV (.pointer (some ⟨p2, ia * 2, none⟩))) ::
  rT (tQ B32 3000 (f ia)) ::
  rVar 6 29 2 ::
  rVar 7 33 2 ::
  rB 6 29 (tQ B64 3000 (f ia)) (some 6) 7 ::
  rB 7 33 (tQ B32 3000 (f ia)) (some 7) 8 ::
  []) hz hd (by kernel_rfl) (by kernel_rfl) ?_ ?_
 refine ⟨?_, ?_, ?_, ?_, ?_, ?_, ?_, ?_, ?_, ?_, trivial⟩
 exact zMv hz (sv S3)
 exact zIxA hz (sv S6) (sd 0 rfl) (ix_a64 h4ia)
 exact zLdA hz (sd 1 rfl) (cl0 Cp1) ldo_q64 h4ia
 exact zMv hz (sv S3)
 exact zIxA hz (sv S7) (sd 3 rfl) (ix_a32 h4ia)
 exact zLdA hz (sd 4 rfl) (cl0 Cp2) ldo_q32 h4ia
 exact zAl hz nd_rat al_r64
 exact zAl hz nd_rat al_r32
 exact zSt (sd 2 rfl) st_q64
 exact zSt (sd 5 rfl) st_q32
 intro a' γ' W' hz' hd' hC hk hh
 have ep1 := Cp1.lt
 have ep2 := Cp2.lt
 have ep3 := Cp3.lt
 have ep4 := Cp4.lt
 replace Cp1 := kC hC Cp1
 replace Cp2 := kC hC Cp2
 have tp3 := Cp3.lt
 replace Cp3 := kC hC Cp3
 have tp4 := Cp4.lt
 replace Cp4 := kC hC Cp4
 replace S2 := kp hk S2
 replace S3 := kp hk S3
 replace S4 := kp hk S4
 replace S5 := kp hk S5
 replace S6 := kp hk S6
 replace S7 := kp hk S7
 replace S12 := kp hk S12
 replace S13 := kp hk S13
 replace S14 := kp hk S14
 obtain ⟨p5, S15, Cp5, lp5, gp5⟩ := gotB hz' 8 hC hh rfl rfl rfl rfl rfl rfl
 obtain ⟨p6, S16, Cp6, lp6, gp6⟩ := gotB hz' 9 hC hh rfl rfl rfl rfl rfl rfl
 have n_p5_p3 : p5 ≠ p3 := by omega
 have n_p5_p4 : p5 ≠ p4 := by omega
 have n_p5_p6 : p5 ≠ p6 := by intro e; rw [e, gp6] at gp5; omega
 have n_p6_p3 : p6 ≠ p3 := by omega
 have n_p6_p4 : p6 ≠ p4 := by omega
 have n_p6_p5 : p6 ≠ p5 := by intro e; rw [e, gp5] at gp6; omega
 have n_p1_p5 : p1 ≠ p5 := by have := ep1; omega
 have n_p2_p5 : p2 ≠ p5 := by have := ep2; omega
 have n_p3_p5 : p3 ≠ p5 := by have := ep3; omega
 have n_p4_p5 : p4 ≠ p5 := by have := ep4; omega
 have n_p1_p6 : p1 ≠ p6 := by have := ep1; omega
 have n_p2_p6 : p2 ≠ p6 := by have := ep2; omega
 have n_p3_p6 : p3 ≠ p6 := by have := ep3; omega
 have n_p4_p6 : p4 ≠ p6 := by have := ep4; omega
 have bp5 : w.heap.size ≤ p5 := Nat.le_trans HB.size lp5
 have bp6 : w.heap.size ≤ p6 := Nat.le_trans HB.size lp6
 clear lp5 gp5 lp6 gp6
 clear tp3 tp4
 clear ep1 ep2 ep3 ep4
 replace HB := aft_call HB (RelC.below_nil hC)
 clear hC hk hh; replace hz := hz'; replace hd := hd'; clear hz' hd'
 refine wp_seq ?_
 refine region_text (M := []) (
  rT (tV (.bool true)) ::
  rT (tV (.bool true)) ::
  []) hz hd (by kernel_rfl) ?_ ?_
 refine ⟨?_, ?_, trivial⟩
 exact zAs hz kc
 exact zAs hz kc
 intro a' γ' W' hz' hd' hC hk hh
 replace Cp1 := kC hC Cp1
 replace Cp2 := kC hC Cp2
 have tp3 := Cp3.lt
 replace Cp3 := kC hC Cp3
 have tp4 := Cp4.lt
 replace Cp4 := kC hC Cp4
 have tp5 := Cp5.lt
 replace Cp5 := kC hC Cp5
 have tp6 := Cp6.lt
 replace Cp6 := kC hC Cp6
 replace S2 := kp hk S2
 replace S3 := kp hk S3
 replace S4 := kp hk S4
 replace S5 := kp hk S5
 replace S6 := kp hk S6
 replace S7 := kp hk S7
 replace S12 := kp hk S12
 replace S13 := kp hk S13
 replace S14 := kp hk S14
 replace S15 := kp hk S15
 replace S16 := kp hk S16
 have S17 := gotV hz' 0 hh rfl rfl rfl rfl
 have S18 := gotV hz' 1 hh rfl rfl rfl rfl
 clear tp3 tp4 tp5 tp6
 replace HB := aft_call HB (RelC.below_nil hC)
 clear hC hk hh; replace hz := hz'; replace hd := hd'; clear hz' hd'
 refine wp_seq ?_
 refine wp_seq ?_
 refine region_text (M := []) (
  rT (tV (.int .i64 kind)) ::
  []) hz hd (by kernel_rfl) ?_ ?_
 refine ⟨?_, trivial⟩
 exact zMv hz (sv S2)
 intro a' γ' W' hz' hd' hC hk hh
 replace Cp1 := kC hC Cp1
 replace Cp2 := kC hC Cp2
 have tp3 := Cp3.lt
 replace Cp3 := kC hC Cp3
 have tp4 := Cp4.lt
 replace Cp4 := kC hC Cp4
 have tp5 := Cp5.lt
 replace Cp5 := kC hC Cp5
 have tp6 := Cp6.lt
 replace Cp6 := kC hC Cp6
 clear S2
 replace S3 := kp hk S3
 replace S4 := kp hk S4
 replace S5 := kp hk S5
 replace S6 := kp hk S6
 replace S7 := kp hk S7
 replace S12 := kp hk S12
 replace S13 := kp hk S13
 replace S14 := kp hk S14
 replace S15 := kp hk S15
 replace S16 := kp hk S16
 replace S17 := kp hk S17
 replace S18 := kp hk S18
 have S25 := gotV hz' 0 hh rfl rfl rfl rfl
 clear tp3 tp4 tp5 tp6
 replace HB := aft_call HB (RelC.below_nil hC)
 clear hC hk hh; replace hz := hz'; replace hd := hd'; clear hz' hd'
 refine wp_block ?_
 refine wp_seq ?_
 refine region_text (M := []) (
  rT (tV (.bool (decide (kind = 0)))) ::
  rT (tV (.bool (decide (kind = 0)))) ::
  []) hz hd (by kernel_rfl) ?_ ?_
 refine ⟨?_, ?_, trivial⟩
 exact sBin rfl rfl rfl hz rfl (Gd.none_ rfl) rfl (sv S25) kc (fun w => run_eql)
 exact zAs hz (sd 0 rfl)
 intro a' γ' W' hz' hd' hC hk hh
 replace Cp1 := kC hC Cp1
 replace Cp2 := kC hC Cp2
 have tp3 := Cp3.lt
 replace Cp3 := kC hC Cp3
 have tp4 := Cp4.lt
 replace Cp4 := kC hC Cp4
 have tp5 := Cp5.lt
 replace Cp5 := kC hC Cp5
 have tp6 := Cp6.lt
 replace Cp6 := kC hC Cp6
 replace S3 := kp hk S3
 replace S4 := kp hk S4
 replace S5 := kp hk S5
 replace S6 := kp hk S6
 replace S7 := kp hk S7
 replace S12 := kp hk S12
 replace S13 := kp hk S13
 replace S14 := kp hk S14
 replace S15 := kp hk S15
 replace S16 := kp hk S16
 replace S17 := kp hk S17
 replace S18 := kp hk S18
 replace S25 := kp hk S25
 have S44 := gotV hz' 1 hh rfl rfl rfl rfl
 clear tp3 tp4 tp5 tp6
 replace HB := aft_call HB (RelC.below_nil hC)
 clear hC hk hh; replace hz := hz'; replace hd := hd'; clear hz' hd'
 by_cases hc7 : kind = 0
 rw [decide_eq_true hc7] at S44
 refine wp_cond_true S44.ev ?_
 refine wp_seq ?_
 refine region_drawn (M := [p5]) (
  rT (tV (.int .i64 (ia : Int))) ::
  rT (tV (.pointer (some ⟨p1, ia * 2, none⟩))) ::
  rT (tQ B64 3000 (f ia)) ::
  rT (tV (.int .i64 (ib : Int))) ::
  rT (tV (.pointer (some ⟨p1, ib * 2, none⟩))) ::
  rT (tQ B64 3000 (f ib)) ::
  rT (tQ B64 6001 ((f ia) + (f ib))) ::
  rE 0 29 (tQ B64 6001 ((f ia) + (f ib))) p5 ::
  []) hz hd (by kernel_rfl) (by kernel_rfl) ?_ ?_
 refine ⟨?_, ?_, ?_, ?_, ?_, ?_, ?_, ?_, trivial⟩
 exact zMv hz (sv S3)
 exact zIxA hz (sv S6) (sd 0 rfl) (ix_a64 h4ia)
 exact zLdA hz (sd 1 rfl) (cl0 Cp1 (by simp [tagOf, n_p1_p5])) ldo_q64 h4ia
 exact zMv hz (sv S4)
 exact zIxA hz (sv S6) (sd 3 rfl) (ix_a64 h4ib)
 exact zLdA hz (sd 4 rfl) (cl0 Cp1 (by simp [tagOf, n_p1_p5])) ldo_q64 h4ib
 exact zC2 hz Try.func17 (sd 2 rfl) (sd 5 rfl) (fun _ _ _ h0 h1 => cq_add h0 h1 (by decide) (by decide))
 exact zSE rfl (sv S15) (by simp [tagOf]) (Cp5.var tQ_nd) (sd 6 rfl) st_q64
 intro a' γ' W' hz' hd' hC hk hh
 clear Cp1
 replace Cp2 := kC hC Cp2 (by simp [tagOf, n_p2_p5])
 have tp3 := Cp3.lt
 replace Cp3 := kC hC Cp3 (by simp [tagOf, n_p3_p5])
 have tp4 := Cp4.lt
 replace Cp4 := kC hC Cp4 (by simp [tagOf, n_p4_p5])
 replace Cp5 := gotE (T := tQ B64 6001 ((f ia) + (f ib))) (id := 29) (p := p5) 7 hh rfl rfl
 have tp6 := Cp6.lt
 replace Cp6 := kC hC Cp6 (by simp [tagOf, n_p6_p5])
 replace S3 := kp hk S3
 replace S4 := kp hk S4
 clear S5
 clear S6
 replace S7 := kp hk S7
 replace S12 := kp hk S12
 replace S13 := kp hk S13
 replace S14 := kp hk S14
 replace S15 := kp hk S15
 replace S16 := kp hk S16
 replace S17 := kp hk S17
 replace S18 := kp hk S18
 clear S25
 clear S44
 clear tp3 tp4 tp6
 replace HB := RelC.aftM HB hC (by intro m hm; simp at hm; rcases hm with rfl <;> assumption)
 clear hC hk hh; replace hz := hz'; replace hd := hd'; clear hz' hd'
 refine region_drawn (M := [p6]) (
  rT (tV (.int .i64 (ia : Int))) ::
  rT (tV (.pointer (some ⟨p2, ia * 2, none⟩))) ::
  rT (tQ B32 3000 (f ia)) ::
  rT (tV (.int .i64 (ib : Int))) ::
  rT (tV (.pointer (some ⟨p2, ib * 2, none⟩))) ::
  rT (tQ B32 3000 (f ib)) ::
  rT (tQ B32 6001 ((f ia) + (f ib))) ::
  rE 0 33 (tQ B32 6001 ((f ia) + (f ib))) p6 ::
  []) hz hd (by kernel_rfl) (by kernel_rfl) ?_ ?_
 refine ⟨?_, ?_, ?_, ?_, ?_, ?_, ?_, ?_, trivial⟩
 exact zMv hz (sv S3)
 exact zIxA hz (sv S7) (sd 0 rfl) (ix_a32 h4ia)
 exact zLdA hz (sd 1 rfl) (cl0 Cp2 (by simp [tagOf, n_p2_p6])) ldo_q32 h4ia
 exact zMv hz (sv S4)
 exact zIxA hz (sv S7) (sd 3 rfl) (ix_a32 h4ib)
 exact zLdA hz (sd 4 rfl) (cl0 Cp2 (by simp [tagOf, n_p2_p6])) ldo_q32 h4ib
 exact zC2 hz Try.func22 (sd 2 rfl) (sd 5 rfl) (fun _ _ _ h0 h1 => dq_add h0 h1 (by decide) (by decide))
 exact zSE rfl (sv S16) (by simp [tagOf]) (Cp6.var tQ_nd) (sd 6 rfl) st_q32
 intro a' γ' W' hz' hd' hC hk hh
 clear Cp2
 have tp3 := Cp3.lt
 replace Cp3 := kC hC Cp3 (by simp [tagOf, n_p3_p6])
 have tp4 := Cp4.lt
 replace Cp4 := kC hC Cp4 (by simp [tagOf, n_p4_p6])
 have tp5 := Cp5.lt
 replace Cp5 := kC hC Cp5 (by simp [tagOf, n_p5_p6])
 replace Cp6 := gotE (T := tQ B32 6001 ((f ia) + (f ib))) (id := 33) (p := p6) 7 hh rfl rfl
 clear S3
 clear S4
 clear S7
 replace S12 := kp hk S12
 replace S13 := kp hk S13
 replace S14 := kp hk S14
 replace S15 := kp hk S15
 replace S16 := kp hk S16
 replace S17 := kp hk S17
 replace S18 := kp hk S18
 clear tp3 tp4 tp5
 replace HB := RelC.aftM HB hC (by intro m hm; simp at hm; rcases hm with rfl <;> assumption)
 clear hC hk hh; replace hz := hz'; replace hd := hd'; clear hz' hd'
 refine wp_seq ?_
 refine region_drawn (M := [p3, p4]) (
  rT (tQ B64 6001 ((f ia) + (f ib))) ::
  rT (tQ B32 6001 ((f ia) + (f ib))) ::
  rT (tV (.bool true)) ::
  rT (tV (.bool true)) ::
  rT (tV (.bool true)) ::
  rT (tV (.bool true)) ::
  rT (tQ B64 6001 ((f ia) + (f ib))) ::
  rT (tQ B32 6001 ((f ia) + (f ib))) ::
  rT (tV (.bool (decide ((f ia) + (f ib) = (f ia) + (f ib))))) ::
  rT (tV (.bool (decide ((f ia) + (f ib) = (f ia) + (f ib))))) ::
  rE 0 29 (tQ B64 6001 ((f ia) + (f ib))) p3 ::
  rE 1 33 (tQ B32 6001 ((f ia) + (f ib))) p4 ::
  rT (tV (.bool (decide ((f ia) + (f ib) = (f ia) + (f ib))))) ::
  []) hz hd (by kernel_rfl) (by kernel_rfl) ?_ ?_
 refine ⟨?_, ?_, ?_, ?_, ?_, ?_, ?_, ?_, ?_, ?_, ?_, ?_, ?_, trivial⟩
 exact zLd hz (sv S15) Cp5 ld_q64 (by simp [tagOf, n_p5_p3, n_p5_p4])
 exact zLd hz (sv S16) Cp6 ld_q32 (by simp [tagOf, n_p6_p3, n_p6_p4])
 exact zMv hz (sv S17)
 exact zMv hz (sv S18)
 exact sBin rfl rfl rfl hz rfl (Gd.none_ rfl) rfl (sd 2 rfl) (sd 3 rfl) (fun w => by kernel_rfl)
 exact zMv hz (sd 4 rfl)
 exact zLd hz (sv S15) Cp5 ld_q64 (by simp [tagOf, n_p5_p3, n_p5_p4]) (g := gT 5 rfl)
 exact zLd hz (sv S16) Cp6 ld_q32 (by simp [tagOf, n_p6_p3, n_p6_p4]) (g := gT 5 rfl)
 exact zC2 hz Try.func21 (sd 6 rfl) (sd 7 rfl) (fun _ _ _ h0 h1 => l_same h0 h1 (by decide) (by decide)) (g := gT 5 rfl)
 exact zPT hz (sd 5 rfl) (sd 8 rfl)
 exact zSE rfl (sv S12) (by simp [tagOf]) (Cp3.var tQ_nd) (sd 0 rfl) st_q64
 exact zSE rfl (sv S13) (by simp [tagOf, n_p4_p3]) (Cp4.var tR_nd) (sd 1 rfl) st_q32
 exact zAs hz (sd 9 rfl)
 intro a' γ' W' hz' hd' hC hk hh
 replace Cp3 := gotE (T := tQ B64 6001 ((f ia) + (f ib))) (id := 29) (p := p3) 10 hh rfl rfl
 replace Cp4 := gotE (T := tQ B32 6001 ((f ia) + (f ib))) (id := 33) (p := p4) 11 hh rfl rfl
 have tp5 := Cp5.lt
 clear Cp5
 have tp6 := Cp6.lt
 clear Cp6
 replace S12 := kp hk S12
 replace S13 := kp hk S13
 clear S14
 clear S15
 clear S16
 clear S17
 clear S18
 have S14 := gotV hz' 12 hh rfl rfl rfl rfl
 clear tp5 tp6
 replace HB := RelC.aftM HB hC (by intro m hm; simp at hm; rcases hm with rfl | rfl <;> assumption)
 clear hC hk hh; replace hz := hz'; replace hd := hd'; clear hz' hd'
 refine wp_ret ?_
 have hc8 : (f ia) + (f ib) = (f ia) + (f ib) := rfl
 rw [decide_eq_true hc8] at S14
 refine ret_to (T := tT [tQ B64 6001 ((f ia) + (f ib)), tQ B32 6001 ((f ia) + (f ib)), tV (.bool true)]) (retcct_o ldo_q64 ldo_q32 (by kernel_rfl) S12 S13 S14 hd Cp3 Cp4 HB) ?_
 exact to3 (tQ_to (by decide) (by unfold playV; rw [if_pos hc7]) (by decide)) (tQ_to (by decide) (by unfold playV; rw [if_pos hc7]) (by decide)) (fun _ _ h => h)
 rw [decide_eq_false hc7] at S44
 refine wp_cond_false S44.ev ?_
 refine wp_seq ?_
 refine region_text (M := []) (
  rT (tV (.bool (decide (kind = 1)))) ::
  rT (tV (.bool (decide (kind = 1)))) ::
  []) hz hd (by kernel_rfl) ?_ ?_
 refine ⟨?_, ?_, trivial⟩
 exact sBin rfl rfl rfl hz rfl (Gd.none_ rfl) rfl (sv S25) kc (fun w => run_eql)
 exact zAs hz (sd 0 rfl)
 intro a' γ' W' hz' hd' hC hk hh
 replace Cp1 := kC hC Cp1
 replace Cp2 := kC hC Cp2
 have tp3 := Cp3.lt
 replace Cp3 := kC hC Cp3
 have tp4 := Cp4.lt
 replace Cp4 := kC hC Cp4
 have tp5 := Cp5.lt
 replace Cp5 := kC hC Cp5
 have tp6 := Cp6.lt
 replace Cp6 := kC hC Cp6
 replace S3 := kp hk S3
 replace S4 := kp hk S4
 replace S5 := kp hk S5
 replace S6 := kp hk S6
 replace S7 := kp hk S7
 replace S12 := kp hk S12
 replace S13 := kp hk S13
 replace S14 := kp hk S14
 replace S15 := kp hk S15
 replace S16 := kp hk S16
 replace S17 := kp hk S17
 replace S18 := kp hk S18
 replace S25 := kp hk S25
 clear S44
 have S60 := gotV hz' 1 hh rfl rfl rfl rfl
 clear tp3 tp4 tp5 tp6
 replace HB := aft_call HB (RelC.below_nil hC)
 clear hC hk hh; replace hz := hz'; replace hd := hd'; clear hz' hd'
 by_cases hc9 : kind = 1
 rw [decide_eq_true hc9] at S60
 refine wp_cond_true S60.ev ?_
 refine wp_seq ?_
 refine region_drawn (M := [p5]) (
  rT (tV (.int .i64 (ia : Int))) ::
  rT (tV (.pointer (some ⟨p1, ia * 2, none⟩))) ::
  rT (tQ B64 3000 (f ia)) ::
  rT (tV (.int .i64 (ib : Int))) ::
  rT (tV (.pointer (some ⟨p1, ib * 2, none⟩))) ::
  rT (tQ B64 3000 (f ib)) ::
  rT (tT [tQ B64 6001 (subQ (f ia) (f ib)), tV (.bool (decide (f ib ≤ f ia)))]) ::
  rT (tT [tQ B64 6001 (subQ (f ia) (f ib)), tV (.bool (decide (f ib ≤ f ia)))]) ::
  rT (tQ B64 6001 (subQ (f ia) (f ib))) ::
  rT (tV (.bool (decide (f ib ≤ f ia)))) ::
  rE 0 29 (tQ B64 6001 (subQ (f ia) (f ib))) p5 ::
  rT (tV (.bool (decide (f ib ≤ f ia)))) ::
  []) hz hd (by kernel_rfl) (by kernel_rfl) ?_ ?_
 refine ⟨?_, ?_, ?_, ?_, ?_, ?_, ?_, ?_, ?_, ?_, ?_, ?_, trivial⟩
 exact zMv hz (sv S3)
 exact zIxA hz (sv S6) (sd 0 rfl) (ix_a64 h4ia)
 exact zLdA hz (sd 1 rfl) (cl0 Cp1 (by simp [tagOf, n_p1_p5])) ldo_q64 h4ia
 exact zMv hz (sv S4)
 exact zIxA hz (sv S6) (sd 3 rfl) (ix_a64 h4ib)
 exact zLdA hz (sd 4 rfl) (cl0 Cp1 (by simp [tagOf, n_p1_p5])) ldo_q64 h4ib
 exact zC2 hz Try.func37 (sd 2 rfl) (sd 5 rfl) (fun _ _ _ h0 h1 => cq_sub h0 h1 (by decide) (by decide))
 exact zMv hz (sd 6 rfl)
 exact zExt hz (sd 7 rfl)
 exact zExt hz (sd 7 rfl)
 exact zSE rfl (sv S15) (by simp [tagOf]) (Cp5.var tQ_nd) (sd 8 rfl) st_q64
 exact zAs hz (sd 9 rfl)
 intro a' γ' W' hz' hd' hC hk hh
 clear Cp1
 replace Cp2 := kC hC Cp2 (by simp [tagOf, n_p2_p5])
 have tp3 := Cp3.lt
 replace Cp3 := kC hC Cp3 (by simp [tagOf, n_p3_p5])
 have tp4 := Cp4.lt
 replace Cp4 := kC hC Cp4 (by simp [tagOf, n_p4_p5])
 replace Cp5 := gotE (T := tQ B64 6001 (subQ (f ia) (f ib))) (id := 29) (p := p5) 10 hh rfl rfl
 have tp6 := Cp6.lt
 replace Cp6 := kC hC Cp6 (by simp [tagOf, n_p6_p5])
 replace S3 := kp hk S3
 replace S4 := kp hk S4
 clear S5
 clear S6
 replace S7 := kp hk S7
 replace S12 := kp hk S12
 replace S13 := kp hk S13
 replace S14 := kp hk S14
 replace S15 := kp hk S15
 replace S16 := kp hk S16
 clear S17
 replace S18 := kp hk S18
 clear S25
 clear S60
 have S17 := gotV hz' 11 hh rfl rfl rfl rfl
 clear tp3 tp4 tp6
 replace HB := RelC.aftM HB hC (by intro m hm; simp at hm; rcases hm with rfl <;> assumption)
 clear hC hk hh; replace hz := hz'; replace hd := hd'; clear hz' hd'
 refine region_drawn (M := [p6]) (
  rT (tV (.int .i64 (ia : Int))) ::
  rT (tV (.pointer (some ⟨p2, ia * 2, none⟩))) ::
  rT (tQ B32 3000 (f ia)) ::
  rT (tV (.int .i64 (ib : Int))) ::
  rT (tV (.pointer (some ⟨p2, ib * 2, none⟩))) ::
  rT (tQ B32 3000 (f ib)) ::
  rT (tT [tQ B32 6001 (subQ (f ia) (f ib)), tV (.bool (decide (f ib ≤ f ia)))]) ::
  rT (tT [tQ B32 6001 (subQ (f ia) (f ib)), tV (.bool (decide (f ib ≤ f ia)))]) ::
  rT (tQ B32 6001 (subQ (f ia) (f ib))) ::
  rT (tV (.bool (decide (f ib ≤ f ia)))) ::
  rE 0 33 (tQ B32 6001 (subQ (f ia) (f ib))) p6 ::
  rT (tV (.bool (decide (f ib ≤ f ia)))) ::
  []) hz hd (by kernel_rfl) (by kernel_rfl) ?_ ?_
 refine ⟨?_, ?_, ?_, ?_, ?_, ?_, ?_, ?_, ?_, ?_, ?_, ?_, trivial⟩
 exact zMv hz (sv S3)
 exact zIxA hz (sv S7) (sd 0 rfl) (ix_a32 h4ia)
 exact zLdA hz (sd 1 rfl) (cl0 Cp2 (by simp [tagOf, n_p2_p6])) ldo_q32 h4ia
 exact zMv hz (sv S4)
 exact zIxA hz (sv S7) (sd 3 rfl) (ix_a32 h4ib)
 exact zLdA hz (sd 4 rfl) (cl0 Cp2 (by simp [tagOf, n_p2_p6])) ldo_q32 h4ib
 exact zC2 hz Try.func67 (sd 2 rfl) (sd 5 rfl) (fun _ _ _ h0 h1 => dq_sub h0 h1 (by decide) (by decide))
 exact zMv hz (sd 6 rfl)
 exact zExt hz (sd 7 rfl)
 exact zExt hz (sd 7 rfl)
 exact zSE rfl (sv S16) (by simp [tagOf]) (Cp6.var tQ_nd) (sd 8 rfl) st_q32
 exact zAs hz (sd 9 rfl)
 intro a' γ' W' hz' hd' hC hk hh
 clear Cp2
 have tp3 := Cp3.lt
 replace Cp3 := kC hC Cp3 (by simp [tagOf, n_p3_p6])
 have tp4 := Cp4.lt
 replace Cp4 := kC hC Cp4 (by simp [tagOf, n_p4_p6])
 have tp5 := Cp5.lt
 replace Cp5 := kC hC Cp5 (by simp [tagOf, n_p5_p6])
 replace Cp6 := gotE (T := tQ B32 6001 (subQ (f ia) (f ib))) (id := 33) (p := p6) 10 hh rfl rfl
 clear S3
 clear S4
 clear S7
 replace S12 := kp hk S12
 replace S13 := kp hk S13
 replace S14 := kp hk S14
 replace S15 := kp hk S15
 replace S16 := kp hk S16
 clear S18
 replace S17 := kp hk S17
 have S18 := gotV hz' 11 hh rfl rfl rfl rfl
 clear tp3 tp4 tp5
 replace HB := RelC.aftM HB hC (by intro m hm; simp at hm; rcases hm with rfl <;> assumption)
 clear hC hk hh; replace hz := hz'; replace hd := hd'; clear hz' hd'
 refine wp_seq ?_
 refine region_drawn (M := [p3, p4]) (
  rT (tQ B64 6001 (subQ (f ia) (f ib))) ::
  rT (tQ B32 6001 (subQ (f ia) (f ib))) ::
  rT (tV (.bool (decide (f ib ≤ f ia)))) ::
  rT (tV (.bool (decide (f ib ≤ f ia)))) ::
  rT (tV (.bool true)) ::
  rT (tV (.bool true)) ::
  rT (tQ B64 6001 (subQ (f ia) (f ib))) ::
  rT (tQ B32 6001 (subQ (f ia) (f ib))) ::
  rT (tV (.bool (decide (subQ (f ia) (f ib) = subQ (f ia) (f ib))))) ::
  rT (tV (.bool (decide (subQ (f ia) (f ib) = subQ (f ia) (f ib))))) ::
  rE 0 29 (tQ B64 6001 (subQ (f ia) (f ib))) p3 ::
  rE 1 33 (tQ B32 6001 (subQ (f ia) (f ib))) p4 ::
  rT (tV (.bool (decide (subQ (f ia) (f ib) = subQ (f ia) (f ib))))) ::
  []) hz hd (by kernel_rfl) (by kernel_rfl) ?_ ?_
 refine ⟨?_, ?_, ?_, ?_, ?_, ?_, ?_, ?_, ?_, ?_, ?_, ?_, ?_, trivial⟩
 exact zLd hz (sv S15) Cp5 ld_q64 (by simp [tagOf, n_p5_p3, n_p5_p4])
 exact zLd hz (sv S16) Cp6 ld_q32 (by simp [tagOf, n_p6_p3, n_p6_p4])
 exact zMv hz (sv S17)
 exact zMv hz (sv S18)
 exact sBin rfl rfl rfl hz rfl (Gd.none_ rfl) rfl (sd 2 rfl) (sd 3 rfl) (fun w => pl_eqb w)
 exact zMv hz (sd 4 rfl)
 exact zLd hz (sv S15) Cp5 ld_q64 (by simp [tagOf, n_p5_p3, n_p5_p4]) (g := gT 5 rfl)
 exact zLd hz (sv S16) Cp6 ld_q32 (by simp [tagOf, n_p6_p3, n_p6_p4]) (g := gT 5 rfl)
 exact zC2 hz Try.func21 (sd 6 rfl) (sd 7 rfl) (fun _ _ _ h0 h1 => l_same h0 h1 (by decide) (by decide)) (g := gT 5 rfl)
 exact zPT hz (sd 5 rfl) (sd 8 rfl)
 exact zSE rfl (sv S12) (by simp [tagOf]) (Cp3.var tQ_nd) (sd 0 rfl) st_q64
 exact zSE rfl (sv S13) (by simp [tagOf, n_p4_p3]) (Cp4.var tR_nd) (sd 1 rfl) st_q32
 exact zAs hz (sd 9 rfl)
 intro a' γ' W' hz' hd' hC hk hh
 replace Cp3 := gotE (T := tQ B64 6001 (subQ (f ia) (f ib))) (id := 29) (p := p3) 10 hh rfl rfl
 replace Cp4 := gotE (T := tQ B32 6001 (subQ (f ia) (f ib))) (id := 33) (p := p4) 11 hh rfl rfl
 have tp5 := Cp5.lt
 clear Cp5
 have tp6 := Cp6.lt
 clear Cp6
 replace S12 := kp hk S12
 replace S13 := kp hk S13
 clear S14
 clear S15
 clear S16
 clear S17
 clear S18
 have S14 := gotV hz' 12 hh rfl rfl rfl rfl
 clear tp5 tp6
 replace HB := RelC.aftM HB hC (by intro m hm; simp at hm; rcases hm with rfl | rfl <;> assumption)
 clear hC hk hh; replace hz := hz'; replace hd := hd'; clear hz' hd'
 refine wp_ret ?_
 have hc10 : subQ (f ia) (f ib) = subQ (f ia) (f ib) := rfl
 rw [decide_eq_true hc10] at S14
 refine ret_to (T := tT [tQ B64 6001 (subQ (f ia) (f ib)), tQ B32 6001 (subQ (f ia) (f ib)), tV (.bool true)]) (retcct_o ldo_q64 ldo_q32 (by kernel_rfl) S12 S13 S14 hd Cp3 Cp4 HB) ?_
 exact to3 (tQ_to (by decide) (by unfold playV; rw [if_neg hc7, if_pos hc9]) (by decide)) (tQ_to (by decide) (by unfold playV; rw [if_neg hc7, if_pos hc9]) (by decide)) (fun _ _ h => h)
 rw [decide_eq_false hc9] at S60
 refine wp_cond_false S60.ev ?_
 refine wp_seq ?_
 refine region_text (M := []) (
  rT (tV (.bool (decide (kind = 2)))) ::
  rT (tV (.bool (decide (kind = 2)))) ::
  []) hz hd (by kernel_rfl) ?_ ?_
 refine ⟨?_, ?_, trivial⟩
 exact sBin rfl rfl rfl hz rfl (Gd.none_ rfl) rfl (sv S25) kc (fun w => run_eql)
 exact zAs hz (sd 0 rfl)
 intro a' γ' W' hz' hd' hC hk hh
 replace Cp1 := kC hC Cp1
 replace Cp2 := kC hC Cp2
 have tp3 := Cp3.lt
 replace Cp3 := kC hC Cp3
 have tp4 := Cp4.lt
 replace Cp4 := kC hC Cp4
 have tp5 := Cp5.lt
 replace Cp5 := kC hC Cp5
 have tp6 := Cp6.lt
 replace Cp6 := kC hC Cp6
 replace S3 := kp hk S3
 replace S4 := kp hk S4
 replace S5 := kp hk S5
 replace S6 := kp hk S6
 replace S7 := kp hk S7
 replace S12 := kp hk S12
 replace S13 := kp hk S13
 replace S14 := kp hk S14
 replace S15 := kp hk S15
 replace S16 := kp hk S16
 replace S17 := kp hk S17
 replace S18 := kp hk S18
 replace S25 := kp hk S25
 clear S60
 have S82 := gotV hz' 1 hh rfl rfl rfl rfl
 clear tp3 tp4 tp5 tp6
 replace HB := aft_call HB (RelC.below_nil hC)
 clear hC hk hh; replace hz := hz'; replace hd := hd'; clear hz' hd'
 by_cases hc11 : kind = 2
 rw [decide_eq_true hc11] at S82
 refine wp_cond_true S82.ev ?_
 refine wp_seq ?_
 refine region_drawn (M := [p5]) (
  rT (tV (.int .i64 (ia : Int))) ::
  rT (tV (.pointer (some ⟨p1, ia * 2, none⟩))) ::
  rT (tQ B64 3000 (f ia)) ::
  rT (tV (.int .i64 (ib : Int))) ::
  rT (tV (.pointer (some ⟨p1, ib * 2, none⟩))) ::
  rT (tQ B64 3000 (f ib)) ::
  rT (tQ B64 6000 ((f ia) * (f ib))) ::
  rE 0 29 (tQ B64 6000 ((f ia) * (f ib))) p5 ::
  []) hz hd (by kernel_rfl) (by kernel_rfl) ?_ ?_
 refine ⟨?_, ?_, ?_, ?_, ?_, ?_, ?_, ?_, trivial⟩
 exact zMv hz (sv S3)
 exact zIxA hz (sv S6) (sd 0 rfl) (ix_a64 h4ia)
 exact zLdA hz (sd 1 rfl) (cl0 Cp1 (by simp [tagOf, n_p1_p5])) ldo_q64 h4ia
 exact zMv hz (sv S4)
 exact zIxA hz (sv S6) (sd 3 rfl) (ix_a64 h4ib)
 exact zLdA hz (sd 4 rfl) (cl0 Cp1 (by simp [tagOf, n_p1_p5])) ldo_q64 h4ib
 exact zC2 hz Try.func39 (sd 2 rfl) (sd 5 rfl) (fun _ _ _ h0 h1 => cq_mul h0 h1 (by decide) (by decide))
 exact zSE rfl (sv S15) (by simp [tagOf]) (Cp5.var tQ_nd) (sd 6 rfl) st_q64
 intro a' γ' W' hz' hd' hC hk hh
 clear Cp1
 replace Cp2 := kC hC Cp2 (by simp [tagOf, n_p2_p5])
 have tp3 := Cp3.lt
 replace Cp3 := kC hC Cp3 (by simp [tagOf, n_p3_p5])
 have tp4 := Cp4.lt
 replace Cp4 := kC hC Cp4 (by simp [tagOf, n_p4_p5])
 replace Cp5 := gotE (T := tQ B64 6000 ((f ia) * (f ib))) (id := 29) (p := p5) 7 hh rfl rfl
 have tp6 := Cp6.lt
 replace Cp6 := kC hC Cp6 (by simp [tagOf, n_p6_p5])
 replace S3 := kp hk S3
 replace S4 := kp hk S4
 clear S5
 clear S6
 replace S7 := kp hk S7
 replace S12 := kp hk S12
 replace S13 := kp hk S13
 replace S14 := kp hk S14
 replace S15 := kp hk S15
 replace S16 := kp hk S16
 replace S17 := kp hk S17
 replace S18 := kp hk S18
 clear S25
 clear S82
 clear tp3 tp4 tp6
 replace HB := RelC.aftM HB hC (by intro m hm; simp at hm; rcases hm with rfl <;> assumption)
 clear hC hk hh; replace hz := hz'; replace hd := hd'; clear hz' hd'
 refine region_drawn (M := [p6]) (
  rT (tV (.int .i64 (ia : Int))) ::
  rT (tV (.pointer (some ⟨p2, ia * 2, none⟩))) ::
  rT (tQ B32 3000 (f ia)) ::
  rT (tV (.int .i64 (ib : Int))) ::
  rT (tV (.pointer (some ⟨p2, ib * 2, none⟩))) ::
  rT (tQ B32 3000 (f ib)) ::
  rT (tQ B32 6000 ((f ia) * (f ib))) ::
  rE 0 33 (tQ B32 6000 ((f ia) * (f ib))) p6 ::
  []) hz hd (by kernel_rfl) (by kernel_rfl) ?_ ?_
 refine ⟨?_, ?_, ?_, ?_, ?_, ?_, ?_, ?_, trivial⟩
 exact zMv hz (sv S3)
 exact zIxA hz (sv S7) (sd 0 rfl) (ix_a32 h4ia)
 exact zLdA hz (sd 1 rfl) (cl0 Cp2 (by simp [tagOf, n_p2_p6])) ldo_q32 h4ia
 exact zMv hz (sv S4)
 exact zIxA hz (sv S7) (sd 3 rfl) (ix_a32 h4ib)
 exact zLdA hz (sd 4 rfl) (cl0 Cp2 (by simp [tagOf, n_p2_p6])) ldo_q32 h4ib
 exact zC2 hz Try.func68 (sd 2 rfl) (sd 5 rfl) (fun _ _ _ h0 h1 => dq_mul h0 h1 (by decide) (by decide))
 exact zSE rfl (sv S16) (by simp [tagOf]) (Cp6.var tQ_nd) (sd 6 rfl) st_q32
 intro a' γ' W' hz' hd' hC hk hh
 clear Cp2
 have tp3 := Cp3.lt
 replace Cp3 := kC hC Cp3 (by simp [tagOf, n_p3_p6])
 have tp4 := Cp4.lt
 replace Cp4 := kC hC Cp4 (by simp [tagOf, n_p4_p6])
 have tp5 := Cp5.lt
 replace Cp5 := kC hC Cp5 (by simp [tagOf, n_p5_p6])
 replace Cp6 := gotE (T := tQ B32 6000 ((f ia) * (f ib))) (id := 33) (p := p6) 7 hh rfl rfl
 clear S3
 clear S4
 clear S7
 replace S12 := kp hk S12
 replace S13 := kp hk S13
 replace S14 := kp hk S14
 replace S15 := kp hk S15
 replace S16 := kp hk S16
 replace S17 := kp hk S17
 replace S18 := kp hk S18
 clear tp3 tp4 tp5
 replace HB := RelC.aftM HB hC (by intro m hm; simp at hm; rcases hm with rfl <;> assumption)
 clear hC hk hh; replace hz := hz'; replace hd := hd'; clear hz' hd'
 refine wp_seq ?_
 refine region_drawn (M := [p3, p4]) (
  rT (tQ B64 6000 ((f ia) * (f ib))) ::
  rT (tQ B32 6000 ((f ia) * (f ib))) ::
  rT (tV (.bool true)) ::
  rT (tV (.bool true)) ::
  rT (tV (.bool true)) ::
  rT (tV (.bool true)) ::
  rT (tQ B64 6000 ((f ia) * (f ib))) ::
  rT (tQ B32 6000 ((f ia) * (f ib))) ::
  rT (tV (.bool (decide ((f ia) * (f ib) = (f ia) * (f ib))))) ::
  rT (tV (.bool (decide ((f ia) * (f ib) = (f ia) * (f ib))))) ::
  rE 0 29 (tQ B64 6000 ((f ia) * (f ib))) p3 ::
  rE 1 33 (tQ B32 6000 ((f ia) * (f ib))) p4 ::
  rT (tV (.bool (decide ((f ia) * (f ib) = (f ia) * (f ib))))) ::
  []) hz hd (by kernel_rfl) (by kernel_rfl) ?_ ?_
 refine ⟨?_, ?_, ?_, ?_, ?_, ?_, ?_, ?_, ?_, ?_, ?_, ?_, ?_, trivial⟩
 exact zLd hz (sv S15) Cp5 ld_q64 (by simp [tagOf, n_p5_p3, n_p5_p4])
 exact zLd hz (sv S16) Cp6 ld_q32 (by simp [tagOf, n_p6_p3, n_p6_p4])
 exact zMv hz (sv S17)
 exact zMv hz (sv S18)
 exact sBin rfl rfl rfl hz rfl (Gd.none_ rfl) rfl (sd 2 rfl) (sd 3 rfl) (fun w => by kernel_rfl)
 exact zMv hz (sd 4 rfl)
 exact zLd hz (sv S15) Cp5 ld_q64 (by simp [tagOf, n_p5_p3, n_p5_p4]) (g := gT 5 rfl)
 exact zLd hz (sv S16) Cp6 ld_q32 (by simp [tagOf, n_p6_p3, n_p6_p4]) (g := gT 5 rfl)
 exact zC2 hz Try.func21 (sd 6 rfl) (sd 7 rfl) (fun _ _ _ h0 h1 => l_same h0 h1 (by decide) (by decide)) (g := gT 5 rfl)
 exact zPT hz (sd 5 rfl) (sd 8 rfl)
 exact zSE rfl (sv S12) (by simp [tagOf]) (Cp3.var tQ_nd) (sd 0 rfl) st_q64
 exact zSE rfl (sv S13) (by simp [tagOf, n_p4_p3]) (Cp4.var tR_nd) (sd 1 rfl) st_q32
 exact zAs hz (sd 9 rfl)
 intro a' γ' W' hz' hd' hC hk hh
 replace Cp3 := gotE (T := tQ B64 6000 ((f ia) * (f ib))) (id := 29) (p := p3) 10 hh rfl rfl
 replace Cp4 := gotE (T := tQ B32 6000 ((f ia) * (f ib))) (id := 33) (p := p4) 11 hh rfl rfl
 have tp5 := Cp5.lt
 clear Cp5
 have tp6 := Cp6.lt
 clear Cp6
 replace S12 := kp hk S12
 replace S13 := kp hk S13
 clear S14
 clear S15
 clear S16
 clear S17
 clear S18
 have S14 := gotV hz' 12 hh rfl rfl rfl rfl
 clear tp5 tp6
 replace HB := RelC.aftM HB hC (by intro m hm; simp at hm; rcases hm with rfl | rfl <;> assumption)
 clear hC hk hh; replace hz := hz'; replace hd := hd'; clear hz' hd'
 refine wp_ret ?_
 have hc12 : (f ia) * (f ib) = (f ia) * (f ib) := rfl
 rw [decide_eq_true hc12] at S14
 refine ret_to (T := tT [tQ B64 6000 ((f ia) * (f ib)), tQ B32 6000 ((f ia) * (f ib)), tV (.bool true)]) (retcct_o ldo_q64 ldo_q32 (by kernel_rfl) S12 S13 S14 hd Cp3 Cp4 HB) ?_
 exact to3 (tQ_to (by decide) (by unfold playV; rw [if_neg hc7, if_neg hc9, if_pos hc11]) (by decide)) (tQ_to (by decide) (by unfold playV; rw [if_neg hc7, if_neg hc9, if_pos hc11]) (by decide)) (fun _ _ h => h)
 rw [decide_eq_false hc11] at S82
 refine wp_cond_false S82.ev ?_
 refine wp_seq ?_
 refine region_text (M := []) (
  rT (tV (.bool (decide (kind = 3)))) ::
  rT (tV (.bool (decide (kind = 3)))) ::
  []) hz hd (by kernel_rfl) ?_ ?_
 refine ⟨?_, ?_, trivial⟩
 exact sBin rfl rfl rfl hz rfl (Gd.none_ rfl) rfl (sv S25) kc (fun w => run_eql)
 exact zAs hz (sd 0 rfl)
 intro a' γ' W' hz' hd' hC hk hh
 replace Cp1 := kC hC Cp1
 replace Cp2 := kC hC Cp2
 have tp3 := Cp3.lt
 replace Cp3 := kC hC Cp3
 have tp4 := Cp4.lt
 replace Cp4 := kC hC Cp4
 have tp5 := Cp5.lt
 replace Cp5 := kC hC Cp5
 have tp6 := Cp6.lt
 replace Cp6 := kC hC Cp6
 replace S3 := kp hk S3
 replace S4 := kp hk S4
 replace S5 := kp hk S5
 replace S6 := kp hk S6
 replace S7 := kp hk S7
 replace S12 := kp hk S12
 replace S13 := kp hk S13
 replace S14 := kp hk S14
 replace S15 := kp hk S15
 replace S16 := kp hk S16
 replace S17 := kp hk S17
 replace S18 := kp hk S18
 replace S25 := kp hk S25
 clear S82
 have S98 := gotV hz' 1 hh rfl rfl rfl rfl
 clear tp3 tp4 tp5 tp6
 replace HB := aft_call HB (RelC.below_nil hC)
 clear hC hk hh; replace hz := hz'; replace hd := hd'; clear hz' hd'
 by_cases hc13 : kind = 3
 rw [decide_eq_true hc13] at S98
 refine wp_cond_true S98.ev ?_
 refine wp_seq ?_
 refine region_drawn (M := [p5]) (
  rT (tV (.int .i64 (ia : Int))) ::
  rT (tV (.pointer (some ⟨p1, ia * 2, none⟩))) ::
  rT (tQ B64 3000 (f ia)) ::
  rT (tV (.int .i64 (ib : Int))) ::
  rT (tV (.pointer (some ⟨p1, ib * 2, none⟩))) ::
  rT (tQ B64 3000 (f ib)) ::
  rT (tT [tQ B64 6001 ((f ia) / (f ib)), tV (.bool (decide (f ib ≠ 0)))]) ::
  rT (tT [tQ B64 6001 ((f ia) / (f ib)), tV (.bool (decide (f ib ≠ 0)))]) ::
  rT (tQ B64 6001 ((f ia) / (f ib))) ::
  rT (tV (.bool (decide (f ib ≠ 0)))) ::
  rE 0 29 (tQ B64 6001 ((f ia) / (f ib))) p5 ::
  rT (tV (.bool (decide (f ib ≠ 0)))) ::
  []) hz hd (by kernel_rfl) (by kernel_rfl) ?_ ?_
 refine ⟨?_, ?_, ?_, ?_, ?_, ?_, ?_, ?_, ?_, ?_, ?_, ?_, trivial⟩
 exact zMv hz (sv S3)
 exact zIxA hz (sv S6) (sd 0 rfl) (ix_a64 h4ia)
 exact zLdA hz (sd 1 rfl) (cl0 Cp1 (by simp [tagOf, n_p1_p5])) ldo_q64 h4ia
 exact zMv hz (sv S4)
 exact zIxA hz (sv S6) (sd 3 rfl) (ix_a64 h4ib)
 exact zLdA hz (sd 4 rfl) (cl0 Cp1 (by simp [tagOf, n_p1_p5])) ldo_q64 h4ib
 exact zC2 hz Try.func40 (sd 2 rfl) (sd 5 rfl) (fun _ _ _ h0 h1 => cq_div h0 h1 (by decide) (by decide))
 exact zMv hz (sd 6 rfl)
 exact zExt hz (sd 7 rfl)
 exact zExt hz (sd 7 rfl)
 exact zSE rfl (sv S15) (by simp [tagOf]) (Cp5.var tQ_nd) (sd 8 rfl) st_q64
 exact zAs hz (sd 9 rfl)
 intro a' γ' W' hz' hd' hC hk hh
 clear Cp1
 replace Cp2 := kC hC Cp2 (by simp [tagOf, n_p2_p5])
 have tp3 := Cp3.lt
 replace Cp3 := kC hC Cp3 (by simp [tagOf, n_p3_p5])
 have tp4 := Cp4.lt
 replace Cp4 := kC hC Cp4 (by simp [tagOf, n_p4_p5])
 replace Cp5 := gotE (T := tQ B64 6001 ((f ia) / (f ib))) (id := 29) (p := p5) 10 hh rfl rfl
 have tp6 := Cp6.lt
 replace Cp6 := kC hC Cp6 (by simp [tagOf, n_p6_p5])
 replace S3 := kp hk S3
 replace S4 := kp hk S4
 clear S5
 clear S6
 replace S7 := kp hk S7
 replace S12 := kp hk S12
 replace S13 := kp hk S13
 replace S14 := kp hk S14
 replace S15 := kp hk S15
 replace S16 := kp hk S16
 clear S17
 replace S18 := kp hk S18
 clear S25
 clear S98
 have S17 := gotV hz' 11 hh rfl rfl rfl rfl
 clear tp3 tp4 tp6
 replace HB := RelC.aftM HB hC (by intro m hm; simp at hm; rcases hm with rfl <;> assumption)
 clear hC hk hh; replace hz := hz'; replace hd := hd'; clear hz' hd'
 refine region_drawn (M := [p6]) (
  rT (tV (.int .i64 (ia : Int))) ::
  rT (tV (.pointer (some ⟨p2, ia * 2, none⟩))) ::
  rT (tQ B32 3000 (f ia)) ::
  rT (tV (.int .i64 (ib : Int))) ::
  rT (tV (.pointer (some ⟨p2, ib * 2, none⟩))) ::
  rT (tQ B32 3000 (f ib)) ::
  rT (tT [tQ B32 6001 ((f ia) / (f ib)), tV (.bool (decide (f ib ≠ 0)))]) ::
  rT (tT [tQ B32 6001 ((f ia) / (f ib)), tV (.bool (decide (f ib ≠ 0)))]) ::
  rT (tQ B32 6001 ((f ia) / (f ib))) ::
  rT (tV (.bool (decide (f ib ≠ 0)))) ::
  rE 0 33 (tQ B32 6001 ((f ia) / (f ib))) p6 ::
  rT (tV (.bool (decide (f ib ≠ 0)))) ::
  []) hz hd (by kernel_rfl) (by kernel_rfl) ?_ ?_
 refine ⟨?_, ?_, ?_, ?_, ?_, ?_, ?_, ?_, ?_, ?_, ?_, ?_, trivial⟩
 exact zMv hz (sv S3)
 exact zIxA hz (sv S7) (sd 0 rfl) (ix_a32 h4ia)
 exact zLdA hz (sd 1 rfl) (cl0 Cp2 (by simp [tagOf, n_p2_p6])) ldo_q32 h4ia
 exact zMv hz (sv S4)
 exact zIxA hz (sv S7) (sd 3 rfl) (ix_a32 h4ib)
 exact zLdA hz (sd 4 rfl) (cl0 Cp2 (by simp [tagOf, n_p2_p6])) ldo_q32 h4ib
 exact zC2 hz Try.func69 (sd 2 rfl) (sd 5 rfl) (fun _ _ _ h0 h1 => dq_div h0 h1 (by decide) (by decide))
 exact zMv hz (sd 6 rfl)
 exact zExt hz (sd 7 rfl)
 exact zExt hz (sd 7 rfl)
 exact zSE rfl (sv S16) (by simp [tagOf]) (Cp6.var tQ_nd) (sd 8 rfl) st_q32
 exact zAs hz (sd 9 rfl)
 intro a' γ' W' hz' hd' hC hk hh
 clear Cp2
 have tp3 := Cp3.lt
 replace Cp3 := kC hC Cp3 (by simp [tagOf, n_p3_p6])
 have tp4 := Cp4.lt
 replace Cp4 := kC hC Cp4 (by simp [tagOf, n_p4_p6])
 have tp5 := Cp5.lt
 replace Cp5 := kC hC Cp5 (by simp [tagOf, n_p5_p6])
 replace Cp6 := gotE (T := tQ B32 6001 ((f ia) / (f ib))) (id := 33) (p := p6) 10 hh rfl rfl
 clear S3
 clear S4
 clear S7
 replace S12 := kp hk S12
 replace S13 := kp hk S13
 replace S14 := kp hk S14
 replace S15 := kp hk S15
 replace S16 := kp hk S16
 clear S18
 replace S17 := kp hk S17
 have S18 := gotV hz' 11 hh rfl rfl rfl rfl
 clear tp3 tp4 tp5
 replace HB := RelC.aftM HB hC (by intro m hm; simp at hm; rcases hm with rfl <;> assumption)
 clear hC hk hh; replace hz := hz'; replace hd := hd'; clear hz' hd'
 refine wp_seq ?_
 refine region_drawn (M := [p3, p4]) (
  rT (tQ B64 6001 ((f ia) / (f ib))) ::
  rT (tQ B32 6001 ((f ia) / (f ib))) ::
  rT (tV (.bool (decide (f ib ≠ 0)))) ::
  rT (tV (.bool (decide (f ib ≠ 0)))) ::
  rT (tV (.bool true)) ::
  rT (tV (.bool true)) ::
  rT (tQ B64 6001 ((f ia) / (f ib))) ::
  rT (tQ B32 6001 ((f ia) / (f ib))) ::
  rT (tV (.bool (decide ((f ia) / (f ib) = (f ia) / (f ib))))) ::
  rT (tV (.bool (decide ((f ia) / (f ib) = (f ia) / (f ib))))) ::
  rE 0 29 (tQ B64 6001 ((f ia) / (f ib))) p3 ::
  rE 1 33 (tQ B32 6001 ((f ia) / (f ib))) p4 ::
  rT (tV (.bool (decide ((f ia) / (f ib) = (f ia) / (f ib))))) ::
  []) hz hd (by kernel_rfl) (by kernel_rfl) ?_ ?_
 refine ⟨?_, ?_, ?_, ?_, ?_, ?_, ?_, ?_, ?_, ?_, ?_, ?_, ?_, trivial⟩
 exact zLd hz (sv S15) Cp5 ld_q64 (by simp [tagOf, n_p5_p3, n_p5_p4])
 exact zLd hz (sv S16) Cp6 ld_q32 (by simp [tagOf, n_p6_p3, n_p6_p4])
 exact zMv hz (sv S17)
 exact zMv hz (sv S18)
 exact sBin rfl rfl rfl hz rfl (Gd.none_ rfl) rfl (sd 2 rfl) (sd 3 rfl) (fun w => pl_eqb w)
 exact zMv hz (sd 4 rfl)
 exact zLd hz (sv S15) Cp5 ld_q64 (by simp [tagOf, n_p5_p3, n_p5_p4]) (g := gT 5 rfl)
 exact zLd hz (sv S16) Cp6 ld_q32 (by simp [tagOf, n_p6_p3, n_p6_p4]) (g := gT 5 rfl)
 exact zC2 hz Try.func21 (sd 6 rfl) (sd 7 rfl) (fun _ _ _ h0 h1 => l_same h0 h1 (by decide) (by decide)) (g := gT 5 rfl)
 exact zPT hz (sd 5 rfl) (sd 8 rfl)
 exact zSE rfl (sv S12) (by simp [tagOf]) (Cp3.var tQ_nd) (sd 0 rfl) st_q64
 exact zSE rfl (sv S13) (by simp [tagOf, n_p4_p3]) (Cp4.var tR_nd) (sd 1 rfl) st_q32
 exact zAs hz (sd 9 rfl)
 intro a' γ' W' hz' hd' hC hk hh
 replace Cp3 := gotE (T := tQ B64 6001 ((f ia) / (f ib))) (id := 29) (p := p3) 10 hh rfl rfl
 replace Cp4 := gotE (T := tQ B32 6001 ((f ia) / (f ib))) (id := 33) (p := p4) 11 hh rfl rfl
 have tp5 := Cp5.lt
 clear Cp5
 have tp6 := Cp6.lt
 clear Cp6
 replace S12 := kp hk S12
 replace S13 := kp hk S13
 clear S14
 clear S15
 clear S16
 clear S17
 clear S18
 have S14 := gotV hz' 12 hh rfl rfl rfl rfl
 clear tp5 tp6
 replace HB := RelC.aftM HB hC (by intro m hm; simp at hm; rcases hm with rfl | rfl <;> assumption)
 clear hC hk hh; replace hz := hz'; replace hd := hd'; clear hz' hd'
 refine wp_ret ?_
 have hc14 : (f ia) / (f ib) = (f ia) / (f ib) := rfl
 rw [decide_eq_true hc14] at S14
 refine ret_to (T := tT [tQ B64 6001 ((f ia) / (f ib)), tQ B32 6001 ((f ia) / (f ib)), tV (.bool true)]) (retcct_o ldo_q64 ldo_q32 (by kernel_rfl) S12 S13 S14 hd Cp3 Cp4 HB) ?_
 exact to3 (tQ_to (by decide) (by unfold playV; rw [if_neg hc7, if_neg hc9, if_neg hc11, if_pos hc13]) (by decide)) (tQ_to (by decide) (by unfold playV; rw [if_neg hc7, if_neg hc9, if_neg hc11, if_pos hc13]) (by decide)) (fun _ _ h => h)
 rw [decide_eq_false hc13] at S98
 refine wp_cond_false S98.ev ?_
 refine wp_seq ?_
 refine region_text (M := []) (
  rT (tV (.bool (decide (kind = 4)))) ::
  rT (tV (.bool (decide (kind = 4)))) ::
  []) hz hd (by kernel_rfl) ?_ ?_
 refine ⟨?_, ?_, trivial⟩
 exact sBin rfl rfl rfl hz rfl (Gd.none_ rfl) rfl (sv S25) kc (fun w => run_eql)
 exact zAs hz (sd 0 rfl)
 intro a' γ' W' hz' hd' hC hk hh
 replace Cp1 := kC hC Cp1
 replace Cp2 := kC hC Cp2
 have tp3 := Cp3.lt
 replace Cp3 := kC hC Cp3
 have tp4 := Cp4.lt
 replace Cp4 := kC hC Cp4
 have tp5 := Cp5.lt
 replace Cp5 := kC hC Cp5
 have tp6 := Cp6.lt
 replace Cp6 := kC hC Cp6
 replace S3 := kp hk S3
 replace S4 := kp hk S4
 replace S5 := kp hk S5
 replace S6 := kp hk S6
 replace S7 := kp hk S7
 replace S12 := kp hk S12
 replace S13 := kp hk S13
 replace S14 := kp hk S14
 replace S15 := kp hk S15
 replace S16 := kp hk S16
 replace S17 := kp hk S17
 replace S18 := kp hk S18
 replace S25 := kp hk S25
 clear S98
 have S120 := gotV hz' 1 hh rfl rfl rfl rfl
 clear tp3 tp4 tp5 tp6
 replace HB := aft_call HB (RelC.below_nil hC)
 clear hC hk hh; replace hz := hz'; replace hd := hd'; clear hz' hd'
 by_cases hc15 : kind = 4
 rw [decide_eq_true hc15] at S120
 refine wp_cond_true S120.ev ?_
 refine wp_seq ?_
 refine region_text (M := [p5]) (
  rT (tV (.int .i64 (ia : Int))) ::
  rT (tV (.pointer (some ⟨p1, ia * 2, none⟩))) ::
  rT (tQ B64 3000 (f ia)) ::
  rT (tV (.int .i64 n)) ::
  rT (tT [tQ B64 3064 (mulI (f ia) n), tV (.bool (decide (0 ≤ n)))]) ::
  rT (tT [tQ B64 3064 (mulI (f ia) n), tV (.bool (decide (0 ≤ n)))]) ::
  rT (tQ B64 3064 (mulI (f ia) n)) ::
  rT (tV (.bool (decide (0 ≤ n)))) ::
  rE 0 29 (tQ B64 3064 (mulI (f ia) n)) p5 ::
  rT (tV (.bool (decide (0 ≤ n)))) ::
  []) hz hd (by kernel_rfl) ?_ ?_
 refine ⟨?_, ?_, ?_, ?_, ?_, ?_, ?_, ?_, ?_, ?_, trivial⟩
 exact zMv hz (sv S3)
 exact zIxA hz (sv S6) (sd 0 rfl) (ix_a64 h4ia)
 exact zLdA hz (sd 1 rfl) (cl0 Cp1 (by simp [tagOf, n_p1_p5])) ldo_q64 h4ia
 exact zMv hz (sv S5)
 exact zC2 hz Try.func70 (sd 2 rfl) (sd 3 rfl) (k01 (fun _ _ h0 => cq_mulint (n := n) h0 (by decide) (by omega)))
 exact zMv hz (sd 4 rfl)
 exact zExt hz (sd 5 rfl)
 exact zExt hz (sd 5 rfl)
 exact zSE rfl (sv S15) (by simp [tagOf]) (Cp5.var tQ_nd) (sd 6 rfl) st_q64
 exact zAs hz (sd 7 rfl)
 intro a' γ' W' hz' hd' hC hk hh
 clear Cp1
 replace Cp2 := kC hC Cp2 (by simp [tagOf, n_p2_p5])
 have tp3 := Cp3.lt
 replace Cp3 := kC hC Cp3 (by simp [tagOf, n_p3_p5])
 have tp4 := Cp4.lt
 replace Cp4 := kC hC Cp4 (by simp [tagOf, n_p4_p5])
 replace Cp5 := gotE (T := tQ B64 3064 (mulI (f ia) n)) (id := 29) (p := p5) 8 hh rfl rfl
 have tp6 := Cp6.lt
 replace Cp6 := kC hC Cp6 (by simp [tagOf, n_p6_p5])
 replace S3 := kp hk S3
 clear S4
 replace S5 := kp hk S5
 clear S6
 replace S7 := kp hk S7
 replace S12 := kp hk S12
 replace S13 := kp hk S13
 replace S14 := kp hk S14
 replace S15 := kp hk S15
 replace S16 := kp hk S16
 clear S17
 replace S18 := kp hk S18
 clear S25
 clear S120
 have S17 := gotV hz' 9 hh rfl rfl rfl rfl
 clear tp3 tp4 tp6
 replace HB := RelC.aftM HB hC (by intro m hm; simp at hm; rcases hm with rfl <;> assumption)
 clear hC hk hh; replace hz := hz'; replace hd := hd'; clear hz' hd'
 refine region_text (M := [p6]) (
  rT (tV (.int .i64 (ia : Int))) ::
  rT (tV (.pointer (some ⟨p2, ia * 2, none⟩))) ::
  rT (tQ B32 3000 (f ia)) ::
  rT (tV (.int .i64 n)) ::
  rT (tT [tQ B32 3064 (mulI (f ia) n), tV (.bool (decide (0 ≤ n)))]) ::
  rT (tT [tQ B32 3064 (mulI (f ia) n), tV (.bool (decide (0 ≤ n)))]) ::
  rT (tQ B32 3064 (mulI (f ia) n)) ::
  rT (tV (.bool (decide (0 ≤ n)))) ::
  rE 0 33 (tQ B32 3064 (mulI (f ia) n)) p6 ::
  rT (tV (.bool (decide (0 ≤ n)))) ::
  []) hz hd (by kernel_rfl) ?_ ?_
 refine ⟨?_, ?_, ?_, ?_, ?_, ?_, ?_, ?_, ?_, ?_, trivial⟩
 exact zMv hz (sv S3)
 exact zIxA hz (sv S7) (sd 0 rfl) (ix_a32 h4ia)
 exact zLdA hz (sd 1 rfl) (cl0 Cp2 (by simp [tagOf, n_p2_p6])) ldo_q32 h4ia
 exact zMv hz (sv S5)
 exact zC2 hz Try.func71 (sd 2 rfl) (sd 3 rfl) (k01 (fun _ _ h0 => dq_mulint (n := n) h0 (by decide) (by omega)))
 exact zMv hz (sd 4 rfl)
 exact zExt hz (sd 5 rfl)
 exact zExt hz (sd 5 rfl)
 exact zSE rfl (sv S16) (by simp [tagOf]) (Cp6.var tQ_nd) (sd 6 rfl) st_q32
 exact zAs hz (sd 7 rfl)
 intro a' γ' W' hz' hd' hC hk hh
 clear Cp2
 have tp3 := Cp3.lt
 replace Cp3 := kC hC Cp3 (by simp [tagOf, n_p3_p6])
 have tp4 := Cp4.lt
 replace Cp4 := kC hC Cp4 (by simp [tagOf, n_p4_p6])
 have tp5 := Cp5.lt
 replace Cp5 := kC hC Cp5 (by simp [tagOf, n_p5_p6])
 replace Cp6 := gotE (T := tQ B32 3064 (mulI (f ia) n)) (id := 33) (p := p6) 8 hh rfl rfl
 clear S3
 clear S5
 clear S7
 replace S12 := kp hk S12
 replace S13 := kp hk S13
 replace S14 := kp hk S14
 replace S15 := kp hk S15
 replace S16 := kp hk S16
 clear S18
 replace S17 := kp hk S17
 have S18 := gotV hz' 9 hh rfl rfl rfl rfl
 clear tp3 tp4 tp5
 replace HB := RelC.aftM HB hC (by intro m hm; simp at hm; rcases hm with rfl <;> assumption)
 clear hC hk hh; replace hz := hz'; replace hd := hd'; clear hz' hd'
 refine wp_seq ?_
 refine region_drawn (M := [p3, p4]) (
  rT (tQ B64 3064 (mulI (f ia) n)) ::
  rT (tQ B32 3064 (mulI (f ia) n)) ::
  rT (tV (.bool (decide (0 ≤ n)))) ::
  rT (tV (.bool (decide (0 ≤ n)))) ::
  rT (tV (.bool true)) ::
  rT (tV (.bool true)) ::
  rT (tQ B64 3064 (mulI (f ia) n)) ::
  rT (tQ B32 3064 (mulI (f ia) n)) ::
  rT (tV (.bool (decide (mulI (f ia) n = mulI (f ia) n)))) ::
  rT (tV (.bool (decide (mulI (f ia) n = mulI (f ia) n)))) ::
  rE 0 29 (tQ B64 3064 (mulI (f ia) n)) p3 ::
  rE 1 33 (tQ B32 3064 (mulI (f ia) n)) p4 ::
  rT (tV (.bool (decide (mulI (f ia) n = mulI (f ia) n)))) ::
  []) hz hd (by kernel_rfl) (by kernel_rfl) ?_ ?_
 refine ⟨?_, ?_, ?_, ?_, ?_, ?_, ?_, ?_, ?_, ?_, ?_, ?_, ?_, trivial⟩
 exact zLd hz (sv S15) Cp5 ld_q64 (by simp [tagOf, n_p5_p3, n_p5_p4])
 exact zLd hz (sv S16) Cp6 ld_q32 (by simp [tagOf, n_p6_p3, n_p6_p4])
 exact zMv hz (sv S17)
 exact zMv hz (sv S18)
 exact sBin rfl rfl rfl hz rfl (Gd.none_ rfl) rfl (sd 2 rfl) (sd 3 rfl) (fun w => pl_eqb w)
 exact zMv hz (sd 4 rfl)
 exact zLd hz (sv S15) Cp5 ld_q64 (by simp [tagOf, n_p5_p3, n_p5_p4]) (g := gT 5 rfl)
 exact zLd hz (sv S16) Cp6 ld_q32 (by simp [tagOf, n_p6_p3, n_p6_p4]) (g := gT 5 rfl)
 exact zC2 hz Try.func21 (sd 6 rfl) (sd 7 rfl) (fun _ _ _ h0 h1 => l_same h0 h1 (by decide) (by decide)) (g := gT 5 rfl)
 exact zPT hz (sd 5 rfl) (sd 8 rfl)
 exact zSE rfl (sv S12) (by simp [tagOf]) (Cp3.var tQ_nd) (sd 0 rfl) st_q64
 exact zSE rfl (sv S13) (by simp [tagOf, n_p4_p3]) (Cp4.var tR_nd) (sd 1 rfl) st_q32
 exact zAs hz (sd 9 rfl)
 intro a' γ' W' hz' hd' hC hk hh
 replace Cp3 := gotE (T := tQ B64 3064 (mulI (f ia) n)) (id := 29) (p := p3) 10 hh rfl rfl
 replace Cp4 := gotE (T := tQ B32 3064 (mulI (f ia) n)) (id := 33) (p := p4) 11 hh rfl rfl
 have tp5 := Cp5.lt
 clear Cp5
 have tp6 := Cp6.lt
 clear Cp6
 replace S12 := kp hk S12
 replace S13 := kp hk S13
 clear S14
 clear S15
 clear S16
 clear S17
 clear S18
 have S14 := gotV hz' 12 hh rfl rfl rfl rfl
 clear tp5 tp6
 replace HB := RelC.aftM HB hC (by intro m hm; simp at hm; rcases hm with rfl | rfl <;> assumption)
 clear hC hk hh; replace hz := hz'; replace hd := hd'; clear hz' hd'
 refine wp_ret ?_
 have hc16 : mulI (f ia) n = mulI (f ia) n := rfl
 rw [decide_eq_true hc16] at S14
 refine ret_to (T := tT [tQ B64 3064 (mulI (f ia) n), tQ B32 3064 (mulI (f ia) n), tV (.bool true)]) (retcct_o ldo_q64 ldo_q32 (by kernel_rfl) S12 S13 S14 hd Cp3 Cp4 HB) ?_
 exact to3 (tQ_to (by decide) (by unfold playV; rw [if_neg hc7, if_neg hc9, if_neg hc11, if_neg hc13, if_pos hc15]) (by decide)) (tQ_to (by decide) (by unfold playV; rw [if_neg hc7, if_neg hc9, if_neg hc11, if_neg hc13, if_pos hc15]) (by decide)) (fun _ _ h => h)
 rw [decide_eq_false hc15] at S120
 refine wp_cond_false S120.ev ?_
 refine wp_seq ?_
 refine region_text (M := []) (
  rT (tV (.bool (decide (kind = 5)))) ::
  rT (tV (.bool (decide (kind = 5)))) ::
  []) hz hd (by kernel_rfl) ?_ ?_
 refine ⟨?_, ?_, trivial⟩
 exact sBin rfl rfl rfl hz rfl (Gd.none_ rfl) rfl (sv S25) kc (fun w => run_eql)
 exact zAs hz (sd 0 rfl)
 intro a' γ' W' hz' hd' hC hk hh
 replace Cp1 := kC hC Cp1
 replace Cp2 := kC hC Cp2
 have tp3 := Cp3.lt
 replace Cp3 := kC hC Cp3
 have tp4 := Cp4.lt
 replace Cp4 := kC hC Cp4
 have tp5 := Cp5.lt
 replace Cp5 := kC hC Cp5
 have tp6 := Cp6.lt
 replace Cp6 := kC hC Cp6
 replace S3 := kp hk S3
 replace S4 := kp hk S4
 replace S5 := kp hk S5
 replace S6 := kp hk S6
 replace S7 := kp hk S7
 replace S12 := kp hk S12
 replace S13 := kp hk S13
 replace S14 := kp hk S14
 replace S15 := kp hk S15
 replace S16 := kp hk S16
 replace S17 := kp hk S17
 replace S18 := kp hk S18
 replace S25 := kp hk S25
 clear S120
 have S138 := gotV hz' 1 hh rfl rfl rfl rfl
 clear tp3 tp4 tp5 tp6
 replace HB := aft_call HB (RelC.below_nil hC)
 clear hC hk hh; replace hz := hz'; replace hd := hd'; clear hz' hd'
 by_cases hc17 : kind = 5
 rw [decide_eq_true hc17] at S138
 refine wp_cond_true S138.ev ?_
 refine wp_seq ?_
 refine region_text (M := [p5]) (
  rT (tV (.int .i64 (ia : Int))) ::
  rT (tV (.pointer (some ⟨p1, ia * 2, none⟩))) ::
  rT (tQ B64 3000 (f ia)) ::
  rT (tV (.int .i64 n)) ::
  rT (tT [tQ B64 3064 (divI (f ia) n), tV (.bool (decide (1 ≤ n)))]) ::
  rT (tT [tQ B64 3064 (divI (f ia) n), tV (.bool (decide (1 ≤ n)))]) ::
  rT (tQ B64 3064 (divI (f ia) n)) ::
  rT (tV (.bool (decide (1 ≤ n)))) ::
  rE 0 29 (tQ B64 3064 (divI (f ia) n)) p5 ::
  rT (tV (.bool (decide (1 ≤ n)))) ::
  []) hz hd (by kernel_rfl) ?_ ?_
 refine ⟨?_, ?_, ?_, ?_, ?_, ?_, ?_, ?_, ?_, ?_, trivial⟩
 exact zMv hz (sv S3)
 exact zIxA hz (sv S6) (sd 0 rfl) (ix_a64 h4ia)
 exact zLdA hz (sd 1 rfl) (cl0 Cp1 (by simp [tagOf, n_p1_p5])) ldo_q64 h4ia
 exact zMv hz (sv S5)
 exact zC2 hz Try.func72 (sd 2 rfl) (sd 3 rfl) (k01 (fun _ _ h0 => cq_divint (n := n) h0 (by decide) (by omega)))
 exact zMv hz (sd 4 rfl)
 exact zExt hz (sd 5 rfl)
 exact zExt hz (sd 5 rfl)
 exact zSE rfl (sv S15) (by simp [tagOf]) (Cp5.var tQ_nd) (sd 6 rfl) st_q64
 exact zAs hz (sd 7 rfl)
 intro a' γ' W' hz' hd' hC hk hh
 clear Cp1
 replace Cp2 := kC hC Cp2 (by simp [tagOf, n_p2_p5])
 have tp3 := Cp3.lt
 replace Cp3 := kC hC Cp3 (by simp [tagOf, n_p3_p5])
 have tp4 := Cp4.lt
 replace Cp4 := kC hC Cp4 (by simp [tagOf, n_p4_p5])
 replace Cp5 := gotE (T := tQ B64 3064 (divI (f ia) n)) (id := 29) (p := p5) 8 hh rfl rfl
 have tp6 := Cp6.lt
 replace Cp6 := kC hC Cp6 (by simp [tagOf, n_p6_p5])
 replace S3 := kp hk S3
 clear S4
 replace S5 := kp hk S5
 clear S6
 replace S7 := kp hk S7
 replace S12 := kp hk S12
 replace S13 := kp hk S13
 replace S14 := kp hk S14
 replace S15 := kp hk S15
 replace S16 := kp hk S16
 clear S17
 replace S18 := kp hk S18
 clear S25
 clear S138
 have S17 := gotV hz' 9 hh rfl rfl rfl rfl
 clear tp3 tp4 tp6
 replace HB := RelC.aftM HB hC (by intro m hm; simp at hm; rcases hm with rfl <;> assumption)
 clear hC hk hh; replace hz := hz'; replace hd := hd'; clear hz' hd'
 refine region_text (M := [p6]) (
  rT (tV (.int .i64 (ia : Int))) ::
  rT (tV (.pointer (some ⟨p2, ia * 2, none⟩))) ::
  rT (tQ B32 3000 (f ia)) ::
  rT (tV (.int .i64 n)) ::
  rT (tT [tQ B32 3065 (divI (f ia) n), tV (.bool (decide (1 ≤ n)))]) ::
  rT (tT [tQ B32 3065 (divI (f ia) n), tV (.bool (decide (1 ≤ n)))]) ::
  rT (tQ B32 3065 (divI (f ia) n)) ::
  rT (tV (.bool (decide (1 ≤ n)))) ::
  rE 0 33 (tQ B32 3065 (divI (f ia) n)) p6 ::
  rT (tV (.bool (decide (1 ≤ n)))) ::
  []) hz hd (by kernel_rfl) ?_ ?_
 refine ⟨?_, ?_, ?_, ?_, ?_, ?_, ?_, ?_, ?_, ?_, trivial⟩
 exact zMv hz (sv S3)
 exact zIxA hz (sv S7) (sd 0 rfl) (ix_a32 h4ia)
 exact zLdA hz (sd 1 rfl) (cl0 Cp2 (by simp [tagOf, n_p2_p6])) ldo_q32 h4ia
 exact zMv hz (sv S5)
 exact zC2 hz Try.func73 (sd 2 rfl) (sd 3 rfl) (k01 (fun _ _ h0 => dq_divint (n := n) h0 (by decide) (by omega)))
 exact zMv hz (sd 4 rfl)
 exact zExt hz (sd 5 rfl)
 exact zExt hz (sd 5 rfl)
 exact zSE rfl (sv S16) (by simp [tagOf]) (Cp6.var tQ_nd) (sd 6 rfl) st_q32
 exact zAs hz (sd 7 rfl)
 intro a' γ' W' hz' hd' hC hk hh
 clear Cp2
 have tp3 := Cp3.lt
 replace Cp3 := kC hC Cp3 (by simp [tagOf, n_p3_p6])
 have tp4 := Cp4.lt
 replace Cp4 := kC hC Cp4 (by simp [tagOf, n_p4_p6])
 have tp5 := Cp5.lt
 replace Cp5 := kC hC Cp5 (by simp [tagOf, n_p5_p6])
 replace Cp6 := gotE (T := tQ B32 3065 (divI (f ia) n)) (id := 33) (p := p6) 8 hh rfl rfl
 clear S3
 clear S5
 clear S7
 replace S12 := kp hk S12
 replace S13 := kp hk S13
 replace S14 := kp hk S14
 replace S15 := kp hk S15
 replace S16 := kp hk S16
 clear S18
 replace S17 := kp hk S17
 have S18 := gotV hz' 9 hh rfl rfl rfl rfl
 clear tp3 tp4 tp5
 replace HB := RelC.aftM HB hC (by intro m hm; simp at hm; rcases hm with rfl <;> assumption)
 clear hC hk hh; replace hz := hz'; replace hd := hd'; clear hz' hd'
 refine wp_seq ?_
 refine region_drawn (M := [p3, p4]) (
  rT (tQ B64 3064 (divI (f ia) n)) ::
  rT (tQ B32 3065 (divI (f ia) n)) ::
  rT (tV (.bool (decide (1 ≤ n)))) ::
  rT (tV (.bool (decide (1 ≤ n)))) ::
  rT (tV (.bool true)) ::
  rT (tV (.bool true)) ::
  rT (tQ B64 3064 (divI (f ia) n)) ::
  rT (tQ B32 3065 (divI (f ia) n)) ::
  rT (tV (.bool (decide (divI (f ia) n = divI (f ia) n)))) ::
  rT (tV (.bool (decide (divI (f ia) n = divI (f ia) n)))) ::
  rE 0 29 (tQ B64 3064 (divI (f ia) n)) p3 ::
  rE 1 33 (tQ B32 3065 (divI (f ia) n)) p4 ::
  rT (tV (.bool (decide (divI (f ia) n = divI (f ia) n)))) ::
  []) hz hd (by kernel_rfl) (by kernel_rfl) ?_ ?_
 refine ⟨?_, ?_, ?_, ?_, ?_, ?_, ?_, ?_, ?_, ?_, ?_, ?_, ?_, trivial⟩
 exact zLd hz (sv S15) Cp5 ld_q64 (by simp [tagOf, n_p5_p3, n_p5_p4])
 exact zLd hz (sv S16) Cp6 ld_q32 (by simp [tagOf, n_p6_p3, n_p6_p4])
 exact zMv hz (sv S17)
 exact zMv hz (sv S18)
 exact sBin rfl rfl rfl hz rfl (Gd.none_ rfl) rfl (sd 2 rfl) (sd 3 rfl) (fun w => pl_eqb w)
 exact zMv hz (sd 4 rfl)
 exact zLd hz (sv S15) Cp5 ld_q64 (by simp [tagOf, n_p5_p3, n_p5_p4]) (g := gT 5 rfl)
 exact zLd hz (sv S16) Cp6 ld_q32 (by simp [tagOf, n_p6_p3, n_p6_p4]) (g := gT 5 rfl)
 exact zC2 hz Try.func21 (sd 6 rfl) (sd 7 rfl) (fun _ _ _ h0 h1 => l_same h0 h1 (by decide) (by decide)) (g := gT 5 rfl)
 exact zPT hz (sd 5 rfl) (sd 8 rfl)
 exact zSE rfl (sv S12) (by simp [tagOf]) (Cp3.var tQ_nd) (sd 0 rfl) st_q64
 exact zSE rfl (sv S13) (by simp [tagOf, n_p4_p3]) (Cp4.var tR_nd) (sd 1 rfl) st_q32
 exact zAs hz (sd 9 rfl)
 intro a' γ' W' hz' hd' hC hk hh
 replace Cp3 := gotE (T := tQ B64 3064 (divI (f ia) n)) (id := 29) (p := p3) 10 hh rfl rfl
 replace Cp4 := gotE (T := tQ B32 3065 (divI (f ia) n)) (id := 33) (p := p4) 11 hh rfl rfl
 have tp5 := Cp5.lt
 clear Cp5
 have tp6 := Cp6.lt
 clear Cp6
 replace S12 := kp hk S12
 replace S13 := kp hk S13
 clear S14
 clear S15
 clear S16
 clear S17
 clear S18
 have S14 := gotV hz' 12 hh rfl rfl rfl rfl
 clear tp5 tp6
 replace HB := RelC.aftM HB hC (by intro m hm; simp at hm; rcases hm with rfl | rfl <;> assumption)
 clear hC hk hh; replace hz := hz'; replace hd := hd'; clear hz' hd'
 refine wp_ret ?_
 have hc18 : divI (f ia) n = divI (f ia) n := rfl
 rw [decide_eq_true hc18] at S14
 refine ret_to (T := tT [tQ B64 3064 (divI (f ia) n), tQ B32 3065 (divI (f ia) n), tV (.bool true)]) (retcct_o ldo_q64 ldo_q32 (by kernel_rfl) S12 S13 S14 hd Cp3 Cp4 HB) ?_
 exact to3 (tQ_to (by decide) (by unfold playV; rw [if_neg hc7, if_neg hc9, if_neg hc11, if_neg hc13, if_neg hc15, if_pos hc17]) (by decide)) (tQ_to (by decide) (by unfold playV; rw [if_neg hc7, if_neg hc9, if_neg hc11, if_neg hc13, if_neg hc15, if_pos hc17]) (by decide)) (fun _ _ h => h)
 rw [decide_eq_false hc17] at S138
 refine wp_cond_false S138.ev ?_
 refine wp_seq ?_
 refine region_text (M := []) (
  rT (tV (.bool (decide (kind = 6)))) ::
  rT (tV (.bool (decide (kind = 6)))) ::
  []) hz hd (by kernel_rfl) ?_ ?_
 refine ⟨?_, ?_, trivial⟩
 exact sBin rfl rfl rfl hz rfl (Gd.none_ rfl) rfl (sv S25) kc (fun w => run_eql)
 exact zAs hz (sd 0 rfl)
 intro a' γ' W' hz' hd' hC hk hh
 replace Cp1 := kC hC Cp1
 replace Cp2 := kC hC Cp2
 have tp3 := Cp3.lt
 replace Cp3 := kC hC Cp3
 have tp4 := Cp4.lt
 replace Cp4 := kC hC Cp4
 have tp5 := Cp5.lt
 replace Cp5 := kC hC Cp5
 have tp6 := Cp6.lt
 replace Cp6 := kC hC Cp6
 replace S3 := kp hk S3
 replace S4 := kp hk S4
 replace S5 := kp hk S5
 replace S6 := kp hk S6
 replace S7 := kp hk S7
 replace S12 := kp hk S12
 replace S13 := kp hk S13
 replace S14 := kp hk S14
 replace S15 := kp hk S15
 replace S16 := kp hk S16
 replace S17 := kp hk S17
 replace S18 := kp hk S18
 replace S25 := kp hk S25
 clear S138
 have S156 := gotV hz' 1 hh rfl rfl rfl rfl
 clear tp3 tp4 tp5 tp6
 replace HB := aft_call HB (RelC.below_nil hC)
 clear hC hk hh; replace hz := hz'; replace hd := hd'; clear hz' hd'
 by_cases hc19 : kind = 6
 rw [decide_eq_true hc19] at S156
 refine wp_cond_true S156.ev ?_
 refine wp_seq ?_
 refine region_drawn (M := [p5]) (
  rT (tV (.int .i64 (ia : Int))) ::
  rT (tV (.pointer (some ⟨p1, ia * 2, none⟩))) ::
  rT (tQ B64 3000 (f ia)) ::
  rT (tV (.int .i64 (ib : Int))) ::
  rT (tV (.pointer (some ⟨p1, ib * 2, none⟩))) ::
  rT (tQ B64 3000 (f ib)) ::
  rT (tV (.int .i64 n)) ::
  rT (tV (.int .i64 (ic : Int))) ::
  rT (tV (.pointer (some ⟨p1, ic * 2, none⟩))) ::
  rT (tQ B64 3000 (f ic)) ::
  rRow 10 29 B64 3000 [f ia, f ib, f ic] ::
  rT (tQ B64 9004 (0 + (f ia) + (f ib) + (f ic))) ::
  rE 0 29 (tQ B64 9004 (0 + (f ia) + (f ib) + (f ic))) p5 ::
  []) hz hd (by kernel_rfl) (by kernel_rfl) ?_ ?_
 refine ⟨?_, ?_, ?_, ?_, ?_, ?_, ?_, ?_, ?_, ?_, ?_, ?_, ?_, trivial⟩
 exact zMv hz (sv S3)
 exact zIxA hz (sv S6) (sd 0 rfl) (ix_a64 h4ia)
 exact zLdA hz (sd 1 rfl) (cl0 Cp1 (by simp [tagOf, n_p1_p5])) ldo_q64 h4ia
 exact zMv hz (sv S4)
 exact zIxA hz (sv S6) (sd 3 rfl) (ix_a64 h4ib)
 exact zLdA hz (sd 4 rfl) (cl0 Cp1 (by simp [tagOf, n_p1_p5])) ldo_q64 h4ib
 exact zMv hz (sv S5)
 exact sBin rfl rfl rfl hz rfl (Gd.none_ rfl) rfl (sd 6 rfl) kc (fun w => by simp [go_sem, hc3])
 exact zIxA hz (sv S6) (sd 7 rfl) (ix_a64 h4ic)
 exact zLdA hz (sd 8 rfl) (cl0 Cp1 (by simp [tagOf, n_p1_p5])) ldo_q64 h4ic
 exact sRow3 hz rfl (sd 2 rfl) (sd 5 rfl) (sd 9 rfl) bs3_64'
 exact sCallRow (j := 10) hz Try.func41 rfl (fun p w h => cq_sum3 h (by decide))
 exact zSE rfl (sv S15) (by simp [tagOf]) (Cp5.var tQ_nd) (sd 11 rfl) st_q64
 intro a' γ' W' hz' hd' hC hk hh
 clear Cp1
 replace Cp2 := kC hC Cp2 (by simp [tagOf, n_p2_p5])
 have tp3 := Cp3.lt
 replace Cp3 := kC hC Cp3 (by simp [tagOf, n_p3_p5])
 have tp4 := Cp4.lt
 replace Cp4 := kC hC Cp4 (by simp [tagOf, n_p4_p5])
 replace Cp5 := gotE (T := tQ B64 9004 (0 + (f ia) + (f ib) + (f ic))) (id := 29) (p := p5) 12 hh rfl rfl
 have tp6 := Cp6.lt
 replace Cp6 := kC hC Cp6 (by simp [tagOf, n_p6_p5])
 replace S3 := kp hk S3
 replace S4 := kp hk S4
 replace S5 := kp hk S5
 clear S6
 replace S7 := kp hk S7
 replace S12 := kp hk S12
 replace S13 := kp hk S13
 replace S14 := kp hk S14
 replace S15 := kp hk S15
 replace S16 := kp hk S16
 replace S17 := kp hk S17
 replace S18 := kp hk S18
 clear S25
 clear S156
 clear tp3 tp4 tp6
 replace HB := RelC.aftM HB hC (by intro m hm; simp at hm; rcases hm with rfl <;> assumption)
 clear hC hk hh; replace hz := hz'; replace hd := hd'; clear hz' hd'
 refine region_drawn (M := [p6]) (
  rT (tV (.int .i64 (ia : Int))) ::
  rT (tV (.pointer (some ⟨p2, ia * 2, none⟩))) ::
  rT (tQ B32 3000 (f ia)) ::
  rT (tV (.int .i64 (ib : Int))) ::
  rT (tV (.pointer (some ⟨p2, ib * 2, none⟩))) ::
  rT (tQ B32 3000 (f ib)) ::
  rT (tV (.int .i64 n)) ::
  rT (tV (.int .i64 (ic : Int))) ::
  rT (tV (.pointer (some ⟨p2, ic * 2, none⟩))) ::
  rT (tQ B32 3000 (f ic)) ::
  rRow 10 33 B32 3000 [f ia, f ib, f ic] ::
  rT (tQ B32 9004 (0 + (f ia) + (f ib) + (f ic))) ::
  rE 0 33 (tQ B32 9004 (0 + (f ia) + (f ib) + (f ic))) p6 ::
  []) hz hd (by kernel_rfl) (by kernel_rfl) ?_ ?_
 refine ⟨?_, ?_, ?_, ?_, ?_, ?_, ?_, ?_, ?_, ?_, ?_, ?_, ?_, trivial⟩
 exact zMv hz (sv S3)
 exact zIxA hz (sv S7) (sd 0 rfl) (ix_a32 h4ia)
 exact zLdA hz (sd 1 rfl) (cl0 Cp2 (by simp [tagOf, n_p2_p6])) ldo_q32 h4ia
 exact zMv hz (sv S4)
 exact zIxA hz (sv S7) (sd 3 rfl) (ix_a32 h4ib)
 exact zLdA hz (sd 4 rfl) (cl0 Cp2 (by simp [tagOf, n_p2_p6])) ldo_q32 h4ib
 exact zMv hz (sv S5)
 exact sBin rfl rfl rfl hz rfl (Gd.none_ rfl) rfl (sd 6 rfl) kc (fun w => by simp [go_sem, hc3])
 exact zIxA hz (sv S7) (sd 7 rfl) (ix_a32 h4ic)
 exact zLdA hz (sd 8 rfl) (cl0 Cp2 (by simp [tagOf, n_p2_p6])) ldo_q32 h4ic
 exact sRow3 hz rfl (sd 2 rfl) (sd 5 rfl) (sd 9 rfl) bs3_32
 exact sCallRow (j := 10) hz Try.func74 rfl (fun p w h => dq_sum3 h (by decide))
 exact zSE rfl (sv S16) (by simp [tagOf]) (Cp6.var tQ_nd) (sd 11 rfl) st_q32
 intro a' γ' W' hz' hd' hC hk hh
 clear Cp2
 have tp3 := Cp3.lt
 replace Cp3 := kC hC Cp3 (by simp [tagOf, n_p3_p6])
 have tp4 := Cp4.lt
 replace Cp4 := kC hC Cp4 (by simp [tagOf, n_p4_p6])
 have tp5 := Cp5.lt
 replace Cp5 := kC hC Cp5 (by simp [tagOf, n_p5_p6])
 replace Cp6 := gotE (T := tQ B32 9004 (0 + (f ia) + (f ib) + (f ic))) (id := 33) (p := p6) 12 hh rfl rfl
 clear S3
 clear S4
 clear S5
 clear S7
 replace S12 := kp hk S12
 replace S13 := kp hk S13
 replace S14 := kp hk S14
 replace S15 := kp hk S15
 replace S16 := kp hk S16
 replace S17 := kp hk S17
 replace S18 := kp hk S18
 clear tp3 tp4 tp5
 replace HB := RelC.aftM HB hC (by intro m hm; simp at hm; rcases hm with rfl <;> assumption)
 clear hC hk hh; replace hz := hz'; replace hd := hd'; clear hz' hd'
 refine wp_seq ?_
 refine region_drawn (M := [p3, p4]) (
  rT (tQ B64 9004 (0 + (f ia) + (f ib) + (f ic))) ::
  rT (tQ B32 9004 (0 + (f ia) + (f ib) + (f ic))) ::
  rT (tV (.bool true)) ::
  rT (tV (.bool true)) ::
  rT (tV (.bool true)) ::
  rT (tV (.bool true)) ::
  rT (tQ B64 9004 (0 + (f ia) + (f ib) + (f ic))) ::
  rT (tQ B32 9004 (0 + (f ia) + (f ib) + (f ic))) ::
  rT (tV (.bool (decide (0 + (f ia) + (f ib) + (f ic) = 0 + (f ia) + (f ib) + (f ic))))) ::
  rT (tV (.bool (decide (0 + (f ia) + (f ib) + (f ic) = 0 + (f ia) + (f ib) + (f ic))))) ::
  rE 0 29 (tQ B64 9004 (0 + (f ia) + (f ib) + (f ic))) p3 ::
  rE 1 33 (tQ B32 9004 (0 + (f ia) + (f ib) + (f ic))) p4 ::
  rT (tV (.bool (decide (0 + (f ia) + (f ib) + (f ic) = 0 + (f ia) + (f ib) + (f ic))))) ::
  []) hz hd (by kernel_rfl) (by kernel_rfl) ?_ ?_
 refine ⟨?_, ?_, ?_, ?_, ?_, ?_, ?_, ?_, ?_, ?_, ?_, ?_, ?_, trivial⟩
 exact zLd hz (sv S15) Cp5 ld_q64 (by simp [tagOf, n_p5_p3, n_p5_p4])
 exact zLd hz (sv S16) Cp6 ld_q32 (by simp [tagOf, n_p6_p3, n_p6_p4])
 exact zMv hz (sv S17)
 exact zMv hz (sv S18)
 exact sBin rfl rfl rfl hz rfl (Gd.none_ rfl) rfl (sd 2 rfl) (sd 3 rfl) (fun w => by kernel_rfl)
 exact zMv hz (sd 4 rfl)
 exact zLd hz (sv S15) Cp5 ld_q64 (by simp [tagOf, n_p5_p3, n_p5_p4]) (g := gT 5 rfl)
 exact zLd hz (sv S16) Cp6 ld_q32 (by simp [tagOf, n_p6_p3, n_p6_p4]) (g := gT 5 rfl)
 exact zC2 hz Try.func21 (sd 6 rfl) (sd 7 rfl) (fun _ _ _ h0 h1 => l_same h0 h1 (by decide) (by decide)) (g := gT 5 rfl)
 exact zPT hz (sd 5 rfl) (sd 8 rfl)
 exact zSE rfl (sv S12) (by simp [tagOf]) (Cp3.var tQ_nd) (sd 0 rfl) st_q64
 exact zSE rfl (sv S13) (by simp [tagOf, n_p4_p3]) (Cp4.var tR_nd) (sd 1 rfl) st_q32
 exact zAs hz (sd 9 rfl)
 intro a' γ' W' hz' hd' hC hk hh
 replace Cp3 := gotE (T := tQ B64 9004 (0 + (f ia) + (f ib) + (f ic))) (id := 29) (p := p3) 10 hh rfl rfl
 replace Cp4 := gotE (T := tQ B32 9004 (0 + (f ia) + (f ib) + (f ic))) (id := 33) (p := p4) 11 hh rfl rfl
 have tp5 := Cp5.lt
 clear Cp5
 have tp6 := Cp6.lt
 clear Cp6
 replace S12 := kp hk S12
 replace S13 := kp hk S13
 clear S14
 clear S15
 clear S16
 clear S17
 clear S18
 have S14 := gotV hz' 12 hh rfl rfl rfl rfl
 clear tp5 tp6
 replace HB := RelC.aftM HB hC (by intro m hm; simp at hm; rcases hm with rfl | rfl <;> assumption)
 clear hC hk hh; replace hz := hz'; replace hd := hd'; clear hz' hd'
 refine wp_ret ?_
 have hc20 : 0 + (f ia) + (f ib) + (f ic) = 0 + (f ia) + (f ib) + (f ic) := rfl
 rw [decide_eq_true hc20] at S14
 refine ret_to (T := tT [tQ B64 9004 (0 + (f ia) + (f ib) + (f ic)), tQ B32 9004 (0 + (f ia) + (f ib) + (f ic)), tV (.bool true)]) (retcct_o ldo_q64 ldo_q32 (by kernel_rfl) S12 S13 S14 hd Cp3 Cp4 HB) ?_
 exact to3 (tQ_to (by decide) (by unfold playV; rw [if_neg hc7, if_neg hc9, if_neg hc11, if_neg hc13, if_neg hc15, if_neg hc17, if_pos hc19]) (by decide)) (tQ_to (by decide) (by unfold playV; rw [if_neg hc7, if_neg hc9, if_neg hc11, if_neg hc13, if_neg hc15, if_neg hc17, if_pos hc19]) (by decide)) (fun _ _ h => h)
 rw [decide_eq_false hc19] at S156
 refine wp_cond_false S156.ev ?_
 refine wp_seq ?_
 refine region_text (M := []) (
  rT (tV (.bool (decide (kind = 7)))) ::
  rT (tV (.bool (decide (kind = 7)))) ::
  []) hz hd (by kernel_rfl) ?_ ?_
 refine ⟨?_, ?_, trivial⟩
 exact sBin rfl rfl rfl hz rfl (Gd.none_ rfl) rfl (sv S25) kc (fun w => run_eql)
 exact zAs hz (sd 0 rfl)
 intro a' γ' W' hz' hd' hC hk hh
 replace Cp1 := kC hC Cp1
 replace Cp2 := kC hC Cp2
 have tp3 := Cp3.lt
 replace Cp3 := kC hC Cp3
 have tp4 := Cp4.lt
 replace Cp4 := kC hC Cp4
 have tp5 := Cp5.lt
 replace Cp5 := kC hC Cp5
 have tp6 := Cp6.lt
 replace Cp6 := kC hC Cp6
 replace S3 := kp hk S3
 replace S4 := kp hk S4
 clear S5
 replace S6 := kp hk S6
 replace S7 := kp hk S7
 replace S12 := kp hk S12
 replace S13 := kp hk S13
 replace S14 := kp hk S14
 replace S15 := kp hk S15
 replace S16 := kp hk S16
 replace S17 := kp hk S17
 replace S18 := kp hk S18
 clear S25
 clear S156
 have S182 := gotV hz' 1 hh rfl rfl rfl rfl
 clear tp3 tp4 tp5 tp6
 replace HB := aft_call HB (RelC.below_nil hC)
 clear hC hk hh; replace hz := hz'; replace hd := hd'; clear hz' hd'
 by_cases hc21 : kind = 7
 rw [decide_eq_true hc21] at S182
 refine wp_cond_true S182.ev ?_
 refine wp_seq ?_
 refine region_drawn (M := [p5]) (
  rT (tV (.int .i64 (ia : Int))) ::
  rT (tV (.pointer (some ⟨p1, ia * 2, none⟩))) ::
  rT (tQ B64 3000 (f ia)) ::
  rT (tV (.int .i64 (ib : Int))) ::
  rT (tV (.pointer (some ⟨p1, ib * 2, none⟩))) ::
  rT (tQ B64 3000 (f ib)) ::
  rT (tQ B64 3000 (btw (f ia) (f ib))) ::
  rE 0 29 (tQ B64 3000 (btw (f ia) (f ib))) p5 ::
  []) hz hd (by kernel_rfl) (by kernel_rfl) ?_ ?_
 refine ⟨?_, ?_, ?_, ?_, ?_, ?_, ?_, ?_, trivial⟩
 exact zMv hz (sv S3)
 exact zIxA hz (sv S6) (sd 0 rfl) (ix_a64 h4ia)
 exact zLdA hz (sd 1 rfl) (cl0 Cp1 (by simp [tagOf, n_p1_p5])) ldo_q64 h4ia
 exact zMv hz (sv S4)
 exact zIxA hz (sv S6) (sd 3 rfl) (ix_a64 h4ib)
 exact zLdA hz (sd 4 rfl) (cl0 Cp1 (by simp [tagOf, n_p1_p5])) ldo_q64 h4ib
 exact zC2 hz Try.func42 (sd 2 rfl) (sd 5 rfl) (fun _ _ _ h0 h1 => cq_btw h0 h1 (by decide))
 exact zSE rfl (sv S15) (by simp [tagOf]) (Cp5.var tQ_nd) (sd 6 rfl) st_q64
 intro a' γ' W' hz' hd' hC hk hh
 clear Cp1
 replace Cp2 := kC hC Cp2 (by simp [tagOf, n_p2_p5])
 have tp3 := Cp3.lt
 replace Cp3 := kC hC Cp3 (by simp [tagOf, n_p3_p5])
 have tp4 := Cp4.lt
 replace Cp4 := kC hC Cp4 (by simp [tagOf, n_p4_p5])
 replace Cp5 := gotE (T := tQ B64 3000 (btw (f ia) (f ib))) (id := 29) (p := p5) 7 hh rfl rfl
 have tp6 := Cp6.lt
 replace Cp6 := kC hC Cp6 (by simp [tagOf, n_p6_p5])
 replace S3 := kp hk S3
 replace S4 := kp hk S4
 clear S6
 replace S7 := kp hk S7
 replace S12 := kp hk S12
 replace S13 := kp hk S13
 replace S14 := kp hk S14
 replace S15 := kp hk S15
 replace S16 := kp hk S16
 replace S17 := kp hk S17
 replace S18 := kp hk S18
 clear S182
 clear tp3 tp4 tp6
 replace HB := RelC.aftM HB hC (by intro m hm; simp at hm; rcases hm with rfl <;> assumption)
 clear hC hk hh; replace hz := hz'; replace hd := hd'; clear hz' hd'
 refine region_drawn (M := [p6]) (
  rT (tV (.int .i64 (ia : Int))) ::
  rT (tV (.pointer (some ⟨p2, ia * 2, none⟩))) ::
  rT (tQ B32 3000 (f ia)) ::
  rT (tV (.int .i64 (ib : Int))) ::
  rT (tV (.pointer (some ⟨p2, ib * 2, none⟩))) ::
  rT (tQ B32 3000 (f ib)) ::
  rT (tQ B32 3000 (btw (f ia) (f ib))) ::
  rE 0 33 (tQ B32 3000 (btw (f ia) (f ib))) p6 ::
  []) hz hd (by kernel_rfl) (by kernel_rfl) ?_ ?_
 refine ⟨?_, ?_, ?_, ?_, ?_, ?_, ?_, ?_, trivial⟩
 exact zMv hz (sv S3)
 exact zIxA hz (sv S7) (sd 0 rfl) (ix_a32 h4ia)
 exact zLdA hz (sd 1 rfl) (cl0 Cp2 (by simp [tagOf, n_p2_p6])) ldo_q32 h4ia
 exact zMv hz (sv S4)
 exact zIxA hz (sv S7) (sd 3 rfl) (ix_a32 h4ib)
 exact zLdA hz (sd 4 rfl) (cl0 Cp2 (by simp [tagOf, n_p2_p6])) ldo_q32 h4ib
 exact zC2 hz Try.func75 (sd 2 rfl) (sd 5 rfl) (fun _ _ _ h0 h1 => dq_btw h0 h1 (by decide) (by decide))
 exact zSE rfl (sv S16) (by simp [tagOf]) (Cp6.var tQ_nd) (sd 6 rfl) st_q32
 intro a' γ' W' hz' hd' hC hk hh
 clear Cp2
 have tp3 := Cp3.lt
 replace Cp3 := kC hC Cp3 (by simp [tagOf, n_p3_p6])
 have tp4 := Cp4.lt
 replace Cp4 := kC hC Cp4 (by simp [tagOf, n_p4_p6])
 have tp5 := Cp5.lt
 replace Cp5 := kC hC Cp5 (by simp [tagOf, n_p5_p6])
 replace Cp6 := gotE (T := tQ B32 3000 (btw (f ia) (f ib))) (id := 33) (p := p6) 7 hh rfl rfl
 clear S3
 clear S4
 clear S7
 replace S12 := kp hk S12
 replace S13 := kp hk S13
 replace S14 := kp hk S14
 replace S15 := kp hk S15
 replace S16 := kp hk S16
 replace S17 := kp hk S17
 replace S18 := kp hk S18
 clear tp3 tp4 tp5
 replace HB := RelC.aftM HB hC (by intro m hm; simp at hm; rcases hm with rfl <;> assumption)
 clear hC hk hh; replace hz := hz'; replace hd := hd'; clear hz' hd'
 refine wp_seq ?_
 refine region_drawn (M := [p3, p4]) (
  rT (tQ B64 3000 (btw (f ia) (f ib))) ::
  rT (tQ B32 3000 (btw (f ia) (f ib))) ::
  rT (tV (.bool true)) ::
  rT (tV (.bool true)) ::
  rT (tV (.bool true)) ::
  rT (tV (.bool true)) ::
  rT (tQ B64 3000 (btw (f ia) (f ib))) ::
  rT (tQ B32 3000 (btw (f ia) (f ib))) ::
  rT (tV (.bool (decide (btw (f ia) (f ib) = btw (f ia) (f ib))))) ::
  rT (tV (.bool (decide (btw (f ia) (f ib) = btw (f ia) (f ib))))) ::
  rE 0 29 (tQ B64 3000 (btw (f ia) (f ib))) p3 ::
  rE 1 33 (tQ B32 3000 (btw (f ia) (f ib))) p4 ::
  rT (tV (.bool (decide (btw (f ia) (f ib) = btw (f ia) (f ib))))) ::
  []) hz hd (by kernel_rfl) (by kernel_rfl) ?_ ?_
 refine ⟨?_, ?_, ?_, ?_, ?_, ?_, ?_, ?_, ?_, ?_, ?_, ?_, ?_, trivial⟩
 exact zLd hz (sv S15) Cp5 ld_q64 (by simp [tagOf, n_p5_p3, n_p5_p4])
 exact zLd hz (sv S16) Cp6 ld_q32 (by simp [tagOf, n_p6_p3, n_p6_p4])
 exact zMv hz (sv S17)
 exact zMv hz (sv S18)
 exact sBin rfl rfl rfl hz rfl (Gd.none_ rfl) rfl (sd 2 rfl) (sd 3 rfl) (fun w => by kernel_rfl)
 exact zMv hz (sd 4 rfl)
 exact zLd hz (sv S15) Cp5 ld_q64 (by simp [tagOf, n_p5_p3, n_p5_p4]) (g := gT 5 rfl)
 exact zLd hz (sv S16) Cp6 ld_q32 (by simp [tagOf, n_p6_p3, n_p6_p4]) (g := gT 5 rfl)
 exact zC2 hz Try.func21 (sd 6 rfl) (sd 7 rfl) (fun _ _ _ h0 h1 => l_same h0 h1 (by decide) (by decide)) (g := gT 5 rfl)
 exact zPT hz (sd 5 rfl) (sd 8 rfl)
 exact zSE rfl (sv S12) (by simp [tagOf]) (Cp3.var tQ_nd) (sd 0 rfl) st_q64
 exact zSE rfl (sv S13) (by simp [tagOf, n_p4_p3]) (Cp4.var tR_nd) (sd 1 rfl) st_q32
 exact zAs hz (sd 9 rfl)
 intro a' γ' W' hz' hd' hC hk hh
 replace Cp3 := gotE (T := tQ B64 3000 (btw (f ia) (f ib))) (id := 29) (p := p3) 10 hh rfl rfl
 replace Cp4 := gotE (T := tQ B32 3000 (btw (f ia) (f ib))) (id := 33) (p := p4) 11 hh rfl rfl
 have tp5 := Cp5.lt
 clear Cp5
 have tp6 := Cp6.lt
 clear Cp6
 replace S12 := kp hk S12
 replace S13 := kp hk S13
 clear S14
 clear S15
 clear S16
 clear S17
 clear S18
 have S14 := gotV hz' 12 hh rfl rfl rfl rfl
 clear tp5 tp6
 replace HB := RelC.aftM HB hC (by intro m hm; simp at hm; rcases hm with rfl | rfl <;> assumption)
 clear hC hk hh; replace hz := hz'; replace hd := hd'; clear hz' hd'
 refine wp_ret ?_
 have hc22 : btw (f ia) (f ib) = btw (f ia) (f ib) := rfl
 rw [decide_eq_true hc22] at S14
 refine ret_to (T := tT [tQ B64 3000 (btw (f ia) (f ib)), tQ B32 3000 (btw (f ia) (f ib)), tV (.bool true)]) (retcct_o ldo_q64 ldo_q32 (by kernel_rfl) S12 S13 S14 hd Cp3 Cp4 HB) ?_
 exact to3 (tQ_to (by decide) (by unfold playV; rw [if_neg hc7, if_neg hc9, if_neg hc11, if_neg hc13, if_neg hc15, if_neg hc17, if_neg hc19, if_pos hc21]) (by decide)) (tQ_to (by decide) (by unfold playV; rw [if_neg hc7, if_neg hc9, if_neg hc11, if_neg hc13, if_neg hc15, if_neg hc17, if_neg hc19, if_pos hc21]) (by decide)) (fun _ _ h => h)
 rw [decide_eq_false hc21] at S182
 refine wp_cond_false S182.ev ?_
 refine wp_seq ?_
 refine region_drawn (M := []) (
  rT (tV (.int .i64 (ia : Int))) ::
  rT (tV (.pointer (some ⟨p1, ia * 2, none⟩))) ::
  rT (tQ B64 3000 (f ia)) ::
  rT (tV (.int .i64 (ib : Int))) ::
  rT (tV (.pointer (some ⟨p1, ib * 2, none⟩))) ::
  rT (tQ B64 3000 (f ib)) ::
  rT (tV (.int .i64 (cmpQ (f ia) (f ib)))) ::
  rT (tV (.int .i64 (ia : Int))) ::
  rT (tV (.pointer (some ⟨p2, ia * 2, none⟩))) ::
  rT (tQ B32 3000 (f ia)) ::
  rT (tV (.int .i64 (ib : Int))) ::
  rT (tV (.pointer (some ⟨p2, ib * 2, none⟩))) ::
  rT (tQ B32 3000 (f ib)) ::
  rT (tV (.int .i64 (cmpQ (f ia) (f ib)))) ::
  rT (tV (.bool true)) ::
  rT (tV (.bool true)) ::
  []) hz hd (by kernel_rfl) (by kernel_rfl) ?_ ?_
 refine ⟨?_, ?_, ?_, ?_, ?_, ?_, ?_, ?_, ?_, ?_, ?_, ?_, ?_, ?_, ?_, ?_, trivial⟩
 exact zMv hz (sv S3)
 exact zIxA hz (sv S6) (sd 0 rfl) (ix_a64 h4ia)
 exact zLdA hz (sd 1 rfl) (cl0 Cp1) ldo_q64 h4ia
 exact zMv hz (sv S4)
 exact zIxA hz (sv S6) (sd 3 rfl) (ix_a64 h4ib)
 exact zLdA hz (sd 4 rfl) (cl0 Cp1) ldo_q64 h4ib
 exact zC2 hz Try.func38 (sd 2 rfl) (sd 5 rfl) (fun _ _ _ h0 h1 => cq_cmp h0 h1 (by decide) (by decide))
 exact zMv hz (sv S3)
 exact zIxA hz (sv S7) (sd 7 rfl) (ix_a32 h4ia)
 exact zLdA hz (sd 8 rfl) (cl0 Cp2) ldo_q32 h4ia
 exact zMv hz (sv S4)
 exact zIxA hz (sv S7) (sd 10 rfl) (ix_a32 h4ib)
 exact zLdA hz (sd 11 rfl) (cl0 Cp2) ldo_q32 h4ib
 exact zC2 hz Try.func76 (sd 9 rfl) (sd 12 rfl) (fun _ _ _ h0 h1 => dq_cmp h0 h1 (by decide) (by decide))
 exact sBin rfl rfl rfl hz rfl (Gd.none_ rfl) rfl (sd 6 rfl) (sd 13 rfl) (fun w => by simp [go_sem])
 exact zAs hz (sd 14 rfl)
 intro a' γ' W' hz' hd' hC hk hh
 clear Cp1
 clear Cp2
 have tp3 := Cp3.lt
 replace Cp3 := kC hC Cp3
 have tp4 := Cp4.lt
 replace Cp4 := kC hC Cp4
 have tp5 := Cp5.lt
 replace Cp5 := kC hC Cp5
 have tp6 := Cp6.lt
 replace Cp6 := kC hC Cp6
 clear S3
 clear S4
 clear S6
 clear S7
 replace S12 := kp hk S12
 replace S13 := kp hk S13
 replace S14 := kp hk S14
 replace S15 := kp hk S15
 replace S16 := kp hk S16
 clear S17
 replace S18 := kp hk S18
 clear S182
 have S17 := gotV hz' 15 hh rfl rfl rfl rfl
 clear tp3 tp4 tp5 tp6
 replace HB := aft_call HB (RelC.below_nil hC)
 clear hC hk hh; replace hz := hz'; replace hd := hd'; clear hz' hd'
 refine wp_seq ?_
 refine region_drawn (M := [p3, p4]) (
  rT (tQ B64 3000 (f ia)) ::
  rT (tQ B32 3000 (f ia)) ::
  rT (tV (.bool true)) ::
  rE 0 29 (tQ B64 3000 (f ia)) p3 ::
  rE 1 33 (tQ B32 3000 (f ia)) p4 ::
  rT (tV (.bool true)) ::
  []) hz hd (by kernel_rfl) (by kernel_rfl) ?_ ?_
 refine ⟨?_, ?_, ?_, ?_, ?_, ?_, trivial⟩
 exact zLd hz (sv S15) Cp5 ld_q64 (by simp [tagOf, n_p5_p3, n_p5_p4])
 exact zLd hz (sv S16) Cp6 ld_q32 (by simp [tagOf, n_p6_p3, n_p6_p4])
 exact zMv hz (sv S17)
 exact zSE rfl (sv S12) (by simp [tagOf]) (Cp3.var tQ_nd) (sd 0 rfl) st_q64
 exact zSE rfl (sv S13) (by simp [tagOf, n_p4_p3]) (Cp4.var tR_nd) (sd 1 rfl) st_q32
 exact zAs hz (sd 2 rfl)
 intro a' γ' W' hz' hd' hC hk hh
 replace Cp3 := gotE (T := tQ B64 3000 (f ia)) (id := 29) (p := p3) 3 hh rfl rfl
 replace Cp4 := gotE (T := tQ B32 3000 (f ia)) (id := 33) (p := p4) 4 hh rfl rfl
 have tp5 := Cp5.lt
 replace Cp5 := kC hC Cp5 (by simp [tagOf, n_p5_p3, n_p5_p4])
 have tp6 := Cp6.lt
 replace Cp6 := kC hC Cp6 (by simp [tagOf, n_p6_p3, n_p6_p4])
 replace S12 := kp hk S12
 replace S13 := kp hk S13
 clear S14
 replace S15 := kp hk S15
 replace S16 := kp hk S16
 replace S18 := kp hk S18
 replace S17 := kp hk S17
 have S14 := gotV hz' 5 hh rfl rfl rfl rfl
 clear tp5 tp6
 replace HB := RelC.aftM HB hC (by intro m hm; simp at hm; rcases hm with rfl | rfl <;> assumption)
 clear hC hk hh; replace hz := hz'; replace hd := hd'; clear hz' hd'
 refine wp_ret ?_
 refine ret_to (T := tT [tQ B64 3000 (f ia), tQ B32 3000 (f ia), tV (.bool true)]) (retcct_o ldo_q64 ldo_q32 (by kernel_rfl) S12 S13 S14 hd Cp3 Cp4 HB) ?_
 exact to3 (tQ_to (by decide) (by unfold playV; rw [if_neg hc7, if_neg hc9, if_neg hc11, if_neg hc13, if_neg hc15, if_neg hc17, if_neg hc19, if_neg hc21]) (by decide)) (tQ_to (by decide) (by unfold playV; rw [if_neg hc7, if_neg hc9, if_neg hc11, if_neg hc13, if_neg hc15, if_neg hc17, if_neg hc19, if_neg hc21]) (by decide)) (fun _ _ h => h)

def shortQ (x : Rat) : Bool := decide (bl x.num.toNat < 3000) && decide (bl x.den < 3000)
set_option maxRecDepth 10000 in
set_option maxHeartbeats 2000000 in
theorem l_short {l : Nat} {x : Rat} {v0 : Value} {w : World} (h0 : (tQ B32 l x).p v0 w) (hl : l ≤ 1000000) :
    Calls Try.prog 46 #[v0] w (Ret (tV (.bool (shortQ x))) w) := by
 refine enter Try.func46 rfl Try.ntmps46 (by simp) ?_
 intro a hz hd ha
 have S0 := ha 0 _ rfl
 have H0 := h0
 clear ha
 have HB : Below w.heap.size w w := Below.refl _ _
 refine wp_seq ?_
 refine region_text (M := []) (
  rB 0 33 (tQ B32 l x) none 0 ::
  rT (tV (.bool false)) ::
  []) hz hd (by kernel_rfl) ?_ ?_
 refine ⟨?_, ?_, trivial⟩
 exact zBox hz (so S0 H0) box_q32
 exact zAs hz kc
 intro a' γ' W' hz' hd' hC hk hh
 clear S0 H0
 obtain ⟨p1, S1, Cp1, lp1, gp1⟩ := gotB hz' 0 hC hh rfl rfl rfl rfl rfl rfl
 have S2 := gotV hz' 1 hh rfl rfl rfl rfl
 clear lp1 gp1
 replace HB := aft_call HB (RelC.below_nil hC)
 clear hC hk hh; replace hz := hz'; replace hd := hd'; clear hz' hd'
 refine wp_seq ?_
 by_cases hc2 : bl x.num.toNat < 3000
 refine region_text (M := []) (
  rT (tV (.pointer (some ⟨p1, 0, none⟩))) ::
  rT (tN B32 l x.num.toNat) ::
  rT (tV (.int .i64 ((bl x.num.toNat : Nat) : Int))) ::
  rT (tV (.bool true)) ::
  rT (tV (.bool true)) ::
  rT (tV (.pointer (some ⟨p1, 1, none⟩))) ::
  rT (tN B32 l x.den) ::
  rT (tV (.int .i64 ((bl x.den : Nat) : Int))) ::
  rT (tV (.bool (decide (bl x.den < 3000)))) ::
  rT (tV (.bool (decide (bl x.den < 3000)))) ::
  rT (tV (.bool (decide (bl x.den < 3000)))) ::
  []) hz hd (by kernel_rfl) ?_ ?_
 refine ⟨?_, ?_, ?_, ?_, ?_, ?_, ?_, ?_, ?_, ?_, ?_, trivial⟩
 exact sFA rfl rfl rfl hz rfl (Gd.none_ rfl) rfl (sv S1) (fun w => by simp [go_sem])
 exact zLdP hz (sd 0 rfl) Cp1 ldp_q32
 exact zC1 hz Try.func77 (sd 1 rfl) (fun _ _ h0 => d_len h0 (by rw [big_eq]; omega))
 exact sBin rfl rfl rfl hz rfl (Gd.none_ rfl) rfl (sd 2 rfl) kc (fun w => run_t (P := bl x.num.toNat < 3000) ((fun w => by simp [go_sem]; omega) w) hc2)
 exact zMv hz (sd 3 rfl)
 exact sFA rfl rfl rfl hz rfl (gT 4 rfl) rfl (sv S1) (fun w => by simp [go_sem])
 exact zLdP hz (sd 5 rfl) Cp1 ldq_q32 (g := gT 4 rfl)
 exact zC1 hz Try.func77 (sd 6 rfl) (fun _ _ h0 => d_len h0 (by rw [big_eq]; omega)) (g := gT 4 rfl)
 exact sBin rfl rfl rfl hz rfl (gT 4 rfl) rfl (sd 7 rfl) kc (fun w => by simp [go_sem]; omega)
 exact zPT hz (sd 4 rfl) (sd 8 rfl)
 exact zAs hz (sd 9 rfl)
 intro a' γ' W' hz' hd' hC hk hh
 clear Cp1
 clear S1
 clear S2
 have S2 := gotV hz' 10 hh rfl rfl rfl rfl
 replace HB := aft_call HB (RelC.below_nil hC)
 clear hC hk hh; replace hz := hz'; replace hd := hd'; clear hz' hd'
 refine wp_ret ?_
 by_cases hc3 : bl x.den < 3000
 rw [decide_eq_true hc3] at S2
 refine ret_to (T := tV (.bool true)) (ret1 (by kernel_rfl) S2 hd ⟨_, rfl, rfl, HB⟩) ?_
 exact tV_to (by simp only [shortQ]; simp [*])
 rw [decide_eq_false hc3] at S2
 refine ret_to (T := tV (.bool false)) (ret1 (by kernel_rfl) S2 hd ⟨_, rfl, rfl, HB⟩) ?_
 exact tV_to (by simp only [shortQ]; simp [*])
 refine region_text (M := []) (
  rT (tV (.pointer (some ⟨p1, 0, none⟩))) ::
  rT (tN B32 l x.num.toNat) ::
  rT (tV (.int .i64 ((bl x.num.toNat : Nat) : Int))) ::
  rT (tV (.bool false)) ::
  rT (tV (.bool false)) ::
  rT (tV undef) ::
  rT (tV undef) ::
  rT (tV undef) ::
  rT (tV undef) ::
  rT (tV (.bool false)) ::
  rT (tV (.bool false)) ::
  []) hz hd (by kernel_rfl) ?_ ?_
 refine ⟨?_, ?_, ?_, ?_, ?_, ?_, ?_, ?_, ?_, ?_, ?_, trivial⟩
 exact sFA rfl rfl rfl hz rfl (Gd.none_ rfl) rfl (sv S1) (fun w => by simp [go_sem])
 exact zLdP hz (sd 0 rfl) Cp1 ldp_q32
 exact zC1 hz Try.func77 (sd 1 rfl) (fun _ _ h0 => d_len h0 (by rw [big_eq]; omega))
 exact sBin rfl rfl rfl hz rfl (Gd.none_ rfl) rfl (sd 2 rfl) kc (fun w => run_f (P := bl x.num.toNat < 3000) ((fun w => by simp [go_sem]; omega) w) hc2)
 exact zMv hz (sd 3 rfl)
 exact zSkU hz (gN 4 rfl)
 exact zSkU hz (gN 4 rfl)
 exact zSkU hz (gN 4 rfl)
 exact zSkU hz (gN 4 rfl)
 exact zPF hz (sd 4 rfl) kc
 exact zAs hz (sd 9 rfl)
 intro a' γ' W' hz' hd' hC hk hh
 clear Cp1
 clear S1
 clear S2
 have S2 := gotV hz' 10 hh rfl rfl rfl rfl
 replace HB := aft_call HB (RelC.below_nil hC)
 clear hC hk hh; replace hz := hz'; replace hd := hd'; clear hz' hd'
 refine wp_ret ?_
 refine ret_to (T := tV (.bool false)) (ret1 (by kernel_rfl) S2 hd ⟨_, rfl, rfl, HB⟩) ?_
 exact tV_to (by simp only [shortQ]; simp [*])

end Go.Proofs.Ythanbjbcpljcoaa.Rg

namespace Go.Proofs.Ythanbjbcpljcoaa.Rg

open Go.RowKit

def updQ (f : Nat → Rat) (i : Nat) (x : Rat) : Nat → Rat := fun j => if j = i then x else f j
theorem z_a64 : ∀ w, (tA fun j => tQ B64 3000 ((fun _ => 0 : Nat → Rat) j)).p zero8 w := fun w => tA_to (g := fun _ => tZ2) (fun j _ v w h => by obtain rfl : v = _ := h; exact tQ_le (by decide) (by decide) _ _ (tQ_nil (w := w))) _ _ (z_a w)
section

variable {b m i : Nat} {f : Nat → Rat} {x : Rat} {Z : Ty}
theorem mix_next (hb : 2 ≤ b) (hm : m ≤ 3000) : ∀ j, j < 4 → ∀ v w, (updT (mixT b 3000 i Z f) i (tQ b m x) j).p v w → (mixT b 3000 (i + 1) Z (updQ f i x) j).p v w := by
  intro j _ v w h
  unfold updT at h
  unfold mixT updQ
  by_cases e : j = i
  · rw [if_pos e] at h
    rw [if_pos (by omega)]
    simp only [e, if_true]
    exact tQ_le hb hm _ _ h
  · rw [if_neg e] at h
    unfold mixT at h
    by_cases e2 : j < i
    · rw [if_pos e2] at h
      rw [if_pos (by omega)]
      simp only [if_neg e]; exact h
    · rw [if_neg e2] at h
      rw [if_neg (by omega)]; exact h
theorem mix_next2 {m' : Nat} {y : Rat} (hb : 2 ≤ b) (hm : m ≤ 3000) : ∀ j, j < 4 → ∀ v w, (updT (updT (mixT b 3000 i Z f) i (tQ b m' y)) i (tQ b m x) j).p v w → (mixT b 3000 (i + 1) Z (updQ f i x) j).p v w := by
  intro j hj v w h
  refine mix_next hb hm j hj v w ?_
  unfold updT at h ⊢
  by_cases e : j = i
  · rw [if_pos e] at h ⊢; exact h
  · rw [if_neg e] at h ⊢; rw [if_neg e] at h; exact h
theorem all_next (hb : 2 ≤ b) (hm : m ≤ 3000) : ∀ j, j < 4 → ∀ v w, (updT (fun j => tQ b 3000 (f j)) i (tQ b m x) j).p v w → (tQ b 3000 (updQ f i x j)).p v w := by
  intro j _ v w h
  unfold updT at h
  unfold updQ
  by_cases e : j = i
  · rw [if_pos e] at h; rw [if_pos e]; exact tQ_le hb hm _ _ h
  · rw [if_neg e] at h; rw [if_neg e]; exact h
theorem nd4_upd {g : Nat → Ty} {T : Ty} (h : ND4 g) (hT : ND T) : ND4 (updT g i T) := by
  have key : ∀ j, g j ∈ [g 0, g 1, g 2, g 3] → ND (updT g i T j) := fun j hj => by
    unfold updT; split
    · exact hT
    · exact h _ hj
  intro U hU
  simp at hU
  rcases hU with rfl | rfl | rfl | rfl <;> exact key _ (by simp)
theorem mix4 {v : Value} {w : World} {j : Nat} (e : i = 4) (h : (mixT b 3000 i Z f j).p v w) : (mixT b 3000 4 Z f j).p v w := e ▸ h
theorem short_bits {K : Nat} (hK : 3000 ≤ K) (h : shortQ x = true) : x.num.toNat < 2 ^ K ∧ x.den < 2 ^ K := by
  unfold shortQ at h
  rw [Bool.and_eq_true, decide_eq_true_eq, decide_eq_true_eq] at h
  obtain ⟨h1, h2⟩ := h
  have e1 : bl x.num.toNat ≤ K := by omega
  have e2 : bl x.den ≤ K := by omega
  exact ⟨Nat.lt_of_lt_of_le bl_lt (Nat.pow_le_pow_right (by decide) e1), Nat.lt_of_lt_of_le bl_lt (Nat.pow_le_pow_right (by decide) e2)⟩
theorem all_short {K : Nat} (hK : 3000 ≤ K) (hb : 2 ≤ b) (hs : shortQ x = true) : ∀ j, j < 4 → ∀ v w, (updT (fun j => tQ b K (f j)) i (tQ b m x) j).p v w → (tQ b K (updQ f i x j)).p v w := by
  intro j _ v w h
  obtain ⟨h1, h2⟩ := short_bits hK hs
  unfold updT at h
  unfold updQ
  by_cases e : j = i
  · rw [if_pos e] at h; rw [if_pos e]; exact tQ_fit hb h h1 h2
  · rw [if_neg e] at h; rw [if_neg e]; exact h
theorem all_same (hz : f i = 0) : ∀ j, j < 4 → ∀ v w, (tQ b 3000 (f j)).p v w → (tQ b 3000 (updQ f i 0 j)).p v w := by
  intro j _ v w h
  unfold updQ
  by_cases e : j = i
  · rw [if_pos e]; rw [e, hz] at h; exact h
  · rw [if_neg e]; exact h
theorem all_mix : ∀ j, j < 4 → ∀ v w, (mixT b 3000 4 Z f j).p v w → (tQ b 3000 (f j)).p v w := by
  intro j hj v w h
  unfold mixT at h
  rw [if_pos hj] at h; exact h
end
theorem and_3 (x : Int) : ∃ n : Nat, bits .and .i64 x 3 = (n : Int) ∧ n < 4 := by
  obtain ⟨n, h1, h2⟩ := and_i64 x 2 (by omega)
  exact ⟨n, h2, h1⟩
theorem Cell.toU {id : TypeId} {T U : Ty} {p : Nat} {w : World} (h : Cell id T p w) (c : ∀ v w, T.p v w → U.p v w) : Cell id U p w := by
  obtain ⟨v, h1, h2⟩ := h; exact ⟨v, h1, c _ _ h2⟩
set_option maxRecDepth 10000 in
set_option maxHeartbeats 2000000 in
theorem ratPlays_ret {Af As : Option Addr} {nf cf ns cs : Nat} {ls ms : Nat → List Nat} {F : Nat → Int} {w : World} (HFr : RF Af nf ls ms w.heap.size w) (HSc : RI 5 As ns F w.heap.size w) (hF : ∀ j, -9223372036854775808 ≤ F j ∧ F j < 9223372036854775808) :
    Calls Try.prog 8 #[.slice Af nf cf, .slice As ns cs] w (Ret (tV (.bool true)) w) := by
 refine enter Try.func8 rfl Try.ntmps8 (by simp) ?_
 intro a hz hd ha
 have S0 := ha 0 _ rfl
 have S1 := ha 1 _ rfl
 clear ha
 have HB : Below w.heap.size w w := Below.refl _ _
 refine wp_seq ?_
 refine region_text (M := []) (
  rT (tV (.bool false)) ::
  []) hz hd (by kernel_rfl) ?_ ?_
 refine ⟨?_, trivial⟩
 exact zAs hz kc
 intro a' γ' W' hz' hd' hC hk hh
 replace S0 := kp hk S0
 replace S1 := kp hk S1
 replace HFr := RF.aft HFr hC (by intro m hm; simp at hm)
 replace HSc := RI.aft HSc hC (by intro m hm; simp at hm)
 have S4 := gotV hz' 0 hh rfl rfl rfl rfl
 replace HB := aft_call HB (RelC.below_nil hC)
 clear hC hk hh; replace hz := hz'; replace hd := hd'; clear hz' hd'
 refine wp_seq ?_
 refine wp_seq ?_
 refine region_text (M := []) (
  rT (tV (.bool true)) ::
  rT (tV (.bool false)) ::
  []) hz hd (by kernel_rfl) ?_ ?_
 refine ⟨?_, ?_, trivial⟩
 exact zC0 hz Try.func20 (fun _ => l_told)
 exact zNot hz (sd 0 rfl)
 intro a' γ' W' hz' hd' hC hk hh
 replace S0 := kp hk S0
 replace S1 := kp hk S1
 replace S4 := kp hk S4
 replace HFr := RF.aft HFr hC (by intro m hm; simp at hm)
 replace HSc := RI.aft HSc hC (by intro m hm; simp at hm)
 have S18 := gotV hz' 1 hh rfl rfl rfl rfl
 replace HB := aft_call HB (RelC.below_nil hC)
 clear hC hk hh; replace hz := hz'; replace hd := hd'; clear hz' hd'
 refine wp_cond_false S18.ev ?_
 refine wp_skip ?_
 refine wp_seq ?_
 refine region_text (M := []) (
  rB 0 76 (tA (fun j => tQ B64 3000 ((fun _ => 0 : Nat → Rat) j))) none 0 ::
  []) hz hd (by kernel_rfl) ?_ ?_
 refine ⟨?_, trivial⟩
 exact zNew hz z_a64 al_a64
 intro a' γ' W' hz' hd' hC hk hh
 replace S0 := kp hk S0
 replace S1 := kp hk S1
 replace S4 := kp hk S4
 clear S18
 replace HFr := RF.aft HFr hC (by intro m hm; simp at hm)
 replace HSc := RI.aft HSc hC (by intro m hm; simp at hm)
 obtain ⟨p1, S5, Cp1, lp1, gp1⟩ := gotB hz' 0 hC hh rfl rfl rfl rfl rfl rfl
 have bp1 : w.heap.size ≤ p1 := Nat.le_trans HB.size lp1
 clear lp1 gp1
 replace HB := aft_call HB (RelC.below_nil hC)
 clear hC hk hh; replace hz := hz'; replace hd := hd'; clear hz' hd'
 refine wp_seq ?_
 refine region_text (M := []) (
  rB 0 77 (tA (mixT B32 3000 0 tZ2 (fun _ => 0 : Nat → Rat))) none 0 ::
  []) hz hd (by kernel_rfl) ?_ ?_
 refine ⟨?_, trivial⟩
 exact zNew hz z_mix al_a32
 intro a' γ' W' hz' hd' hC hk hh
 have ep1 := Cp1.lt
 have tp1 := Cp1.lt
 replace Cp1 := kC hC Cp1
 replace S0 := kp hk S0
 replace S1 := kp hk S1
 replace S4 := kp hk S4
 replace S5 := kp hk S5
 replace HFr := RF.aft HFr hC (by intro m hm; simp at hm)
 replace HSc := RI.aft HSc hC (by intro m hm; simp at hm)
 obtain ⟨p2, S6, Cp2, lp2, gp2⟩ := gotB hz' 0 hC hh rfl rfl rfl rfl rfl rfl
 have n_p2_p1 : p2 ≠ p1 := by omega
 have n_p1_p2 : p1 ≠ p2 := by have := ep1; omega
 have bp2 : w.heap.size ≤ p2 := Nat.le_trans HB.size lp2
 clear lp2 gp2
 clear tp1
 clear ep1
 replace HB := aft_call HB (RelC.below_nil hC)
 clear hC hk hh; replace hz := hz'; replace hd := hd'; clear hz' hd'
 refine wp_seq ?_
 refine wp_seq ?_
 refine region_text (M := []) (
  rT (tV (.int .i64 0)) ::
  []) hz hd (by kernel_rfl) ?_ ?_
 refine ⟨?_, trivial⟩
 exact zAs hz kc
 intro a' γ' W' hz' hd' hC hk hh
 have tp1 := Cp1.lt
 replace Cp1 := kC hC Cp1
 have tp2 := Cp2.lt
 replace Cp2 := kC hC Cp2
 replace S0 := kp hk S0
 replace S1 := kp hk S1
 replace S4 := kp hk S4
 replace S5 := kp hk S5
 replace S6 := kp hk S6
 replace HFr := RF.aft HFr hC (by intro m hm; simp at hm)
 replace HSc := RI.aft HSc hC (by intro m hm; simp at hm)
 have S7 := gotV hz' 0 hh rfl rfl rfl rfl
 clear tp1 tp2
 replace HB := aft_call HB (RelC.below_nil hC)
 clear hC hk hh; replace hz := hz'; replace hd := hd'; clear hz' hd'
 refine wp_block ?_
 refine wp_loop_ghost (fun k a W => ∃ (i : Nat) (f : Nat → Rat), k = 4 - i ∧ a.tmps.size = 100 ∧ a.defers = [] ∧ Below w.heap.size w W ∧ Sl a 0 (.slice Af nf cf) ∧ Sl a 1 (.slice As ns cs) ∧ Sl a 4 (.bool false) ∧ Sl a 5 (.pointer (some ⟨p1, 0, none⟩)) ∧ Sl a 6 (.pointer (some ⟨p2, 0, none⟩)) ∧ Sl a 7 (.int .i64 (i : Int)) ∧ RF Af nf ls ms w.heap.size W ∧ RI 5 As ns F w.heap.size W ∧ Cell 76 (tA (fun j => tQ B64 3000 (f j))) p1 W ∧ Cell 77 (tA (mixT B32 3000 i tZ2 f)) p2 W ∧ i ≤ 4 ∧ ∀ j, i ≤ j → f j = 0) _ ⟨0, (fun _ => 0), rfl, hz, hd, HB, S0, S1, S4, S5, S6, S7, HFr, HSc, Cp1, Cp2, (by decide), (fun _ _ => rfl)⟩ ?_
 clear S0 S1 S4 S5 S6 S7 Cp1 Cp2 HFr HSc hz hd HB
 rintro k a W ⟨i, f, rfl, hz, hd, HB, S0, S1, S4, S5, S6, S7, HFr, HSc, Cx, Cw, h4, hz0⟩
 refine wp_seq ?_
 refine wp_seq ?_
 refine region_text (M := []) (
  rT (tV (.int .i64 (i : Int))) ::
  rT (tV (.bool (decide (i < 4)))) ::
  []) hz hd (by kernel_rfl) ?_ ?_
 refine ⟨?_, ?_, trivial⟩
 exact zMv hz (sv S7)
 exact sBin rfl rfl rfl hz rfl (Gd.none_ rfl) rfl (sd 0 rfl) kc (fun w => by simp [go_sem]; try omega)
 intro a' γ' W' hz' hd' hC hk hh
 have tp1 := Cx.lt
 replace Cx := kC hC Cx
 have tp2 := Cw.lt
 replace Cw := kC hC Cw
 replace S0 := kp hk S0
 replace S1 := kp hk S1
 replace S4 := kp hk S4
 replace S5 := kp hk S5
 replace S6 := kp hk S6
 replace S7 := kp hk S7
 replace HFr := RF.aft HFr hC (by intro m hm; simp at hm)
 replace HSc := RI.aft HSc hC (by intro m hm; simp at hm)
 have S20 := gotV hz' 1 hh rfl rfl rfl rfl
 clear tp1 tp2
 replace HB := aft_call HB (RelC.below_nil hC)
 clear hC hk hh; replace hz := hz'; replace hd := hd'; clear hz' hd'
 by_cases hc3 : i < 4
 rw [decide_eq_true hc3] at S20
 refine wp_cond_true S20.ev ?_
 refine wp_skip ?_
 refine wp_seq ?_
 refine wp_block ?_
 refine wp_seq ?_
 have h4i : i < 4 := by omega
 refine region_text (M := [p2]) (
  rT (tV (.int .i64 (i : Int))) ::
  rT (tQ B32 1 0) ::
  rT (tV (.pointer (some ⟨p2, i * 2, none⟩))) ::
  rE 0 77 (tA (updT (mixT B32 3000 i tZ2 f) i (tQ B32 1 0))) p2 ::
  []) hz hd (by kernel_rfl) ?_ ?_
 refine ⟨?_, ?_, ?_, ?_, trivial⟩
 exact zMv hz (sv S7)
 exact zC0 hz Try.func44 (fun _ => dq_zero)
 exact zIxA hz (sv S6) (sd 0 rfl) (ix_a32 h4i)
 exact zStA rfl (sd 2 rfl) (by simp [tagOf]) (clM (k := 0) Cw (by simp [tagOf])) Cw.lt (sd 1 rfl) sto_q32 (nd_mix nd_z2) h4i
 intro a' γ' W' hz' hd' hC hk hh
 have tp1 := Cx.lt
 replace Cx := kC hC Cx (by simp [tagOf, n_p1_p2])
 replace Cw := gotE (T := tA (updT (mixT B32 3000 i tZ2 f) i (tQ B32 1 0))) (id := 77) (p := p2) 3 hh rfl rfl
 replace S0 := kp hk S0
 replace S1 := kp hk S1
 replace S4 := kp hk S4
 replace S5 := kp hk S5
 replace S6 := kp hk S6
 replace S7 := kp hk S7
 replace S20 := kp hk S20
 replace HFr := RF.aft HFr hC (by intro m hm; simp at hm; rcases hm with rfl <;> assumption)
 replace HSc := RI.aft HSc hC (by intro m hm; simp at hm; rcases hm with rfl <;> assumption)
 clear tp1
 replace HB := RelC.aftM HB hC (by intro m hm; simp at hm; rcases hm with rfl <;> assumption)
 clear hC hk hh; replace hz := hz'; replace hd := hd'; clear hz' hd'
 refine wp_seq ?_
 refine region_text (M := []) (
  rT (tV (.int .i64 (i : Int))) ::
  rT (tV (.slice Af nf cf)) ::
  rT (tV (.int .i64 (nf : Int))) ::
  rT (tV (.bool (decide (i < nf)))) ::
  []) hz hd (by kernel_rfl) ?_ ?_
 refine ⟨?_, ?_, ?_, ?_, trivial⟩
 exact zMv hz (sv S7)
 exact zMv hz (sv S0)
 exact sLenK hz rfl (sd 1 rfl) (fun w => by simp [go_sem])
 exact sBin rfl rfl rfl hz rfl (Gd.none_ rfl) rfl (sd 0 rfl) (sd 2 rfl) (fun w => by simp [go_sem]; try omega)
 intro a' γ' W' hz' hd' hC hk hh
 have tp1 := Cx.lt
 replace Cx := kC hC Cx
 have tp2 := Cw.lt
 replace Cw := kC hC Cw
 replace S0 := kp hk S0
 replace S1 := kp hk S1
 replace S4 := kp hk S4
 replace S5 := kp hk S5
 replace S6 := kp hk S6
 replace S7 := kp hk S7
 replace S20 := kp hk S20
 replace HFr := RF.aft HFr hC (by intro m hm; simp at hm)
 replace HSc := RI.aft HSc hC (by intro m hm; simp at hm)
 have S29 := gotV hz' 3 hh rfl rfl rfl rfl
 clear tp1 tp2
 replace HB := aft_call HB (RelC.below_nil hC)
 clear hC hk hh; replace hz := hz'; replace hd := hd'; clear hz' hd'
 by_cases hc4 : i < nf
 rw [decide_eq_true hc4] at S29
 refine wp_cond_true S29.ev ?_
 obtain ⟨gf, of, u0, v0, hAf, hgf, hu0, hv0, hF0⟩ := HFr i (by omega)
 refine region_text (M := [p1, p2]) (
  rT (tV (.int .i64 (i : Int))) ::
  rT (tV (.int .i64 (i : Int))) ::
  rT (tV (.slice Af nf cf)) ::
  rT (tV (.int .i64 (i : Int))) ::
  rT (tV (.pointer (some ⟨gf, of + i * 2, none⟩))) ::
  rT (tF (ls i) (ms i)) ::
  rT (tT [tQ B64 960 (mkF (ls i) (ms i)), tQ B32 960 (mkF (ls i) (ms i))]) ::
  rT (tT [tQ B64 960 (mkF (ls i) (ms i)), tQ B32 960 (mkF (ls i) (ms i))]) ::
  rT (tQ B64 960 (mkF (ls i) (ms i))) ::
  rT (tQ B32 960 (mkF (ls i) (ms i))) ::
  rT (tV (.pointer (some ⟨p1, i * 2, none⟩))) ::
  rE 0 76 (tA (updT ((fun j => tQ B64 3000 (f j))) i (tQ B64 960 (mkF (ls i) (ms i))))) p1 ::
  rT (tV (.pointer (some ⟨p2, i * 2, none⟩))) ::
  rE 1 77 (tA (updT (updT (mixT B32 3000 i tZ2 f) i (tQ B32 1 0)) i (tQ B32 960 (mkF (ls i) (ms i))))) p2 ::
  []) hz hd (by kernel_rfl) ?_ ?_
 refine ⟨?_, ?_, ?_, ?_, ?_, ?_, ?_, ?_, ?_, ?_, ?_, ?_, ?_, ?_, trivial⟩
 exact zMv hz (sv S7)
 exact zMv hz (sv S7)
 exact zMv hz (sv S0)
 exact zMv hz (sv S7)
 exact zIxV hz rfl (sd 2 rfl) (sd 3 rfl) (ix_fr hAf (by omega))
 exact zLdV hz rfl (sd 4 rfl) (fun γ w hC => ld_fr (cell_oaft hu0 hC hgf (by intro m hm; simp at hm; rcases hm with rfl | rfl <;> assumption)) (cell_oaft hv0 hC hgf (by intro m hm; simp at hm; rcases hm with rfl | rfl <;> assumption)) (Ty.aft _ hF0 hC))
 exact zC1 hz Try.func9 (sd 5 rfl) (fun _ _ h0 => l_made h0)
 exact zMv hz (sd 6 rfl)
 exact zExt hz (sd 7 rfl)
 exact zExt hz (sd 7 rfl)
 exact zIxA hz (sv S5) (sd 0 rfl) (ix_a64 h4i)
 exact zStA rfl (sd 10 rfl) (by simp [tagOf]) (clM (k := 0) Cx (by simp [tagOf])) Cx.lt (sd 8 rfl) sto_q64 nd4_q h4i
 exact zIxA hz (sv S6) (sd 1 rfl) (ix_a32 h4i)
 exact zStA rfl (sd 12 rfl) (by simp [tagOf, n_p2_p1]) (clM (k := 1) Cw (by simp [tagOf, n_p2_p1])) Cw.lt (sd 9 rfl) sto_q32 (nd4_upd (nd_mix nd_z2) nd_q) h4i
 intro a' γ' W' hz' hd' hC hk hh
 replace Cx := gotE (T := tA (updT ((fun j => tQ B64 3000 (f j))) i (tQ B64 960 (mkF (ls i) (ms i))))) (id := 76) (p := p1) 11 hh rfl rfl
 replace Cw := gotE (T := tA (updT (updT (mixT B32 3000 i tZ2 f) i (tQ B32 1 0)) i (tQ B32 960 (mkF (ls i) (ms i))))) (id := 77) (p := p2) 13 hh rfl rfl
 replace S0 := kp hk S0
 replace S1 := kp hk S1
 replace S4 := kp hk S4
 replace S5 := kp hk S5
 replace S6 := kp hk S6
 replace S7 := kp hk S7
 replace S20 := kp hk S20
 replace S29 := kp hk S29
 replace HFr := RF.aft HFr hC (by intro m hm; simp at hm; rcases hm with rfl | rfl <;> assumption)
 replace HSc := RI.aft HSc hC (by intro m hm; simp at hm; rcases hm with rfl | rfl <;> assumption)
 replace HB := RelC.aftM HB hC (by intro m hm; simp at hm; rcases hm with rfl | rfl <;> assumption)
 clear hC hk hh; replace hz := hz'; replace hd := hd'; clear hz' hd'
 refine region_text (M := []) (
  rT (tV (.int .i64 (i : Int))) ::
  rT (tV (.int .i64 ((i + 1 : Nat) : Int))) ::
  rT (tV (.int .i64 ((i + 1 : Nat) : Int))) ::
  []) hz hd (by kernel_rfl) ?_ ?_
 refine ⟨?_, ?_, ?_, trivial⟩
 exact zMv hz (sv S7)
 exact sBin rfl rfl rfl hz rfl (Gd.none_ rfl) rfl (sd 0 rfl) kc (fun w => by simp [go_sem, IntKind.wrap_i64]; omega)
 exact zAs hz (sd 1 rfl)
 intro a' γ' W' hz' hd' hC hk hh
 have tp1 := Cx.lt
 replace Cx := kC hC Cx
 have tp2 := Cw.lt
 replace Cw := kC hC Cw
 replace S0 := kp hk S0
 replace S1 := kp hk S1
 replace S4 := kp hk S4
 replace S5 := kp hk S5
 replace S6 := kp hk S6
 clear S7
 replace S20 := kp hk S20
 replace S29 := kp hk S29
 replace HFr := RF.aft HFr hC (by intro m hm; simp at hm)
 replace HSc := RI.aft HSc hC (by intro m hm; simp at hm)
 have S7 := gotV hz' 2 hh rfl rfl rfl rfl
 clear tp1 tp2
 replace HB := aft_call HB (RelC.below_nil hC)
 clear hC hk hh; replace hz := hz'; replace hd := hd'; clear hz' hd'
 replace Cw : Cell 77 (tA (mixT B32 3000 (i + 1) tZ2 (updQ f i (mkF (ls i) (ms i))))) p2 _ := Cell.toU Cw (tA_to (mix_next2 (by decide) (by decide)))
 replace Cx : Cell 76 (tA (fun j => tQ B64 3000 ((updQ f i (mkF (ls i) (ms i))) j))) p1 _ := Cell.toU Cx (tA_to (all_next (by decide) (by decide)))
 show ∃ n', n' < _ ∧ _
 refine ⟨_, ?_, i + 1, updQ f i (mkF (ls i) (ms i)), rfl, hz, hd, HB, S0, S1, S4, S5, S6, S7, HFr, HSc, Cx, Cw, (by omega), (fun j hj => by unfold updQ; rw [if_neg (by omega)]; exact hz0 j (by omega))⟩
 omega
 rw [decide_eq_false hc4] at S29
 refine wp_cond_false S29.ev ?_
 refine wp_skip ?_
 refine region_text (M := []) (
  rT (tV (.int .i64 (i : Int))) ::
  rT (tV (.int .i64 ((i + 1 : Nat) : Int))) ::
  rT (tV (.int .i64 ((i + 1 : Nat) : Int))) ::
  []) hz hd (by kernel_rfl) ?_ ?_
 refine ⟨?_, ?_, ?_, trivial⟩
 exact zMv hz (sv S7)
 exact sBin rfl rfl rfl hz rfl (Gd.none_ rfl) rfl (sd 0 rfl) kc (fun w => by simp [go_sem, IntKind.wrap_i64]; omega)
 exact zAs hz (sd 1 rfl)
 intro a' γ' W' hz' hd' hC hk hh
 have tp1 := Cx.lt
 replace Cx := kC hC Cx
 have tp2 := Cw.lt
 replace Cw := kC hC Cw
 replace S0 := kp hk S0
 replace S1 := kp hk S1
 replace S4 := kp hk S4
 replace S5 := kp hk S5
 replace S6 := kp hk S6
 clear S7
 replace S20 := kp hk S20
 replace S29 := kp hk S29
 replace HFr := RF.aft HFr hC (by intro m hm; simp at hm)
 replace HSc := RI.aft HSc hC (by intro m hm; simp at hm)
 have S7 := gotV hz' 2 hh rfl rfl rfl rfl
 clear tp1 tp2
 replace HB := aft_call HB (RelC.below_nil hC)
 clear hC hk hh; replace hz := hz'; replace hd := hd'; clear hz' hd'
 replace Cw : Cell 77 (tA (mixT B32 3000 (i + 1) tZ2 (updQ f i (0)))) p2 _ := Cell.toU Cw (tA_to (mix_next (by decide) (by decide)))
 replace Cx : Cell 76 (tA (fun j => tQ B64 3000 ((updQ f i (0)) j))) p1 _ := Cell.toU Cx (tA_to (all_same (hz0 i (Nat.le_refl _))))
 show ∃ n', n' < _ ∧ _
 refine ⟨_, ?_, i + 1, updQ f i (0), rfl, hz, hd, HB, S0, S1, S4, S5, S6, S7, HFr, HSc, Cx, Cw, (by omega), (fun j hj => by unfold updQ; rw [if_neg (by omega)]; exact hz0 j (by omega))⟩
 omega
 rw [decide_eq_false hc3] at S20
 refine wp_cond_false S20.ev ?_
 refine wp_exit ?_
 refine wp_seq ?_
 refine wp_seq ?_
 refine region_text (M := []) (
  rT (tV (.int .i64 0)) ::
  []) hz hd (by kernel_rfl) ?_ ?_
 refine ⟨?_, trivial⟩
 exact zAs hz kc
 intro a' γ' W' hz' hd' hC hk hh
 have tp1 := Cx.lt
 replace Cx := kC hC Cx
 have tp2 := Cw.lt
 replace Cw := kC hC Cw
 clear S0
 replace S1 := kp hk S1
 replace S4 := kp hk S4
 replace S5 := kp hk S5
 replace S6 := kp hk S6
 clear S7
 clear S20
 replace HFr := RF.aft HFr hC (by intro m hm; simp at hm)
 replace HSc := RI.aft HSc hC (by intro m hm; simp at hm)
 have S8 := gotV hz' 0 hh rfl rfl rfl rfl
 clear tp1 tp2
 replace HB := aft_call HB (RelC.below_nil hC)
 clear hC hk hh; replace hz := hz'; replace hd := hd'; clear hz' hd'
 refine wp_block ?_
 replace Cw : Cell 77 (tA (fun j => tQ B32 3000 (f j))) p2 _ := Cell.toU Cw (tA_to ((fun j hj v w h => all_mix j hj v w (mix4 (by omega) h))))
 refine wp_loop_ghost (fun k a W => ∃ (i : Nat) (f : Nat → Rat), k = 40 - i ∧ a.tmps.size = 100 ∧ a.defers = [] ∧ Below w.heap.size w W ∧ Sl a 1 (.slice As ns cs) ∧ Sl a 4 (.bool false) ∧ Sl a 5 (.pointer (some ⟨p1, 0, none⟩)) ∧ Sl a 6 (.pointer (some ⟨p2, 0, none⟩)) ∧ Sl a 8 (.int .i64 (i : Int)) ∧ RF Af nf ls ms w.heap.size W ∧ RI 5 As ns F w.heap.size W ∧ Cell 76 (tA (fun j => tQ B64 3000 (f j))) p1 W ∧ Cell 77 (tA (fun j => tQ B32 3000 (f j))) p2 W ∧ i ≤ 40) _ ⟨0, f, rfl, hz, hd, HB, S1, S4, S5, S6, S8, HFr, HSc, Cx, Cw, (by decide)⟩ ?_
 clear S1 S4 S5 S6 S8 Cx Cw HFr HSc hz hd HB
 rintro k a W ⟨i, f, rfl, hz, hd, HB, S1, S4, S5, S6, S8, HFr, HSc, Cx, Cw, h40⟩
 refine wp_seq ?_
 refine wp_seq ?_
 by_cases hc5 : i < ns
 refine region_text (M := []) (
  rT (tV (.int .i64 (i : Int))) ::
  rT (tV (.slice As ns cs)) ::
  rT (tV (.int .i64 (ns : Int))) ::
  rT (tV (.bool true)) ::
  rT (tV (.bool true)) ::
  rT (tV (.int .i64 (i : Int))) ::
  rT (tV (.bool (decide (i < 40)))) ::
  rT (tV (.bool (decide (i < 40)))) ::
  []) hz hd (by kernel_rfl) ?_ ?_
 refine ⟨?_, ?_, ?_, ?_, ?_, ?_, ?_, ?_, trivial⟩
 exact zMv hz (sv S8)
 exact zMv hz (sv S1)
 exact sLenK hz rfl (sd 1 rfl) (fun w => by simp [go_sem])
 exact sBin rfl rfl rfl hz rfl (Gd.none_ rfl) rfl (sd 0 rfl) (sd 2 rfl) (fun w => run_t (P := i < ns) ((fun w => by simp [go_sem]; try omega) w) hc5)
 exact zMv hz (sd 3 rfl)
 exact zMv hz (sv S8) (g := gT 4 rfl)
 exact sBin rfl rfl rfl hz rfl (gT 4 rfl) rfl (sd 5 rfl) kc (fun w => by simp [go_sem]; try omega)
 exact zPT hz (sd 4 rfl) (sd 6 rfl)
 intro a' γ' W' hz' hd' hC hk hh
 have tp1 := Cx.lt
 replace Cx := kC hC Cx
 have tp2 := Cw.lt
 replace Cw := kC hC Cw
 replace S1 := kp hk S1
 replace S4 := kp hk S4
 replace S5 := kp hk S5
 replace S6 := kp hk S6
 replace S8 := kp hk S8
 replace HFr := RF.aft HFr hC (by intro m hm; simp at hm)
 replace HSc := RI.aft HSc hC (by intro m hm; simp at hm)
 have S49 := gotV hz' 7 hh rfl rfl rfl rfl
 clear tp1 tp2
 replace HB := aft_call HB (RelC.below_nil hC)
 clear hC hk hh; replace hz := hz'; replace hd := hd'; clear hz' hd'
 by_cases hc6 : i < 40
 rw [decide_eq_true hc6] at S49
 refine wp_cond_true S49.ev ?_
 refine wp_skip ?_
 refine wp_seq ?_
 refine wp_block ?_
 refine wp_seq ?_
 obtain ⟨gs, os, hA, hgs, hcs⟩ := HSc i (by omega)
 obtain ⟨ai, hc_ai, h4ai⟩ := and_3 (F (i * 5 + 1))
 obtain ⟨bi, hc_bi, h4bi⟩ := and_3 (F (i * 5 + 2))
 obtain ⟨ti, hc_ti, h4ti⟩ := and_3 (F (i * 5 + 3))
 obtain ⟨ci, hc3i, h4ci⟩ := and_3 (F (i * 5 + 4))
 have hF4 := hF (i * 5 + 4)
 obtain ⟨x0, e_x0⟩ : ∃ x : Rat, x = playV f (F (i * 5)) ai bi ci (F (i * 5 + 4)) := ⟨_, rfl⟩
 refine region_text (M := []) (
  rT (tV (.slice As ns cs)) ::
  rT (tV (.int .i64 (i : Int))) ::
  rT (tV (.pointer (some ⟨gs, os + i * 5, none⟩))) ::
  rT (tO [tV (.int .i64 (F (i * 5))), tV (.int .i64 (F (i * 5 + 1))), tV (.int .i64 (F (i * 5 + 2))), tV (.int .i64 (F (i * 5 + 3))), tV (.int .i64 (F (i * 5 + 4)))] [1, 1, 1, 1, 1]) ::
  rVar 4 80 5 ::
  rB 4 80 (tO [tV (.int .i64 (F (i * 5))), tV (.int .i64 (F (i * 5 + 1))), tV (.int .i64 (F (i * 5 + 2))), tV (.int .i64 (F (i * 5 + 3))), tV (.int .i64 (F (i * 5 + 4)))] [1, 1, 1, 1, 1]) (some 4) 5 ::
  []) hz hd (by kernel_rfl) ?_ ?_
 refine ⟨?_, ?_, ?_, ?_, ?_, ?_, trivial⟩
 exact zMv hz (sv S1)
 exact zMv hz (sv S8)
 exact zIxV hz rfl (sd 0 rfl) (sd 1 rfl) (ix_s5 hA (by omega))
 exact zLdV hz rfl (sd 2 rfl) (fun γ w hC => ld_s5 (fun f hf => cell_oaft (hcs f hf) hC hgs (by intro m hm; simp at hm)))
 exact zAl hz nd_s5 al_s5
 exact zSt (sd 3 rfl) sto_s5
 intro a' γ' W' hz' hd' hC hk hh
 have tp1 := Cx.lt
 replace Cx := kC hC Cx
 have tp2 := Cw.lt
 replace Cw := kC hC Cw
 replace S1 := kp hk S1
 replace S4 := kp hk S4
 replace S5 := kp hk S5
 replace S6 := kp hk S6
 replace S8 := kp hk S8
 replace S49 := kp hk S49
 replace HFr := RF.aft HFr hC (by intro m hm; simp at hm)
 replace HSc := RI.aft HSc hC (by intro m hm; simp at hm)
 obtain ⟨p7, S9, Cp7, lp7, gp7⟩ := gotB hz' 5 hC hh rfl rfl rfl rfl rfl rfl
 have n_p7_p1 : p7 ≠ p1 := by omega
 have n_p7_p2 : p7 ≠ p2 := by omega
 clear lp7 gp7
 clear tp1 tp2
 replace HB := aft_call HB (RelC.below_nil hC)
 clear hC hk hh; replace hz := hz'; replace hd := hd'; clear hz' hd'
 refine wp_seq ?_
 refine region_drawn (M := []) (
  rT (tV (.pointer (some ⟨p7, 1, none⟩))) ::
  rT (tV (.int .i64 (F (i * 5 + 1)))) ::
  rT (tV (.int .i64 (ai : Int))) ::
  rT (tV (.pointer (some ⟨p7, 2, none⟩))) ::
  rT (tV (.int .i64 (F (i * 5 + 2)))) ::
  rT (tV (.int .i64 (bi : Int))) ::
  rT (tV (.pointer (some ⟨p7, 3, none⟩))) ::
  rT (tV (.int .i64 (F (i * 5 + 3)))) ::
  rT (tV (.int .i64 (ti : Int))) ::
  rT (tV (.int .i64 (ai : Int))) ::
  rT (tV (.int .i64 (bi : Int))) ::
  rT (tV (.int .i64 (ti : Int))) ::
  []) hz hd (by kernel_rfl) (by kernel_rfl) ?_ ?_
 refine ⟨?_, ?_, ?_, ?_, ?_, ?_, ?_, ?_, ?_, ?_, ?_, ?_, trivial⟩
 exact zFAo hz rfl rfl (sv S9) (fun w => by simp [go_sem])
 exact zLdO 1 hz (sd 0 rfl) (cl0 Cp7) ldo_int
 exact sBin rfl rfl rfl hz rfl (Gd.none_ rfl) rfl (sd 1 rfl) kc (fun w => by simp [go_sem, hc_ai])
 exact zFAo hz rfl rfl (sv S9) (fun w => by simp [go_sem])
 exact zLdO 2 hz (sd 3 rfl) (cl0 Cp7) ldo_int
 exact sBin rfl rfl rfl hz rfl (Gd.none_ rfl) rfl (sd 4 rfl) kc (fun w => by simp [go_sem, hc_bi])
 exact zFAo hz rfl rfl (sv S9) (fun w => by simp [go_sem])
 exact zLdO 3 hz (sd 6 rfl) (cl0 Cp7) ldo_int
 exact sBin rfl rfl rfl hz rfl (Gd.none_ rfl) rfl (sd 7 rfl) kc (fun w => by simp [go_sem, hc_ti])
 exact zAs hz (sd 2 rfl)
 exact zAs hz (sd 5 rfl)
 exact zAs hz (sd 8 rfl)
 intro a' γ' W' hz' hd' hC hk hh
 have tp1 := Cx.lt
 replace Cx := kC hC Cx
 have tp2 := Cw.lt
 replace Cw := kC hC Cw
 replace Cp7 := kC hC Cp7
 replace S1 := kp hk S1
 replace S4 := kp hk S4
 replace S5 := kp hk S5
 replace S6 := kp hk S6
 replace S8 := kp hk S8
 replace S49 := kp hk S49
 replace S9 := kp hk S9
 replace HFr := RF.aft HFr hC (by intro m hm; simp at hm)
 replace HSc := RI.aft HSc hC (by intro m hm; simp at hm)
 have S10 := gotV hz' 9 hh rfl rfl rfl rfl
 have S11 := gotV hz' 10 hh rfl rfl rfl rfl
 have S12 := gotV hz' 11 hh rfl rfl rfl rfl
 clear tp1 tp2
 replace HB := aft_call HB (RelC.below_nil hC)
 clear hC hk hh; replace hz := hz'; replace hd := hd'; clear hz' hd'
 refine wp_seq ?_
 refine region_text (M := []) (
  rT (tA (fun j => tQ B64 3000 (f j))) ::
  rT (tA (fun j => tQ B32 3000 (f j))) ::
  rT (tV (.pointer (some ⟨p7, 0, none⟩))) ::
  rT (tV (.int .i64 (F (i * 5)))) ::
  rT (tV (.int .i64 (ai : Int))) ::
  rT (tV (.int .i64 (bi : Int))) ::
  rT (tV (.pointer (some ⟨p7, 4, none⟩))) ::
  rT (tV (.int .i64 (F (i * 5 + 4)))) ::
  rT (tT [tQ B64 20000 x0, tQ B32 20000 x0, tV (.bool true)]) ::
  rT (tT [tQ B64 20000 x0, tQ B32 20000 x0, tV (.bool true)]) ::
  rT (tQ B64 20000 x0) ::
  rT (tQ B32 20000 x0) ::
  rT (tV (.bool true)) ::
  rVar 13 29 2 ::
  rVar 14 33 2 ::
  rB 13 29 (tQ B64 20000 x0) (some 13) 14 ::
  rB 14 33 (tQ B32 20000 x0) (some 14) 15 ::
  rT (tV (.bool true)) ::
  []) hz hd (by kernel_rfl) ?_ ?_
 refine ⟨?_, ?_, ?_, ?_, ?_, ?_, ?_, ?_, ?_, ?_, ?_, ?_, ?_, ?_, ?_, ?_, ?_, ?_, trivial⟩
 exact zLd hz (sv S5) Cx (ld_of ldo_a64)
 exact zLd hz (sv S6) Cw (ld_of ldo_a32)
 exact zFAo hz rfl rfl (sv S9) (fun w => by simp [go_sem])
 exact zLdO 0 hz (sd 2 rfl) (cl0 Cp7) ldo_int
 exact zMv hz (sv S10)
 exact zMv hz (sv S11)
 exact zFAo hz rfl rfl (sv S9) (fun w => by simp [go_sem])
 exact zLdO 4 hz (sd 6 rfl) (cl0 Cp7) ldo_int
 exact sCall rfl rfl rfl hz rfl (Gd.none_ rfl) rfl Try.func45 (by kernel_rfl) (by kernel_rfl) fun a γ w U => (by show Calls _ _ #[a.eval (.tmp 66), a.eval (.tmp 67), a.eval (.tmp 69), a.eval (.tmp 70), a.eval (.tmp 71), a.eval (.tmp 73)] _ _; rw [show a.eval (.tmp 69) = .int .i64 (F (i * 5)) from Src.at_ (sd 3 rfl) U, show a.eval (.tmp 70) = .int .i64 (ai : Int) from Src.at_ (sd 4 rfl) U, show a.eval (.tmp 71) = .int .i64 (bi : Int) from Src.at_ (sd 5 rfl) U, show a.eval (.tmp 73) = .int .i64 (F (i * 5 + 4)) from Src.at_ (sd 7 rfl) U]; exact (by have hq := l_play (kind := F (i * 5)) (Src.at_ (sd 0 rfl) U) (Src.at_ (sd 1 rfl) U) h4ai h4bi h4ci hc3i hF4.1 hF4.2; rw [← e_x0] at hq; exact hq))
 exact zMv hz (sd 8 rfl)
 exact zExt hz (sd 9 rfl)
 exact zExt hz (sd 9 rfl)
 exact zExt hz (sd 9 rfl)
 exact zAl hz nd_rat al_r64
 exact zAl hz nd_rat al_r32
 exact zSt (sd 10 rfl) st_q64
 exact zSt (sd 11 rfl) st_q32
 exact zAs hz (sd 12 rfl)
 intro a' γ' W' hz' hd' hC hk hh
 have ep1 := Cx.lt
 have ep2 := Cw.lt
 have ep7 := Cp7.lt
 have tp1 := Cx.lt
 replace Cx := kC hC Cx
 have tp2 := Cw.lt
 replace Cw := kC hC Cw
 replace Cp7 := kC hC Cp7
 replace S1 := kp hk S1
 replace S4 := kp hk S4
 replace S5 := kp hk S5
 replace S6 := kp hk S6
 replace S8 := kp hk S8
 replace S49 := kp hk S49
 replace S9 := kp hk S9
 replace S10 := kp hk S10
 replace S11 := kp hk S11
 replace S12 := kp hk S12
 replace HFr := RF.aft HFr hC (by intro m hm; simp at hm)
 replace HSc := RI.aft HSc hC (by intro m hm; simp at hm)
 obtain ⟨p8, S13, Cp8, lp8, gp8⟩ := gotB hz' 15 hC hh rfl rfl rfl rfl rfl rfl
 obtain ⟨p9, S14, Cp9, lp9, gp9⟩ := gotB hz' 16 hC hh rfl rfl rfl rfl rfl rfl
 have S15 := gotV hz' 17 hh rfl rfl rfl rfl
 have n_p8_p1 : p8 ≠ p1 := by omega
 have n_p8_p2 : p8 ≠ p2 := by omega
 have n_p8_p9 : p8 ≠ p9 := by intro e; rw [e, gp9] at gp8; omega
 have n_p9_p1 : p9 ≠ p1 := by omega
 have n_p9_p2 : p9 ≠ p2 := by omega
 have n_p9_p8 : p9 ≠ p8 := by intro e; rw [e, gp8] at gp9; omega
 have n_p1_p8 : p1 ≠ p8 := by have := ep1; omega
 have n_p2_p8 : p2 ≠ p8 := by have := ep2; omega
 have n_p7_p8 : p7 ≠ p8 := by have := ep7; omega
 have n_p1_p9 : p1 ≠ p9 := by have := ep1; omega
 have n_p2_p9 : p2 ≠ p9 := by have := ep2; omega
 have n_p7_p9 : p7 ≠ p9 := by have := ep7; omega
 have bp8 : w.heap.size ≤ p8 := Nat.le_trans HB.size lp8
 have bp9 : w.heap.size ≤ p9 := Nat.le_trans HB.size lp9
 clear lp8 gp8 lp9 gp9
 clear tp1 tp2
 clear ep1 ep2 ep7
 replace HB := aft_call HB (RelC.below_nil hC)
 clear hC hk hh; replace hz := hz'; replace hd := hd'; clear hz' hd'
 refine wp_seq ?_
 refine wp_seq ?_
 refine region_text (M := []) (
  rT (tV (.bool true)) ::
  rT (tV (.bool false)) ::
  []) hz hd (by kernel_rfl) ?_ ?_
 refine ⟨?_, ?_, trivial⟩
 exact zMv hz (sv S15)
 exact zNot hz (sd 0 rfl)
 intro a' γ' W' hz' hd' hC hk hh
 have tp1 := Cx.lt
 replace Cx := kC hC Cx
 have tp2 := Cw.lt
 replace Cw := kC hC Cw
 replace Cp7 := kC hC Cp7
 have tp8 := Cp8.lt
 replace Cp8 := kC hC Cp8
 have tp9 := Cp9.lt
 replace Cp9 := kC hC Cp9
 replace S1 := kp hk S1
 replace S4 := kp hk S4
 replace S5 := kp hk S5
 replace S6 := kp hk S6
 replace S8 := kp hk S8
 replace S49 := kp hk S49
 replace S9 := kp hk S9
 replace S10 := kp hk S10
 replace S11 := kp hk S11
 replace S12 := kp hk S12
 replace S13 := kp hk S13
 replace S14 := kp hk S14
 replace S15 := kp hk S15
 replace HFr := RF.aft HFr hC (by intro m hm; simp at hm)
 replace HSc := RI.aft HSc hC (by intro m hm; simp at hm)
 have S79 := gotV hz' 1 hh rfl rfl rfl rfl
 clear tp1 tp2 tp8 tp9
 replace HB := aft_call HB (RelC.below_nil hC)
 clear hC hk hh; replace hz := hz'; replace hd := hd'; clear hz' hd'
 refine wp_cond_false S79.ev ?_
 refine wp_skip ?_
 refine wp_seq ?_
 refine wp_seq ?_
 refine region_text (M := []) (
  rT (tV (.int .i64 0)) ::
  []) hz hd (by kernel_rfl) ?_ ?_
 refine ⟨?_, trivial⟩
 exact zAs hz kc
 intro a' γ' W' hz' hd' hC hk hh
 have tp1 := Cx.lt
 replace Cx := kC hC Cx
 have tp2 := Cw.lt
 replace Cw := kC hC Cw
 replace Cp7 := kC hC Cp7
 have tp8 := Cp8.lt
 replace Cp8 := kC hC Cp8
 have tp9 := Cp9.lt
 replace Cp9 := kC hC Cp9
 replace S1 := kp hk S1
 replace S4 := kp hk S4
 replace S5 := kp hk S5
 replace S6 := kp hk S6
 replace S8 := kp hk S8
 replace S49 := kp hk S49
 replace S9 := kp hk S9
 replace S10 := kp hk S10
 replace S11 := kp hk S11
 replace S12 := kp hk S12
 replace S13 := kp hk S13
 replace S14 := kp hk S14
 replace S15 := kp hk S15
 replace S79 := kp hk S79
 replace HFr := RF.aft HFr hC (by intro m hm; simp at hm)
 replace HSc := RI.aft HSc hC (by intro m hm; simp at hm)
 have S16 := gotV hz' 0 hh rfl rfl rfl rfl
 clear tp1 tp2 tp8 tp9
 replace HB := aft_call HB (RelC.below_nil hC)
 clear hC hk hh; replace hz := hz'; replace hd := hd'; clear hz' hd'
 refine wp_block ?_
 refine wp_loop_ghost (fun k a W => ∃ (kk : Nat), k = 4 - kk ∧ a.tmps.size = 100 ∧ a.defers = [] ∧ Below w.heap.size w W ∧ Sl a 1 (.slice As ns cs) ∧ Sl a 4 (.bool false) ∧ Sl a 5 (.pointer (some ⟨p1, 0, none⟩)) ∧ Sl a 6 (.pointer (some ⟨p2, 0, none⟩)) ∧ Sl a 8 (.int .i64 (i : Int)) ∧ Sl a 9 (.pointer (some ⟨p7, 0, none⟩)) ∧ Sl a 10 (.int .i64 (ai : Int)) ∧ Sl a 11 (.int .i64 (bi : Int)) ∧ Sl a 12 (.int .i64 (ti : Int)) ∧ Sl a 13 (.pointer (some ⟨p8, 0, none⟩)) ∧ Sl a 14 (.pointer (some ⟨p9, 0, none⟩)) ∧ Sl a 15 (.bool true) ∧ Sl a 16 (.int .i64 (kk : Int)) ∧ Sl a 49 (.bool true) ∧ Sl a 79 (.bool false) ∧ Cell 76 (tA (fun j => tQ B64 3000 (f j))) p1 W ∧ Cell 77 (tA (fun j => tQ B32 3000 (f j))) p2 W ∧ Cell 80 (tO [tV (.int .i64 (F (i * 5))), tV (.int .i64 (F (i * 5 + 1))), tV (.int .i64 (F (i * 5 + 2))), tV (.int .i64 (F (i * 5 + 3))), tV (.int .i64 (F (i * 5 + 4)))] [1, 1, 1, 1, 1]) p7 W ∧ Cell 29 (tQ B64 20000 x0) p8 W ∧ Cell 33 (tQ B32 20000 x0) p9 W ∧ RF Af nf ls ms w.heap.size W ∧ RI 5 As ns F w.heap.size W ∧ kk ≤ 4) _ ⟨0, rfl, hz, hd, HB, S1, S4, S5, S6, S8, S9, S10, S11, S12, S13, S14, S15, S16, S49, S79, Cx, Cw, Cp7, Cp8, Cp9, HFr, HSc, (by decide)⟩ ?_
 clear S1 S4 S5 S6 S8 S49 S9 S10 S11 S12 S13 S14 S15 S79 S16 Cx Cw Cp7 Cp8 Cp9 HFr HSc hz hd HB
 rintro k a W ⟨kk, rfl, hz, hd, HB, S1, S4, S5, S6, S8, S9, S10, S11, S12, S13, S14, S15, S16, S49, S79, Cx, Cw, Cp7, Cp8, Cp9, HFr, HSc, hkk⟩
 refine wp_seq ?_
 refine wp_seq ?_
 refine region_text (M := []) (
  rT (tV (.int .i64 (kk : Int))) ::
  rT (tV (.bool (decide (kk < 4)))) ::
  []) hz hd (by kernel_rfl) ?_ ?_
 refine ⟨?_, ?_, trivial⟩
 exact zMv hz (sv S16)
 exact sBin rfl rfl rfl hz rfl (Gd.none_ rfl) rfl (sd 0 rfl) kc (fun w => by simp [go_sem]; try omega)
 intro a' γ' W' hz' hd' hC hk hh
 have tp1 := Cx.lt
 replace Cx := kC hC Cx
 have tp2 := Cw.lt
 replace Cw := kC hC Cw
 replace Cp7 := kC hC Cp7
 have tp8 := Cp8.lt
 replace Cp8 := kC hC Cp8
 have tp9 := Cp9.lt
 replace Cp9 := kC hC Cp9
 replace S1 := kp hk S1
 replace S4 := kp hk S4
 replace S5 := kp hk S5
 replace S6 := kp hk S6
 replace S8 := kp hk S8
 replace S49 := kp hk S49
 replace S9 := kp hk S9
 replace S10 := kp hk S10
 replace S11 := kp hk S11
 replace S12 := kp hk S12
 replace S13 := kp hk S13
 replace S14 := kp hk S14
 replace S15 := kp hk S15
 replace S79 := kp hk S79
 replace S16 := kp hk S16
 replace HFr := RF.aft HFr hC (by intro m hm; simp at hm)
 replace HSc := RI.aft HSc hC (by intro m hm; simp at hm)
 have S81 := gotV hz' 1 hh rfl rfl rfl rfl
 clear tp1 tp2 tp8 tp9
 replace HB := aft_call HB (RelC.below_nil hC)
 clear hC hk hh; replace hz := hz'; replace hd := hd'; clear hz' hd'
 by_cases hc10 : kk < 4
 rw [decide_eq_true hc10] at S81
 refine wp_cond_true S81.ev ?_
 refine wp_skip ?_
 refine wp_seq ?_
 refine wp_block ?_
 refine wp_seq ?_
 have h4kk : kk < 4 := by omega
 have hc11 : f kk = f kk := rfl
 refine region_drawn (M := []) (
  rT (tV (.int .i64 (kk : Int))) ::
  rT (tV (.pointer (some ⟨p1, kk * 2, none⟩))) ::
  rT (tQ B64 3000 (f kk)) ::
  rT (tV (.int .i64 (kk : Int))) ::
  rT (tV (.pointer (some ⟨p2, kk * 2, none⟩))) ::
  rT (tQ B32 3000 (f kk)) ::
  rT (tV (.bool true)) ::
  rT (tV (.bool false)) ::
  []) hz hd (by kernel_rfl) (by kernel_rfl) ?_ ?_
 refine ⟨?_, ?_, ?_, ?_, ?_, ?_, ?_, ?_, trivial⟩
 exact zMv hz (sv S16)
 exact zIxA hz (sv S5) (sd 0 rfl) (ix_a64 h4kk)
 exact zLdA hz (sd 1 rfl) (cl0 Cx) ldo_q64 h4kk
 exact zMv hz (sv S16)
 exact zIxA hz (sv S6) (sd 3 rfl) (ix_a32 h4kk)
 exact zLdA hz (sd 4 rfl) (cl0 Cw) ldo_q32 h4kk
 exact zC2 hz Try.func21 (sd 2 rfl) (sd 5 rfl) (fun _ _ _ h0 h1 => (by have hq := l_same h0 h1 (by decide) (by decide); simp only [decide_eq_true hc11] at hq; exact hq))
 exact zNot hz (sd 6 rfl)
 intro a' γ' W' hz' hd' hC hk hh
 have tp1 := Cx.lt
 replace Cx := kC hC Cx
 have tp2 := Cw.lt
 replace Cw := kC hC Cw
 replace Cp7 := kC hC Cp7
 have tp8 := Cp8.lt
 replace Cp8 := kC hC Cp8
 have tp9 := Cp9.lt
 replace Cp9 := kC hC Cp9
 replace S1 := kp hk S1
 replace S4 := kp hk S4
 replace S5 := kp hk S5
 replace S6 := kp hk S6
 replace S8 := kp hk S8
 replace S49 := kp hk S49
 replace S9 := kp hk S9
 replace S10 := kp hk S10
 replace S11 := kp hk S11
 replace S12 := kp hk S12
 replace S13 := kp hk S13
 replace S14 := kp hk S14
 replace S15 := kp hk S15
 replace S79 := kp hk S79
 replace S16 := kp hk S16
 replace S81 := kp hk S81
 replace HFr := RF.aft HFr hC (by intro m hm; simp at hm)
 replace HSc := RI.aft HSc hC (by intro m hm; simp at hm)
 have S91 := gotV hz' 7 hh rfl rfl rfl rfl
 clear tp1 tp2 tp8 tp9
 replace HB := aft_call HB (RelC.below_nil hC)
 clear hC hk hh; replace hz := hz'; replace hd := hd'; clear hz' hd'
 refine wp_cond_false S91.ev ?_
 refine wp_skip ?_
 refine region_text (M := []) (
  rT (tV (.int .i64 (kk : Int))) ::
  rT (tV (.int .i64 ((kk + 1 : Nat) : Int))) ::
  rT (tV (.int .i64 ((kk + 1 : Nat) : Int))) ::
  []) hz hd (by kernel_rfl) ?_ ?_
 refine ⟨?_, ?_, ?_, trivial⟩
 exact zMv hz (sv S16)
 exact sBin rfl rfl rfl hz rfl (Gd.none_ rfl) rfl (sd 0 rfl) kc (fun w => by simp [go_sem, IntKind.wrap_i64]; omega)
 exact zAs hz (sd 1 rfl)
 intro a' γ' W' hz' hd' hC hk hh
 have tp1 := Cx.lt
 replace Cx := kC hC Cx
 have tp2 := Cw.lt
 replace Cw := kC hC Cw
 replace Cp7 := kC hC Cp7
 have tp8 := Cp8.lt
 replace Cp8 := kC hC Cp8
 have tp9 := Cp9.lt
 replace Cp9 := kC hC Cp9
 replace S1 := kp hk S1
 replace S4 := kp hk S4
 replace S5 := kp hk S5
 replace S6 := kp hk S6
 replace S8 := kp hk S8
 replace S49 := kp hk S49
 replace S9 := kp hk S9
 replace S10 := kp hk S10
 replace S11 := kp hk S11
 replace S12 := kp hk S12
 replace S13 := kp hk S13
 replace S14 := kp hk S14
 replace S15 := kp hk S15
 replace S79 := kp hk S79
 clear S16
 replace S81 := kp hk S81
 replace S91 := kp hk S91
 replace HFr := RF.aft HFr hC (by intro m hm; simp at hm)
 replace HSc := RI.aft HSc hC (by intro m hm; simp at hm)
 have S16 := gotV hz' 2 hh rfl rfl rfl rfl
 clear tp1 tp2 tp8 tp9
 replace HB := aft_call HB (RelC.below_nil hC)
 clear hC hk hh; replace hz := hz'; replace hd := hd'; clear hz' hd'
 show ∃ n', n' < _ ∧ _
 refine ⟨_, ?_, kk + 1, rfl, hz, hd, HB, S1, S4, S5, S6, S8, S9, S10, S11, S12, S13, S14, S15, S16, S49, S79, Cx, Cw, Cp7, Cp8, Cp9, HFr, HSc, (by omega)⟩
 omega
 rw [decide_eq_false hc10] at S81
 refine wp_cond_false S81.ev ?_
 refine wp_exit ?_
 refine wp_seq ?_
 refine region_text (M := []) (
  rT (tQ B32 20000 x0) ::
  rT (tV (.bool (decide (shortQ x0 = true)))) ::
  []) hz hd (by kernel_rfl) ?_ ?_
 refine ⟨?_, ?_, trivial⟩
 exact zLd hz (sv S14) Cp9 ld_q32
 exact zC1 hz Try.func46 (sd 0 rfl) (fun _ _ h0 => (by have hq := l_short h0 (by decide); rw [show shortQ x0 = decide (shortQ x0 = true) by simp] at hq; exact hq))
 intro a' γ' W' hz' hd' hC hk hh
 have tp1 := Cx.lt
 replace Cx := kC hC Cx
 have tp2 := Cw.lt
 replace Cw := kC hC Cw
 replace Cp7 := kC hC Cp7
 have tp8 := Cp8.lt
 replace Cp8 := kC hC Cp8
 have tp9 := Cp9.lt
 replace Cp9 := kC hC Cp9
 replace S1 := kp hk S1
 replace S4 := kp hk S4
 replace S5 := kp hk S5
 replace S6 := kp hk S6
 replace S8 := kp hk S8
 replace S49 := kp hk S49
 replace S9 := kp hk S9
 replace S10 := kp hk S10
 replace S11 := kp hk S11
 replace S12 := kp hk S12
 replace S13 := kp hk S13
 replace S14 := kp hk S14
 replace S15 := kp hk S15
 replace S79 := kp hk S79
 replace S16 := kp hk S16
 replace S81 := kp hk S81
 replace HFr := RF.aft HFr hC (by intro m hm; simp at hm)
 replace HSc := RI.aft HSc hC (by intro m hm; simp at hm)
 have S93 := gotV hz' 1 hh rfl rfl rfl rfl
 clear tp1 tp2 tp8 tp9
 replace HB := aft_call HB (RelC.below_nil hC)
 clear hC hk hh; replace hz := hz'; replace hd := hd'; clear hz' hd'
 by_cases hc12 : shortQ x0 = true
 rw [decide_eq_true hc12] at S93
 refine wp_cond_true S93.ev ?_
 refine wp_seq ?_
 refine region_text (M := [p1]) (
  rT (tV (.int .i64 (ti : Int))) ::
  rT (tQ B64 20000 x0) ::
  rT (tV (.pointer (some ⟨p1, ti * 2, none⟩))) ::
  rE 0 76 (tA (updT ((fun j => tQ B64 3000 (f j))) ti (tQ B64 20000 x0))) p1 ::
  []) hz hd (by kernel_rfl) ?_ ?_
 refine ⟨?_, ?_, ?_, ?_, trivial⟩
 exact zMv hz (sv S12)
 exact zLd hz (sv S13) Cp8 ld_q64 (by simp [tagOf, n_p8_p1])
 exact zIxA hz (sv S5) (sd 0 rfl) (ix_a64 h4ti)
 exact zStA rfl (sd 2 rfl) (by simp [tagOf]) (clM (k := 0) Cx (by simp [tagOf])) Cx.lt (sd 1 rfl) sto_q64 nd4_q h4ti
 intro a' γ' W' hz' hd' hC hk hh
 replace Cx := gotE (T := tA (updT ((fun j => tQ B64 3000 (f j))) ti (tQ B64 20000 x0))) (id := 76) (p := p1) 3 hh rfl rfl
 have tp2 := Cw.lt
 replace Cw := kC hC Cw (by simp [tagOf, n_p2_p1])
 replace Cp7 := kC hC Cp7 (by simp [tagOf, n_p7_p1])
 have tp8 := Cp8.lt
 replace Cp8 := kC hC Cp8 (by simp [tagOf, n_p8_p1])
 have tp9 := Cp9.lt
 replace Cp9 := kC hC Cp9 (by simp [tagOf, n_p9_p1])
 replace S1 := kp hk S1
 replace S4 := kp hk S4
 replace S5 := kp hk S5
 replace S6 := kp hk S6
 replace S8 := kp hk S8
 replace S49 := kp hk S49
 replace S9 := kp hk S9
 replace S10 := kp hk S10
 replace S11 := kp hk S11
 replace S12 := kp hk S12
 replace S13 := kp hk S13
 replace S14 := kp hk S14
 replace S15 := kp hk S15
 replace S79 := kp hk S79
 replace S16 := kp hk S16
 replace S81 := kp hk S81
 replace S93 := kp hk S93
 replace HFr := RF.aft HFr hC (by intro m hm; simp at hm; rcases hm with rfl <;> assumption)
 replace HSc := RI.aft HSc hC (by intro m hm; simp at hm; rcases hm with rfl <;> assumption)
 clear tp2 tp8 tp9
 replace HB := RelC.aftM HB hC (by intro m hm; simp at hm; rcases hm with rfl <;> assumption)
 clear hC hk hh; replace hz := hz'; replace hd := hd'; clear hz' hd'
 refine region_text (M := [p2]) (
  rT (tV (.int .i64 (ti : Int))) ::
  rT (tQ B32 20000 x0) ::
  rT (tV (.pointer (some ⟨p2, ti * 2, none⟩))) ::
  rE 0 77 (tA (updT ((fun j => tQ B32 3000 (f j))) ti (tQ B32 20000 x0))) p2 ::
  []) hz hd (by kernel_rfl) ?_ ?_
 refine ⟨?_, ?_, ?_, ?_, trivial⟩
 exact zMv hz (sv S12)
 exact zLd hz (sv S14) Cp9 ld_q32 (by simp [tagOf, n_p9_p2])
 exact zIxA hz (sv S6) (sd 0 rfl) (ix_a32 h4ti)
 exact zStA rfl (sd 2 rfl) (by simp [tagOf]) (clM (k := 0) Cw (by simp [tagOf])) Cw.lt (sd 1 rfl) sto_q32 nd4_q h4ti
 intro a' γ' W' hz' hd' hC hk hh
 have tp1 := Cx.lt
 replace Cx := kC hC Cx (by simp [tagOf, n_p1_p2])
 replace Cw := gotE (T := tA (updT ((fun j => tQ B32 3000 (f j))) ti (tQ B32 20000 x0))) (id := 77) (p := p2) 3 hh rfl rfl
 replace Cp7 := kC hC Cp7 (by simp [tagOf, n_p7_p2])
 have tp8 := Cp8.lt
 replace Cp8 := kC hC Cp8 (by simp [tagOf, n_p8_p2])
 have tp9 := Cp9.lt
 replace Cp9 := kC hC Cp9 (by simp [tagOf, n_p9_p2])
 replace S1 := kp hk S1
 replace S4 := kp hk S4
 replace S5 := kp hk S5
 replace S6 := kp hk S6
 replace S8 := kp hk S8
 replace S49 := kp hk S49
 replace S9 := kp hk S9
 replace S10 := kp hk S10
 replace S11 := kp hk S11
 replace S12 := kp hk S12
 replace S13 := kp hk S13
 replace S14 := kp hk S14
 replace S15 := kp hk S15
 replace S79 := kp hk S79
 replace S16 := kp hk S16
 replace S81 := kp hk S81
 replace S93 := kp hk S93
 replace HFr := RF.aft HFr hC (by intro m hm; simp at hm; rcases hm with rfl <;> assumption)
 replace HSc := RI.aft HSc hC (by intro m hm; simp at hm; rcases hm with rfl <;> assumption)
 clear tp1 tp8 tp9
 replace HB := RelC.aftM HB hC (by intro m hm; simp at hm; rcases hm with rfl <;> assumption)
 clear hC hk hh; replace hz := hz'; replace hd := hd'; clear hz' hd'
 refine region_text (M := []) (
  rT (tV (.int .i64 (i : Int))) ::
  rT (tV (.int .i64 ((i + 1 : Nat) : Int))) ::
  rT (tV (.int .i64 ((i + 1 : Nat) : Int))) ::
  []) hz hd (by kernel_rfl) ?_ ?_
 refine ⟨?_, ?_, ?_, trivial⟩
 exact zMv hz (sv S8)
 exact sBin rfl rfl rfl hz rfl (Gd.none_ rfl) rfl (sd 0 rfl) kc (fun w => by simp [go_sem, IntKind.wrap_i64]; omega)
 exact zAs hz (sd 1 rfl)
 intro a' γ' W' hz' hd' hC hk hh
 have tp1 := Cx.lt
 replace Cx := kC hC Cx
 have tp2 := Cw.lt
 replace Cw := kC hC Cw
 replace Cp7 := kC hC Cp7
 have tp8 := Cp8.lt
 replace Cp8 := kC hC Cp8
 have tp9 := Cp9.lt
 replace Cp9 := kC hC Cp9
 replace S1 := kp hk S1
 replace S4 := kp hk S4
 replace S5 := kp hk S5
 replace S6 := kp hk S6
 clear S8
 replace S49 := kp hk S49
 replace S9 := kp hk S9
 replace S10 := kp hk S10
 replace S11 := kp hk S11
 replace S12 := kp hk S12
 replace S13 := kp hk S13
 replace S14 := kp hk S14
 replace S15 := kp hk S15
 replace S79 := kp hk S79
 replace S16 := kp hk S16
 replace S81 := kp hk S81
 replace S93 := kp hk S93
 replace HFr := RF.aft HFr hC (by intro m hm; simp at hm)
 replace HSc := RI.aft HSc hC (by intro m hm; simp at hm)
 have S8 := gotV hz' 2 hh rfl rfl rfl rfl
 clear tp1 tp2 tp8 tp9
 replace HB := aft_call HB (RelC.below_nil hC)
 clear hC hk hh; replace hz := hz'; replace hd := hd'; clear hz' hd'
 replace Cx : Cell 76 (tA (fun j => tQ B64 3000 ((updQ f ti x0) j))) p1 _ := Cell.toU Cx (tA_to (all_short (by decide) (by decide) hc12))
 replace Cw : Cell 77 (tA (fun j => tQ B32 3000 ((updQ f ti x0) j))) p2 _ := Cell.toU Cw (tA_to (all_short (by decide) (by decide) hc12))
 show ∃ n', n' < _ ∧ _
 refine ⟨_, ?_, i + 1, (updQ f ti x0), rfl, hz, hd, HB, S1, S4, S5, S6, S8, HFr, HSc, Cx, Cw, (by omega)⟩
 omega
 rw [decide_eq_false hc12] at S93
 refine wp_cond_false S93.ev ?_
 refine wp_skip ?_
 refine region_text (M := []) (
  rT (tV (.int .i64 (i : Int))) ::
  rT (tV (.int .i64 ((i + 1 : Nat) : Int))) ::
  rT (tV (.int .i64 ((i + 1 : Nat) : Int))) ::
  []) hz hd (by kernel_rfl) ?_ ?_
 refine ⟨?_, ?_, ?_, trivial⟩
 exact zMv hz (sv S8)
 exact sBin rfl rfl rfl hz rfl (Gd.none_ rfl) rfl (sd 0 rfl) kc (fun w => by simp [go_sem, IntKind.wrap_i64]; omega)
 exact zAs hz (sd 1 rfl)
 intro a' γ' W' hz' hd' hC hk hh
 have tp1 := Cx.lt
 replace Cx := kC hC Cx
 have tp2 := Cw.lt
 replace Cw := kC hC Cw
 replace Cp7 := kC hC Cp7
 have tp8 := Cp8.lt
 replace Cp8 := kC hC Cp8
 have tp9 := Cp9.lt
 replace Cp9 := kC hC Cp9
 replace S1 := kp hk S1
 replace S4 := kp hk S4
 replace S5 := kp hk S5
 replace S6 := kp hk S6
 clear S8
 replace S49 := kp hk S49
 replace S9 := kp hk S9
 replace S10 := kp hk S10
 replace S11 := kp hk S11
 replace S12 := kp hk S12
 replace S13 := kp hk S13
 replace S14 := kp hk S14
 replace S15 := kp hk S15
 replace S79 := kp hk S79
 replace S16 := kp hk S16
 replace S81 := kp hk S81
 replace S93 := kp hk S93
 replace HFr := RF.aft HFr hC (by intro m hm; simp at hm)
 replace HSc := RI.aft HSc hC (by intro m hm; simp at hm)
 have S8 := gotV hz' 2 hh rfl rfl rfl rfl
 clear tp1 tp2 tp8 tp9
 replace HB := aft_call HB (RelC.below_nil hC)
 clear hC hk hh; replace hz := hz'; replace hd := hd'; clear hz' hd'
 show ∃ n', n' < _ ∧ _
 refine ⟨_, ?_, i + 1, f, rfl, hz, hd, HB, S1, S4, S5, S6, S8, HFr, HSc, Cx, Cw, (by omega)⟩
 omega
 rw [decide_eq_false hc6] at S49
 refine wp_cond_false S49.ev ?_
 refine wp_exit ?_
 refine wp_seq ?_
 refine region_text (M := []) (
  rT (tV (.bool true)) ::
  []) hz hd (by kernel_rfl) ?_ ?_
 refine ⟨?_, trivial⟩
 exact zAs hz kc
 intro a' γ' W' hz' hd' hC hk hh
 have tp1 := Cx.lt
 clear Cx
 have tp2 := Cw.lt
 clear Cw
 clear S1
 clear S4
 clear S5
 clear S6
 clear S8
 clear S49
 replace HFr := RF.aft HFr hC (by intro m hm; simp at hm)
 replace HSc := RI.aft HSc hC (by intro m hm; simp at hm)
 have S4 := gotV hz' 0 hh rfl rfl rfl rfl
 clear tp1 tp2
 replace HB := aft_call HB (RelC.below_nil hC)
 clear hC hk hh; replace hz := hz'; replace hd := hd'; clear hz' hd'
 refine wp_ret ?_
 exact ret1 (by kernel_rfl) S4 hd ⟨_, rfl, rfl, HB⟩
 refine region_text (M := []) (
  rT (tV (.int .i64 (i : Int))) ::
  rT (tV (.slice As ns cs)) ::
  rT (tV (.int .i64 (ns : Int))) ::
  rT (tV (.bool false)) ::
  rT (tV (.bool false)) ::
  rT (tV undef) ::
  rT (tV undef) ::
  rT (tV (.bool false)) ::
  []) hz hd (by kernel_rfl) ?_ ?_
 refine ⟨?_, ?_, ?_, ?_, ?_, ?_, ?_, ?_, trivial⟩
 exact zMv hz (sv S8)
 exact zMv hz (sv S1)
 exact sLenK hz rfl (sd 1 rfl) (fun w => by simp [go_sem])
 exact sBin rfl rfl rfl hz rfl (Gd.none_ rfl) rfl (sd 0 rfl) (sd 2 rfl) (fun w => run_f (P := i < ns) ((fun w => by simp [go_sem]; try omega) w) hc5)
 exact zMv hz (sd 3 rfl)
 exact zSkU hz (gN 4 rfl)
 exact zSkU hz (gN 4 rfl)
 exact zPF hz (sd 4 rfl) kc
 intro a' γ' W' hz' hd' hC hk hh
 have tp1 := Cx.lt
 replace Cx := kC hC Cx
 have tp2 := Cw.lt
 replace Cw := kC hC Cw
 replace S1 := kp hk S1
 replace S4 := kp hk S4
 replace S5 := kp hk S5
 replace S6 := kp hk S6
 replace S8 := kp hk S8
 replace HFr := RF.aft HFr hC (by intro m hm; simp at hm)
 replace HSc := RI.aft HSc hC (by intro m hm; simp at hm)
 have S49 := gotV hz' 7 hh rfl rfl rfl rfl
 clear tp1 tp2
 replace HB := aft_call HB (RelC.below_nil hC)
 clear hC hk hh; replace hz := hz'; replace hd := hd'; clear hz' hd'
 refine wp_cond_false S49.ev ?_
 refine wp_exit ?_
 refine wp_seq ?_
 refine region_text (M := []) (
  rT (tV (.bool true)) ::
  []) hz hd (by kernel_rfl) ?_ ?_
 refine ⟨?_, trivial⟩
 exact zAs hz kc
 intro a' γ' W' hz' hd' hC hk hh
 have tp1 := Cx.lt
 clear Cx
 have tp2 := Cw.lt
 clear Cw
 clear S1
 clear S4
 clear S5
 clear S6
 clear S8
 clear S49
 replace HFr := RF.aft HFr hC (by intro m hm; simp at hm)
 replace HSc := RI.aft HSc hC (by intro m hm; simp at hm)
 have S4 := gotV hz' 0 hh rfl rfl rfl rfl
 clear tp1 tp2
 replace HB := aft_call HB (RelC.below_nil hC)
 clear hC hk hh; replace hz := hz'; replace hd := hd'; clear hz' hd'
 refine wp_ret ?_
 exact ret1 (by kernel_rfl) S4 hd ⟨_, rfl, rfl, HB⟩

end Go.Proofs.Ythanbjbcpljcoaa.Rg

namespace Go.Proofs.Ythanbjbcpljcoaa.Rg

open Go.RowKit Go.ChangeShapes Go.WideShapes Go.ChangeAt Go.Deep

theorem ratPlays_walk (A0 : Option Addr) (n0 c0 : Nat) (ls ms : Nat → List Nat) (A1 : Option Addr) (n1 c1 : Nat) (l1 : List Int) (w : World) (h0 : RF A0 n0 ls ms w.heap.size w) (h1 : InI .i64 40 5 w A1 n1 c1 l1) :
    Calls Try.prog 8 #[.slice A0 n0 c0, .slice A1 n1 c1] w fun e w' => e = .returned (.bool true) ∧ Below w.heap.size w w' :=
  ret_out (ratPlays_ret h0 (ri_in (by decide) h1) (in_rangeY h1))
end Go.Proofs.Ythanbjbcpljcoaa.Rg
