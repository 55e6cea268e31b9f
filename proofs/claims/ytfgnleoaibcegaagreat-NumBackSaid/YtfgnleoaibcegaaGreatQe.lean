/-
  Walks and plain laws, put together: TB TQ TC.
-/
import Derived.Test.YtfgnleoaibcegaaGreatQd
set_option linter.unusedVariables false
set_option linter.unusedSimpArgs false
namespace Go.Proofs.YtfgnleoaibcegaaGreat.Rg

open Go.RowKit

set_option maxRecDepth 10000 in
set_option maxHeartbeats 2000000 in
theorem c_one {l1 l2 l3 l4 p q p' q' : Nat} {w : World}   :
    Calls Tryz.prog 122 #[] w (Ret (tN B64 1 1) w) := by
 refine enter Tryz.func122 rfl Tryz.ntmps122 (by simp) ?_
 intro a hz hd ha
 clear ha
 have HB : Below w.heap.size w w := Below.refl _ _
 refine wp_seq ?_
 refine rt [rB 0 26 (tN B64 0 0) none 0] hz hd ?_ ?_
 refine ⟨?_, trivial⟩
 exact zNew hz (fun _ => tN_nil) al_n64
 clear hz hd
 intro a' γ' W' hz hd hC hk hh
 obtain ⟨p1, S0, Cp1, lp1, gp1⟩ := gotB hz 0 hC hh rfl rfl rfl rfl rfl rfl
 have bp1 := Nat.le_trans HB.size lp1
 clear lp1 gp1
 replace HB := aB HB hC
 clear hC hk hh
 refine wp_seq ?_
 refine region_text (M := [p1]) [rT (tN B64 1 1), rE 0 26 (tN B64 1 1) p1] hz hd (by kernel_rfl) ?_ ?_
 refine ⟨?_, ?_, trivial⟩
 exact zC1 hz Tryz.func40 (kc (v := .int .u64 1)) (k1 (fun _ => c_of (by decide)))
 exact zSE rfl (sv S0) (by simp [tagOf]) (Cp1.var tN_nd) (sd 0 rfl) st_n64
 clear hz hd
 intro a' γ' W' hz hd hC hk hh
 replace Cp1 := gotE (T := tN B64 1 1) (id := 26) (p := p1) 1 hh rfl rfl
 replace S0 := kp hk S0
 replace HB := aM HB hC
 clear hC hk hh
 refine wp_ret ?_
 exact ret1_n64 (by kernel_rfl) S0 hd Cp1 HB

set_option maxRecDepth 10000 in
set_option maxHeartbeats 2000000 in
theorem c_under_z {l1 l2 l3 l4 p q p' q' : Nat} {v0 : Value} {w : World} (h0 : (tR B64 l1 l2 p q).p v0 w) (b1 : l1 ≤ 1000000000) (b2 : l2 ≤ 1000000000) (b3 : l3 ≤ 1000000000) (b4 : l4 ≤ 1000000000) (hq : bl q = 0) :
    Calls Tryz.prog 90 #[v0] w (Ret (tN B64 1 1) w) := by
 refine enter Tryz.func90 rfl Tryz.ntmps90 (by simp) ?_
 intro a hz hd ha
 have S0 := ha 0 _ rfl
 have H0 := h0
 clear ha
 have HB : Below w.heap.size w w := Below.refl _ _
 refine wp_seq ?_
 refine rt [rB 0 28 (tR B64 l1 l2 p q) none 0, rB 1 26 (tN B64 0 0) none 0] hz hd ?_ ?_
 refine ⟨?_, ?_, trivial⟩
 exact zBox hz (so S0 H0) box_r64
 exact zNew hz (fun _ => tN_nil) al_n64
 clear hz hd
 intro a' γ' W' hz hd hC hk hh
 clear S0 H0
 obtain ⟨p1, S1, Cp1, lp1, gp1⟩ := gotB hz 0 hC hh rfl rfl rfl rfl rfl rfl
 obtain ⟨p2, S2, Cp2, lp2, gp2⟩ := gotB hz 1 hC hh rfl rfl rfl rfl rfl rfl
 have n_p1_p2 : p1 ≠ p2 := by intro e; rw [e, gp2] at gp1; omega
 have bp2 := Nat.le_trans HB.size lp2
 clear lp1 gp1 lp2 gp2
 replace HB := aB HB hC
 clear hC hk hh
 refine wp_seq ?_
 refine wp_seq ?_
 refine rt [rV (.pointer (some ⟨p1, 1, none⟩)), rT (tN B64 l2 q), rV (.int .i64 ((bl q : Nat) : Int)), rV (.bool true)] hz hd ?_ ?_
 refine ⟨?_, ?_, ?_, ?_, trivial⟩
 exact sFA rfl rfl rfl hz rfl (Gd.none_ rfl) rfl (sv S1) (fun w => by simp [go_sem])
 exact zLdP hz (sd 0 rfl) Cp1 ldq_r64
 exact zC1 hz Tryz.func42 (sd 1 rfl) (fun _ _ h0 => c_len h0 (by rw [big_eq]; omega))
 exact sBin rfl rfl rfl hz rfl (Gd.none_ rfl) rfl (sd 2 rfl) kc (fun w => by simp [go_sem, hq])
 clear hz hd
 intro a' γ' W' hz hd hC hk hh
 replace Cp1 := kC hC Cp1
 have tp2 := Cp2.lt
 replace Cp2 := kC hC Cp2
 replace S1 := kp hk S1
 replace S2 := kp hk S2
 have S6 := gV hz 3 hh
 clear tp2
 replace HB := aB HB hC
 clear hC hk hh
 refine wp_cond_true S6.ev ?_
 refine wp_seq ?_
 refine region_text (M := [p2]) [rT (tN B64 1 1), rE 0 26 (tN B64 1 1) p2] hz hd (by kernel_rfl) ?_ ?_
 refine ⟨?_, ?_, trivial⟩
 exact zC0 hz Tryz.func122 (fun _ => c_one (l1 := 0) (l2 := 0) (l3 := 0) (l4 := 0) (p := 0) (q := 0) (p' := 0) (q' := 0))
 exact zSE rfl (sv S2) (by simp [tagOf]) (Cp2.var tN_nd) (sd 0 rfl) st_n64
 clear hz hd
 intro a' γ' W' hz hd hC hk hh
 replace Cp1 := kC hC Cp1 (by simp [tagOf, n_p1_p2])
 replace Cp2 := gotE (T := tN B64 1 1) (id := 26) (p := p2) 1 hh rfl rfl
 replace S1 := kp hk S1
 replace S2 := kp hk S2
 clear S6
 replace HB := aM HB hC
 clear hC hk hh
 refine wp_ret ?_
 exact ret1_n64 (by kernel_rfl) S2 hd Cp2 HB

set_option maxRecDepth 10000 in
set_option maxHeartbeats 2000000 in
theorem c_under_p {l1 l2 l3 l4 p q p' q' : Nat} {v0 : Value} {w : World} (h0 : (tR B64 l1 l2 p q).p v0 w) (b1 : l1 ≤ 1000000000) (b2 : l2 ≤ 1000000000) (b3 : l3 ≤ 1000000000) (b4 : l4 ≤ 1000000000) (hq : bl q ≠ 0) :
    Calls Tryz.prog 90 #[v0] w (Ret (tN B64 l2 q) w) := by
 refine enter Tryz.func90 rfl Tryz.ntmps90 (by simp) ?_
 intro a hz hd ha
 have S0 := ha 0 _ rfl
 have H0 := h0
 clear ha
 have HB : Below w.heap.size w w := Below.refl _ _
 refine wp_seq ?_
 refine rt [rB 0 28 (tR B64 l1 l2 p q) none 0, rB 1 26 (tN B64 0 0) none 0] hz hd ?_ ?_
 refine ⟨?_, ?_, trivial⟩
 exact zBox hz (so S0 H0) box_r64
 exact zNew hz (fun _ => tN_nil) al_n64
 clear hz hd
 intro a' γ' W' hz hd hC hk hh
 clear S0 H0
 obtain ⟨p1, S1, Cp1, lp1, gp1⟩ := gotB hz 0 hC hh rfl rfl rfl rfl rfl rfl
 obtain ⟨p2, S2, Cp2, lp2, gp2⟩ := gotB hz 1 hC hh rfl rfl rfl rfl rfl rfl
 have n_p1_p2 : p1 ≠ p2 := by intro e; rw [e, gp2] at gp1; omega
 have bp2 := Nat.le_trans HB.size lp2
 clear lp1 gp1 lp2 gp2
 replace HB := aB HB hC
 clear hC hk hh
 refine wp_seq ?_
 refine wp_seq ?_
 refine rt [rV (.pointer (some ⟨p1, 1, none⟩)), rT (tN B64 l2 q), rV (.int .i64 ((bl q : Nat) : Int)), rV (.bool false)] hz hd ?_ ?_
 refine ⟨?_, ?_, ?_, ?_, trivial⟩
 exact sFA rfl rfl rfl hz rfl (Gd.none_ rfl) rfl (sv S1) (fun w => by simp [go_sem])
 exact zLdP hz (sd 0 rfl) Cp1 ldq_r64
 exact zC1 hz Tryz.func42 (sd 1 rfl) (fun _ _ h0 => c_len h0 (by rw [big_eq]; omega))
 exact sBin rfl rfl rfl hz rfl (Gd.none_ rfl) rfl (sd 2 rfl) kc (fun w => by simp [go_sem, hq])
 clear hz hd
 intro a' γ' W' hz hd hC hk hh
 replace Cp1 := kC hC Cp1
 have tp2 := Cp2.lt
 replace Cp2 := kC hC Cp2
 replace S1 := kp hk S1
 replace S2 := kp hk S2
 have S6 := gV hz 3 hh
 clear tp2
 replace HB := aB HB hC
 clear hC hk hh
 refine wp_cond_false S6.ev ?_
 refine wp_skip ?_
 refine wp_seq ?_
 refine region_text (M := [p2]) [rV (.pointer (some ⟨p1, 1, none⟩)), rT (tN B64 l2 q), rE 0 26 (tN B64 l2 q) p2] hz hd (by kernel_rfl) ?_ ?_
 refine ⟨?_, ?_, ?_, trivial⟩
 exact sFA rfl rfl rfl hz rfl (Gd.none_ rfl) rfl (sv S1) (fun w => by simp [go_sem])
 exact zLdP hz (sd 0 rfl) Cp1 ldq_r64 (by simp [tagOf, n_p1_p2])
 exact zSE rfl (sv S2) (by simp [tagOf]) (Cp2.var tN_nd) (sd 1 rfl) st_n64
 clear hz hd
 intro a' γ' W' hz hd hC hk hh
 clear Cp1
 replace Cp2 := gotE (T := tN B64 l2 q) (id := 26) (p := p2) 2 hh rfl rfl
 clear S1
 replace S2 := kp hk S2
 clear S6
 replace HB := aM HB hC
 clear hC hk hh
 refine wp_ret ?_
 exact ret1_n64 (by kernel_rfl) S2 hd Cp2 HB

theorem c_under {l1 l2 p q : Nat} {v0 : Value} {w : World} (h0 : (tR B64 l1 l2 p q).p v0 w) (b1 : l1 ≤ 1000000000) (b2 : l2 ≤ 1000000000) : Calls Tryz.prog 90 #[v0] w (Ret (tN B64 (l2 + 1) (und q)) w) := by
  by_cases hq : q = 0
  · subst hq
    refine (c_under_z (l3 := 0) (l4 := 0) (p' := 0) (q' := 0) h0 b1 b2 (by omega) (by omega) bl_zero).mono ?_
    rintro e w' ⟨v, rfl, hv, hb⟩
    exact ⟨v, rfl, tN_le (by omega) _ _ hv, hb⟩
  · have : bl q ≠ 0 := fun h => hq (by have := bl_lt (x := q); rw [h] at this; simpa using this)
    refine (c_under_p (l3 := 0) (l4 := 0) (p' := 0) (q' := 0) h0 b1 b2 (by omega) (by omega) this).mono ?_
    rintro e w' ⟨v, rfl, hv, hb⟩
    exact ⟨v, rfl, by unfold und; rw [if_neg hq]; exact tN_le (by omega) _ _ hv, hb⟩

set_option maxRecDepth 10000 in
set_option maxHeartbeats 2000000 in
theorem c_over {l1 l2 l3 l4 p q p' q' : Nat} {v0 v1 : Value} {w : World} (h0 : (tN B64 l1 p).p v0 w) (h1 : (tN B64 l2 q).p v1 w) (b1 : l1 ≤ 1000000000) (b2 : l2 ≤ 1000000000) (b3 : l3 ≤ 1000000000) (b4 : l4 ≤ 1000000000) :
    Calls Tryz.prog 106 #[v0, v1] w (Ret (tN B64 l1 (p / q)) w) := by
 refine enter Tryz.func106 rfl Tryz.ntmps106 (by simp) ?_
 intro a hz hd ha
 have S0 := ha 0 _ rfl
 have H0 := h0
 have S1 := ha 1 _ rfl
 have H1 := h1
 clear ha
 have HB : Below w.heap.size w w := Below.refl _ _
 refine wp_seq ?_
 refine rt [rB 0 26 (tN B64 l1 p) none 0, rB 1 26 (tN B64 l2 q) none 0, rB 2 26 (tN B64 0 0) none 0] hz hd ?_ ?_
 refine ⟨?_, ?_, ?_, trivial⟩
 exact zBox hz (so S0 H0) box_n64
 exact zBox hz (so S1 H1) box_n64
 exact zNew hz (fun _ => tN_nil) al_n64
 clear hz hd
 intro a' γ' W' hz hd hC hk hh
 clear S0 H0
 clear S1 H1
 obtain ⟨p1, S2, Cp1, lp1, gp1⟩ := gotB hz 0 hC hh rfl rfl rfl rfl rfl rfl
 obtain ⟨p2, S3, Cp2, lp2, gp2⟩ := gotB hz 1 hC hh rfl rfl rfl rfl rfl rfl
 obtain ⟨p3, S4, Cp3, lp3, gp3⟩ := gotB hz 2 hC hh rfl rfl rfl rfl rfl rfl
 have n_p1_p3 : p1 ≠ p3 := by intro e; rw [e, gp3] at gp1; omega
 have n_p2_p3 : p2 ≠ p3 := by intro e; rw [e, gp3] at gp2; omega
 have bp3 := Nat.le_trans HB.size lp3
 clear lp1 gp1 lp2 gp2 lp3 gp3
 replace HB := aB HB hC
 clear hC hk hh
 refine wp_seq ?_
 refine rt [rT (tN B64 l1 p), rT (tN B64 l2 q), rT (tT [tN B64 l1 (p / q), tN B64 l1 (modOf p q), tV (.bool (nz q))]), rT (tT [tN B64 l1 (p / q), tN B64 l1 (modOf p q), tV (.bool (nz q))]), rT (tN B64 l1 (p / q)), rT (tN B64 l1 (modOf p q)), rV (.bool (nz q)), rVar 7 26 1, rVar 8 26 1, rB 7 26 (tN B64 l1 (p / q)) (some 7) 8, rB 8 26 (tN B64 l1 (modOf p q)) (some 8) 9, rV (.bool (nz q))] hz hd ?_ ?_
 refine ⟨?_, ?_, ?_, ?_, ?_, ?_, ?_, ?_, ?_, ?_, ?_, ?_, trivial⟩
 exact zLd hz (sv S2) Cp1 ld_n64
 exact zLd hz (sv S3) Cp2 ld_n64
 exact zC2 hz Tryz.func45 (sd 0 rfl) (sd 1 rfl) (fun _ _ _ h0 h1 => c_divmod h0 h1 (by rw [big_eq]; omega) (by rw [big_eq]; omega))
 exact zMv hz (sd 2 rfl)
 exact zExt hz (sd 3 rfl)
 exact zExt hz (sd 3 rfl)
 exact zExt hz (sd 3 rfl)
 exact zAl hz nd_slice al_n64
 exact zAl hz nd_slice al_n64
 exact zSt (sd 4 rfl) st_n64
 exact zSt (sd 5 rfl) st_n64
 exact zAs hz (sd 6 rfl)
 clear hz hd
 intro a' γ' W' hz hd hC hk hh
 clear Cp1
 clear Cp2
 have tp3 := Cp3.lt
 replace Cp3 := kC hC Cp3
 clear S2
 clear S3
 replace S4 := kp hk S4
 obtain ⟨p4, S5, Cp4, lp4, gp4⟩ := gotB hz 9 hC hh rfl rfl rfl rfl rfl rfl
 have n_p4_p3 : p4 ≠ p3 := by omega
 clear lp4 gp4
 clear tp3
 replace HB := aB HB hC
 clear hC hk hh
 refine wp_seq ?_
 refine region_text (M := [p3]) [rT (tN B64 l1 (p / q)), rE 0 26 (tN B64 l1 (p / q)) p3] hz hd (by kernel_rfl) ?_ ?_
 refine ⟨?_, ?_, trivial⟩
 exact zLd hz (sv S5) Cp4 ld_n64 (by simp [tagOf, n_p4_p3])
 exact zSE rfl (sv S4) (by simp [tagOf]) (Cp3.var tN_nd) (sd 0 rfl) st_n64
 clear hz hd
 intro a' γ' W' hz hd hC hk hh
 replace Cp3 := gotE (T := tN B64 l1 (p / q)) (id := 26) (p := p3) 1 hh rfl rfl
 clear Cp4
 replace S4 := kp hk S4
 clear S5
 replace HB := aM HB hC
 clear hC hk hh
 refine wp_ret ?_
 exact ret1_n64 (by kernel_rfl) S4 hd Cp3 HB

set_option maxRecDepth 10000 in
set_option maxHeartbeats 2000000 in
theorem c_lowest {l1 l2 l3 l4 p q p' q' : Nat} {v0 v1 : Value} {w : World} (h0 : (tN B64 l1 p).p v0 w) (h1 : (tN B64 l2 q).p v1 w) (b1 : l1 ≤ 1000000000) (b2 : l2 ≤ 1000000000) (b3 : l3 ≤ 1000000000) (b4 : l4 ≤ 1000000000) :
    Calls Tryz.prog 68 #[v0, v1] w (Ret (tR B64 l1 l2 (p / (Nat.gcd p q)) (q / (Nat.gcd p q))) w) := by
 refine enter Tryz.func68 rfl Tryz.ntmps68 (by simp) ?_
 intro a hz hd ha
 have S0 := ha 0 _ rfl
 have H0 := h0
 have S1 := ha 1 _ rfl
 have H1 := h1
 clear ha
 have HB : Below w.heap.size w w := Below.refl _ _
 refine wp_seq ?_
 refine rt [rB 0 26 (tN B64 l1 p) none 0, rB 1 26 (tN B64 l2 q) none 0, rB 2 28 (tR B64 0 0 0 0) none 0] hz hd ?_ ?_
 refine ⟨?_, ?_, ?_, trivial⟩
 exact zBox hz (so S0 H0) box_n64
 exact zBox hz (so S1 H1) box_n64
 exact zNew hz (fun _ => tR_nil) al_r64
 clear hz hd
 intro a' γ' W' hz hd hC hk hh
 clear S0 H0
 clear S1 H1
 obtain ⟨p1, S2, Cp1, lp1, gp1⟩ := gotB hz 0 hC hh rfl rfl rfl rfl rfl rfl
 obtain ⟨p2, S3, Cp2, lp2, gp2⟩ := gotB hz 1 hC hh rfl rfl rfl rfl rfl rfl
 obtain ⟨p3, S4, Cp3, lp3, gp3⟩ := gotB hz 2 hC hh rfl rfl rfl rfl rfl rfl
 have n_p1_p3 : p1 ≠ p3 := by intro e; rw [e, gp3] at gp1; omega
 have n_p2_p3 : p2 ≠ p3 := by intro e; rw [e, gp3] at gp2; omega
 have bp3 := Nat.le_trans HB.size lp3
 clear lp1 gp1 lp2 gp2 lp3 gp3
 replace HB := aB HB hC
 clear hC hk hh
 refine wp_seq ?_
 refine rt [rT (tN B64 l1 p), rT (tN B64 l2 q), rT (tN B64 (max l1 l2) (Nat.gcd p q)), rVar 3 26 1, rB 3 26 (tN B64 (max l1 l2) (Nat.gcd p q)) (some 3) 4] hz hd ?_ ?_
 refine ⟨?_, ?_, ?_, ?_, ?_, trivial⟩
 exact zLd hz (sv S2) Cp1 ld_n64
 exact zLd hz (sv S3) Cp2 ld_n64
 exact zC2 hz Tryz.func105 (sd 0 rfl) (sd 1 rfl) (fun _ _ _ h0 h1 => c_gcd h0 h1 (by rw [big_eq]; omega) (by rw [big_eq]; omega))
 exact zAl hz nd_slice al_n64
 exact zSt (sd 2 rfl) st_n64
 clear hz hd
 intro a' γ' W' hz hd hC hk hh
 replace Cp1 := kC hC Cp1
 replace Cp2 := kC hC Cp2
 have tp3 := Cp3.lt
 replace Cp3 := kC hC Cp3
 replace S2 := kp hk S2
 replace S3 := kp hk S3
 replace S4 := kp hk S4
 obtain ⟨p4, S5, Cp4, lp4, gp4⟩ := gotB hz 4 hC hh rfl rfl rfl rfl rfl rfl
 have n_p4_p3 : p4 ≠ p3 := by omega
 clear lp4 gp4
 clear tp3
 replace HB := aB HB hC
 clear hC hk hh
 refine wp_seq ?_
 refine region_drawn (M := [p3]) (
  rT (tN B64 l1 p) ::
  rT (tN B64 (max l1 l2) (Nat.gcd p q)) ::
  rT (tN B64 l1 (p / (Nat.gcd p q))) ::
  rT (tN B64 l2 q) ::
  rT (tN B64 (max l1 l2) (Nat.gcd p q)) ::
  rT (tN B64 l2 (q / (Nat.gcd p q))) ::
  rT (tR B64 l1 l2 (p / (Nat.gcd p q)) (q / (Nat.gcd p q))) ::
  rE 0 28 (tR B64 l1 l2 (p / (Nat.gcd p q)) (q / (Nat.gcd p q))) p3 ::
  []) hz hd (by kernel_rfl) (by kernel_rfl) ?_ ?_
 refine ⟨?_, ?_, ?_, ?_, ?_, ?_, ?_, ?_, trivial⟩
 exact zLd hz (sv S2) Cp1 ld_n64 (by simp [tagOf, n_p1_p3])
 exact zLd hz (sv S5) Cp4 ld_n64 (by simp [tagOf, n_p4_p3])
 exact zC2 hz Tryz.func106 (sd 0 rfl) (sd 1 rfl) (fun _ _ _ h0 h1 => c_over (l3 := 0) (l4 := 0) (p' := 0) (q' := 0) h0 h1 (by omega) (by omega) (by omega) (by omega))
 exact zLd hz (sv S3) Cp2 ld_n64 (by simp [tagOf, n_p2_p3])
 exact zLd hz (sv S5) Cp4 ld_n64 (by simp [tagOf, n_p4_p3])
 exact zC2 hz Tryz.func106 (sd 3 rfl) (sd 4 rfl) (fun _ _ _ h0 h1 => c_over (l3 := 0) (l4 := 0) (p' := 0) (q' := 0) h0 h1 (by omega) (by omega) (by omega) (by omega))
 exact zB2 hz (sd 2 rfl) (sd 5 rfl) mk_r64
 exact zSE rfl (sv S4) (by simp [tagOf]) (Cp3.var tR_nd) (sd 6 rfl) st_r64
 clear hz hd
 intro a' γ' W' hz hd hC hk hh
 clear Cp1
 clear Cp2
 replace Cp3 := gotE (T := tR B64 l1 l2 (p / (Nat.gcd p q)) (q / (Nat.gcd p q))) (id := 28) (p := p3) 7 hh rfl rfl
 clear Cp4
 clear S2
 clear S3
 replace S4 := kp hk S4
 clear S5
 replace HB := aM HB hC
 clear hC hk hh
 refine wp_ret ?_
 exact ret1_r64 (by kernel_rfl) S4 hd Cp3 HB

set_option maxRecDepth 10000 in
set_option maxHeartbeats 2000000 in
theorem c_cross {l1 l2 l3 l4 p q p' q' : Nat} {v0 v1 : Value} {w : World} (h0 : (tR B64 l1 l2 p q).p v0 w) (h1 : (tR B64 l3 l4 p' q').p v1 w) (b1 : l1 ≤ 1000000000) (b2 : l2 ≤ 1000000000) (b3 : l3 ≤ 1000000000) (b4 : l4 ≤ 1000000000) :
    Calls Tryz.prog 86 #[v0, v1] w (Ret (tT [tN B64 (l1 + (l4 + 1)) (p * (und q')), tN B64 (l3 + (l2 + 1)) (p' * (und q))]) w) := by
 refine enter Tryz.func86 rfl Tryz.ntmps86 (by simp) ?_
 intro a hz hd ha
 have S0 := ha 0 _ rfl
 have H0 := h0
 have S1 := ha 1 _ rfl
 have H1 := h1
 clear ha
 have HB : Below w.heap.size w w := Below.refl _ _
 refine wp_seq ?_
 refine rt [rB 0 28 (tR B64 l1 l2 p q) none 0, rB 1 28 (tR B64 l3 l4 p' q') none 0, rB 2 26 (tN B64 0 0) none 0, rB 3 26 (tN B64 0 0) none 0] hz hd ?_ ?_
 refine ⟨?_, ?_, ?_, ?_, trivial⟩
 exact zBox hz (so S0 H0) box_r64
 exact zBox hz (so S1 H1) box_r64
 exact zNew hz (fun _ => tN_nil) al_n64
 exact zNew hz (fun _ => tN_nil) al_n64
 clear hz hd
 intro a' γ' W' hz hd hC hk hh
 clear S0 H0
 clear S1 H1
 obtain ⟨p1, S2, Cp1, lp1, gp1⟩ := gotB hz 0 hC hh rfl rfl rfl rfl rfl rfl
 obtain ⟨p2, S3, Cp2, lp2, gp2⟩ := gotB hz 1 hC hh rfl rfl rfl rfl rfl rfl
 obtain ⟨p3, S4, Cp3, lp3, gp3⟩ := gotB hz 2 hC hh rfl rfl rfl rfl rfl rfl
 obtain ⟨p4, S5, Cp4, lp4, gp4⟩ := gotB hz 3 hC hh rfl rfl rfl rfl rfl rfl
 have n_p1_p3 : p1 ≠ p3 := by intro e; rw [e, gp3] at gp1; omega
 have n_p1_p4 : p1 ≠ p4 := by intro e; rw [e, gp4] at gp1; omega
 have n_p2_p3 : p2 ≠ p3 := by intro e; rw [e, gp3] at gp2; omega
 have n_p2_p4 : p2 ≠ p4 := by intro e; rw [e, gp4] at gp2; omega
 have n_p3_p4 : p3 ≠ p4 := by intro e; rw [e, gp4] at gp3; omega
 have n_p4_p3 : p4 ≠ p3 := by intro e; rw [e, gp3] at gp4; omega
 have bp3 := Nat.le_trans HB.size lp3
 have bp4 := Nat.le_trans HB.size lp4
 clear lp1 gp1 lp2 gp2 lp3 gp3 lp4 gp4
 replace HB := aB HB hC
 clear hC hk hh
 refine wp_seq ?_
 refine region_drawn (M := [p3, p4]) (
  rT (tV (.pointer (some ⟨p1, 0, none⟩))) ::
  rT (tN B64 l1 p) ::
  rT (tR B64 l3 l4 p' q') ::
  rT (tN B64 (l4 + 1) (und q')) ::
  rT (tN B64 (l1 + (l4 + 1)) (p * (und q'))) ::
  rT (tV (.pointer (some ⟨p2, 0, none⟩))) ::
  rT (tN B64 l3 p') ::
  rT (tR B64 l1 l2 p q) ::
  rT (tN B64 (l2 + 1) (und q)) ::
  rT (tN B64 (l3 + (l2 + 1)) (p' * (und q))) ::
  rE 0 26 (tN B64 (l1 + (l4 + 1)) (p * (und q'))) p3 ::
  rE 1 26 (tN B64 (l3 + (l2 + 1)) (p' * (und q))) p4 ::
  []) hz hd (by kernel_rfl) (by kernel_rfl) ?_ ?_
 refine ⟨?_, ?_, ?_, ?_, ?_, ?_, ?_, ?_, ?_, ?_, ?_, ?_, trivial⟩
 exact sFA rfl rfl rfl hz rfl (Gd.none_ rfl) rfl (sv S2) (fun w => by simp [go_sem])
 exact zLdP hz (sd 0 rfl) Cp1 ldp_r64 (by simp [tagOf, n_p1_p3, n_p1_p4])
 exact zLd hz (sv S3) Cp2 ld_r64 (by simp [tagOf, n_p2_p3, n_p2_p4])
 exact zC1 hz Tryz.func90 (sd 2 rfl) (fun _ _ h0 => c_under h0 (by omega) (by omega))
 exact zC2 hz Tryz.func43 (sd 1 rfl) (sd 3 rfl) (fun _ _ _ h0 h1 => c_mul h0 h1 (by rw [big_eq]; omega) (by rw [big_eq]; omega))
 exact sFA rfl rfl rfl hz rfl (Gd.none_ rfl) rfl (sv S3) (fun w => by simp [go_sem])
 exact zLdP hz (sd 5 rfl) Cp2 ldp_r64 (by simp [tagOf, n_p2_p3, n_p2_p4])
 exact zLd hz (sv S2) Cp1 ld_r64 (by simp [tagOf, n_p1_p3, n_p1_p4])
 exact zC1 hz Tryz.func90 (sd 7 rfl) (fun _ _ h0 => c_under h0 (by omega) (by omega))
 exact zC2 hz Tryz.func43 (sd 6 rfl) (sd 8 rfl) (fun _ _ _ h0 h1 => c_mul h0 h1 (by rw [big_eq]; omega) (by rw [big_eq]; omega))
 exact zSE rfl (sv S4) (by simp [tagOf]) (Cp3.var tN_nd) (sd 4 rfl) st_n64
 exact zSE rfl (sv S5) (by simp [tagOf, n_p4_p3]) (Cp4.var tN_nd) (sd 9 rfl) st_n64
 clear hz hd
 intro a' γ' W' hz hd hC hk hh
 clear Cp1
 clear Cp2
 replace Cp3 := gotE (T := tN B64 (l1 + (l4 + 1)) (p * (und q'))) (id := 26) (p := p3) 10 hh rfl rfl
 replace Cp4 := gotE (T := tN B64 (l3 + (l2 + 1)) (p' * (und q))) (id := 26) (p := p4) 11 hh rfl rfl
 clear S2
 clear S3
 replace S4 := kp hk S4
 replace S5 := kp hk S5
 replace HB := RelC.aftM HB hC (by intro m hm; simp at hm; rcases hm with rfl | rfl <;> assumption)
 clear hC hk hh
 refine wp_ret ?_
 exact ret2_n64 (by kernel_rfl) S4 S5 hd Cp3 Cp4 HB

set_option maxRecDepth 10000 in
set_option maxHeartbeats 2000000 in
theorem c_rcmp {l1 l2 l3 l4 p q p' q' : Nat} {v0 v1 : Value} {w : World} (h0 : (tR B64 l1 l2 p q).p v0 w) (h1 : (tR B64 l3 l4 p' q').p v1 w) (b1 : l1 ≤ 1000000000) (b2 : l2 ≤ 1000000000) (b3 : l3 ≤ 1000000000) (b4 : l4 ≤ 1000000000) :
    Calls Tryz.prog 33 #[v0, v1] w (Ret (tV (.int .i64 (cmpI (p * (und q')) (p' * (und q))))) w) := by
 refine enter Tryz.func33 rfl Tryz.ntmps33 (by simp) ?_
 intro a hz hd ha
 have S0 := ha 0 _ rfl
 have H0 := h0
 have S1 := ha 1 _ rfl
 have H1 := h1
 clear ha
 have HB : Below w.heap.size w w := Below.refl _ _
 refine wp_seq ?_
 refine rt [rB 0 28 (tR B64 l1 l2 p q) none 0, rB 1 28 (tR B64 l3 l4 p' q') none 0, rV (.int .i64 0)] hz hd ?_ ?_
 refine ⟨?_, ?_, ?_, trivial⟩
 exact zBox hz (so S0 H0) box_r64
 exact zBox hz (so S1 H1) box_r64
 exact zAs hz kc
 clear hz hd
 intro a' γ' W' hz hd hC hk hh
 clear S0 H0
 clear S1 H1
 obtain ⟨p1, S2, Cp1, lp1, gp1⟩ := gotB hz 0 hC hh rfl rfl rfl rfl rfl rfl
 obtain ⟨p2, S3, Cp2, lp2, gp2⟩ := gotB hz 1 hC hh rfl rfl rfl rfl rfl rfl
 have S4 := gV hz 2 hh
 clear lp1 gp1 lp2 gp2
 replace HB := aB HB hC
 clear hC hk hh
 refine wp_seq ?_
 refine rt [rT (tR B64 l1 l2 p q), rT (tR B64 l3 l4 p' q'), rT (tT [tN B64 (l1 + (l4 + 1)) (p * (und q')), tN B64 (l3 + (l2 + 1)) (p' * (und q))]), rT (tT [tN B64 (l1 + (l4 + 1)) (p * (und q')), tN B64 (l3 + (l2 + 1)) (p' * (und q))]), rT (tN B64 (l1 + (l4 + 1)) (p * (und q'))), rT (tN B64 (l3 + (l2 + 1)) (p' * (und q))), rVar 6 26 1, rVar 7 26 1, rB 6 26 (tN B64 (l1 + (l4 + 1)) (p * (und q'))) (some 6) 7, rB 7 26 (tN B64 (l3 + (l2 + 1)) (p' * (und q))) (some 7) 8] hz hd ?_ ?_
 refine ⟨?_, ?_, ?_, ?_, ?_, ?_, ?_, ?_, ?_, ?_, trivial⟩
 exact zLd hz (sv S2) Cp1 ld_r64
 exact zLd hz (sv S3) Cp2 ld_r64
 exact zC2 hz Tryz.func86 (sd 0 rfl) (sd 1 rfl) (fun _ _ _ h0 h1 => c_cross h0 h1 (by omega) (by omega) (by omega) (by omega))
 exact zMv hz (sd 2 rfl)
 exact zExt hz (sd 3 rfl)
 exact zExt hz (sd 3 rfl)
 exact zAl hz nd_slice al_n64
 exact zAl hz nd_slice al_n64
 exact zSt (sd 4 rfl) st_n64
 exact zSt (sd 5 rfl) st_n64
 clear hz hd
 intro a' γ' W' hz hd hC hk hh
 clear Cp1
 clear Cp2
 clear S2
 clear S3
 replace S4 := kp hk S4
 obtain ⟨p3, S5, Cp3, lp3, gp3⟩ := gotB hz 8 hC hh rfl rfl rfl rfl rfl rfl
 obtain ⟨p4, S6, Cp4, lp4, gp4⟩ := gotB hz 9 hC hh rfl rfl rfl rfl rfl rfl
 clear lp3 gp3 lp4 gp4
 replace HB := aB HB hC
 clear hC hk hh
 refine wp_seq ?_
 refine rt [rT (tN B64 (l1 + (l4 + 1)) (p * (und q'))), rT (tN B64 (l3 + (l2 + 1)) (p' * (und q))), rV (.int .i64 (cmpI (p * (und q')) (p' * (und q)))), rV (.int .i64 (cmpI (p * (und q')) (p' * (und q))))] hz hd ?_ ?_
 refine ⟨?_, ?_, ?_, ?_, trivial⟩
 exact zLd hz (sv S5) Cp3 ld_n64
 exact zLd hz (sv S6) Cp4 ld_n64
 exact zC2 hz Tryz.func48 (sd 0 rfl) (sd 1 rfl) (fun _ _ _ h0 h1 => c_cmp h0 h1 (by rw [big_eq]; omega) (by rw [big_eq]; omega))
 exact zAs hz (sd 2 rfl)
 clear hz hd
 intro a' γ' W' hz hd hC hk hh
 clear Cp3
 clear Cp4
 clear S4
 clear S5
 clear S6
 have S4 := gV hz 3 hh
 replace HB := aB HB hC
 clear hC hk hh
 refine wp_ret ?_
 exact ret1 (by kernel_rfl) S4 hd ⟨_, rfl, rfl, HB⟩

set_option maxRecDepth 10000 in
set_option maxHeartbeats 2000000 in
theorem c_parts {l1 l2 l3 l4 p q p' q' : Nat} {v0 : Value} {w : World} (h0 : (tR B64 l1 l2 p q).p v0 w) (b1 : l1 ≤ 1000000000) (b2 : l2 ≤ 1000000000) (b3 : l3 ≤ 1000000000) (b4 : l4 ≤ 1000000000) :
    Calls Tryz.prog 41 #[v0] w (Ret (tT [tN B64 l1 p, tN B64 (l2 + 1) (und q)]) w) := by
 refine enter Tryz.func41 rfl Tryz.ntmps41 (by simp) ?_
 intro a hz hd ha
 have S0 := ha 0 _ rfl
 have H0 := h0
 clear ha
 have HB : Below w.heap.size w w := Below.refl _ _
 refine wp_seq ?_
 refine rt [rB 0 28 (tR B64 l1 l2 p q) none 0, rB 1 26 (tN B64 0 0) none 0, rB 2 26 (tN B64 0 0) none 0] hz hd ?_ ?_
 refine ⟨?_, ?_, ?_, trivial⟩
 exact zBox hz (so S0 H0) box_r64
 exact zNew hz (fun _ => tN_nil) al_n64
 exact zNew hz (fun _ => tN_nil) al_n64
 clear hz hd
 intro a' γ' W' hz hd hC hk hh
 clear S0 H0
 obtain ⟨p1, S1, Cp1, lp1, gp1⟩ := gotB hz 0 hC hh rfl rfl rfl rfl rfl rfl
 obtain ⟨p2, S2, Cp2, lp2, gp2⟩ := gotB hz 1 hC hh rfl rfl rfl rfl rfl rfl
 obtain ⟨p3, S3, Cp3, lp3, gp3⟩ := gotB hz 2 hC hh rfl rfl rfl rfl rfl rfl
 have n_p1_p2 : p1 ≠ p2 := by intro e; rw [e, gp2] at gp1; omega
 have n_p1_p3 : p1 ≠ p3 := by intro e; rw [e, gp3] at gp1; omega
 have n_p2_p3 : p2 ≠ p3 := by intro e; rw [e, gp3] at gp2; omega
 have n_p3_p2 : p3 ≠ p2 := by intro e; rw [e, gp2] at gp3; omega
 have bp2 := Nat.le_trans HB.size lp2
 have bp3 := Nat.le_trans HB.size lp3
 clear lp1 gp1 lp2 gp2 lp3 gp3
 replace HB := aB HB hC
 clear hC hk hh
 refine wp_seq ?_
 refine region_drawn (M := [p2, p3]) (
  rT (tV (.pointer (some ⟨p1, 0, none⟩))) ::
  rT (tN B64 l1 p) ::
  rT (tR B64 l1 l2 p q) ::
  rT (tN B64 (l2 + 1) (und q)) ::
  rE 0 26 (tN B64 l1 p) p2 ::
  rE 1 26 (tN B64 (l2 + 1) (und q)) p3 ::
  []) hz hd (by kernel_rfl) (by kernel_rfl) ?_ ?_
 refine ⟨?_, ?_, ?_, ?_, ?_, ?_, trivial⟩
 exact sFA rfl rfl rfl hz rfl (Gd.none_ rfl) rfl (sv S1) (fun w => by simp [go_sem])
 exact zLdP hz (sd 0 rfl) Cp1 ldp_r64 (by simp [tagOf, n_p1_p2, n_p1_p3])
 exact zLd hz (sv S1) Cp1 ld_r64 (by simp [tagOf, n_p1_p2, n_p1_p3])
 exact zC1 hz Tryz.func90 (sd 2 rfl) (fun _ _ h0 => c_under h0 (by omega) (by omega))
 exact zSE rfl (sv S2) (by simp [tagOf]) (Cp2.var tN_nd) (sd 1 rfl) st_n64
 exact zSE rfl (sv S3) (by simp [tagOf, n_p3_p2]) (Cp3.var tN_nd) (sd 3 rfl) st_n64
 clear hz hd
 intro a' γ' W' hz hd hC hk hh
 clear Cp1
 replace Cp2 := gotE (T := tN B64 l1 p) (id := 26) (p := p2) 4 hh rfl rfl
 replace Cp3 := gotE (T := tN B64 (l2 + 1) (und q)) (id := 26) (p := p3) 5 hh rfl rfl
 clear S1
 replace S2 := kp hk S2
 replace S3 := kp hk S3
 replace HB := RelC.aftM HB hC (by intro m hm; simp at hm; rcases hm with rfl | rfl <;> assumption)
 clear hC hk hh
 refine wp_ret ?_
 exact ret2_n64 (by kernel_rfl) S2 S3 hd Cp2 Cp3 HB

set_option maxRecDepth 10000 in
set_option maxHeartbeats 2000000 in
theorem c_rsub_l {l1 l2 l3 l4 p q p' q' : Nat} {v0 v1 : Value} {w : World} (h0 : (tR B64 l1 l2 p q).p v0 w) (h1 : (tR B64 l3 l4 p' q').p v1 w) (b1 : l1 ≤ 100000000) (b2 : l2 ≤ 100000000) (b3 : l3 ≤ 100000000) (b4 : l4 ≤ 100000000) (hs : decide (p' * (und q) ≤ p * (und q')) = false) :
    Calls Tryz.prog 89 #[v0, v1] w (Ret (tT [tR B64 0 0 0 0, tV (.bool false)]) w) := by
 refine enter Tryz.func89 rfl Tryz.ntmps89 (by simp) ?_
 intro a hz hd ha
 have S0 := ha 0 _ rfl
 have H0 := h0
 have S1 := ha 1 _ rfl
 have H1 := h1
 clear ha
 have HB : Below w.heap.size w w := Below.refl _ _
 refine wp_seq ?_
 refine rt [rB 0 28 (tR B64 l1 l2 p q) none 0, rB 1 28 (tR B64 l3 l4 p' q') none 0, rB 2 28 (tR B64 0 0 0 0) none 0, rV (.bool false)] hz hd ?_ ?_
 refine ⟨?_, ?_, ?_, ?_, trivial⟩
 exact zBox hz (so S0 H0) box_r64
 exact zBox hz (so S1 H1) box_r64
 exact zNew hz (fun _ => tR_nil) al_r64
 exact zAs hz kc
 clear hz hd
 intro a' γ' W' hz hd hC hk hh
 clear S0 H0
 clear S1 H1
 obtain ⟨p1, S2, Cp1, lp1, gp1⟩ := gotB hz 0 hC hh rfl rfl rfl rfl rfl rfl
 obtain ⟨p2, S3, Cp2, lp2, gp2⟩ := gotB hz 1 hC hh rfl rfl rfl rfl rfl rfl
 obtain ⟨p3, S4, Cp3, lp3, gp3⟩ := gotB hz 2 hC hh rfl rfl rfl rfl rfl rfl
 have S5 := gV hz 3 hh
 have n_p1_p3 : p1 ≠ p3 := by intro e; rw [e, gp3] at gp1; omega
 have n_p2_p3 : p2 ≠ p3 := by intro e; rw [e, gp3] at gp2; omega
 have bp3 := Nat.le_trans HB.size lp3
 clear lp1 gp1 lp2 gp2 lp3 gp3
 replace HB := aB HB hC
 clear hC hk hh
 refine wp_seq ?_
 refine rt [rT (tR B64 l1 l2 p q), rT (tR B64 l3 l4 p' q'), rT (tT [tN B64 (l1 + (l4 + 1)) (p * (und q')), tN B64 (l3 + (l2 + 1)) (p' * (und q))]), rT (tT [tN B64 (l1 + (l4 + 1)) (p * (und q')), tN B64 (l3 + (l2 + 1)) (p' * (und q))]), rT (tN B64 (l1 + (l4 + 1)) (p * (und q'))), rT (tN B64 (l3 + (l2 + 1)) (p' * (und q))), rVar 6 26 1, rVar 7 26 1, rB 6 26 (tN B64 (l1 + (l4 + 1)) (p * (und q'))) (some 6) 7, rB 7 26 (tN B64 (l3 + (l2 + 1)) (p' * (und q))) (some 7) 8] hz hd ?_ ?_
 refine ⟨?_, ?_, ?_, ?_, ?_, ?_, ?_, ?_, ?_, ?_, trivial⟩
 exact zLd hz (sv S2) Cp1 ld_r64
 exact zLd hz (sv S3) Cp2 ld_r64
 exact zC2 hz Tryz.func86 (sd 0 rfl) (sd 1 rfl) (fun _ _ _ h0 h1 => c_cross h0 h1 (by omega) (by omega) (by omega) (by omega))
 exact zMv hz (sd 2 rfl)
 exact zExt hz (sd 3 rfl)
 exact zExt hz (sd 3 rfl)
 exact zAl hz nd_slice al_n64
 exact zAl hz nd_slice al_n64
 exact zSt (sd 4 rfl) st_n64
 exact zSt (sd 5 rfl) st_n64
 clear hz hd
 intro a' γ' W' hz hd hC hk hh
 replace Cp1 := kC hC Cp1
 replace Cp2 := kC hC Cp2
 have tp3 := Cp3.lt
 replace Cp3 := kC hC Cp3
 replace S2 := kp hk S2
 replace S3 := kp hk S3
 replace S4 := kp hk S4
 replace S5 := kp hk S5
 obtain ⟨p4, S6, Cp4, lp4, gp4⟩ := gotB hz 8 hC hh rfl rfl rfl rfl rfl rfl
 obtain ⟨p5, S7, Cp5, lp5, gp5⟩ := gotB hz 9 hC hh rfl rfl rfl rfl rfl rfl
 have n_p4_p3 : p4 ≠ p3 := by omega
 have n_p5_p3 : p5 ≠ p3 := by omega
 clear lp4 gp4 lp5 gp5
 clear tp3
 replace HB := aB HB hC
 clear hC hk hh
 refine wp_seq ?_
 refine rt [rT (tN B64 (l1 + (l4 + 1)) (p * (und q'))), rT (tN B64 (l3 + (l2 + 1)) (p' * (und q))), rT (tT [tN B64 (l1 + (l4 + 1)) ((p * (und q')) - (p' * (und q))), tV (.bool false)]), rT (tT [tN B64 (l1 + (l4 + 1)) ((p * (und q')) - (p' * (und q))), tV (.bool false)]), rT (tN B64 (l1 + (l4 + 1)) ((p * (und q')) - (p' * (und q)))), rV (.bool false), rVar 6 26 1, rB 6 26 (tN B64 (l1 + (l4 + 1)) ((p * (und q')) - (p' * (und q)))) (some 6) 7, rV (.bool false)] hz hd ?_ ?_
 refine ⟨?_, ?_, ?_, ?_, ?_, ?_, ?_, ?_, ?_, trivial⟩
 exact zLd hz (sv S6) Cp4 ld_n64
 exact zLd hz (sv S7) Cp5 ld_n64
 exact zC2 hz Tryz.func47 (sd 0 rfl) (sd 1 rfl) (fun _ _ _ h0 h1 => (by have hq := c_sub h0 h1 (by rw [big_eq]; omega) (by rw [big_eq]; omega); simp only [hs] at hq; exact hq))
 exact zMv hz (sd 2 rfl)
 exact zExt hz (sd 3 rfl)
 exact zExt hz (sd 3 rfl)
 exact zAl hz nd_slice al_n64
 exact zSt (sd 4 rfl) st_n64
 exact zAs hz (sd 5 rfl)
 clear hz hd
 intro a' γ' W' hz hd hC hk hh
 replace Cp1 := kC hC Cp1
 replace Cp2 := kC hC Cp2
 have tp3 := Cp3.lt
 replace Cp3 := kC hC Cp3
 clear Cp4
 clear Cp5
 replace S2 := kp hk S2
 replace S3 := kp hk S3
 replace S4 := kp hk S4
 replace S5 := kp hk S5
 clear S6
 clear S7
 obtain ⟨p6, S8, Cp6, lp6, gp6⟩ := gotB hz 7 hC hh rfl rfl rfl rfl rfl rfl
 have S9 := gV hz 8 hh
 have n_p6_p3 : p6 ≠ p3 := by omega
 clear lp6 gp6
 clear tp3
 replace HB := aB HB hC
 clear hC hk hh
 refine wp_seq ?_
 refine wp_seq ?_
 refine rt [rV (.bool false), rV (.bool true)] hz hd ?_ ?_
 refine ⟨?_, ?_, trivial⟩
 exact zMv hz (sv S9)
 exact zNot hz (sd 0 rfl)
 clear hz hd
 intro a' γ' W' hz hd hC hk hh
 replace Cp1 := kC hC Cp1
 replace Cp2 := kC hC Cp2
 have tp3 := Cp3.lt
 replace Cp3 := kC hC Cp3
 replace Cp6 := kC hC Cp6
 replace S2 := kp hk S2
 replace S3 := kp hk S3
 replace S4 := kp hk S4
 replace S5 := kp hk S5
 replace S8 := kp hk S8
 clear S9
 have S23 := gV hz 1 hh
 clear tp3
 replace HB := aB HB hC
 clear hC hk hh
 refine wp_cond_true S23.ev ?_
 refine wp_seq ?_
 refine region_text (M := [p3]) [rT (tR B64 0 0 0 0), rE 0 28 (tR B64 0 0 0 0) p3, rV (.bool false)] hz hd (by kernel_rfl) ?_ ?_
 refine ⟨?_, ?_, ?_, trivial⟩
 exact sBuild0 rfl rfl rfl hz rfl (Gd.none_ rfl) rfl bd_r64 (fun _ => tR_nil)
 exact zSE rfl (sv S4) (by simp [tagOf]) (Cp3.var tR_nd) (sd 0 rfl) st_r64
 exact zAs hz kc
 clear hz hd
 intro a' γ' W' hz hd hC hk hh
 replace Cp1 := kC hC Cp1 (by simp [tagOf, n_p1_p3])
 replace Cp2 := kC hC Cp2 (by simp [tagOf, n_p2_p3])
 replace Cp3 := gotE (T := tR B64 0 0 0 0) (id := 28) (p := p3) 1 hh rfl rfl
 replace Cp6 := kC hC Cp6 (by simp [tagOf, n_p6_p3])
 replace S2 := kp hk S2
 replace S3 := kp hk S3
 replace S4 := kp hk S4
 clear S5
 replace S8 := kp hk S8
 clear S23
 have S5 := gV hz 2 hh
 replace HB := aM HB hC
 clear hC hk hh
 refine wp_ret ?_
 exact retct_r64 (by kernel_rfl) S4 S5 hd Cp3 HB

set_option maxRecDepth 10000 in
set_option maxHeartbeats 2000000 in
theorem c_rsub_g {l1 l2 l3 l4 p q p' q' : Nat} {v0 v1 : Value} {w : World} (h0 : (tR B64 l1 l2 p q).p v0 w) (h1 : (tR B64 l3 l4 p' q').p v1 w) (b1 : l1 ≤ 100000000) (b2 : l2 ≤ 100000000) (b3 : l3 ≤ 100000000) (b4 : l4 ≤ 100000000) (hs : decide (p' * (und q) ≤ p * (und q')) = true) :
    Calls Tryz.prog 89 #[v0, v1] w (Ret (tT [tR B64 (l1 + (l4 + 1)) ((l2 + 1) + (l4 + 1)) (((p * (und q')) - (p' * (und q))) / Nat.gcd ((p * (und q')) - (p' * (und q))) ((und q) * (und q'))) (((und q) * (und q')) / Nat.gcd ((p * (und q')) - (p' * (und q))) ((und q) * (und q'))), tV (.bool true)]) w) := by
 refine enter Tryz.func89 rfl Tryz.ntmps89 (by simp) ?_
 intro a hz hd ha
 have S0 := ha 0 _ rfl
 have H0 := h0
 have S1 := ha 1 _ rfl
 have H1 := h1
 clear ha
 have HB : Below w.heap.size w w := Below.refl _ _
 refine wp_seq ?_
 refine rt [rB 0 28 (tR B64 l1 l2 p q) none 0, rB 1 28 (tR B64 l3 l4 p' q') none 0, rB 2 28 (tR B64 0 0 0 0) none 0, rV (.bool false)] hz hd ?_ ?_
 refine ⟨?_, ?_, ?_, ?_, trivial⟩
 exact zBox hz (so S0 H0) box_r64
 exact zBox hz (so S1 H1) box_r64
 exact zNew hz (fun _ => tR_nil) al_r64
 exact zAs hz kc
 clear hz hd
 intro a' γ' W' hz hd hC hk hh
 clear S0 H0
 clear S1 H1
 obtain ⟨p1, S2, Cp1, lp1, gp1⟩ := gotB hz 0 hC hh rfl rfl rfl rfl rfl rfl
 obtain ⟨p2, S3, Cp2, lp2, gp2⟩ := gotB hz 1 hC hh rfl rfl rfl rfl rfl rfl
 obtain ⟨p3, S4, Cp3, lp3, gp3⟩ := gotB hz 2 hC hh rfl rfl rfl rfl rfl rfl
 have S5 := gV hz 3 hh
 have n_p1_p3 : p1 ≠ p3 := by intro e; rw [e, gp3] at gp1; omega
 have n_p2_p3 : p2 ≠ p3 := by intro e; rw [e, gp3] at gp2; omega
 have bp3 := Nat.le_trans HB.size lp3
 clear lp1 gp1 lp2 gp2 lp3 gp3
 replace HB := aB HB hC
 clear hC hk hh
 refine wp_seq ?_
 refine rt [rT (tR B64 l1 l2 p q), rT (tR B64 l3 l4 p' q'), rT (tT [tN B64 (l1 + (l4 + 1)) (p * (und q')), tN B64 (l3 + (l2 + 1)) (p' * (und q))]), rT (tT [tN B64 (l1 + (l4 + 1)) (p * (und q')), tN B64 (l3 + (l2 + 1)) (p' * (und q))]), rT (tN B64 (l1 + (l4 + 1)) (p * (und q'))), rT (tN B64 (l3 + (l2 + 1)) (p' * (und q))), rVar 6 26 1, rVar 7 26 1, rB 6 26 (tN B64 (l1 + (l4 + 1)) (p * (und q'))) (some 6) 7, rB 7 26 (tN B64 (l3 + (l2 + 1)) (p' * (und q))) (some 7) 8] hz hd ?_ ?_
 refine ⟨?_, ?_, ?_, ?_, ?_, ?_, ?_, ?_, ?_, ?_, trivial⟩
 exact zLd hz (sv S2) Cp1 ld_r64
 exact zLd hz (sv S3) Cp2 ld_r64
 exact zC2 hz Tryz.func86 (sd 0 rfl) (sd 1 rfl) (fun _ _ _ h0 h1 => c_cross h0 h1 (by omega) (by omega) (by omega) (by omega))
 exact zMv hz (sd 2 rfl)
 exact zExt hz (sd 3 rfl)
 exact zExt hz (sd 3 rfl)
 exact zAl hz nd_slice al_n64
 exact zAl hz nd_slice al_n64
 exact zSt (sd 4 rfl) st_n64
 exact zSt (sd 5 rfl) st_n64
 clear hz hd
 intro a' γ' W' hz hd hC hk hh
 replace Cp1 := kC hC Cp1
 replace Cp2 := kC hC Cp2
 have tp3 := Cp3.lt
 replace Cp3 := kC hC Cp3
 replace S2 := kp hk S2
 replace S3 := kp hk S3
 replace S4 := kp hk S4
 replace S5 := kp hk S5
 obtain ⟨p4, S6, Cp4, lp4, gp4⟩ := gotB hz 8 hC hh rfl rfl rfl rfl rfl rfl
 obtain ⟨p5, S7, Cp5, lp5, gp5⟩ := gotB hz 9 hC hh rfl rfl rfl rfl rfl rfl
 have n_p4_p3 : p4 ≠ p3 := by omega
 have n_p5_p3 : p5 ≠ p3 := by omega
 clear lp4 gp4 lp5 gp5
 clear tp3
 replace HB := aB HB hC
 clear hC hk hh
 refine wp_seq ?_
 refine rt [rT (tN B64 (l1 + (l4 + 1)) (p * (und q'))), rT (tN B64 (l3 + (l2 + 1)) (p' * (und q))), rT (tT [tN B64 (l1 + (l4 + 1)) ((p * (und q')) - (p' * (und q))), tV (.bool true)]), rT (tT [tN B64 (l1 + (l4 + 1)) ((p * (und q')) - (p' * (und q))), tV (.bool true)]), rT (tN B64 (l1 + (l4 + 1)) ((p * (und q')) - (p' * (und q)))), rV (.bool true), rVar 6 26 1, rB 6 26 (tN B64 (l1 + (l4 + 1)) ((p * (und q')) - (p' * (und q)))) (some 6) 7, rV (.bool true)] hz hd ?_ ?_
 refine ⟨?_, ?_, ?_, ?_, ?_, ?_, ?_, ?_, ?_, trivial⟩
 exact zLd hz (sv S6) Cp4 ld_n64
 exact zLd hz (sv S7) Cp5 ld_n64
 exact zC2 hz Tryz.func47 (sd 0 rfl) (sd 1 rfl) (fun _ _ _ h0 h1 => (by have hq := c_sub h0 h1 (by rw [big_eq]; omega) (by rw [big_eq]; omega); simp only [hs] at hq; exact hq))
 exact zMv hz (sd 2 rfl)
 exact zExt hz (sd 3 rfl)
 exact zExt hz (sd 3 rfl)
 exact zAl hz nd_slice al_n64
 exact zSt (sd 4 rfl) st_n64
 exact zAs hz (sd 5 rfl)
 clear hz hd
 intro a' γ' W' hz hd hC hk hh
 replace Cp1 := kC hC Cp1
 replace Cp2 := kC hC Cp2
 have tp3 := Cp3.lt
 replace Cp3 := kC hC Cp3
 clear Cp4
 clear Cp5
 replace S2 := kp hk S2
 replace S3 := kp hk S3
 replace S4 := kp hk S4
 replace S5 := kp hk S5
 clear S6
 clear S7
 obtain ⟨p6, S8, Cp6, lp6, gp6⟩ := gotB hz 7 hC hh rfl rfl rfl rfl rfl rfl
 have S9 := gV hz 8 hh
 have n_p6_p3 : p6 ≠ p3 := by omega
 clear lp6 gp6
 clear tp3
 replace HB := aB HB hC
 clear hC hk hh
 refine wp_seq ?_
 refine wp_seq ?_
 refine rt [rV (.bool true), rV (.bool false)] hz hd ?_ ?_
 refine ⟨?_, ?_, trivial⟩
 exact zMv hz (sv S9)
 exact zNot hz (sd 0 rfl)
 clear hz hd
 intro a' γ' W' hz hd hC hk hh
 replace Cp1 := kC hC Cp1
 replace Cp2 := kC hC Cp2
 have tp3 := Cp3.lt
 replace Cp3 := kC hC Cp3
 replace Cp6 := kC hC Cp6
 replace S2 := kp hk S2
 replace S3 := kp hk S3
 replace S4 := kp hk S4
 replace S5 := kp hk S5
 replace S8 := kp hk S8
 clear S9
 have S23 := gV hz 1 hh
 clear tp3
 replace HB := aB HB hC
 clear hC hk hh
 refine wp_cond_false S23.ev ?_
 refine wp_skip ?_
 refine wp_seq ?_
 refine region_drawn (M := [p3]) (
  rT (tN B64 (l1 + (l4 + 1)) ((p * (und q')) - (p' * (und q)))) ::
  rT (tR B64 l1 l2 p q) ::
  rT (tN B64 (l2 + 1) (und q)) ::
  rT (tR B64 l3 l4 p' q') ::
  rT (tN B64 (l4 + 1) (und q')) ::
  rT (tN B64 ((l2 + 1) + (l4 + 1)) ((und q) * (und q'))) ::
  rT (tR B64 (l1 + (l4 + 1)) ((l2 + 1) + (l4 + 1)) (((p * (und q')) - (p' * (und q))) / Nat.gcd ((p * (und q')) - (p' * (und q))) ((und q) * (und q'))) (((und q) * (und q')) / Nat.gcd ((p * (und q')) - (p' * (und q))) ((und q) * (und q')))) ::
  rE 0 28 (tR B64 (l1 + (l4 + 1)) ((l2 + 1) + (l4 + 1)) (((p * (und q')) - (p' * (und q))) / Nat.gcd ((p * (und q')) - (p' * (und q))) ((und q) * (und q'))) (((und q) * (und q')) / Nat.gcd ((p * (und q')) - (p' * (und q))) ((und q) * (und q')))) p3 ::
  rT (tV (.bool true)) ::
  []) hz hd (by kernel_rfl) (by kernel_rfl) ?_ ?_
 refine ⟨?_, ?_, ?_, ?_, ?_, ?_, ?_, ?_, ?_, trivial⟩
 exact zLd hz (sv S8) Cp6 ld_n64 (by simp [tagOf, n_p6_p3])
 exact zLd hz (sv S2) Cp1 ld_r64 (by simp [tagOf, n_p1_p3])
 exact zC1 hz Tryz.func90 (sd 1 rfl) (fun _ _ h0 => c_under h0 (by omega) (by omega))
 exact zLd hz (sv S3) Cp2 ld_r64 (by simp [tagOf, n_p2_p3])
 exact zC1 hz Tryz.func90 (sd 3 rfl) (fun _ _ h0 => c_under h0 (by omega) (by omega))
 exact zC2 hz Tryz.func43 (sd 2 rfl) (sd 4 rfl) (fun _ _ _ h0 h1 => c_mul h0 h1 (by rw [big_eq]; omega) (by rw [big_eq]; omega))
 exact zC2 hz Tryz.func68 (sd 0 rfl) (sd 5 rfl) (fun _ _ _ h0 h1 => c_lowest (l3 := 0) (l4 := 0) (p' := 0) (q' := 0) h0 h1 (by omega) (by omega) (by omega) (by omega))
 exact zSE rfl (sv S4) (by simp [tagOf]) (Cp3.var tR_nd) (sd 6 rfl) st_r64
 exact zAs hz kc
 clear hz hd
 intro a' γ' W' hz hd hC hk hh
 clear Cp1
 clear Cp2
 replace Cp3 := gotE (T := tR B64 (l1 + (l4 + 1)) ((l2 + 1) + (l4 + 1)) (((p * (und q')) - (p' * (und q))) / Nat.gcd ((p * (und q')) - (p' * (und q))) ((und q) * (und q'))) (((und q) * (und q')) / Nat.gcd ((p * (und q')) - (p' * (und q))) ((und q) * (und q')))) (id := 28) (p := p3) 7 hh rfl rfl
 clear Cp6
 clear S2
 clear S3
 replace S4 := kp hk S4
 clear S5
 clear S8
 clear S23
 have S5 := gV hz 8 hh
 replace HB := aM HB hC
 clear hC hk hh
 refine wp_ret ?_
 exact retct_r64 (by kernel_rfl) S4 S5 hd Cp3 HB

set_option maxRecDepth 10000 in
set_option maxHeartbeats 2000000 in
theorem c_rdiv_z {l1 l2 l3 l4 p q p' q' : Nat} {v0 v1 : Value} {w : World} (h0 : (tR B64 l1 l2 p q).p v0 w) (h1 : (tR B64 l3 l4 p' q').p v1 w) (b1 : l1 ≤ 100000000) (b2 : l2 ≤ 100000000) (b3 : l3 ≤ 100000000) (b4 : l4 ≤ 100000000) (hq : bl p' = 0) :
    Calls Tryz.prog 88 #[v0, v1] w (Ret (tT [tR B64 0 0 0 0, tV (.bool false)]) w) := by
 refine enter Tryz.func88 rfl Tryz.ntmps88 (by simp) ?_
 intro a hz hd ha
 have S0 := ha 0 _ rfl
 have H0 := h0
 have S1 := ha 1 _ rfl
 have H1 := h1
 clear ha
 have HB : Below w.heap.size w w := Below.refl _ _
 refine wp_seq ?_
 refine rt [rB 0 28 (tR B64 l1 l2 p q) none 0, rB 1 28 (tR B64 l3 l4 p' q') none 0, rB 2 28 (tR B64 0 0 0 0) none 0, rV (.bool false)] hz hd ?_ ?_
 refine ⟨?_, ?_, ?_, ?_, trivial⟩
 exact zBox hz (so S0 H0) box_r64
 exact zBox hz (so S1 H1) box_r64
 exact zNew hz (fun _ => tR_nil) al_r64
 exact zAs hz kc
 clear hz hd
 intro a' γ' W' hz hd hC hk hh
 clear S0 H0
 clear S1 H1
 obtain ⟨p1, S2, Cp1, lp1, gp1⟩ := gotB hz 0 hC hh rfl rfl rfl rfl rfl rfl
 obtain ⟨p2, S3, Cp2, lp2, gp2⟩ := gotB hz 1 hC hh rfl rfl rfl rfl rfl rfl
 obtain ⟨p3, S4, Cp3, lp3, gp3⟩ := gotB hz 2 hC hh rfl rfl rfl rfl rfl rfl
 have S5 := gV hz 3 hh
 have n_p1_p3 : p1 ≠ p3 := by intro e; rw [e, gp3] at gp1; omega
 have n_p2_p3 : p2 ≠ p3 := by intro e; rw [e, gp3] at gp2; omega
 have bp3 := Nat.le_trans HB.size lp3
 clear lp1 gp1 lp2 gp2 lp3 gp3
 replace HB := aB HB hC
 clear hC hk hh
 refine wp_seq ?_
 refine wp_seq ?_
 refine rt [rV (.pointer (some ⟨p2, 0, none⟩)), rT (tN B64 l3 p'), rV (.int .i64 ((bl p' : Nat) : Int)), rV (.bool true)] hz hd ?_ ?_
 refine ⟨?_, ?_, ?_, ?_, trivial⟩
 exact sFA rfl rfl rfl hz rfl (Gd.none_ rfl) rfl (sv S3) (fun w => by simp [go_sem])
 exact zLdP hz (sd 0 rfl) Cp2 ldp_r64
 exact zC1 hz Tryz.func42 (sd 1 rfl) (fun _ _ h0 => c_len h0 (by rw [big_eq]; omega))
 exact sBin rfl rfl rfl hz rfl (Gd.none_ rfl) rfl (sd 2 rfl) kc (fun w => by simp [go_sem, hq])
 clear hz hd
 intro a' γ' W' hz hd hC hk hh
 replace Cp1 := kC hC Cp1
 replace Cp2 := kC hC Cp2
 have tp3 := Cp3.lt
 replace Cp3 := kC hC Cp3
 replace S2 := kp hk S2
 replace S3 := kp hk S3
 replace S4 := kp hk S4
 replace S5 := kp hk S5
 have S9 := gV hz 3 hh
 clear tp3
 replace HB := aB HB hC
 clear hC hk hh
 refine wp_cond_true S9.ev ?_
 refine wp_seq ?_
 refine region_text (M := [p3]) [rT (tR B64 0 0 0 0), rE 0 28 (tR B64 0 0 0 0) p3, rV (.bool false)] hz hd (by kernel_rfl) ?_ ?_
 refine ⟨?_, ?_, ?_, trivial⟩
 exact sBuild0 rfl rfl rfl hz rfl (Gd.none_ rfl) rfl bd_r64 (fun _ => tR_nil)
 exact zSE rfl (sv S4) (by simp [tagOf]) (Cp3.var tR_nd) (sd 0 rfl) st_r64
 exact zAs hz kc
 clear hz hd
 intro a' γ' W' hz hd hC hk hh
 replace Cp1 := kC hC Cp1 (by simp [tagOf, n_p1_p3])
 replace Cp2 := kC hC Cp2 (by simp [tagOf, n_p2_p3])
 replace Cp3 := gotE (T := tR B64 0 0 0 0) (id := 28) (p := p3) 1 hh rfl rfl
 replace S2 := kp hk S2
 replace S3 := kp hk S3
 replace S4 := kp hk S4
 clear S5
 clear S9
 have S5 := gV hz 2 hh
 replace HB := aM HB hC
 clear hC hk hh
 refine wp_ret ?_
 exact retct_r64 (by kernel_rfl) S4 S5 hd Cp3 HB

set_option maxRecDepth 10000 in
set_option maxHeartbeats 2000000 in
theorem c_rdiv_p {l1 l2 l3 l4 p q p' q' : Nat} {v0 v1 : Value} {w : World} (h0 : (tR B64 l1 l2 p q).p v0 w) (h1 : (tR B64 l3 l4 p' q').p v1 w) (b1 : l1 ≤ 100000000) (b2 : l2 ≤ 100000000) (b3 : l3 ≤ 100000000) (b4 : l4 ≤ 100000000) (hq : bl p' ≠ 0) :
    Calls Tryz.prog 88 #[v0, v1] w (Ret (tT [tR B64 (l1 + (l4 + 1)) ((l2 + 1) + l3) ((p * (und q')) / Nat.gcd (p * (und q')) ((und q) * p')) (((und q) * p') / Nat.gcd (p * (und q')) ((und q) * p')), tV (.bool true)]) w) := by
 refine enter Tryz.func88 rfl Tryz.ntmps88 (by simp) ?_
 intro a hz hd ha
 have S0 := ha 0 _ rfl
 have H0 := h0
 have S1 := ha 1 _ rfl
 have H1 := h1
 clear ha
 have HB : Below w.heap.size w w := Below.refl _ _
 refine wp_seq ?_
 refine rt [rB 0 28 (tR B64 l1 l2 p q) none 0, rB 1 28 (tR B64 l3 l4 p' q') none 0, rB 2 28 (tR B64 0 0 0 0) none 0, rV (.bool false)] hz hd ?_ ?_
 refine ⟨?_, ?_, ?_, ?_, trivial⟩
 exact zBox hz (so S0 H0) box_r64
 exact zBox hz (so S1 H1) box_r64
 exact zNew hz (fun _ => tR_nil) al_r64
 exact zAs hz kc
 clear hz hd
 intro a' γ' W' hz hd hC hk hh
 clear S0 H0
 clear S1 H1
 obtain ⟨p1, S2, Cp1, lp1, gp1⟩ := gotB hz 0 hC hh rfl rfl rfl rfl rfl rfl
 obtain ⟨p2, S3, Cp2, lp2, gp2⟩ := gotB hz 1 hC hh rfl rfl rfl rfl rfl rfl
 obtain ⟨p3, S4, Cp3, lp3, gp3⟩ := gotB hz 2 hC hh rfl rfl rfl rfl rfl rfl
 have S5 := gV hz 3 hh
 have n_p1_p3 : p1 ≠ p3 := by intro e; rw [e, gp3] at gp1; omega
 have n_p2_p3 : p2 ≠ p3 := by intro e; rw [e, gp3] at gp2; omega
 have bp3 := Nat.le_trans HB.size lp3
 clear lp1 gp1 lp2 gp2 lp3 gp3
 replace HB := aB HB hC
 clear hC hk hh
 refine wp_seq ?_
 refine wp_seq ?_
 refine rt [rV (.pointer (some ⟨p2, 0, none⟩)), rT (tN B64 l3 p'), rV (.int .i64 ((bl p' : Nat) : Int)), rV (.bool false)] hz hd ?_ ?_
 refine ⟨?_, ?_, ?_, ?_, trivial⟩
 exact sFA rfl rfl rfl hz rfl (Gd.none_ rfl) rfl (sv S3) (fun w => by simp [go_sem])
 exact zLdP hz (sd 0 rfl) Cp2 ldp_r64
 exact zC1 hz Tryz.func42 (sd 1 rfl) (fun _ _ h0 => c_len h0 (by rw [big_eq]; omega))
 exact sBin rfl rfl rfl hz rfl (Gd.none_ rfl) rfl (sd 2 rfl) kc (fun w => by simp [go_sem, hq])
 clear hz hd
 intro a' γ' W' hz hd hC hk hh
 replace Cp1 := kC hC Cp1
 replace Cp2 := kC hC Cp2
 have tp3 := Cp3.lt
 replace Cp3 := kC hC Cp3
 replace S2 := kp hk S2
 replace S3 := kp hk S3
 replace S4 := kp hk S4
 replace S5 := kp hk S5
 have S9 := gV hz 3 hh
 clear tp3
 replace HB := aB HB hC
 clear hC hk hh
 refine wp_cond_false S9.ev ?_
 refine wp_skip ?_
 refine wp_seq ?_
 refine region_drawn (M := [p3]) (
  rT (tV (.pointer (some ⟨p1, 0, none⟩))) ::
  rT (tN B64 l1 p) ::
  rT (tR B64 l3 l4 p' q') ::
  rT (tN B64 (l4 + 1) (und q')) ::
  rT (tN B64 (l1 + (l4 + 1)) (p * (und q'))) ::
  rT (tR B64 l1 l2 p q) ::
  rT (tN B64 (l2 + 1) (und q)) ::
  rT (tV (.pointer (some ⟨p2, 0, none⟩))) ::
  rT (tN B64 l3 p') ::
  rT (tN B64 ((l2 + 1) + l3) ((und q) * p')) ::
  rT (tR B64 (l1 + (l4 + 1)) ((l2 + 1) + l3) ((p * (und q')) / Nat.gcd (p * (und q')) ((und q) * p')) (((und q) * p') / Nat.gcd (p * (und q')) ((und q) * p'))) ::
  rE 0 28 (tR B64 (l1 + (l4 + 1)) ((l2 + 1) + l3) ((p * (und q')) / Nat.gcd (p * (und q')) ((und q) * p')) (((und q) * p') / Nat.gcd (p * (und q')) ((und q) * p'))) p3 ::
  rT (tV (.bool true)) ::
  []) hz hd (by kernel_rfl) (by kernel_rfl) ?_ ?_
 refine ⟨?_, ?_, ?_, ?_, ?_, ?_, ?_, ?_, ?_, ?_, ?_, ?_, ?_, trivial⟩
 exact sFA rfl rfl rfl hz rfl (Gd.none_ rfl) rfl (sv S2) (fun w => by simp [go_sem])
 exact zLdP hz (sd 0 rfl) Cp1 ldp_r64 (by simp [tagOf, n_p1_p3])
 exact zLd hz (sv S3) Cp2 ld_r64 (by simp [tagOf, n_p2_p3])
 exact zC1 hz Tryz.func90 (sd 2 rfl) (fun _ _ h0 => c_under h0 (by omega) (by omega))
 exact zC2 hz Tryz.func43 (sd 1 rfl) (sd 3 rfl) (fun _ _ _ h0 h1 => c_mul h0 h1 (by rw [big_eq]; omega) (by rw [big_eq]; omega))
 exact zLd hz (sv S2) Cp1 ld_r64 (by simp [tagOf, n_p1_p3])
 exact zC1 hz Tryz.func90 (sd 5 rfl) (fun _ _ h0 => c_under h0 (by omega) (by omega))
 exact sFA rfl rfl rfl hz rfl (Gd.none_ rfl) rfl (sv S3) (fun w => by simp [go_sem])
 exact zLdP hz (sd 7 rfl) Cp2 ldp_r64 (by simp [tagOf, n_p2_p3])
 exact zC2 hz Tryz.func43 (sd 6 rfl) (sd 8 rfl) (fun _ _ _ h0 h1 => c_mul h0 h1 (by rw [big_eq]; omega) (by rw [big_eq]; omega))
 exact zC2 hz Tryz.func68 (sd 4 rfl) (sd 9 rfl) (fun _ _ _ h0 h1 => c_lowest (l3 := 0) (l4 := 0) (p' := 0) (q' := 0) h0 h1 (by omega) (by omega) (by omega) (by omega))
 exact zSE rfl (sv S4) (by simp [tagOf]) (Cp3.var tR_nd) (sd 10 rfl) st_r64
 exact zAs hz kc
 clear hz hd
 intro a' γ' W' hz hd hC hk hh
 clear Cp1
 clear Cp2
 replace Cp3 := gotE (T := tR B64 (l1 + (l4 + 1)) ((l2 + 1) + l3) ((p * (und q')) / Nat.gcd (p * (und q')) ((und q) * p')) (((und q) * p') / Nat.gcd (p * (und q')) ((und q) * p'))) (id := 28) (p := p3) 11 hh rfl rfl
 clear S2
 clear S3
 replace S4 := kp hk S4
 clear S5
 clear S9
 have S5 := gV hz 12 hh
 replace HB := aM HB hC
 clear hC hk hh
 refine wp_ret ?_
 exact retct_r64 (by kernel_rfl) S4 S5 hd Cp3 HB

set_option maxRecDepth 10000 in
set_option maxHeartbeats 2000000 in
theorem c_of_n {l1 l2 l3 l4 p q p' q' : Nat} {w : World}  {a1 a2 : Int} (hs : a1 < 0) :
    Calls Tryz.prog 35 #[.int .i64 a1, .int .i64 a2] w (Ret (tT [tR B64 0 0 0 0, tV (.bool false)]) w) := by
 refine enter Tryz.func35 rfl Tryz.ntmps35 (by simp) ?_
 intro a hz hd ha
 have S0 := ha 0 _ rfl
 have S1 := ha 1 _ rfl
 clear ha
 have HB : Below w.heap.size w w := Below.refl _ _
 refine wp_seq ?_
 refine rt [rB 0 28 (tR B64 0 0 0 0) none 0, rV (.bool false)] hz hd ?_ ?_
 refine ⟨?_, ?_, trivial⟩
 exact zNew hz (fun _ => tR_nil) al_r64
 exact zAs hz kc
 clear hz hd
 intro a' γ' W' hz hd hC hk hh
 replace S0 := kp hk S0
 replace S1 := kp hk S1
 obtain ⟨p1, S4, Cp1, lp1, gp1⟩ := gotB hz 0 hC hh rfl rfl rfl rfl rfl rfl
 have S5 := gV hz 1 hh
 have bp1 := Nat.le_trans HB.size lp1
 clear lp1 gp1
 replace HB := aB HB hC
 clear hC hk hh
 refine wp_seq ?_
 refine wp_seq ?_
 refine rt [rV (.int .i64 a1), rV (.bool true), rV (.bool true), rV undef, rV undef, rV (.bool true)] hz hd ?_ ?_
 refine ⟨?_, ?_, ?_, ?_, ?_, ?_, trivial⟩
 exact zMv hz (sv S0)
 exact sBin rfl rfl rfl hz rfl (Gd.none_ rfl) rfl (sd 0 rfl) kc (fun w => by simp [go_sem, hs])
 exact zMv hz (sd 1 rfl)
 exact zSkU hz (gN 2 rfl)
 exact zSkU hz (gN 2 rfl)
 exact zPT hz (sd 2 rfl) kc
 clear hz hd
 intro a' γ' W' hz hd hC hk hh
 have tp1 := Cp1.lt
 replace Cp1 := kC hC Cp1
 replace S0 := kp hk S0
 replace S1 := kp hk S1
 replace S4 := kp hk S4
 replace S5 := kp hk S5
 have S11 := gV hz 5 hh
 clear tp1
 replace HB := aB HB hC
 clear hC hk hh
 refine wp_cond_true S11.ev ?_
 refine wp_seq ?_
 refine region_text (M := [p1]) [rT (tR B64 0 0 0 0), rE 0 28 (tR B64 0 0 0 0) p1, rV (.bool false)] hz hd (by kernel_rfl) ?_ ?_
 refine ⟨?_, ?_, ?_, trivial⟩
 exact sBuild0 rfl rfl rfl hz rfl (Gd.none_ rfl) rfl bd_r64 (fun _ => tR_nil)
 exact zSE rfl (sv S4) (by simp [tagOf]) (Cp1.var tR_nd) (sd 0 rfl) st_r64
 exact zAs hz kc
 clear hz hd
 intro a' γ' W' hz hd hC hk hh
 replace Cp1 := gotE (T := tR B64 0 0 0 0) (id := 28) (p := p1) 1 hh rfl rfl
 replace S0 := kp hk S0
 replace S1 := kp hk S1
 replace S4 := kp hk S4
 clear S5
 clear S11
 have S5 := gV hz 2 hh
 replace HB := aM HB hC
 clear hC hk hh
 refine wp_ret ?_
 exact retct_r64 (by kernel_rfl) S4 S5 hd Cp1 HB

set_option maxRecDepth 10000 in
set_option maxHeartbeats 2000000 in
theorem c_of_z {l1 l2 l3 l4 p q p' q' : Nat} {w : World}  {a1 a2 : Int} (hs : ¬ a1 < 0) (hq : a2 < 1) :
    Calls Tryz.prog 35 #[.int .i64 a1, .int .i64 a2] w (Ret (tT [tR B64 0 0 0 0, tV (.bool false)]) w) := by
 refine enter Tryz.func35 rfl Tryz.ntmps35 (by simp) ?_
 intro a hz hd ha
 have S0 := ha 0 _ rfl
 have S1 := ha 1 _ rfl
 clear ha
 have HB : Below w.heap.size w w := Below.refl _ _
 refine wp_seq ?_
 refine rt [rB 0 28 (tR B64 0 0 0 0) none 0, rV (.bool false)] hz hd ?_ ?_
 refine ⟨?_, ?_, trivial⟩
 exact zNew hz (fun _ => tR_nil) al_r64
 exact zAs hz kc
 clear hz hd
 intro a' γ' W' hz hd hC hk hh
 replace S0 := kp hk S0
 replace S1 := kp hk S1
 obtain ⟨p1, S4, Cp1, lp1, gp1⟩ := gotB hz 0 hC hh rfl rfl rfl rfl rfl rfl
 have S5 := gV hz 1 hh
 have bp1 := Nat.le_trans HB.size lp1
 clear lp1 gp1
 replace HB := aB HB hC
 clear hC hk hh
 refine wp_seq ?_
 refine wp_seq ?_
 refine rt [rV (.int .i64 a1), rV (.bool false), rV (.bool false), rV (.int .i64 a2), rV (.bool true), rV (.bool true)] hz hd ?_ ?_
 refine ⟨?_, ?_, ?_, ?_, ?_, ?_, trivial⟩
 exact zMv hz (sv S0)
 exact sBin rfl rfl rfl hz rfl (Gd.none_ rfl) rfl (sd 0 rfl) kc (fun w => by simp [go_sem, hs])
 exact zMv hz (sd 1 rfl)
 exact zMv hz (sv S1) (g := gT 2 rfl)
 exact sBin rfl rfl rfl hz rfl (gT 2 rfl) rfl (sd 3 rfl) kc (fun w => by simp [go_sem, hq])
 exact zPF hz (sd 2 rfl) (sd 4 rfl)
 clear hz hd
 intro a' γ' W' hz hd hC hk hh
 have tp1 := Cp1.lt
 replace Cp1 := kC hC Cp1
 replace S0 := kp hk S0
 replace S1 := kp hk S1
 replace S4 := kp hk S4
 replace S5 := kp hk S5
 have S11 := gV hz 5 hh
 clear tp1
 replace HB := aB HB hC
 clear hC hk hh
 refine wp_cond_true S11.ev ?_
 refine wp_seq ?_
 refine region_text (M := [p1]) [rT (tR B64 0 0 0 0), rE 0 28 (tR B64 0 0 0 0) p1, rV (.bool false)] hz hd (by kernel_rfl) ?_ ?_
 refine ⟨?_, ?_, ?_, trivial⟩
 exact sBuild0 rfl rfl rfl hz rfl (Gd.none_ rfl) rfl bd_r64 (fun _ => tR_nil)
 exact zSE rfl (sv S4) (by simp [tagOf]) (Cp1.var tR_nd) (sd 0 rfl) st_r64
 exact zAs hz kc
 clear hz hd
 intro a' γ' W' hz hd hC hk hh
 replace Cp1 := gotE (T := tR B64 0 0 0 0) (id := 28) (p := p1) 1 hh rfl rfl
 replace S0 := kp hk S0
 replace S1 := kp hk S1
 replace S4 := kp hk S4
 clear S5
 clear S11
 have S5 := gV hz 2 hh
 replace HB := aM HB hC
 clear hC hk hh
 refine wp_ret ?_
 exact retct_r64 (by kernel_rfl) S4 S5 hd Cp1 HB

set_option maxRecDepth 10000 in
set_option maxHeartbeats 2000000 in
theorem c_of_p {l1 l2 l3 l4 p q p' q' : Nat} {w : World}  {x y : Nat} (hx : x < 9223372036854775808) (hy : y < 9223372036854775808) (hq : 1 ≤ y) (hx2 : x < B64) (hy2 : y < B64) :
    Calls Tryz.prog 35 #[.int .i64 (x : Int), .int .i64 (y : Int)] w (Ret (tT [tR B64 1 1 (x / Nat.gcd x y) (y / Nat.gcd x y), tV (.bool true)]) w) := by
 refine enter Tryz.func35 rfl Tryz.ntmps35 (by simp) ?_
 intro a hz hd ha
 have S0 := ha 0 _ rfl
 have S1 := ha 1 _ rfl
 clear ha
 have HB : Below w.heap.size w w := Below.refl _ _
 refine wp_seq ?_
 refine rt [rB 0 28 (tR B64 0 0 0 0) none 0, rV (.bool false)] hz hd ?_ ?_
 refine ⟨?_, ?_, trivial⟩
 exact zNew hz (fun _ => tR_nil) al_r64
 exact zAs hz kc
 clear hz hd
 intro a' γ' W' hz hd hC hk hh
 replace S0 := kp hk S0
 replace S1 := kp hk S1
 obtain ⟨p1, S4, Cp1, lp1, gp1⟩ := gotB hz 0 hC hh rfl rfl rfl rfl rfl rfl
 have S5 := gV hz 1 hh
 have bp1 := Nat.le_trans HB.size lp1
 clear lp1 gp1
 replace HB := aB HB hC
 clear hC hk hh
 refine wp_seq ?_
 refine wp_seq ?_
 refine rt [rV (.int .i64 (x : Int)), rV (.bool false), rV (.bool false), rV (.int .i64 (y : Int)), rV (.bool false), rV (.bool false)] hz hd ?_ ?_
 refine ⟨?_, ?_, ?_, ?_, ?_, ?_, trivial⟩
 exact zMv hz (sv S0)
 exact sBin rfl rfl rfl hz rfl (Gd.none_ rfl) rfl (sd 0 rfl) kc (fun w => by first | (simp [go_sem]; done) | (simp [go_sem]; omega))
 exact zMv hz (sd 1 rfl)
 exact zMv hz (sv S1) (g := gT 2 rfl)
 exact sBin rfl rfl rfl hz rfl (gT 2 rfl) rfl (sd 3 rfl) kc (fun w => by first | (simp [go_sem]; done) | (simp [go_sem]; omega))
 exact zPF hz (sd 2 rfl) (sd 4 rfl)
 clear hz hd
 intro a' γ' W' hz hd hC hk hh
 have tp1 := Cp1.lt
 replace Cp1 := kC hC Cp1
 replace S0 := kp hk S0
 replace S1 := kp hk S1
 replace S4 := kp hk S4
 replace S5 := kp hk S5
 have S11 := gV hz 5 hh
 clear tp1
 replace HB := aB HB hC
 clear hC hk hh
 refine wp_cond_false S11.ev ?_
 refine wp_skip ?_
 refine wp_seq ?_
 refine region_text (M := [p1]) [rV (.int .i64 (x : Int)), rV (.int .u64 (x : Int)), rT (tN B64 1 x), rV (.int .i64 (y : Int)), rV (.int .u64 (y : Int)), rT (tN B64 1 y), rT (tR B64 1 1 (x / Nat.gcd x y) (y / Nat.gcd x y)), rE 0 28 (tR B64 1 1 (x / Nat.gcd x y) (y / Nat.gcd x y)) p1, rV (.bool true)] hz hd (by kernel_rfl) ?_ ?_
 refine ⟨?_, ?_, ?_, ?_, ?_, ?_, ?_, ?_, ?_, trivial⟩
 exact zMv hz (sv S0)
 exact sConv (T' := tV (.int .i64 (x : Int))) rfl rfl rfl hz rfl (Gd.none_ rfl) rfl (sd 0 rfl) (fun v_ w_ h_ => by have h_ : v_ = .int .i64 (x : Int) := h_; subst h_; exact ⟨_, by first | (simp [go_sem, IntKind.wrap_u64]; done) | (simp [go_sem, IntKind.wrap_u64]; omega), rfl⟩)
 exact zC1 hz Tryz.func40 (sd 1 rfl) (k1 (fun _ => c_of hx2))
 exact zMv hz (sv S1)
 exact sConv (T' := tV (.int .i64 (y : Int))) rfl rfl rfl hz rfl (Gd.none_ rfl) rfl (sd 3 rfl) (fun v_ w_ h_ => by have h_ : v_ = .int .i64 (y : Int) := h_; subst h_; exact ⟨_, by first | (simp [go_sem, IntKind.wrap_u64]; done) | (simp [go_sem, IntKind.wrap_u64]; omega), rfl⟩)
 exact zC1 hz Tryz.func40 (sd 4 rfl) (k1 (fun _ => c_of hy2))
 exact zC2 hz Tryz.func68 (sd 2 rfl) (sd 5 rfl) (fun _ _ _ h0 h1 => c_lowest (l3 := 0) (l4 := 0) (p' := 0) (q' := 0) h0 h1 (by omega) (by omega) (by omega) (by omega))
 exact zSE rfl (sv S4) (by simp [tagOf]) (Cp1.var tR_nd) (sd 6 rfl) st_r64
 exact zAs hz kc
 clear hz hd
 intro a' γ' W' hz hd hC hk hh
 replace Cp1 := gotE (T := tR B64 1 1 (x / Nat.gcd x y) (y / Nat.gcd x y)) (id := 28) (p := p1) 7 hh rfl rfl
 clear S0
 clear S1
 replace S4 := kp hk S4
 clear S5
 clear S11
 have S5 := gV hz 8 hh
 replace HB := aM HB hC
 clear hC hk hh
 refine wp_ret ?_
 exact retct_r64 (by kernel_rfl) S4 S5 hd Cp1 HB


section

variable {l l1 l2 : Nat} {x y : Rat} {v0 v1 : Value} {w : World}
theorem bl_pos {n : Nat} (h : n ≠ 0) : 0 < bl n := by
  rcases Nat.eq_zero_or_pos (bl n) with h1 | h1
  · exfalso; have := bl_lt (x := n); rw [h1] at this; simp at this; exact h this
  · exact h1
theorem cq_cmp (h0 : (tQ B64 l1 x).p v0 w) (h1 : (tQ B64 l2 y).p v1 w) (b1 : l1 ≤ 100000000) (b2 : l2 ≤ 100000000) : Calls Tryz.prog 33 #[v0, v1] w (Ret (tV (.int .i64 (cmpQ x y))) w) := by
  obtain ⟨p, q, h, e1, e2, -, h3, h4⟩ := h0
  obtain ⟨p', q', h', e1', e2', -, h3', h4'⟩ := h1
  rw [← q_cmp e1 e2 e1' e2']
  exact c_rcmp h h' (by omega) (by omega) (by omega) (by omega)
def subQ (x y : Rat) : Rat := if y ≤ x then x - y else 0
theorem cq_sub (h0 : (tQ B64 l1 x).p v0 w) (h1 : (tQ B64 l2 y).p v1 w) (b1 : l1 ≤ 100000000) (b2 : l2 ≤ 100000000) : Calls Tryz.prog 89 #[v0, v1] w (Ret (tT [tQ B64 (l1 + l2 + 1) (subQ x y), tV (.bool (decide (y ≤ x)))]) w) := by
  obtain ⟨p, q, h, e1, e2, -, h3, h4⟩ := h0
  obtain ⟨p', q', h', e1', e2', -, h3', h4'⟩ := h1
  by_cases hs : p' * und q ≤ p * und q'
  · have hy : y ≤ x := (q_le e1 e2 e1' e2').2 hs
    refine (c_rsub_g h h' (by omega) (by omega) (by omega) (by omega) (decide_eq_true hs)).mono ?_
    rintro e w' ⟨v, rfl, ⟨m, rfl, hv⟩, hb⟩
    match m, hv with
    | [u1, u2], ⟨hv, hv2, _⟩ =>
      refine ⟨_, rfl, ⟨_, rfl, ?_, by rw [decide_eq_true hy]; exact hv2, trivial⟩, hb⟩
      unfold subQ; rw [if_pos hy]
      exact tQ_low (by decide) hv (Nat.mul_ne_zero (und_ne _) (und_ne _)) (q_sub e1 e2 e1' e2' hs) (Nat.lt_of_le_of_lt (Nat.sub_le _ _) (bits_le (bits_mul h3 h4') (by omega))) (bits_le (bits_mul h4 h4') (by omega))
  · have hy : ¬ y ≤ x := fun h => hs ((q_le e1 e2 e1' e2').1 h)
    refine (c_rsub_l h h' (by omega) (by omega) (by omega) (by omega) (decide_eq_false hs)).mono ?_
    rintro e w' ⟨v, rfl, ⟨m, rfl, hv⟩, hb⟩
    match m, hv with
    | [u1, u2], ⟨hv, hv2, _⟩ =>
      refine ⟨_, rfl, ⟨_, rfl, ?_, by rw [decide_eq_false hy]; exact hv2, trivial⟩, hb⟩
      unfold subQ; rw [if_neg hy]
      exact tQ_le (by decide) (by omega) _ _ (tQ_0 hv)
theorem cq_div (h0 : (tQ B64 l1 x).p v0 w) (h1 : (tQ B64 l2 y).p v1 w) (b1 : l1 ≤ 100000000) (b2 : l2 ≤ 100000000) : Calls Tryz.prog 88 #[v0, v1] w (Ret (tT [tQ B64 (l1 + l2 + 1) (x / y), tV (.bool (decide (y ≠ 0)))]) w) := by
  obtain ⟨p, q, h, e1, e2, -, h3, h4⟩ := h0
  obtain ⟨p', q', h', e1', e2', -, h3', h4'⟩ := h1
  by_cases hs : p' = 0
  · have hy : y = 0 := (q_zero e1').1 hs
    subst hs
    refine (c_rdiv_z h h' (by omega) (by omega) (by omega) (by omega) bl_zero).mono ?_
    rintro e w' ⟨v, rfl, ⟨m, rfl, hv⟩, hb⟩
    match m, hv with
    | [u1, u2], ⟨hv, hv2, _⟩ =>
      refine ⟨_, rfl, ⟨_, rfl, ?_, by rw [decide_eq_false (fun h => h hy)]; exact hv2, trivial⟩, hb⟩
      rw [hy, Rat.div_def, Rat.inv_zero, Rat.mul_zero]
      exact tQ_le (by decide) (by omega) _ _ (tQ_0 hv)
  · have hy : y ≠ 0 := fun h => hs ((q_zero e1').2 h)
    have hl : bl p' ≠ 0 := fun h => hs (by have := bl_lt (x := p'); rw [h] at this; simpa using this)
    refine (c_rdiv_p h h' (by omega) (by omega) (by omega) (by omega) hl).mono ?_
    rintro e w' ⟨v, rfl, ⟨m, rfl, hv⟩, hb⟩
    match m, hv with
    | [u1, u2], ⟨hv, hv2, _⟩ =>
      refine ⟨_, rfl, ⟨_, rfl, ?_, by rw [decide_eq_true hy]; exact hv2, trivial⟩, hb⟩
      exact tQ_low (by decide) hv (Nat.mul_ne_zero (und_ne _) hs) (q_div e1 e2 e1' e2') (bits_le (bits_mul h3 h4') (by omega)) (bits_le (bits_mul h4 h3') (by omega))
theorem cq_parts (h0 : (tQ B64 l1 x).p v0 w) (b1 : l1 ≤ 100000000) : Calls Tryz.prog 41 #[v0] w (Ret (tT [tN B64 l1 x.num.toNat, tN B64 (l1 + 1) x.den]) w) := by
  obtain ⟨p, q, h, e1, e2, -, h3, h4⟩ := h0
  rw [e1, e2]
  exact c_parts (l3 := 0) (l4 := 0) (p' := 0) (q' := 0) h (by omega) (by omega) (by omega) (by omega)
end

end Go.Proofs.YtfgnleoaibcegaaGreat.Rg

namespace Go.Proofs.YtfgnleoaibcegaaGreat.Rg

open Go.RowKit
set_option maxRecDepth 10000 in
set_option maxHeartbeats 2000000 in
theorem d_made {l1 l2 p q : Nat} {v0 v1 : Value} {w : World} (h0 : (tN B32 l1 p).p v0 w) (h1 : (tN B32 l2 q).p v1 w) (b1 : l1 ≤ 1000000000) (b2 : l2 ≤ 1000000000) (hq : 0 < q) :
    Calls Tryz.prog 61 #[v0, v1] w (Ret (tR B32 l1 l2 (p / (Nat.gcd p q)) (q / (Nat.gcd p q))) w) := by
 refine enter Tryz.func61 rfl Tryz.ntmps61 (by simp) ?_
 intro a hz hd ha
 have S0 := ha 0 _ rfl
 have H0 := h0
 have S1 := ha 1 _ rfl
 have H1 := h1
 clear ha
 have HB : Below w.heap.size w w := Below.refl _ _
 refine wp_seq ?_
 refine rt [rB 0 30 (tN B32 l1 p) none 0, rB 1 30 (tN B32 l2 q) none 0, rB 2 32 (tR B32 0 0 0 0) none 0] hz hd ?_ ?_
 refine ⟨?_, ?_, ?_, trivial⟩
 exact zBox hz (so S0 H0) box_n32
 exact zBox hz (so S1 H1) box_n32
 exact zNew hz (fun _ => tR_nil) al_r32
 clear hz hd
 intro a' γ' W' hz hd hC hk hh
 clear S0 H0
 clear S1 H1
 obtain ⟨p1, S2, Cp1, lp1, gp1⟩ := gotB hz 0 hC hh rfl rfl rfl rfl rfl rfl
 obtain ⟨p2, S3, Cp2, lp2, gp2⟩ := gotB hz 1 hC hh rfl rfl rfl rfl rfl rfl
 obtain ⟨p3, S4, Cp3, lp3, gp3⟩ := gotB hz 2 hC hh rfl rfl rfl rfl rfl rfl
 have n_p1_p3 : p1 ≠ p3 := by intro e; rw [e, gp3] at gp1; omega
 have n_p2_p3 : p2 ≠ p3 := by intro e; rw [e, gp3] at gp2; omega
 have bp3 := Nat.le_trans HB.size lp3
 clear lp1 gp1 lp2 gp2 lp3 gp3
 replace HB := aB HB hC
 clear hC hk hh
 refine wp_seq ?_
 refine rt [rT (tN B32 l1 p), rT (tN B32 l2 q), rT (tN B32 (max l1 l2) (Nat.gcd p q)), rVar 3 30 1, rB 3 30 (tN B32 (max l1 l2) (Nat.gcd p q)) (some 3) 4] hz hd ?_ ?_
 refine ⟨?_, ?_, ?_, ?_, ?_, trivial⟩
 exact zLd hz (sv S2) Cp1 ld_n32
 exact zLd hz (sv S3) Cp2 ld_n32
 exact zC2 hz Tryz.func103 (sd 0 rfl) (sd 1 rfl) (fun _ _ _ h0 h1 => d_gcd h0 h1 (by rw [big_eq]; omega) (by rw [big_eq]; omega))
 exact zAl hz nd_slice al_n32
 exact zSt (sd 2 rfl) st_n32
 clear hz hd
 intro a' γ' W' hz hd hC hk hh
 replace Cp1 := kC hC Cp1
 replace Cp2 := kC hC Cp2
 have tp3 := Cp3.lt
 replace Cp3 := kC hC Cp3
 replace S2 := kp hk S2
 replace S3 := kp hk S3
 replace S4 := kp hk S4
 obtain ⟨p4, S5, Cp4, lp4, gp4⟩ := gotB hz 4 hC hh rfl rfl rfl rfl rfl rfl
 have n_p4_p3 : p4 ≠ p3 := by omega
 clear lp4 gp4
 clear tp3
 replace HB := aB HB hC
 clear hC hk hh
 refine wp_seq ?_
 refine rt [rT (tN B32 l1 p), rT (tN B32 (max l1 l2) (Nat.gcd p q)), rT (tT [tN B32 l1 (p / (Nat.gcd p q)), tN B32 l1 (p % (Nat.gcd p q))]), rT (tT [tN B32 l1 (p / (Nat.gcd p q)), tN B32 l1 (p % (Nat.gcd p q))]), rT (tN B32 l1 (p / (Nat.gcd p q))), rT (tN B32 l1 (p % (Nat.gcd p q))), rVar 6 30 1, rVar 7 30 1, rB 6 30 (tN B32 l1 (p / (Nat.gcd p q))) (some 6) 7, rB 7 30 (tN B32 l1 (p % (Nat.gcd p q))) (some 7) 8] hz hd ?_ ?_
 refine ⟨?_, ?_, ?_, ?_, ?_, ?_, ?_, ?_, ?_, ?_, trivial⟩
 exact zLd hz (sv S2) Cp1 ld_n32
 exact zLd hz (sv S5) Cp4 ld_n32
 exact zC2 hz Tryz.func82 (sd 0 rfl) (sd 1 rfl) (fun _ _ _ h0 h1 => d_divmod h0 h1 (by rw [big_eq]; omega) (by rw [big_eq]; omega) (Nat.gcd_pos_of_pos_right _ hq))
 exact zMv hz (sd 2 rfl)
 exact zExt hz (sd 3 rfl)
 exact zExt hz (sd 3 rfl)
 exact zAl hz nd_slice al_n32
 exact zAl hz nd_slice al_n32
 exact zSt (sd 4 rfl) st_n32
 exact zSt (sd 5 rfl) st_n32
 clear hz hd
 intro a' γ' W' hz hd hC hk hh
 clear Cp1
 replace Cp2 := kC hC Cp2
 have tp3 := Cp3.lt
 replace Cp3 := kC hC Cp3
 replace Cp4 := kC hC Cp4
 clear S2
 replace S3 := kp hk S3
 replace S4 := kp hk S4
 replace S5 := kp hk S5
 obtain ⟨p5, S6, Cp5, lp5, gp5⟩ := gotB hz 8 hC hh rfl rfl rfl rfl rfl rfl
 have n_p5_p3 : p5 ≠ p3 := by omega
 clear lp5 gp5
 clear tp3
 replace HB := aB HB hC
 clear hC hk hh
 refine wp_seq ?_
 refine rt [rT (tN B32 l2 q), rT (tN B32 (max l1 l2) (Nat.gcd p q)), rT (tT [tN B32 l2 (q / (Nat.gcd p q)), tN B32 l2 (q % (Nat.gcd p q))]), rT (tT [tN B32 l2 (q / (Nat.gcd p q)), tN B32 l2 (q % (Nat.gcd p q))]), rT (tN B32 l2 (q / (Nat.gcd p q))), rT (tN B32 l2 (q % (Nat.gcd p q))), rVar 6 30 1, rVar 7 30 1, rB 6 30 (tN B32 l2 (q / (Nat.gcd p q))) (some 6) 7, rB 7 30 (tN B32 l2 (q % (Nat.gcd p q))) (some 7) 8] hz hd ?_ ?_
 refine ⟨?_, ?_, ?_, ?_, ?_, ?_, ?_, ?_, ?_, ?_, trivial⟩
 exact zLd hz (sv S3) Cp2 ld_n32
 exact zLd hz (sv S5) Cp4 ld_n32
 exact zC2 hz Tryz.func82 (sd 0 rfl) (sd 1 rfl) (fun _ _ _ h0 h1 => d_divmod h0 h1 (by rw [big_eq]; omega) (by rw [big_eq]; omega) (Nat.gcd_pos_of_pos_right _ hq))
 exact zMv hz (sd 2 rfl)
 exact zExt hz (sd 3 rfl)
 exact zExt hz (sd 3 rfl)
 exact zAl hz nd_slice al_n32
 exact zAl hz nd_slice al_n32
 exact zSt (sd 4 rfl) st_n32
 exact zSt (sd 5 rfl) st_n32
 clear hz hd
 intro a' γ' W' hz hd hC hk hh
 clear Cp2
 have tp3 := Cp3.lt
 replace Cp3 := kC hC Cp3
 clear Cp4
 replace Cp5 := kC hC Cp5
 clear S3
 replace S4 := kp hk S4
 clear S5
 replace S6 := kp hk S6
 obtain ⟨p6, S8, Cp6, lp6, gp6⟩ := gotB hz 8 hC hh rfl rfl rfl rfl rfl rfl
 have n_p6_p3 : p6 ≠ p3 := by omega
 clear lp6 gp6
 clear tp3
 replace HB := aB HB hC
 clear hC hk hh
 refine wp_seq ?_
 refine region_text (M := [p3]) [rT (tN B32 l1 (p / (Nat.gcd p q))), rT (tN B32 l2 (q / (Nat.gcd p q))), rT (tR B32 l1 l2 (p / (Nat.gcd p q)) (q / (Nat.gcd p q))), rE 0 32 (tR B32 l1 l2 (p / (Nat.gcd p q)) (q / (Nat.gcd p q))) p3] hz hd (by kernel_rfl) ?_ ?_
 refine ⟨?_, ?_, ?_, ?_, trivial⟩
 exact zLd hz (sv S6) Cp5 ld_n32 (by simp [tagOf, n_p5_p3])
 exact zLd hz (sv S8) Cp6 ld_n32 (by simp [tagOf, n_p6_p3])
 exact zB2 hz (sd 0 rfl) (sd 1 rfl) mk_r32
 exact zSE rfl (sv S4) (by simp [tagOf]) (Cp3.var tR_nd) (sd 2 rfl) st_r32
 clear hz hd
 intro a' γ' W' hz hd hC hk hh
 replace Cp3 := gotE (T := tR B32 l1 l2 (p / (Nat.gcd p q)) (q / (Nat.gcd p q))) (id := 32) (p := p3) 3 hh rfl rfl
 clear Cp5
 clear Cp6
 replace S4 := kp hk S4
 clear S6
 clear S8
 replace HB := aM HB hC
 clear hC hk hh
 refine wp_ret ?_
 exact ret1_r32 (by kernel_rfl) S4 hd Cp3 HB

set_option maxRecDepth 10000 in
set_option maxHeartbeats 2000000 in
theorem d_qzero {w : World}   :
    Calls Tryz.prog 58 #[] w (Ret (tR B32 2 2 0 1) w) := by
 refine enter Tryz.func58 rfl Tryz.ntmps58 (by simp) ?_
 intro a hz hd ha
 clear ha
 have HB : Below w.heap.size w w := Below.refl _ _
 refine wp_seq ?_
 refine rt [rB 0 32 (tR B32 0 0 0 0) none 0] hz hd ?_ ?_
 refine ⟨?_, trivial⟩
 exact zNew hz (fun _ => tR_nil) al_r32
 clear hz hd
 intro a' γ' W' hz hd hC hk hh
 obtain ⟨p1, S0, Cp1, lp1, gp1⟩ := gotB hz 0 hC hh rfl rfl rfl rfl rfl rfl
 have bp1 := Nat.le_trans HB.size lp1
 clear lp1 gp1
 replace HB := aB HB hC
 clear hC hk hh
 refine wp_seq ?_
 refine region_text (M := [p1]) [rT (tN B32 2 0), rT (tN B32 2 1), rT (tR B32 2 2 0 1), rE 0 32 (tR B32 2 2 0 1) p1] hz hd (by kernel_rfl) ?_ ?_
 refine ⟨?_, ?_, ?_, ?_, trivial⟩
 exact zC1 hz Tryz.func16 (kc (v := .int .u64 0)) (k1 (fun _ => d_of (by decide)))
 exact zC1 hz Tryz.func16 (kc (v := .int .u64 1)) (k1 (fun _ => d_of (by decide)))
 exact zB2 hz (sd 0 rfl) (sd 1 rfl) mk_r32
 exact zSE rfl (sv S0) (by simp [tagOf]) (Cp1.var tR_nd) (sd 2 rfl) st_r32
 clear hz hd
 intro a' γ' W' hz hd hC hk hh
 replace Cp1 := gotE (T := tR B32 2 2 0 1) (id := 32) (p := p1) 3 hh rfl rfl
 replace S0 := kp hk S0
 replace HB := aM HB hC
 clear hC hk hh
 refine wp_ret ?_
 exact ret1_r32 (by kernel_rfl) S0 hd Cp1 HB

end Go.Proofs.YtfgnleoaibcegaaGreat.Rg
