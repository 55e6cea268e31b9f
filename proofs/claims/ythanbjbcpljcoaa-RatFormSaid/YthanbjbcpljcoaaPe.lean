/-
  Walks and plain laws, put together: TB TQ TC.
-/
import Derived.Test.YthanbjbcpljcoaaPd
set_option linter.unusedVariables false
set_option linter.unusedSimpArgs false
namespace Go.Proofs.Ythanbjbcpljcoaa.Rg

open Go.RowKit

set_option maxRecDepth 10000 in
set_option maxHeartbeats 2000000 in
theorem c_one {l1 l2 l3 l4 p q p' q' : Nat} {w : World}   :
    Calls Try.prog 60 #[] w (Ret (tN B64 1 1) w) := by
  refine enter Try.func60 rfl Try.ntmps60 (by simp) ?_
  intro a hz hd ha
  clear ha
  have HB : Below w.heap.size w w := Below.refl _ _
  refine wp_seq ?_
  refine region_text (M := []) (
      rB 0 27 (tN B64 0 0) none 0 ::
      []) hz hd (by kernel_rfl) ?_ ?_
  · refine ⟨?_, trivial⟩
    · exact sNew rfl rfl rfl hz rfl rfl rfl (fun _ => tN_nil) al_n64
  intro a' γ' W' hz' hd' hC hk hh
  obtain ⟨p1, S0, Cp1, lp1, gp1⟩ := gotB hz' 0 hC hh rfl rfl rfl rfl rfl rfl
  have bp1 : w.heap.size ≤ p1 := Nat.le_trans HB.size lp1
  clear lp1 gp1
  replace HB := aft_call HB (RelC.below_nil hC)
  clear hC hk hh; replace hz := hz'; replace hd := hd'; clear hz' hd'
  refine wp_seq ?_
  refine region_text (M := [p1]) (
      rT (tN B64 1 1) ::
      rE 0 27 (tN B64 1 1) p1 ::
      []) hz hd (by kernel_rfl) ?_ ?_
  · refine ⟨?_, ?_, trivial⟩
    · exact sCall rfl rfl rfl hz rfl (Gd.none_ rfl) rfl Try.func13 (by kernel_rfl) (by kernel_rfl) fun a γ w U => (by show Calls _ _ #[.int .u64 1] _ _; exact c_of (by decide))
    · exact sStoreE rfl rfl rfl rfl rfl (Src.out (t := 0) (by kernel_rfl) S0 rfl) (by simp [tagOf]) (Cp1.var tN_nd) (Src.dep (j := 0) (t := 1) (by kernel_rfl) (by kernel_rfl) rfl) st_n64
  intro a' γ' W' hz' hd' hC hk hh
  replace Cp1 := gotE (T := tN B64 1 1) (id := 27) (p := p1) 1 hh rfl rfl
  replace S0 := hk 0 _ (by kernel_rfl) S0
  replace HB := RelC.aftM HB hC (by intro m hm; simp at hm; rcases hm with rfl <;> assumption)
  clear hC hk hh; replace hz := hz'; replace hd := hd'; clear hz' hd'
  refine wp_ret ?_
  exact ret1_n64 (by kernel_rfl) S0 hd Cp1 HB

set_option maxRecDepth 10000 in
set_option maxHeartbeats 2000000 in
theorem c_under_z {l1 l2 l3 l4 p q p' q' : Nat} {v0 : Value} {w : World} (h0 : (tR B64 l1 l2 p q).p v0 w) (b1 : l1 ≤ 1000000000) (b2 : l2 ≤ 1000000000) (b3 : l3 ≤ 1000000000) (b4 : l4 ≤ 1000000000) (hq : bl q = 0) :
    Calls Try.prog 54 #[v0] w (Ret (tN B64 1 1) w) := by
  refine enter Try.func54 rfl Try.ntmps54 (by simp) ?_
  intro a hz hd ha
  have S0 := ha 0 _ rfl
  have H0 := h0
  clear ha
  have HB : Below w.heap.size w w := Below.refl _ _
  refine wp_seq ?_
  refine region_text (M := []) (
      rB 0 29 (tR B64 l1 l2 p q) none 0 ::
      rB 1 27 (tN B64 0 0) none 0 ::
      []) hz hd (by kernel_rfl) ?_ ?_
  · refine ⟨?_, ?_, trivial⟩
    · exact sBox rfl rfl rfl hz rfl rfl rfl (Src.out (t := 0) (by kernel_rfl) S0 H0) box_r64
    · exact sNew rfl rfl rfl hz rfl rfl rfl (fun _ => tN_nil) al_n64
  intro a' γ' W' hz' hd' hC hk hh
  clear S0 H0
  obtain ⟨p1, S1, Cp1, lp1, gp1⟩ := gotB hz' 0 hC hh rfl rfl rfl rfl rfl rfl
  obtain ⟨p2, S2, Cp2, lp2, gp2⟩ := gotB hz' 1 hC hh rfl rfl rfl rfl rfl rfl
  have n_p1_p2 : p1 ≠ p2 := by intro e; rw [e, gp2] at gp1; omega
  have bp2 : w.heap.size ≤ p2 := Nat.le_trans HB.size lp2
  clear lp1 gp1 lp2 gp2
  replace HB := aft_call HB (RelC.below_nil hC)
  clear hC hk hh; replace hz := hz'; replace hd := hd'; clear hz' hd'
  refine wp_seq ?_
  refine wp_seq ?_
  refine region_text (M := []) (
      rT (tV (.pointer (some ⟨p1, 1, none⟩))) ::
      rT (tN B64 l2 q) ::
      rT (tV (.int .i64 ((bl q : Nat) : Int))) ::
      rT (tV (.bool true)) ::
      []) hz hd (by kernel_rfl) ?_ ?_
  · refine ⟨?_, ?_, ?_, ?_, trivial⟩
    · exact sFA rfl rfl rfl hz rfl (Gd.none_ rfl) rfl (Src.out (t := 1) (by kernel_rfl) S1 rfl) (fun w => by simp [go_sem])
    · exact sLoadP rfl rfl rfl hz rfl (Gd.none_ rfl) rfl (Src.dep (j := 0) (t := 3) (by kernel_rfl) (by kernel_rfl) rfl) Cp1 rfl ldq_r64
    · exact sCall rfl rfl rfl hz rfl (Gd.none_ rfl) rfl Try.func47 (by kernel_rfl) (by kernel_rfl) fun a γ w U => (by show Calls _ _ #[a.eval (.tmp 4)] _ _; exact c_len (Src.at_ (Src.dep (j := 1) (t := 4) (by kernel_rfl) (by kernel_rfl) rfl) U) (by rw [big_eq]; omega))
    · exact sBin rfl rfl rfl hz rfl (Gd.none_ rfl) rfl (Src.dep (j := 2) (t := 5) (by kernel_rfl) (by kernel_rfl) rfl) (Src.const (.int .i64 0)) (fun w => by simp [go_sem, hq])
  intro a' γ' W' hz' hd' hC hk hh
  replace Cp1 := Cell.aft Cp1 hC rfl
  have tp2 := Cp2.lt
  replace Cp2 := Cell.aft Cp2 hC rfl
  replace S1 := hk 1 _ (by kernel_rfl) S1
  replace S2 := hk 2 _ (by kernel_rfl) S2
  have S6 := gotV hz' 3 hh rfl rfl rfl rfl
  clear tp2
  replace HB := aft_call HB (RelC.below_nil hC)
  clear hC hk hh; replace hz := hz'; replace hd := hd'; clear hz' hd'
  refine wp_cond_true S6.ev ?_
  refine wp_seq ?_
  refine region_text (M := [p2]) (
      rT (tN B64 1 1) ::
      rE 0 27 (tN B64 1 1) p2 ::
      []) hz hd (by kernel_rfl) ?_ ?_
  · refine ⟨?_, ?_, trivial⟩
    · exact sCall rfl rfl rfl hz rfl (Gd.none_ rfl) rfl Try.func60 (by kernel_rfl) (by kernel_rfl) fun a γ w U => (by show Calls _ _ #[] _ _; exact c_one (l1 := 0) (l2 := 0) (l3 := 0) (l4 := 0) (p := 0) (q := 0) (p' := 0) (q' := 0))
    · exact sStoreE rfl rfl rfl rfl rfl (Src.out (t := 2) (by kernel_rfl) S2 rfl) (by simp [tagOf]) (Cp2.var tN_nd) (Src.dep (j := 0) (t := 7) (by kernel_rfl) (by kernel_rfl) rfl) st_n64
  intro a' γ' W' hz' hd' hC hk hh
  replace Cp1 := Cell.aft Cp1 hC (by simp [tagOf, n_p1_p2])
  replace Cp2 := gotE (T := tN B64 1 1) (id := 27) (p := p2) 1 hh rfl rfl
  replace S1 := hk 1 _ (by kernel_rfl) S1
  replace S2 := hk 2 _ (by kernel_rfl) S2
  clear S6
  replace HB := RelC.aftM HB hC (by intro m hm; simp at hm; rcases hm with rfl <;> assumption)
  clear hC hk hh; replace hz := hz'; replace hd := hd'; clear hz' hd'
  refine wp_ret ?_
  exact ret1_n64 (by kernel_rfl) S2 hd Cp2 HB

set_option maxRecDepth 10000 in
set_option maxHeartbeats 2000000 in
theorem c_under_p {l1 l2 l3 l4 p q p' q' : Nat} {v0 : Value} {w : World} (h0 : (tR B64 l1 l2 p q).p v0 w) (b1 : l1 ≤ 1000000000) (b2 : l2 ≤ 1000000000) (b3 : l3 ≤ 1000000000) (b4 : l4 ≤ 1000000000) (hq : bl q ≠ 0) :
    Calls Try.prog 54 #[v0] w (Ret (tN B64 l2 q) w) := by
  refine enter Try.func54 rfl Try.ntmps54 (by simp) ?_
  intro a hz hd ha
  have S0 := ha 0 _ rfl
  have H0 := h0
  clear ha
  have HB : Below w.heap.size w w := Below.refl _ _
  refine wp_seq ?_
  refine region_text (M := []) (
      rB 0 29 (tR B64 l1 l2 p q) none 0 ::
      rB 1 27 (tN B64 0 0) none 0 ::
      []) hz hd (by kernel_rfl) ?_ ?_
  · refine ⟨?_, ?_, trivial⟩
    · exact sBox rfl rfl rfl hz rfl rfl rfl (Src.out (t := 0) (by kernel_rfl) S0 H0) box_r64
    · exact sNew rfl rfl rfl hz rfl rfl rfl (fun _ => tN_nil) al_n64
  intro a' γ' W' hz' hd' hC hk hh
  clear S0 H0
  obtain ⟨p1, S1, Cp1, lp1, gp1⟩ := gotB hz' 0 hC hh rfl rfl rfl rfl rfl rfl
  obtain ⟨p2, S2, Cp2, lp2, gp2⟩ := gotB hz' 1 hC hh rfl rfl rfl rfl rfl rfl
  have n_p1_p2 : p1 ≠ p2 := by intro e; rw [e, gp2] at gp1; omega
  have bp2 : w.heap.size ≤ p2 := Nat.le_trans HB.size lp2
  clear lp1 gp1 lp2 gp2
  replace HB := aft_call HB (RelC.below_nil hC)
  clear hC hk hh; replace hz := hz'; replace hd := hd'; clear hz' hd'
  refine wp_seq ?_
  refine wp_seq ?_
  refine region_text (M := []) (
      rT (tV (.pointer (some ⟨p1, 1, none⟩))) ::
      rT (tN B64 l2 q) ::
      rT (tV (.int .i64 ((bl q : Nat) : Int))) ::
      rT (tV (.bool false)) ::
      []) hz hd (by kernel_rfl) ?_ ?_
  · refine ⟨?_, ?_, ?_, ?_, trivial⟩
    · exact sFA rfl rfl rfl hz rfl (Gd.none_ rfl) rfl (Src.out (t := 1) (by kernel_rfl) S1 rfl) (fun w => by simp [go_sem])
    · exact sLoadP rfl rfl rfl hz rfl (Gd.none_ rfl) rfl (Src.dep (j := 0) (t := 3) (by kernel_rfl) (by kernel_rfl) rfl) Cp1 rfl ldq_r64
    · exact sCall rfl rfl rfl hz rfl (Gd.none_ rfl) rfl Try.func47 (by kernel_rfl) (by kernel_rfl) fun a γ w U => (by show Calls _ _ #[a.eval (.tmp 4)] _ _; exact c_len (Src.at_ (Src.dep (j := 1) (t := 4) (by kernel_rfl) (by kernel_rfl) rfl) U) (by rw [big_eq]; omega))
    · exact sBin rfl rfl rfl hz rfl (Gd.none_ rfl) rfl (Src.dep (j := 2) (t := 5) (by kernel_rfl) (by kernel_rfl) rfl) (Src.const (.int .i64 0)) (fun w => by simp [go_sem, hq])
  intro a' γ' W' hz' hd' hC hk hh
  replace Cp1 := Cell.aft Cp1 hC rfl
  have tp2 := Cp2.lt
  replace Cp2 := Cell.aft Cp2 hC rfl
  replace S1 := hk 1 _ (by kernel_rfl) S1
  replace S2 := hk 2 _ (by kernel_rfl) S2
  have S6 := gotV hz' 3 hh rfl rfl rfl rfl
  clear tp2
  replace HB := aft_call HB (RelC.below_nil hC)
  clear hC hk hh; replace hz := hz'; replace hd := hd'; clear hz' hd'
  refine wp_cond_false S6.ev ?_
  refine wp_skip ?_
  refine wp_seq ?_
  refine region_text (M := [p2]) (
      rT (tV (.pointer (some ⟨p1, 1, none⟩))) ::
      rT (tN B64 l2 q) ::
      rE 0 27 (tN B64 l2 q) p2 ::
      []) hz hd (by kernel_rfl) ?_ ?_
  · refine ⟨?_, ?_, ?_, trivial⟩
    · exact sFA rfl rfl rfl hz rfl (Gd.none_ rfl) rfl (Src.out (t := 1) (by kernel_rfl) S1 rfl) (fun w => by simp [go_sem])
    · exact sLoadP rfl rfl rfl hz rfl (Gd.none_ rfl) rfl (Src.dep (j := 0) (t := 8) (by kernel_rfl) (by kernel_rfl) rfl) Cp1 (by simp [tagOf, n_p1_p2]) ldq_r64
    · exact sStoreE rfl rfl rfl rfl rfl (Src.out (t := 2) (by kernel_rfl) S2 rfl) (by simp [tagOf]) (Cp2.var tN_nd) (Src.dep (j := 1) (t := 9) (by kernel_rfl) (by kernel_rfl) rfl) st_n64
  intro a' γ' W' hz' hd' hC hk hh
  clear Cp1
  replace Cp2 := gotE (T := tN B64 l2 q) (id := 27) (p := p2) 2 hh rfl rfl
  clear S1
  replace S2 := hk 2 _ (by kernel_rfl) S2
  clear S6
  replace HB := RelC.aftM HB hC (by intro m hm; simp at hm; rcases hm with rfl <;> assumption)
  clear hC hk hh; replace hz := hz'; replace hd := hd'; clear hz' hd'
  refine wp_ret ?_
  exact ret1_n64 (by kernel_rfl) S2 hd Cp2 HB

theorem c_under {l1 l2 p q : Nat} {v0 : Value} {w : World} (h0 : (tR B64 l1 l2 p q).p v0 w) (b1 : l1 ≤ 1000000000) (b2 : l2 ≤ 1000000000) : Calls Try.prog 54 #[v0] w (Ret (tN B64 (l2 + 1) (und q)) w) := by
  by_cases hq : q = 0
  · subst hq
    refine (c_under_z (l3 := 0) (l4 := 0) (p' := 0) (q' := 0) h0 b1 b2 (by omega) (by omega) bl_zero).mono ?_
    rintro e w' ⟨v, rfl, hv, hb⟩
    exact ⟨v, rfl, tN_le (by omega) _ _ hv, hb⟩
  · have : bl q ≠ 0 := fun h => hq (by have := bl_lt (x := q); rw [h] at this; simpa using this)
    refine (c_under_p (l3 := 0) (l4 := 0) (p' := 0) (q' := 0) h0 b1 b2 (by omega) (by omega) this).mono ?_
    rintro e w' ⟨v, rfl, hv, hb⟩
    exact ⟨v, rfl, by unfold und; rw [if_neg hq]; exact tN_le (by omega) _ _ hv, hb⟩

set_option maxRecDepth 10000 in
set_option maxHeartbeats 2000000 in
theorem c_over {l1 l2 l3 l4 p q p' q' : Nat} {v0 v1 : Value} {w : World} (h0 : (tN B64 l1 p).p v0 w) (h1 : (tN B64 l2 q).p v1 w) (b1 : l1 ≤ 1000000000) (b2 : l2 ≤ 1000000000) (b3 : l3 ≤ 1000000000) (b4 : l4 ≤ 1000000000) :
    Calls Try.prog 58 #[v0, v1] w (Ret (tN B64 l1 (p / q)) w) := by
  refine enter Try.func58 rfl Try.ntmps58 (by simp) ?_
  intro a hz hd ha
  have S0 := ha 0 _ rfl
  have H0 := h0
  have S1 := ha 1 _ rfl
  have H1 := h1
  clear ha
  have HB : Below w.heap.size w w := Below.refl _ _
  refine wp_seq ?_
  refine region_text (M := []) (
      rB 0 27 (tN B64 l1 p) none 0 ::
      rB 1 27 (tN B64 l2 q) none 0 ::
      rB 2 27 (tN B64 0 0) none 0 ::
      []) hz hd (by kernel_rfl) ?_ ?_
  · refine ⟨?_, ?_, ?_, trivial⟩
    · exact sBox rfl rfl rfl hz rfl rfl rfl (Src.out (t := 0) (by kernel_rfl) S0 H0) box_n64
    · exact sBox rfl rfl rfl hz rfl rfl rfl (Src.out (t := 1) (by kernel_rfl) S1 H1) box_n64
    · exact sNew rfl rfl rfl hz rfl rfl rfl (fun _ => tN_nil) al_n64
  intro a' γ' W' hz' hd' hC hk hh
  clear S0 H0
  clear S1 H1
  obtain ⟨p1, S2, Cp1, lp1, gp1⟩ := gotB hz' 0 hC hh rfl rfl rfl rfl rfl rfl
  obtain ⟨p2, S3, Cp2, lp2, gp2⟩ := gotB hz' 1 hC hh rfl rfl rfl rfl rfl rfl
  obtain ⟨p3, S4, Cp3, lp3, gp3⟩ := gotB hz' 2 hC hh rfl rfl rfl rfl rfl rfl
  have n_p1_p3 : p1 ≠ p3 := by intro e; rw [e, gp3] at gp1; omega
  have n_p2_p3 : p2 ≠ p3 := by intro e; rw [e, gp3] at gp2; omega
  have bp3 : w.heap.size ≤ p3 := Nat.le_trans HB.size lp3
  clear lp1 gp1 lp2 gp2 lp3 gp3
  replace HB := aft_call HB (RelC.below_nil hC)
  clear hC hk hh; replace hz := hz'; replace hd := hd'; clear hz' hd'
  refine wp_seq ?_
  refine region_text (M := []) (
      rT (tN B64 l1 p) ::
      rT (tN B64 l2 q) ::
      rT (tT [tN B64 l1 (p / q), tN B64 l1 (modOf p q), tV (.bool (nz q))]) ::
      rT (tT [tN B64 l1 (p / q), tN B64 l1 (modOf p q), tV (.bool (nz q))]) ::
      rT (tN B64 l1 (p / q)) ::
      rT (tN B64 l1 (modOf p q)) ::
      rT (tV (.bool (nz q))) ::
      rVar 7 27 1 ::
      rVar 8 27 1 ::
      rB 7 27 (tN B64 l1 (p / q)) (some 7) 8 ::
      rB 8 27 (tN B64 l1 (modOf p q)) (some 8) 9 ::
      rT (tV (.bool (nz q))) ::
      []) hz hd (by kernel_rfl) ?_ ?_
  · refine ⟨?_, ?_, ?_, ?_, ?_, ?_, ?_, ?_, ?_, ?_, ?_, ?_, trivial⟩
    · exact sLoad rfl rfl rfl hz rfl (Gd.none_ rfl) rfl (Src.out (t := 2) (by kernel_rfl) S2 rfl) Cp1 rfl ld_n64
    · exact sLoad rfl rfl rfl hz rfl (Gd.none_ rfl) rfl (Src.out (t := 3) (by kernel_rfl) S3 rfl) Cp2 rfl ld_n64
    · exact sCall rfl rfl rfl hz rfl (Gd.none_ rfl) rfl Try.func59 (by kernel_rfl) (by kernel_rfl) fun a γ w U => (by show Calls _ _ #[a.eval (.tmp 9), a.eval (.tmp 10)] _ _; exact c_divmod (Src.at_ (Src.dep (j := 0) (t := 9) (by kernel_rfl) (by kernel_rfl) rfl) U) (Src.at_ (Src.dep (j := 1) (t := 10) (by kernel_rfl) (by kernel_rfl) rfl) U) (by rw [big_eq]; omega) (by rw [big_eq]; omega))
    · exact sMv rfl rfl rfl hz rfl (Gd.none_ rfl) rfl (Src.dep (j := 2) (t := 11) (by kernel_rfl) (by kernel_rfl) rfl)
    · exact sExt rfl rfl rfl hz rfl (Gd.none_ rfl) rfl (Src.dep (j := 3) (t := 8) (by kernel_rfl) (by kernel_rfl) rfl) rfl
    · exact sExt rfl rfl rfl hz rfl (Gd.none_ rfl) rfl (Src.dep (j := 3) (t := 8) (by kernel_rfl) (by kernel_rfl) rfl) rfl
    · exact sExt rfl rfl rfl hz rfl (Gd.none_ rfl) rfl (Src.dep (j := 3) (t := 8) (by kernel_rfl) (by kernel_rfl) rfl) rfl
    · exact sAlloc rfl rfl rfl hz rfl rfl rfl rfl nd_slice al_n64
    · exact sAlloc rfl rfl rfl hz rfl rfl rfl rfl nd_slice al_n64
    · exact sStore rfl rfl rfl rfl rfl (by kernel_rfl) (by kernel_rfl) rfl (Src.dep (j := 4) (t := 12) (by kernel_rfl) (by kernel_rfl) rfl) st_n64
    · exact sStore rfl rfl rfl rfl rfl (by kernel_rfl) (by kernel_rfl) rfl (Src.dep (j := 5) (t := 13) (by kernel_rfl) (by kernel_rfl) rfl) st_n64
    · exact sAs rfl rfl rfl hz rfl (Gd.none_ rfl) rfl (Src.dep (j := 6) (t := 14) (by kernel_rfl) (by kernel_rfl) rfl)
  intro a' γ' W' hz' hd' hC hk hh
  clear Cp1
  clear Cp2
  have tp3 := Cp3.lt
  replace Cp3 := Cell.aft Cp3 hC rfl
  clear S2
  clear S3
  replace S4 := hk 4 _ (by kernel_rfl) S4
  obtain ⟨p4, S5, Cp4, lp4, gp4⟩ := gotB hz' 9 hC hh rfl rfl rfl rfl rfl rfl
  have n_p4_p3 : p4 ≠ p3 := by omega
  clear lp4 gp4
  clear tp3
  replace HB := aft_call HB (RelC.below_nil hC)
  clear hC hk hh; replace hz := hz'; replace hd := hd'; clear hz' hd'
  refine wp_seq ?_
  refine region_text (M := [p3]) (
      rT (tN B64 l1 (p / q)) ::
      rE 0 27 (tN B64 l1 (p / q)) p3 ::
      []) hz hd (by kernel_rfl) ?_ ?_
  · refine ⟨?_, ?_, trivial⟩
    · exact sLoad rfl rfl rfl hz rfl (Gd.none_ rfl) rfl (Src.out (t := 5) (by kernel_rfl) S5 rfl) Cp4 (by simp [tagOf, n_p4_p3]) ld_n64
    · exact sStoreE rfl rfl rfl rfl rfl (Src.out (t := 4) (by kernel_rfl) S4 rfl) (by simp [tagOf]) (Cp3.var tN_nd) (Src.dep (j := 0) (t := 15) (by kernel_rfl) (by kernel_rfl) rfl) st_n64
  intro a' γ' W' hz' hd' hC hk hh
  replace Cp3 := gotE (T := tN B64 l1 (p / q)) (id := 27) (p := p3) 1 hh rfl rfl
  clear Cp4
  replace S4 := hk 4 _ (by kernel_rfl) S4
  clear S5
  replace HB := RelC.aftM HB hC (by intro m hm; simp at hm; rcases hm with rfl <;> assumption)
  clear hC hk hh; replace hz := hz'; replace hd := hd'; clear hz' hd'
  refine wp_ret ?_
  exact ret1_n64 (by kernel_rfl) S4 hd Cp3 HB

set_option maxRecDepth 10000 in
set_option maxHeartbeats 2000000 in
theorem c_lowest {l1 l2 l3 l4 p q p' q' : Nat} {v0 v1 : Value} {w : World} (h0 : (tN B64 l1 p).p v0 w) (h1 : (tN B64 l2 q).p v1 w) (b1 : l1 ≤ 1000000000) (b2 : l2 ≤ 1000000000) (b3 : l3 ≤ 1000000000) (b4 : l4 ≤ 1000000000) :
    Calls Try.prog 48 #[v0, v1] w (Ret (tR B64 l1 l2 (p / (Nat.gcd p q)) (q / (Nat.gcd p q))) w) := by
  refine enter Try.func48 rfl Try.ntmps48 (by simp) ?_
  intro a hz hd ha
  have S0 := ha 0 _ rfl
  have H0 := h0
  have S1 := ha 1 _ rfl
  have H1 := h1
  clear ha
  have HB : Below w.heap.size w w := Below.refl _ _
  refine wp_seq ?_
  refine region_text (M := []) (
      rB 0 27 (tN B64 l1 p) none 0 ::
      rB 1 27 (tN B64 l2 q) none 0 ::
      rB 2 29 (tR B64 0 0 0 0) none 0 ::
      []) hz hd (by kernel_rfl) ?_ ?_
  · refine ⟨?_, ?_, ?_, trivial⟩
    · exact sBox rfl rfl rfl hz rfl rfl rfl (Src.out (t := 0) (by kernel_rfl) S0 H0) box_n64
    · exact sBox rfl rfl rfl hz rfl rfl rfl (Src.out (t := 1) (by kernel_rfl) S1 H1) box_n64
    · exact sNew rfl rfl rfl hz rfl rfl rfl (fun _ => tR_nil) al_r64
  intro a' γ' W' hz' hd' hC hk hh
  clear S0 H0
  clear S1 H1
  obtain ⟨p1, S2, Cp1, lp1, gp1⟩ := gotB hz' 0 hC hh rfl rfl rfl rfl rfl rfl
  obtain ⟨p2, S3, Cp2, lp2, gp2⟩ := gotB hz' 1 hC hh rfl rfl rfl rfl rfl rfl
  obtain ⟨p3, S4, Cp3, lp3, gp3⟩ := gotB hz' 2 hC hh rfl rfl rfl rfl rfl rfl
  have n_p1_p3 : p1 ≠ p3 := by intro e; rw [e, gp3] at gp1; omega
  have n_p2_p3 : p2 ≠ p3 := by intro e; rw [e, gp3] at gp2; omega
  have bp3 : w.heap.size ≤ p3 := Nat.le_trans HB.size lp3
  clear lp1 gp1 lp2 gp2 lp3 gp3
  replace HB := aft_call HB (RelC.below_nil hC)
  clear hC hk hh; replace hz := hz'; replace hd := hd'; clear hz' hd'
  refine wp_seq ?_
  refine region_text (M := []) (
      rT (tN B64 l1 p) ::
      rT (tN B64 l2 q) ::
      rT (tN B64 (max l1 l2) (Nat.gcd p q)) ::
      rVar 3 27 1 ::
      rB 3 27 (tN B64 (max l1 l2) (Nat.gcd p q)) (some 3) 4 ::
      []) hz hd (by kernel_rfl) ?_ ?_
  · refine ⟨?_, ?_, ?_, ?_, ?_, trivial⟩
    · exact sLoad rfl rfl rfl hz rfl (Gd.none_ rfl) rfl (Src.out (t := 2) (by kernel_rfl) S2 rfl) Cp1 rfl ld_n64
    · exact sLoad rfl rfl rfl hz rfl (Gd.none_ rfl) rfl (Src.out (t := 3) (by kernel_rfl) S3 rfl) Cp2 rfl ld_n64
    · exact sCall rfl rfl rfl hz rfl (Gd.none_ rfl) rfl Try.func79 (by kernel_rfl) (by kernel_rfl) fun a γ w U => (by show Calls _ _ #[a.eval (.tmp 6), a.eval (.tmp 7)] _ _; exact c_gcd (Src.at_ (Src.dep (j := 0) (t := 6) (by kernel_rfl) (by kernel_rfl) rfl) U) (Src.at_ (Src.dep (j := 1) (t := 7) (by kernel_rfl) (by kernel_rfl) rfl) U) (by rw [big_eq]; omega) (by rw [big_eq]; omega))
    · exact sAlloc rfl rfl rfl hz rfl rfl rfl rfl nd_slice al_n64
    · exact sStore rfl rfl rfl rfl rfl (by kernel_rfl) (by kernel_rfl) rfl (Src.dep (j := 2) (t := 8) (by kernel_rfl) (by kernel_rfl) rfl) st_n64
  intro a' γ' W' hz' hd' hC hk hh
  replace Cp1 := Cell.aft Cp1 hC rfl
  replace Cp2 := Cell.aft Cp2 hC rfl
  have tp3 := Cp3.lt
  replace Cp3 := Cell.aft Cp3 hC rfl
  replace S2 := hk 2 _ (by kernel_rfl) S2
  replace S3 := hk 3 _ (by kernel_rfl) S3
  replace S4 := hk 4 _ (by kernel_rfl) S4
  obtain ⟨p4, S5, Cp4, lp4, gp4⟩ := gotB hz' 4 hC hh rfl rfl rfl rfl rfl rfl
  have n_p4_p3 : p4 ≠ p3 := by omega
  clear lp4 gp4
  clear tp3
  replace HB := aft_call HB (RelC.below_nil hC)
  clear hC hk hh; replace hz := hz'; replace hd := hd'; clear hz' hd'
  refine wp_seq ?_
  refine region_drawn (M := [p3]) (
      rT (tN B64 l1 p) ::
      rT (tN B64 (max l1 l2) (Nat.gcd p q)) ::
      rT (tN B64 l1 (p / (Nat.gcd p q))) ::
      rT (tN B64 l2 q) ::
      rT (tN B64 (max l1 l2) (Nat.gcd p q)) ::
      rT (tN B64 l2 (q / (Nat.gcd p q))) ::
      rT (tR B64 l1 l2 (p / (Nat.gcd p q)) (q / (Nat.gcd p q))) ::
      rE 0 29 (tR B64 l1 l2 (p / (Nat.gcd p q)) (q / (Nat.gcd p q))) p3 ::
      []) hz hd (by kernel_rfl) (by kernel_rfl) ?_ ?_
  · refine ⟨?_, ?_, ?_, ?_, ?_, ?_, ?_, ?_, trivial⟩
    · exact sLoad rfl rfl rfl hz rfl (Gd.none_ rfl) rfl (Src.out (t := 2) (by kernel_rfl) S2 rfl) Cp1 (by simp [tagOf, n_p1_p3]) ld_n64
    · exact sLoad rfl rfl rfl hz rfl (Gd.none_ rfl) rfl (Src.out (t := 5) (by kernel_rfl) S5 rfl) Cp4 (by simp [tagOf, n_p4_p3]) ld_n64
    · exact sCall rfl rfl rfl hz rfl (Gd.none_ rfl) rfl Try.func58 (by kernel_rfl) (by kernel_rfl) fun a γ w U => (by show Calls _ _ #[a.eval (.tmp 9), a.eval (.tmp 10)] _ _; exact c_over (l3 := 0) (l4 := 0) (p' := 0) (q' := 0) (Src.at_ (Src.dep (j := 0) (t := 9) (by kernel_rfl) (by kernel_rfl) rfl) U) (Src.at_ (Src.dep (j := 1) (t := 10) (by kernel_rfl) (by kernel_rfl) rfl) U) (by omega) (by omega) (by omega) (by omega))
    · exact sLoad rfl rfl rfl hz rfl (Gd.none_ rfl) rfl (Src.out (t := 3) (by kernel_rfl) S3 rfl) Cp2 (by simp [tagOf, n_p2_p3]) ld_n64
    · exact sLoad rfl rfl rfl hz rfl (Gd.none_ rfl) rfl (Src.out (t := 5) (by kernel_rfl) S5 rfl) Cp4 (by simp [tagOf, n_p4_p3]) ld_n64
    · exact sCall rfl rfl rfl hz rfl (Gd.none_ rfl) rfl Try.func58 (by kernel_rfl) (by kernel_rfl) fun a γ w U => (by show Calls _ _ #[a.eval (.tmp 12), a.eval (.tmp 13)] _ _; exact c_over (l3 := 0) (l4 := 0) (p' := 0) (q' := 0) (Src.at_ (Src.dep (j := 3) (t := 12) (by kernel_rfl) (by kernel_rfl) rfl) U) (Src.at_ (Src.dep (j := 4) (t := 13) (by kernel_rfl) (by kernel_rfl) rfl) U) (by omega) (by omega) (by omega) (by omega))
    · exact sBuild2 rfl rfl rfl hz rfl (Gd.none_ rfl) rfl (Src.dep (j := 2) (t := 11) (by kernel_rfl) (by kernel_rfl) rfl) (Src.dep (j := 5) (t := 14) (by kernel_rfl) (by kernel_rfl) rfl) mk_r64
    · exact sStoreE rfl rfl rfl rfl rfl (Src.out (t := 4) (by kernel_rfl) S4 rfl) (by simp [tagOf]) (Cp3.var tR_nd) (Src.dep (j := 6) (t := 15) (by kernel_rfl) (by kernel_rfl) rfl) st_r64
  intro a' γ' W' hz' hd' hC hk hh
  clear Cp1
  clear Cp2
  replace Cp3 := gotE (T := tR B64 l1 l2 (p / (Nat.gcd p q)) (q / (Nat.gcd p q))) (id := 29) (p := p3) 7 hh rfl rfl
  clear Cp4
  clear S2
  clear S3
  replace S4 := hk 4 _ (by kernel_rfl) S4
  clear S5
  replace HB := RelC.aftM HB hC (by intro m hm; simp at hm; rcases hm with rfl <;> assumption)
  clear hC hk hh; replace hz := hz'; replace hd := hd'; clear hz' hd'
  refine wp_ret ?_
  exact ret1_r64 (by kernel_rfl) S4 hd Cp3 HB

set_option maxRecDepth 10000 in
set_option maxHeartbeats 2000000 in
theorem c_cross {l1 l2 l3 l4 p q p' q' : Nat} {v0 v1 : Value} {w : World} (h0 : (tR B64 l1 l2 p q).p v0 w) (h1 : (tR B64 l3 l4 p' q').p v1 w) (b1 : l1 ≤ 1000000000) (b2 : l2 ≤ 1000000000) (b3 : l3 ≤ 1000000000) (b4 : l4 ≤ 1000000000) :
    Calls Try.prog 52 #[v0, v1] w (Ret (tT [tN B64 (l1 + (l4 + 1)) (p * (und q')), tN B64 (l3 + (l2 + 1)) (p' * (und q))]) w) := by
  refine enter Try.func52 rfl Try.ntmps52 (by simp) ?_
  intro a hz hd ha
  have S0 := ha 0 _ rfl
  have H0 := h0
  have S1 := ha 1 _ rfl
  have H1 := h1
  clear ha
  have HB : Below w.heap.size w w := Below.refl _ _
  refine wp_seq ?_
  refine region_text (M := []) (
      rB 0 29 (tR B64 l1 l2 p q) none 0 ::
      rB 1 29 (tR B64 l3 l4 p' q') none 0 ::
      rB 2 27 (tN B64 0 0) none 0 ::
      rB 3 27 (tN B64 0 0) none 0 ::
      []) hz hd (by kernel_rfl) ?_ ?_
  · refine ⟨?_, ?_, ?_, ?_, trivial⟩
    · exact sBox rfl rfl rfl hz rfl rfl rfl (Src.out (t := 0) (by kernel_rfl) S0 H0) box_r64
    · exact sBox rfl rfl rfl hz rfl rfl rfl (Src.out (t := 1) (by kernel_rfl) S1 H1) box_r64
    · exact sNew rfl rfl rfl hz rfl rfl rfl (fun _ => tN_nil) al_n64
    · exact sNew rfl rfl rfl hz rfl rfl rfl (fun _ => tN_nil) al_n64
  intro a' γ' W' hz' hd' hC hk hh
  clear S0 H0
  clear S1 H1
  obtain ⟨p1, S2, Cp1, lp1, gp1⟩ := gotB hz' 0 hC hh rfl rfl rfl rfl rfl rfl
  obtain ⟨p2, S3, Cp2, lp2, gp2⟩ := gotB hz' 1 hC hh rfl rfl rfl rfl rfl rfl
  obtain ⟨p3, S4, Cp3, lp3, gp3⟩ := gotB hz' 2 hC hh rfl rfl rfl rfl rfl rfl
  obtain ⟨p4, S5, Cp4, lp4, gp4⟩ := gotB hz' 3 hC hh rfl rfl rfl rfl rfl rfl
  have n_p1_p3 : p1 ≠ p3 := by intro e; rw [e, gp3] at gp1; omega
  have n_p1_p4 : p1 ≠ p4 := by intro e; rw [e, gp4] at gp1; omega
  have n_p2_p3 : p2 ≠ p3 := by intro e; rw [e, gp3] at gp2; omega
  have n_p2_p4 : p2 ≠ p4 := by intro e; rw [e, gp4] at gp2; omega
  have n_p3_p4 : p3 ≠ p4 := by intro e; rw [e, gp4] at gp3; omega
  have n_p4_p3 : p4 ≠ p3 := by intro e; rw [e, gp3] at gp4; omega
  have bp3 : w.heap.size ≤ p3 := Nat.le_trans HB.size lp3
  have bp4 : w.heap.size ≤ p4 := Nat.le_trans HB.size lp4
  clear lp1 gp1 lp2 gp2 lp3 gp3 lp4 gp4
  replace HB := aft_call HB (RelC.below_nil hC)
  clear hC hk hh; replace hz := hz'; replace hd := hd'; clear hz' hd'
  refine wp_seq ?_
  refine region_drawn (M := [p3, p4]) (
      rT (tV (.pointer (some ⟨p1, 0, none⟩))) ::
      rT (tN B64 l1 p) ::
      rT (tR B64 l3 l4 p' q') ::
      rT (tN B64 (l4 + 1) (und q')) ::
      rT (tN B64 (l1 + (l4 + 1)) (p * (und q'))) ::
      rT (tV (.pointer (some ⟨p2, 0, none⟩))) ::
      rT (tN B64 l3 p') ::
      rT (tR B64 l1 l2 p q) ::
      rT (tN B64 (l2 + 1) (und q)) ::
      rT (tN B64 (l3 + (l2 + 1)) (p' * (und q))) ::
      rE 0 27 (tN B64 (l1 + (l4 + 1)) (p * (und q'))) p3 ::
      rE 1 27 (tN B64 (l3 + (l2 + 1)) (p' * (und q))) p4 ::
      []) hz hd (by kernel_rfl) (by kernel_rfl) ?_ ?_
  · refine ⟨?_, ?_, ?_, ?_, ?_, ?_, ?_, ?_, ?_, ?_, ?_, ?_, trivial⟩
    · exact sFA rfl rfl rfl hz rfl (Gd.none_ rfl) rfl (Src.out (t := 2) (by kernel_rfl) S2 rfl) (fun w => by simp [go_sem])
    · exact sLoadP rfl rfl rfl hz rfl (Gd.none_ rfl) rfl (Src.dep (j := 0) (t := 6) (by kernel_rfl) (by kernel_rfl) rfl) Cp1 (by simp [tagOf, n_p1_p3, n_p1_p4]) ldp_r64
    · exact sLoad rfl rfl rfl hz rfl (Gd.none_ rfl) rfl (Src.out (t := 3) (by kernel_rfl) S3 rfl) Cp2 (by simp [tagOf, n_p2_p3, n_p2_p4]) ld_r64
    · exact sCall rfl rfl rfl hz rfl (Gd.none_ rfl) rfl Try.func54 (by kernel_rfl) (by kernel_rfl) fun a γ w U => (by show Calls _ _ #[a.eval (.tmp 8)] _ _; exact c_under (Src.at_ (Src.dep (j := 2) (t := 8) (by kernel_rfl) (by kernel_rfl) rfl) U) (by omega) (by omega))
    · exact sCall rfl rfl rfl hz rfl (Gd.none_ rfl) rfl Try.func55 (by kernel_rfl) (by kernel_rfl) fun a γ w U => (by show Calls _ _ #[a.eval (.tmp 7), a.eval (.tmp 9)] _ _; exact c_mul (Src.at_ (Src.dep (j := 1) (t := 7) (by kernel_rfl) (by kernel_rfl) rfl) U) (Src.at_ (Src.dep (j := 3) (t := 9) (by kernel_rfl) (by kernel_rfl) rfl) U) (by rw [big_eq]; omega) (by rw [big_eq]; omega))
    · exact sFA rfl rfl rfl hz rfl (Gd.none_ rfl) rfl (Src.out (t := 3) (by kernel_rfl) S3 rfl) (fun w => by simp [go_sem])
    · exact sLoadP rfl rfl rfl hz rfl (Gd.none_ rfl) rfl (Src.dep (j := 5) (t := 11) (by kernel_rfl) (by kernel_rfl) rfl) Cp2 (by simp [tagOf, n_p2_p3, n_p2_p4]) ldp_r64
    · exact sLoad rfl rfl rfl hz rfl (Gd.none_ rfl) rfl (Src.out (t := 2) (by kernel_rfl) S2 rfl) Cp1 (by simp [tagOf, n_p1_p3, n_p1_p4]) ld_r64
    · exact sCall rfl rfl rfl hz rfl (Gd.none_ rfl) rfl Try.func54 (by kernel_rfl) (by kernel_rfl) fun a γ w U => (by show Calls _ _ #[a.eval (.tmp 13)] _ _; exact c_under (Src.at_ (Src.dep (j := 7) (t := 13) (by kernel_rfl) (by kernel_rfl) rfl) U) (by omega) (by omega))
    · exact sCall rfl rfl rfl hz rfl (Gd.none_ rfl) rfl Try.func55 (by kernel_rfl) (by kernel_rfl) fun a γ w U => (by show Calls _ _ #[a.eval (.tmp 12), a.eval (.tmp 14)] _ _; exact c_mul (Src.at_ (Src.dep (j := 6) (t := 12) (by kernel_rfl) (by kernel_rfl) rfl) U) (Src.at_ (Src.dep (j := 8) (t := 14) (by kernel_rfl) (by kernel_rfl) rfl) U) (by rw [big_eq]; omega) (by rw [big_eq]; omega))
    · exact sStoreE rfl rfl rfl rfl rfl (Src.out (t := 4) (by kernel_rfl) S4 rfl) (by simp [tagOf]) (Cp3.var tN_nd) (Src.dep (j := 4) (t := 10) (by kernel_rfl) (by kernel_rfl) rfl) st_n64
    · exact sStoreE rfl rfl rfl rfl rfl (Src.out (t := 5) (by kernel_rfl) S5 rfl) (by simp [tagOf, n_p4_p3]) (Cp4.var tN_nd) (Src.dep (j := 9) (t := 15) (by kernel_rfl) (by kernel_rfl) rfl) st_n64
  intro a' γ' W' hz' hd' hC hk hh
  clear Cp1
  clear Cp2
  replace Cp3 := gotE (T := tN B64 (l1 + (l4 + 1)) (p * (und q'))) (id := 27) (p := p3) 10 hh rfl rfl
  replace Cp4 := gotE (T := tN B64 (l3 + (l2 + 1)) (p' * (und q))) (id := 27) (p := p4) 11 hh rfl rfl
  clear S2
  clear S3
  replace S4 := hk 4 _ (by kernel_rfl) S4
  replace S5 := hk 5 _ (by kernel_rfl) S5
  replace HB := RelC.aftM HB hC (by intro m hm; simp at hm; rcases hm with rfl | rfl <;> assumption)
  clear hC hk hh; replace hz := hz'; replace hd := hd'; clear hz' hd'
  refine wp_ret ?_
  exact ret2_n64 (by kernel_rfl) S4 S5 hd Cp3 Cp4 HB

set_option maxRecDepth 10000 in
set_option maxHeartbeats 2000000 in
theorem c_rcmp {l1 l2 l3 l4 p q p' q' : Nat} {v0 v1 : Value} {w : World} (h0 : (tR B64 l1 l2 p q).p v0 w) (h1 : (tR B64 l3 l4 p' q').p v1 w) (b1 : l1 ≤ 1000000000) (b2 : l2 ≤ 1000000000) (b3 : l3 ≤ 1000000000) (b4 : l4 ≤ 1000000000) :
    Calls Try.prog 38 #[v0, v1] w (Ret (tV (.int .i64 (cmpI (p * (und q')) (p' * (und q))))) w) := by
  refine enter Try.func38 rfl Try.ntmps38 (by simp) ?_
  intro a hz hd ha
  have S0 := ha 0 _ rfl
  have H0 := h0
  have S1 := ha 1 _ rfl
  have H1 := h1
  clear ha
  have HB : Below w.heap.size w w := Below.refl _ _
  refine wp_seq ?_
  refine region_text (M := []) (
      rB 0 29 (tR B64 l1 l2 p q) none 0 ::
      rB 1 29 (tR B64 l3 l4 p' q') none 0 ::
      rT (tV (.int .i64 0)) ::
      []) hz hd (by kernel_rfl) ?_ ?_
  · refine ⟨?_, ?_, ?_, trivial⟩
    · exact sBox rfl rfl rfl hz rfl rfl rfl (Src.out (t := 0) (by kernel_rfl) S0 H0) box_r64
    · exact sBox rfl rfl rfl hz rfl rfl rfl (Src.out (t := 1) (by kernel_rfl) S1 H1) box_r64
    · exact sAs rfl rfl rfl hz rfl (Gd.none_ rfl) rfl (Src.const (.int .i64 0))
  intro a' γ' W' hz' hd' hC hk hh
  clear S0 H0
  clear S1 H1
  obtain ⟨p1, S2, Cp1, lp1, gp1⟩ := gotB hz' 0 hC hh rfl rfl rfl rfl rfl rfl
  obtain ⟨p2, S3, Cp2, lp2, gp2⟩ := gotB hz' 1 hC hh rfl rfl rfl rfl rfl rfl
  have S4 := gotV hz' 2 hh rfl rfl rfl rfl
  clear lp1 gp1 lp2 gp2
  replace HB := aft_call HB (RelC.below_nil hC)
  clear hC hk hh; replace hz := hz'; replace hd := hd'; clear hz' hd'
  refine wp_seq ?_
  refine region_text (M := []) (
      rT (tR B64 l1 l2 p q) ::
      rT (tR B64 l3 l4 p' q') ::
      rT (tT [tN B64 (l1 + (l4 + 1)) (p * (und q')), tN B64 (l3 + (l2 + 1)) (p' * (und q))]) ::
      rT (tT [tN B64 (l1 + (l4 + 1)) (p * (und q')), tN B64 (l3 + (l2 + 1)) (p' * (und q))]) ::
      rT (tN B64 (l1 + (l4 + 1)) (p * (und q'))) ::
      rT (tN B64 (l3 + (l2 + 1)) (p' * (und q))) ::
      rVar 6 27 1 ::
      rVar 7 27 1 ::
      rB 6 27 (tN B64 (l1 + (l4 + 1)) (p * (und q'))) (some 6) 7 ::
      rB 7 27 (tN B64 (l3 + (l2 + 1)) (p' * (und q))) (some 7) 8 ::
      []) hz hd (by kernel_rfl) ?_ ?_
  · refine ⟨?_, ?_, ?_, ?_, ?_, ?_, ?_, ?_, ?_, ?_, trivial⟩
    · exact sLoad rfl rfl rfl hz rfl (Gd.none_ rfl) rfl (Src.out (t := 2) (by kernel_rfl) S2 rfl) Cp1 rfl ld_r64
    · exact sLoad rfl rfl rfl hz rfl (Gd.none_ rfl) rfl (Src.out (t := 3) (by kernel_rfl) S3 rfl) Cp2 rfl ld_r64
    · exact sCall rfl rfl rfl hz rfl (Gd.none_ rfl) rfl Try.func52 (by kernel_rfl) (by kernel_rfl) fun a γ w U => (by show Calls _ _ #[a.eval (.tmp 8), a.eval (.tmp 9)] _ _; exact c_cross (Src.at_ (Src.dep (j := 0) (t := 8) (by kernel_rfl) (by kernel_rfl) rfl) U) (Src.at_ (Src.dep (j := 1) (t := 9) (by kernel_rfl) (by kernel_rfl) rfl) U) (by omega) (by omega) (by omega) (by omega))
    · exact sMv rfl rfl rfl hz rfl (Gd.none_ rfl) rfl (Src.dep (j := 2) (t := 10) (by kernel_rfl) (by kernel_rfl) rfl)
    · exact sExt rfl rfl rfl hz rfl (Gd.none_ rfl) rfl (Src.dep (j := 3) (t := 7) (by kernel_rfl) (by kernel_rfl) rfl) rfl
    · exact sExt rfl rfl rfl hz rfl (Gd.none_ rfl) rfl (Src.dep (j := 3) (t := 7) (by kernel_rfl) (by kernel_rfl) rfl) rfl
    · exact sAlloc rfl rfl rfl hz rfl rfl rfl rfl nd_slice al_n64
    · exact sAlloc rfl rfl rfl hz rfl rfl rfl rfl nd_slice al_n64
    · exact sStore rfl rfl rfl rfl rfl (by kernel_rfl) (by kernel_rfl) rfl (Src.dep (j := 4) (t := 11) (by kernel_rfl) (by kernel_rfl) rfl) st_n64
    · exact sStore rfl rfl rfl rfl rfl (by kernel_rfl) (by kernel_rfl) rfl (Src.dep (j := 5) (t := 12) (by kernel_rfl) (by kernel_rfl) rfl) st_n64
  intro a' γ' W' hz' hd' hC hk hh
  clear Cp1
  clear Cp2
  clear S2
  clear S3
  replace S4 := hk 4 _ (by kernel_rfl) S4
  obtain ⟨p3, S5, Cp3, lp3, gp3⟩ := gotB hz' 8 hC hh rfl rfl rfl rfl rfl rfl
  obtain ⟨p4, S6, Cp4, lp4, gp4⟩ := gotB hz' 9 hC hh rfl rfl rfl rfl rfl rfl
  clear lp3 gp3 lp4 gp4
  replace HB := aft_call HB (RelC.below_nil hC)
  clear hC hk hh; replace hz := hz'; replace hd := hd'; clear hz' hd'
  refine wp_seq ?_
  refine region_text (M := []) (
      rT (tN B64 (l1 + (l4 + 1)) (p * (und q'))) ::
      rT (tN B64 (l3 + (l2 + 1)) (p' * (und q))) ::
      rT (tV (.int .i64 (cmpI (p * (und q')) (p' * (und q))))) ::
      rT (tV (.int .i64 (cmpI (p * (und q')) (p' * (und q))))) ::
      []) hz hd (by kernel_rfl) ?_ ?_
  · refine ⟨?_, ?_, ?_, ?_, trivial⟩
    · exact sLoad rfl rfl rfl hz rfl (Gd.none_ rfl) rfl (Src.out (t := 5) (by kernel_rfl) S5 rfl) Cp3 rfl ld_n64
    · exact sLoad rfl rfl rfl hz rfl (Gd.none_ rfl) rfl (Src.out (t := 6) (by kernel_rfl) S6 rfl) Cp4 rfl ld_n64
    · exact sCall rfl rfl rfl hz rfl (Gd.none_ rfl) rfl Try.func43 (by kernel_rfl) (by kernel_rfl) fun a γ w U => (by show Calls _ _ #[a.eval (.tmp 13), a.eval (.tmp 14)] _ _; exact c_cmp (Src.at_ (Src.dep (j := 0) (t := 13) (by kernel_rfl) (by kernel_rfl) rfl) U) (Src.at_ (Src.dep (j := 1) (t := 14) (by kernel_rfl) (by kernel_rfl) rfl) U) (by rw [big_eq]; omega) (by rw [big_eq]; omega))
    · exact sAs rfl rfl rfl hz rfl (Gd.none_ rfl) rfl (Src.dep (j := 2) (t := 15) (by kernel_rfl) (by kernel_rfl) rfl)
  intro a' γ' W' hz' hd' hC hk hh
  clear Cp3
  clear Cp4
  clear S4
  clear S5
  clear S6
  have S4 := gotV hz' 3 hh rfl rfl rfl rfl
  replace HB := aft_call HB (RelC.below_nil hC)
  clear hC hk hh; replace hz := hz'; replace hd := hd'; clear hz' hd'
  refine wp_ret ?_
  exact ret1 (by kernel_rfl) S4 hd ⟨_, rfl, rfl, HB⟩

set_option maxRecDepth 10000 in
set_option maxHeartbeats 2000000 in
theorem c_radd {l1 l2 l3 l4 p q p' q' : Nat} {v0 v1 : Value} {w : World} (h0 : (tR B64 l1 l2 p q).p v0 w) (h1 : (tR B64 l3 l4 p' q').p v1 w) (b1 : l1 ≤ 100000000) (b2 : l2 ≤ 100000000) (b3 : l3 ≤ 100000000) (b4 : l4 ≤ 100000000) :
    Calls Try.prog 17 #[v0, v1] w (Ret (tR B64 ((max (l1 + (l4 + 1)) (l3 + (l2 + 1))) + 1) ((l2 + 1) + (l4 + 1)) (((p * (und q')) + (p' * (und q))) / Nat.gcd ((p * (und q')) + (p' * (und q))) ((und q) * (und q'))) (((und q) * (und q')) / Nat.gcd ((p * (und q')) + (p' * (und q))) ((und q) * (und q')))) w) := by
  refine enter Try.func17 rfl Try.ntmps17 (by simp) ?_
  intro a hz hd ha
  have S0 := ha 0 _ rfl
  have H0 := h0
  have S1 := ha 1 _ rfl
  have H1 := h1
  clear ha
  have HB : Below w.heap.size w w := Below.refl _ _
  refine wp_seq ?_
  refine region_text (M := []) (
      rB 0 29 (tR B64 l1 l2 p q) none 0 ::
      rB 1 29 (tR B64 l3 l4 p' q') none 0 ::
      rB 2 29 (tR B64 0 0 0 0) none 0 ::
      []) hz hd (by kernel_rfl) ?_ ?_
  · refine ⟨?_, ?_, ?_, trivial⟩
    · exact sBox rfl rfl rfl hz rfl rfl rfl (Src.out (t := 0) (by kernel_rfl) S0 H0) box_r64
    · exact sBox rfl rfl rfl hz rfl rfl rfl (Src.out (t := 1) (by kernel_rfl) S1 H1) box_r64
    · exact sNew rfl rfl rfl hz rfl rfl rfl (fun _ => tR_nil) al_r64
  intro a' γ' W' hz' hd' hC hk hh
  clear S0 H0
  clear S1 H1
  obtain ⟨p1, S2, Cp1, lp1, gp1⟩ := gotB hz' 0 hC hh rfl rfl rfl rfl rfl rfl
  obtain ⟨p2, S3, Cp2, lp2, gp2⟩ := gotB hz' 1 hC hh rfl rfl rfl rfl rfl rfl
  obtain ⟨p3, S4, Cp3, lp3, gp3⟩ := gotB hz' 2 hC hh rfl rfl rfl rfl rfl rfl
  have n_p1_p3 : p1 ≠ p3 := by intro e; rw [e, gp3] at gp1; omega
  have n_p2_p3 : p2 ≠ p3 := by intro e; rw [e, gp3] at gp2; omega
  have bp3 : w.heap.size ≤ p3 := Nat.le_trans HB.size lp3
  clear lp1 gp1 lp2 gp2 lp3 gp3
  replace HB := aft_call HB (RelC.below_nil hC)
  clear hC hk hh; replace hz := hz'; replace hd := hd'; clear hz' hd'
  refine wp_seq ?_
  refine region_text (M := []) (
      rT (tR B64 l1 l2 p q) ::
      rT (tR B64 l3 l4 p' q') ::
      rT (tT [tN B64 (l1 + (l4 + 1)) (p * (und q')), tN B64 (l3 + (l2 + 1)) (p' * (und q))]) ::
      rT (tT [tN B64 (l1 + (l4 + 1)) (p * (und q')), tN B64 (l3 + (l2 + 1)) (p' * (und q))]) ::
      rT (tN B64 (l1 + (l4 + 1)) (p * (und q'))) ::
      rT (tN B64 (l3 + (l2 + 1)) (p' * (und q))) ::
      rVar 6 27 1 ::
      rVar 7 27 1 ::
      rB 6 27 (tN B64 (l1 + (l4 + 1)) (p * (und q'))) (some 6) 7 ::
      rB 7 27 (tN B64 (l3 + (l2 + 1)) (p' * (und q))) (some 7) 8 ::
      []) hz hd (by kernel_rfl) ?_ ?_
  · refine ⟨?_, ?_, ?_, ?_, ?_, ?_, ?_, ?_, ?_, ?_, trivial⟩
    · exact sLoad rfl rfl rfl hz rfl (Gd.none_ rfl) rfl (Src.out (t := 2) (by kernel_rfl) S2 rfl) Cp1 rfl ld_r64
    · exact sLoad rfl rfl rfl hz rfl (Gd.none_ rfl) rfl (Src.out (t := 3) (by kernel_rfl) S3 rfl) Cp2 rfl ld_r64
    · exact sCall rfl rfl rfl hz rfl (Gd.none_ rfl) rfl Try.func52 (by kernel_rfl) (by kernel_rfl) fun a γ w U => (by show Calls _ _ #[a.eval (.tmp 8), a.eval (.tmp 9)] _ _; exact c_cross (Src.at_ (Src.dep (j := 0) (t := 8) (by kernel_rfl) (by kernel_rfl) rfl) U) (Src.at_ (Src.dep (j := 1) (t := 9) (by kernel_rfl) (by kernel_rfl) rfl) U) (by omega) (by omega) (by omega) (by omega))
    · exact sMv rfl rfl rfl hz rfl (Gd.none_ rfl) rfl (Src.dep (j := 2) (t := 10) (by kernel_rfl) (by kernel_rfl) rfl)
    · exact sExt rfl rfl rfl hz rfl (Gd.none_ rfl) rfl (Src.dep (j := 3) (t := 7) (by kernel_rfl) (by kernel_rfl) rfl) rfl
    · exact sExt rfl rfl rfl hz rfl (Gd.none_ rfl) rfl (Src.dep (j := 3) (t := 7) (by kernel_rfl) (by kernel_rfl) rfl) rfl
    · exact sAlloc rfl rfl rfl hz rfl rfl rfl rfl nd_slice al_n64
    · exact sAlloc rfl rfl rfl hz rfl rfl rfl rfl nd_slice al_n64
    · exact sStore rfl rfl rfl rfl rfl (by kernel_rfl) (by kernel_rfl) rfl (Src.dep (j := 4) (t := 11) (by kernel_rfl) (by kernel_rfl) rfl) st_n64
    · exact sStore rfl rfl rfl rfl rfl (by kernel_rfl) (by kernel_rfl) rfl (Src.dep (j := 5) (t := 12) (by kernel_rfl) (by kernel_rfl) rfl) st_n64
  intro a' γ' W' hz' hd' hC hk hh
  replace Cp1 := Cell.aft Cp1 hC rfl
  replace Cp2 := Cell.aft Cp2 hC rfl
  have tp3 := Cp3.lt
  replace Cp3 := Cell.aft Cp3 hC rfl
  replace S2 := hk 2 _ (by kernel_rfl) S2
  replace S3 := hk 3 _ (by kernel_rfl) S3
  replace S4 := hk 4 _ (by kernel_rfl) S4
  obtain ⟨p4, S5, Cp4, lp4, gp4⟩ := gotB hz' 8 hC hh rfl rfl rfl rfl rfl rfl
  obtain ⟨p5, S6, Cp5, lp5, gp5⟩ := gotB hz' 9 hC hh rfl rfl rfl rfl rfl rfl
  have n_p4_p3 : p4 ≠ p3 := by omega
  have n_p5_p3 : p5 ≠ p3 := by omega
  clear lp4 gp4 lp5 gp5
  clear tp3
  replace HB := aft_call HB (RelC.below_nil hC)
  clear hC hk hh; replace hz := hz'; replace hd := hd'; clear hz' hd'
  refine wp_seq ?_
  refine region_drawn (M := [p3]) (
      rT (tN B64 (l1 + (l4 + 1)) (p * (und q'))) ::
      rT (tN B64 (l3 + (l2 + 1)) (p' * (und q))) ::
      rT (tN B64 ((max (l1 + (l4 + 1)) (l3 + (l2 + 1))) + 1) ((p * (und q')) + (p' * (und q)))) ::
      rT (tR B64 l1 l2 p q) ::
      rT (tN B64 (l2 + 1) (und q)) ::
      rT (tR B64 l3 l4 p' q') ::
      rT (tN B64 (l4 + 1) (und q')) ::
      rT (tN B64 ((l2 + 1) + (l4 + 1)) ((und q) * (und q'))) ::
      rT (tR B64 ((max (l1 + (l4 + 1)) (l3 + (l2 + 1))) + 1) ((l2 + 1) + (l4 + 1)) (((p * (und q')) + (p' * (und q))) / Nat.gcd ((p * (und q')) + (p' * (und q))) ((und q) * (und q'))) (((und q) * (und q')) / Nat.gcd ((p * (und q')) + (p' * (und q))) ((und q) * (und q')))) ::
      rE 0 29 (tR B64 ((max (l1 + (l4 + 1)) (l3 + (l2 + 1))) + 1) ((l2 + 1) + (l4 + 1)) (((p * (und q')) + (p' * (und q))) / Nat.gcd ((p * (und q')) + (p' * (und q))) ((und q) * (und q'))) (((und q) * (und q')) / Nat.gcd ((p * (und q')) + (p' * (und q))) ((und q) * (und q')))) p3 ::
      []) hz hd (by kernel_rfl) (by kernel_rfl) ?_ ?_
  · refine ⟨?_, ?_, ?_, ?_, ?_, ?_, ?_, ?_, ?_, ?_, trivial⟩
    · exact sLoad rfl rfl rfl hz rfl (Gd.none_ rfl) rfl (Src.out (t := 5) (by kernel_rfl) S5 rfl) Cp4 (by simp [tagOf, n_p4_p3]) ld_n64
    · exact sLoad rfl rfl rfl hz rfl (Gd.none_ rfl) rfl (Src.out (t := 6) (by kernel_rfl) S6 rfl) Cp5 (by simp [tagOf, n_p5_p3]) ld_n64
    · exact sCall rfl rfl rfl hz rfl (Gd.none_ rfl) rfl Try.func53 (by kernel_rfl) (by kernel_rfl) fun a γ w U => (by show Calls _ _ #[a.eval (.tmp 13), a.eval (.tmp 14)] _ _; exact c_add (Src.at_ (Src.dep (j := 0) (t := 13) (by kernel_rfl) (by kernel_rfl) rfl) U) (Src.at_ (Src.dep (j := 1) (t := 14) (by kernel_rfl) (by kernel_rfl) rfl) U) (by rw [big_eq]; omega) (by rw [big_eq]; omega))
    · exact sLoad rfl rfl rfl hz rfl (Gd.none_ rfl) rfl (Src.out (t := 2) (by kernel_rfl) S2 rfl) Cp1 (by simp [tagOf, n_p1_p3]) ld_r64
    · exact sCall rfl rfl rfl hz rfl (Gd.none_ rfl) rfl Try.func54 (by kernel_rfl) (by kernel_rfl) fun a γ w U => (by show Calls _ _ #[a.eval (.tmp 16)] _ _; exact c_under (Src.at_ (Src.dep (j := 3) (t := 16) (by kernel_rfl) (by kernel_rfl) rfl) U) (by omega) (by omega))
    · exact sLoad rfl rfl rfl hz rfl (Gd.none_ rfl) rfl (Src.out (t := 3) (by kernel_rfl) S3 rfl) Cp2 (by simp [tagOf, n_p2_p3]) ld_r64
    · exact sCall rfl rfl rfl hz rfl (Gd.none_ rfl) rfl Try.func54 (by kernel_rfl) (by kernel_rfl) fun a γ w U => (by show Calls _ _ #[a.eval (.tmp 18)] _ _; exact c_under (Src.at_ (Src.dep (j := 5) (t := 18) (by kernel_rfl) (by kernel_rfl) rfl) U) (by omega) (by omega))
    · exact sCall rfl rfl rfl hz rfl (Gd.none_ rfl) rfl Try.func55 (by kernel_rfl) (by kernel_rfl) fun a γ w U => (by show Calls _ _ #[a.eval (.tmp 17), a.eval (.tmp 19)] _ _; exact c_mul (Src.at_ (Src.dep (j := 4) (t := 17) (by kernel_rfl) (by kernel_rfl) rfl) U) (Src.at_ (Src.dep (j := 6) (t := 19) (by kernel_rfl) (by kernel_rfl) rfl) U) (by rw [big_eq]; omega) (by rw [big_eq]; omega))
    · exact sCall rfl rfl rfl hz rfl (Gd.none_ rfl) rfl Try.func48 (by kernel_rfl) (by kernel_rfl) fun a γ w U => (by show Calls _ _ #[a.eval (.tmp 15), a.eval (.tmp 20)] _ _; exact c_lowest (l3 := 0) (l4 := 0) (p' := 0) (q' := 0) (Src.at_ (Src.dep (j := 2) (t := 15) (by kernel_rfl) (by kernel_rfl) rfl) U) (Src.at_ (Src.dep (j := 7) (t := 20) (by kernel_rfl) (by kernel_rfl) rfl) U) (by omega) (by omega) (by omega) (by omega))
    · exact sStoreE rfl rfl rfl rfl rfl (Src.out (t := 4) (by kernel_rfl) S4 rfl) (by simp [tagOf]) (Cp3.var tR_nd) (Src.dep (j := 8) (t := 21) (by kernel_rfl) (by kernel_rfl) rfl) st_r64
  intro a' γ' W' hz' hd' hC hk hh
  clear Cp1
  clear Cp2
  replace Cp3 := gotE (T := tR B64 ((max (l1 + (l4 + 1)) (l3 + (l2 + 1))) + 1) ((l2 + 1) + (l4 + 1)) (((p * (und q')) + (p' * (und q))) / Nat.gcd ((p * (und q')) + (p' * (und q))) ((und q) * (und q'))) (((und q) * (und q')) / Nat.gcd ((p * (und q')) + (p' * (und q))) ((und q) * (und q')))) (id := 29) (p := p3) 9 hh rfl rfl
  clear Cp4
  clear Cp5
  clear S2
  clear S3
  replace S4 := hk 4 _ (by kernel_rfl) S4
  clear S5
  clear S6
  replace HB := RelC.aftM HB hC (by intro m hm; simp at hm; rcases hm with rfl <;> assumption)
  clear hC hk hh; replace hz := hz'; replace hd := hd'; clear hz' hd'
  refine wp_ret ?_
  exact ret1_r64 (by kernel_rfl) S4 hd Cp3 HB

set_option maxRecDepth 10000 in
set_option maxHeartbeats 2000000 in
theorem c_rmul {l1 l2 l3 l4 p q p' q' : Nat} {v0 v1 : Value} {w : World} (h0 : (tR B64 l1 l2 p q).p v0 w) (h1 : (tR B64 l3 l4 p' q').p v1 w) (b1 : l1 ≤ 100000000) (b2 : l2 ≤ 100000000) (b3 : l3 ≤ 100000000) (b4 : l4 ≤ 100000000) :
    Calls Try.prog 39 #[v0, v1] w (Ret (tR B64 (l1 + l3) ((l2 + 1) + (l4 + 1)) ((p * p') / Nat.gcd (p * p') ((und q) * (und q'))) (((und q) * (und q')) / Nat.gcd (p * p') ((und q) * (und q')))) w) := by
  refine enter Try.func39 rfl Try.ntmps39 (by simp) ?_
  intro a hz hd ha
  have S0 := ha 0 _ rfl
  have H0 := h0
  have S1 := ha 1 _ rfl
  have H1 := h1
  clear ha
  have HB : Below w.heap.size w w := Below.refl _ _
  refine wp_seq ?_
  refine region_text (M := []) (
      rB 0 29 (tR B64 l1 l2 p q) none 0 ::
      rB 1 29 (tR B64 l3 l4 p' q') none 0 ::
      rB 2 29 (tR B64 0 0 0 0) none 0 ::
      []) hz hd (by kernel_rfl) ?_ ?_
  · refine ⟨?_, ?_, ?_, trivial⟩
    · exact sBox rfl rfl rfl hz rfl rfl rfl (Src.out (t := 0) (by kernel_rfl) S0 H0) box_r64
    · exact sBox rfl rfl rfl hz rfl rfl rfl (Src.out (t := 1) (by kernel_rfl) S1 H1) box_r64
    · exact sNew rfl rfl rfl hz rfl rfl rfl (fun _ => tR_nil) al_r64
  intro a' γ' W' hz' hd' hC hk hh
  clear S0 H0
  clear S1 H1
  obtain ⟨p1, S2, Cp1, lp1, gp1⟩ := gotB hz' 0 hC hh rfl rfl rfl rfl rfl rfl
  obtain ⟨p2, S3, Cp2, lp2, gp2⟩ := gotB hz' 1 hC hh rfl rfl rfl rfl rfl rfl
  obtain ⟨p3, S4, Cp3, lp3, gp3⟩ := gotB hz' 2 hC hh rfl rfl rfl rfl rfl rfl
  have n_p1_p3 : p1 ≠ p3 := by intro e; rw [e, gp3] at gp1; omega
  have n_p2_p3 : p2 ≠ p3 := by intro e; rw [e, gp3] at gp2; omega
  have bp3 : w.heap.size ≤ p3 := Nat.le_trans HB.size lp3
  clear lp1 gp1 lp2 gp2 lp3 gp3
  replace HB := aft_call HB (RelC.below_nil hC)
  clear hC hk hh; replace hz := hz'; replace hd := hd'; clear hz' hd'
  refine wp_seq ?_
  refine region_drawn (M := [p3]) (
      rT (tV (.pointer (some ⟨p1, 0, none⟩))) ::
      rT (tN B64 l1 p) ::
      rT (tV (.pointer (some ⟨p2, 0, none⟩))) ::
      rT (tN B64 l3 p') ::
      rT (tN B64 (l1 + l3) (p * p')) ::
      rT (tR B64 l1 l2 p q) ::
      rT (tN B64 (l2 + 1) (und q)) ::
      rT (tR B64 l3 l4 p' q') ::
      rT (tN B64 (l4 + 1) (und q')) ::
      rT (tN B64 ((l2 + 1) + (l4 + 1)) ((und q) * (und q'))) ::
      rT (tR B64 (l1 + l3) ((l2 + 1) + (l4 + 1)) ((p * p') / Nat.gcd (p * p') ((und q) * (und q'))) (((und q) * (und q')) / Nat.gcd (p * p') ((und q) * (und q')))) ::
      rE 0 29 (tR B64 (l1 + l3) ((l2 + 1) + (l4 + 1)) ((p * p') / Nat.gcd (p * p') ((und q) * (und q'))) (((und q) * (und q')) / Nat.gcd (p * p') ((und q) * (und q')))) p3 ::
      []) hz hd (by kernel_rfl) (by kernel_rfl) ?_ ?_
  · refine ⟨?_, ?_, ?_, ?_, ?_, ?_, ?_, ?_, ?_, ?_, ?_, ?_, trivial⟩
    · exact sFA rfl rfl rfl hz rfl (Gd.none_ rfl) rfl (Src.out (t := 2) (by kernel_rfl) S2 rfl) (fun w => by simp [go_sem])
    · exact sLoadP rfl rfl rfl hz rfl (Gd.none_ rfl) rfl (Src.dep (j := 0) (t := 5) (by kernel_rfl) (by kernel_rfl) rfl) Cp1 (by simp [tagOf, n_p1_p3]) ldp_r64
    · exact sFA rfl rfl rfl hz rfl (Gd.none_ rfl) rfl (Src.out (t := 3) (by kernel_rfl) S3 rfl) (fun w => by simp [go_sem])
    · exact sLoadP rfl rfl rfl hz rfl (Gd.none_ rfl) rfl (Src.dep (j := 2) (t := 7) (by kernel_rfl) (by kernel_rfl) rfl) Cp2 (by simp [tagOf, n_p2_p3]) ldp_r64
    · exact sCall rfl rfl rfl hz rfl (Gd.none_ rfl) rfl Try.func55 (by kernel_rfl) (by kernel_rfl) fun a γ w U => (by show Calls _ _ #[a.eval (.tmp 6), a.eval (.tmp 8)] _ _; exact c_mul (Src.at_ (Src.dep (j := 1) (t := 6) (by kernel_rfl) (by kernel_rfl) rfl) U) (Src.at_ (Src.dep (j := 3) (t := 8) (by kernel_rfl) (by kernel_rfl) rfl) U) (by rw [big_eq]; omega) (by rw [big_eq]; omega))
    · exact sLoad rfl rfl rfl hz rfl (Gd.none_ rfl) rfl (Src.out (t := 2) (by kernel_rfl) S2 rfl) Cp1 (by simp [tagOf, n_p1_p3]) ld_r64
    · exact sCall rfl rfl rfl hz rfl (Gd.none_ rfl) rfl Try.func54 (by kernel_rfl) (by kernel_rfl) fun a γ w U => (by show Calls _ _ #[a.eval (.tmp 10)] _ _; exact c_under (Src.at_ (Src.dep (j := 5) (t := 10) (by kernel_rfl) (by kernel_rfl) rfl) U) (by omega) (by omega))
    · exact sLoad rfl rfl rfl hz rfl (Gd.none_ rfl) rfl (Src.out (t := 3) (by kernel_rfl) S3 rfl) Cp2 (by simp [tagOf, n_p2_p3]) ld_r64
    · exact sCall rfl rfl rfl hz rfl (Gd.none_ rfl) rfl Try.func54 (by kernel_rfl) (by kernel_rfl) fun a γ w U => (by show Calls _ _ #[a.eval (.tmp 12)] _ _; exact c_under (Src.at_ (Src.dep (j := 7) (t := 12) (by kernel_rfl) (by kernel_rfl) rfl) U) (by omega) (by omega))
    · exact sCall rfl rfl rfl hz rfl (Gd.none_ rfl) rfl Try.func55 (by kernel_rfl) (by kernel_rfl) fun a γ w U => (by show Calls _ _ #[a.eval (.tmp 11), a.eval (.tmp 13)] _ _; exact c_mul (Src.at_ (Src.dep (j := 6) (t := 11) (by kernel_rfl) (by kernel_rfl) rfl) U) (Src.at_ (Src.dep (j := 8) (t := 13) (by kernel_rfl) (by kernel_rfl) rfl) U) (by rw [big_eq]; omega) (by rw [big_eq]; omega))
    · exact sCall rfl rfl rfl hz rfl (Gd.none_ rfl) rfl Try.func48 (by kernel_rfl) (by kernel_rfl) fun a γ w U => (by show Calls _ _ #[a.eval (.tmp 9), a.eval (.tmp 14)] _ _; exact c_lowest (l3 := 0) (l4 := 0) (p' := 0) (q' := 0) (Src.at_ (Src.dep (j := 4) (t := 9) (by kernel_rfl) (by kernel_rfl) rfl) U) (Src.at_ (Src.dep (j := 9) (t := 14) (by kernel_rfl) (by kernel_rfl) rfl) U) (by omega) (by omega) (by omega) (by omega))
    · exact sStoreE rfl rfl rfl rfl rfl (Src.out (t := 4) (by kernel_rfl) S4 rfl) (by simp [tagOf]) (Cp3.var tR_nd) (Src.dep (j := 10) (t := 15) (by kernel_rfl) (by kernel_rfl) rfl) st_r64
  intro a' γ' W' hz' hd' hC hk hh
  clear Cp1
  clear Cp2
  replace Cp3 := gotE (T := tR B64 (l1 + l3) ((l2 + 1) + (l4 + 1)) ((p * p') / Nat.gcd (p * p') ((und q) * (und q'))) (((und q) * (und q')) / Nat.gcd (p * p') ((und q) * (und q')))) (id := 29) (p := p3) 11 hh rfl rfl
  clear S2
  clear S3
  replace S4 := hk 4 _ (by kernel_rfl) S4
  replace HB := RelC.aftM HB hC (by intro m hm; simp at hm; rcases hm with rfl <;> assumption)
  clear hC hk hh; replace hz := hz'; replace hd := hd'; clear hz' hd'
  refine wp_ret ?_
  exact ret1_r64 (by kernel_rfl) S4 hd Cp3 HB

set_option maxRecDepth 10000 in
set_option maxHeartbeats 2000000 in
theorem c_parts {l1 l2 l3 l4 p q p' q' : Nat} {v0 : Value} {w : World} (h0 : (tR B64 l1 l2 p q).p v0 w) (b1 : l1 ≤ 1000000000) (b2 : l2 ≤ 1000000000) (b3 : l3 ≤ 1000000000) (b4 : l4 ≤ 1000000000) :
    Calls Try.prog 18 #[v0] w (Ret (tT [tN B64 l1 p, tN B64 (l2 + 1) (und q)]) w) := by
  refine enter Try.func18 rfl Try.ntmps18 (by simp) ?_
  intro a hz hd ha
  have S0 := ha 0 _ rfl
  have H0 := h0
  clear ha
  have HB : Below w.heap.size w w := Below.refl _ _
  refine wp_seq ?_
  refine region_text (M := []) (
      rB 0 29 (tR B64 l1 l2 p q) none 0 ::
      rB 1 27 (tN B64 0 0) none 0 ::
      rB 2 27 (tN B64 0 0) none 0 ::
      []) hz hd (by kernel_rfl) ?_ ?_
  · refine ⟨?_, ?_, ?_, trivial⟩
    · exact sBox rfl rfl rfl hz rfl rfl rfl (Src.out (t := 0) (by kernel_rfl) S0 H0) box_r64
    · exact sNew rfl rfl rfl hz rfl rfl rfl (fun _ => tN_nil) al_n64
    · exact sNew rfl rfl rfl hz rfl rfl rfl (fun _ => tN_nil) al_n64
  intro a' γ' W' hz' hd' hC hk hh
  clear S0 H0
  obtain ⟨p1, S1, Cp1, lp1, gp1⟩ := gotB hz' 0 hC hh rfl rfl rfl rfl rfl rfl
  obtain ⟨p2, S2, Cp2, lp2, gp2⟩ := gotB hz' 1 hC hh rfl rfl rfl rfl rfl rfl
  obtain ⟨p3, S3, Cp3, lp3, gp3⟩ := gotB hz' 2 hC hh rfl rfl rfl rfl rfl rfl
  have n_p1_p2 : p1 ≠ p2 := by intro e; rw [e, gp2] at gp1; omega
  have n_p1_p3 : p1 ≠ p3 := by intro e; rw [e, gp3] at gp1; omega
  have n_p2_p3 : p2 ≠ p3 := by intro e; rw [e, gp3] at gp2; omega
  have n_p3_p2 : p3 ≠ p2 := by intro e; rw [e, gp2] at gp3; omega
  have bp2 : w.heap.size ≤ p2 := Nat.le_trans HB.size lp2
  have bp3 : w.heap.size ≤ p3 := Nat.le_trans HB.size lp3
  clear lp1 gp1 lp2 gp2 lp3 gp3
  replace HB := aft_call HB (RelC.below_nil hC)
  clear hC hk hh; replace hz := hz'; replace hd := hd'; clear hz' hd'
  refine wp_seq ?_
  refine region_drawn (M := [p2, p3]) (
      rT (tV (.pointer (some ⟨p1, 0, none⟩))) ::
      rT (tN B64 l1 p) ::
      rT (tR B64 l1 l2 p q) ::
      rT (tN B64 (l2 + 1) (und q)) ::
      rE 0 27 (tN B64 l1 p) p2 ::
      rE 1 27 (tN B64 (l2 + 1) (und q)) p3 ::
      []) hz hd (by kernel_rfl) (by kernel_rfl) ?_ ?_
  · refine ⟨?_, ?_, ?_, ?_, ?_, ?_, trivial⟩
    · exact sFA rfl rfl rfl hz rfl (Gd.none_ rfl) rfl (Src.out (t := 1) (by kernel_rfl) S1 rfl) (fun w => by simp [go_sem])
    · exact sLoadP rfl rfl rfl hz rfl (Gd.none_ rfl) rfl (Src.dep (j := 0) (t := 4) (by kernel_rfl) (by kernel_rfl) rfl) Cp1 (by simp [tagOf, n_p1_p2, n_p1_p3]) ldp_r64
    · exact sLoad rfl rfl rfl hz rfl (Gd.none_ rfl) rfl (Src.out (t := 1) (by kernel_rfl) S1 rfl) Cp1 (by simp [tagOf, n_p1_p2, n_p1_p3]) ld_r64
    · exact sCall rfl rfl rfl hz rfl (Gd.none_ rfl) rfl Try.func54 (by kernel_rfl) (by kernel_rfl) fun a γ w U => (by show Calls _ _ #[a.eval (.tmp 6)] _ _; exact c_under (Src.at_ (Src.dep (j := 2) (t := 6) (by kernel_rfl) (by kernel_rfl) rfl) U) (by omega) (by omega))
    · exact sStoreE rfl rfl rfl rfl rfl (Src.out (t := 2) (by kernel_rfl) S2 rfl) (by simp [tagOf]) (Cp2.var tN_nd) (Src.dep (j := 1) (t := 5) (by kernel_rfl) (by kernel_rfl) rfl) st_n64
    · exact sStoreE rfl rfl rfl rfl rfl (Src.out (t := 3) (by kernel_rfl) S3 rfl) (by simp [tagOf, n_p3_p2]) (Cp3.var tN_nd) (Src.dep (j := 3) (t := 7) (by kernel_rfl) (by kernel_rfl) rfl) st_n64
  intro a' γ' W' hz' hd' hC hk hh
  clear Cp1
  replace Cp2 := gotE (T := tN B64 l1 p) (id := 27) (p := p2) 4 hh rfl rfl
  replace Cp3 := gotE (T := tN B64 (l2 + 1) (und q)) (id := 27) (p := p3) 5 hh rfl rfl
  clear S1
  replace S2 := hk 2 _ (by kernel_rfl) S2
  replace S3 := hk 3 _ (by kernel_rfl) S3
  replace HB := RelC.aftM HB hC (by intro m hm; simp at hm; rcases hm with rfl | rfl <;> assumption)
  clear hC hk hh; replace hz := hz'; replace hd := hd'; clear hz' hd'
  refine wp_ret ?_
  exact ret2_n64 (by kernel_rfl) S2 S3 hd Cp2 Cp3 HB

set_option maxRecDepth 10000 in
set_option maxHeartbeats 2000000 in
theorem c_rsub_l {l1 l2 l3 l4 p q p' q' : Nat} {v0 v1 : Value} {w : World} (h0 : (tR B64 l1 l2 p q).p v0 w) (h1 : (tR B64 l3 l4 p' q').p v1 w) (b1 : l1 ≤ 100000000) (b2 : l2 ≤ 100000000) (b3 : l3 ≤ 100000000) (b4 : l4 ≤ 100000000) (hs : decide (p' * (und q) ≤ p * (und q')) = false) :
    Calls Try.prog 37 #[v0, v1] w (Ret (tT [tR B64 0 0 0 0, tV (.bool false)]) w) := by
  refine enter Try.func37 rfl Try.ntmps37 (by simp) ?_
  intro a hz hd ha
  have S0 := ha 0 _ rfl
  have H0 := h0
  have S1 := ha 1 _ rfl
  have H1 := h1
  clear ha
  have HB : Below w.heap.size w w := Below.refl _ _
  refine wp_seq ?_
  refine region_text (M := []) (
      rB 0 29 (tR B64 l1 l2 p q) none 0 ::
      rB 1 29 (tR B64 l3 l4 p' q') none 0 ::
      rB 2 29 (tR B64 0 0 0 0) none 0 ::
      rT (tV (.bool false)) ::
      []) hz hd (by kernel_rfl) ?_ ?_
  · refine ⟨?_, ?_, ?_, ?_, trivial⟩
    · exact sBox rfl rfl rfl hz rfl rfl rfl (Src.out (t := 0) (by kernel_rfl) S0 H0) box_r64
    · exact sBox rfl rfl rfl hz rfl rfl rfl (Src.out (t := 1) (by kernel_rfl) S1 H1) box_r64
    · exact sNew rfl rfl rfl hz rfl rfl rfl (fun _ => tR_nil) al_r64
    · exact sAs rfl rfl rfl hz rfl (Gd.none_ rfl) rfl (Src.const (.bool false))
  intro a' γ' W' hz' hd' hC hk hh
  clear S0 H0
  clear S1 H1
  obtain ⟨p1, S2, Cp1, lp1, gp1⟩ := gotB hz' 0 hC hh rfl rfl rfl rfl rfl rfl
  obtain ⟨p2, S3, Cp2, lp2, gp2⟩ := gotB hz' 1 hC hh rfl rfl rfl rfl rfl rfl
  obtain ⟨p3, S4, Cp3, lp3, gp3⟩ := gotB hz' 2 hC hh rfl rfl rfl rfl rfl rfl
  have S5 := gotV hz' 3 hh rfl rfl rfl rfl
  have n_p1_p3 : p1 ≠ p3 := by intro e; rw [e, gp3] at gp1; omega
  have n_p2_p3 : p2 ≠ p3 := by intro e; rw [e, gp3] at gp2; omega
  have bp3 : w.heap.size ≤ p3 := Nat.le_trans HB.size lp3
  clear lp1 gp1 lp2 gp2 lp3 gp3
  replace HB := aft_call HB (RelC.below_nil hC)
  clear hC hk hh; replace hz := hz'; replace hd := hd'; clear hz' hd'
  refine wp_seq ?_
  refine region_text (M := []) (
      rT (tR B64 l1 l2 p q) ::
      rT (tR B64 l3 l4 p' q') ::
      rT (tT [tN B64 (l1 + (l4 + 1)) (p * (und q')), tN B64 (l3 + (l2 + 1)) (p' * (und q))]) ::
      rT (tT [tN B64 (l1 + (l4 + 1)) (p * (und q')), tN B64 (l3 + (l2 + 1)) (p' * (und q))]) ::
      rT (tN B64 (l1 + (l4 + 1)) (p * (und q'))) ::
      rT (tN B64 (l3 + (l2 + 1)) (p' * (und q))) ::
      rVar 6 27 1 ::
      rVar 7 27 1 ::
      rB 6 27 (tN B64 (l1 + (l4 + 1)) (p * (und q'))) (some 6) 7 ::
      rB 7 27 (tN B64 (l3 + (l2 + 1)) (p' * (und q))) (some 7) 8 ::
      []) hz hd (by kernel_rfl) ?_ ?_
  · refine ⟨?_, ?_, ?_, ?_, ?_, ?_, ?_, ?_, ?_, ?_, trivial⟩
    · exact sLoad rfl rfl rfl hz rfl (Gd.none_ rfl) rfl (Src.out (t := 2) (by kernel_rfl) S2 rfl) Cp1 rfl ld_r64
    · exact sLoad rfl rfl rfl hz rfl (Gd.none_ rfl) rfl (Src.out (t := 3) (by kernel_rfl) S3 rfl) Cp2 rfl ld_r64
    · exact sCall rfl rfl rfl hz rfl (Gd.none_ rfl) rfl Try.func52 (by kernel_rfl) (by kernel_rfl) fun a γ w U => (by show Calls _ _ #[a.eval (.tmp 11), a.eval (.tmp 12)] _ _; exact c_cross (Src.at_ (Src.dep (j := 0) (t := 11) (by kernel_rfl) (by kernel_rfl) rfl) U) (Src.at_ (Src.dep (j := 1) (t := 12) (by kernel_rfl) (by kernel_rfl) rfl) U) (by omega) (by omega) (by omega) (by omega))
    · exact sMv rfl rfl rfl hz rfl (Gd.none_ rfl) rfl (Src.dep (j := 2) (t := 13) (by kernel_rfl) (by kernel_rfl) rfl)
    · exact sExt rfl rfl rfl hz rfl (Gd.none_ rfl) rfl (Src.dep (j := 3) (t := 10) (by kernel_rfl) (by kernel_rfl) rfl) rfl
    · exact sExt rfl rfl rfl hz rfl (Gd.none_ rfl) rfl (Src.dep (j := 3) (t := 10) (by kernel_rfl) (by kernel_rfl) rfl) rfl
    · exact sAlloc rfl rfl rfl hz rfl rfl rfl rfl nd_slice al_n64
    · exact sAlloc rfl rfl rfl hz rfl rfl rfl rfl nd_slice al_n64
    · exact sStore rfl rfl rfl rfl rfl (by kernel_rfl) (by kernel_rfl) rfl (Src.dep (j := 4) (t := 14) (by kernel_rfl) (by kernel_rfl) rfl) st_n64
    · exact sStore rfl rfl rfl rfl rfl (by kernel_rfl) (by kernel_rfl) rfl (Src.dep (j := 5) (t := 15) (by kernel_rfl) (by kernel_rfl) rfl) st_n64
  intro a' γ' W' hz' hd' hC hk hh
  replace Cp1 := Cell.aft Cp1 hC rfl
  replace Cp2 := Cell.aft Cp2 hC rfl
  have tp3 := Cp3.lt
  replace Cp3 := Cell.aft Cp3 hC rfl
  replace S2 := hk 2 _ (by kernel_rfl) S2
  replace S3 := hk 3 _ (by kernel_rfl) S3
  replace S4 := hk 4 _ (by kernel_rfl) S4
  replace S5 := hk 5 _ (by kernel_rfl) S5
  obtain ⟨p4, S6, Cp4, lp4, gp4⟩ := gotB hz' 8 hC hh rfl rfl rfl rfl rfl rfl
  obtain ⟨p5, S7, Cp5, lp5, gp5⟩ := gotB hz' 9 hC hh rfl rfl rfl rfl rfl rfl
  have n_p4_p3 : p4 ≠ p3 := by omega
  have n_p5_p3 : p5 ≠ p3 := by omega
  clear lp4 gp4 lp5 gp5
  clear tp3
  replace HB := aft_call HB (RelC.below_nil hC)
  clear hC hk hh; replace hz := hz'; replace hd := hd'; clear hz' hd'
  refine wp_seq ?_
  refine region_text (M := []) (
      rT (tN B64 (l1 + (l4 + 1)) (p * (und q'))) ::
      rT (tN B64 (l3 + (l2 + 1)) (p' * (und q))) ::
      rT (tT [tN B64 (l1 + (l4 + 1)) ((p * (und q')) - (p' * (und q))), tV (.bool false)]) ::
      rT (tT [tN B64 (l1 + (l4 + 1)) ((p * (und q')) - (p' * (und q))), tV (.bool false)]) ::
      rT (tN B64 (l1 + (l4 + 1)) ((p * (und q')) - (p' * (und q)))) ::
      rT (tV (.bool false)) ::
      rVar 6 27 1 ::
      rB 6 27 (tN B64 (l1 + (l4 + 1)) ((p * (und q')) - (p' * (und q)))) (some 6) 7 ::
      rT (tV (.bool false)) ::
      []) hz hd (by kernel_rfl) ?_ ?_
  · refine ⟨?_, ?_, ?_, ?_, ?_, ?_, ?_, ?_, ?_, trivial⟩
    · exact sLoad rfl rfl rfl hz rfl (Gd.none_ rfl) rfl (Src.out (t := 6) (by kernel_rfl) S6 rfl) Cp4 rfl ld_n64
    · exact sLoad rfl rfl rfl hz rfl (Gd.none_ rfl) rfl (Src.out (t := 7) (by kernel_rfl) S7 rfl) Cp5 rfl ld_n64
    · exact sCall rfl rfl rfl hz rfl (Gd.none_ rfl) rfl Try.func64 (by kernel_rfl) (by kernel_rfl) fun a γ w U => (by show Calls _ _ #[a.eval (.tmp 17), a.eval (.tmp 18)] _ _; have hq : Calls _ _ #[a.eval (.tmp 17), a.eval (.tmp 18)] w (Ret _ w) := c_sub (Src.at_ (Src.dep (j := 0) (t := 17) (by kernel_rfl) (by kernel_rfl) rfl) U) (Src.at_ (Src.dep (j := 1) (t := 18) (by kernel_rfl) (by kernel_rfl) rfl) U) (by rw [big_eq]; omega) (by rw [big_eq]; omega); simp only [hs] at hq; exact hq)
    · exact sMv rfl rfl rfl hz rfl (Gd.none_ rfl) rfl (Src.dep (j := 2) (t := 19) (by kernel_rfl) (by kernel_rfl) rfl)
    · exact sExt rfl rfl rfl hz rfl (Gd.none_ rfl) rfl (Src.dep (j := 3) (t := 16) (by kernel_rfl) (by kernel_rfl) rfl) rfl
    · exact sExt rfl rfl rfl hz rfl (Gd.none_ rfl) rfl (Src.dep (j := 3) (t := 16) (by kernel_rfl) (by kernel_rfl) rfl) rfl
    · exact sAlloc rfl rfl rfl hz rfl rfl rfl rfl nd_slice al_n64
    · exact sStore rfl rfl rfl rfl rfl (by kernel_rfl) (by kernel_rfl) rfl (Src.dep (j := 4) (t := 20) (by kernel_rfl) (by kernel_rfl) rfl) st_n64
    · exact sAs rfl rfl rfl hz rfl (Gd.none_ rfl) rfl (Src.dep (j := 5) (t := 21) (by kernel_rfl) (by kernel_rfl) rfl)
  intro a' γ' W' hz' hd' hC hk hh
  replace Cp1 := Cell.aft Cp1 hC rfl
  replace Cp2 := Cell.aft Cp2 hC rfl
  have tp3 := Cp3.lt
  replace Cp3 := Cell.aft Cp3 hC rfl
  clear Cp4
  clear Cp5
  replace S2 := hk 2 _ (by kernel_rfl) S2
  replace S3 := hk 3 _ (by kernel_rfl) S3
  replace S4 := hk 4 _ (by kernel_rfl) S4
  replace S5 := hk 5 _ (by kernel_rfl) S5
  clear S6
  clear S7
  obtain ⟨p6, S8, Cp6, lp6, gp6⟩ := gotB hz' 7 hC hh rfl rfl rfl rfl rfl rfl
  have S9 := gotV hz' 8 hh rfl rfl rfl rfl
  have n_p6_p3 : p6 ≠ p3 := by omega
  clear lp6 gp6
  clear tp3
  replace HB := aft_call HB (RelC.below_nil hC)
  clear hC hk hh; replace hz := hz'; replace hd := hd'; clear hz' hd'
  refine wp_seq ?_
  refine wp_seq ?_
  refine region_text (M := []) (
      rT (tV (.bool false)) ::
      rT (tV (.bool true)) ::
      []) hz hd (by kernel_rfl) ?_ ?_
  · refine ⟨?_, ?_, trivial⟩
    · exact sMv rfl rfl rfl hz rfl (Gd.none_ rfl) rfl (Src.out (t := 9) (by kernel_rfl) S9 rfl)
    · exact sNot (b := false) rfl rfl rfl hz rfl (Gd.none_ rfl) rfl (Src.dep (j := 0) (t := 22) (by kernel_rfl) (by kernel_rfl) rfl)
  intro a' γ' W' hz' hd' hC hk hh
  replace Cp1 := Cell.aft Cp1 hC rfl
  replace Cp2 := Cell.aft Cp2 hC rfl
  have tp3 := Cp3.lt
  replace Cp3 := Cell.aft Cp3 hC rfl
  replace Cp6 := Cell.aft Cp6 hC rfl
  replace S2 := hk 2 _ (by kernel_rfl) S2
  replace S3 := hk 3 _ (by kernel_rfl) S3
  replace S4 := hk 4 _ (by kernel_rfl) S4
  replace S5 := hk 5 _ (by kernel_rfl) S5
  replace S8 := hk 8 _ (by kernel_rfl) S8
  clear S9
  have S23 := gotV hz' 1 hh rfl rfl rfl rfl
  clear tp3
  replace HB := aft_call HB (RelC.below_nil hC)
  clear hC hk hh; replace hz := hz'; replace hd := hd'; clear hz' hd'
  refine wp_cond_true S23.ev ?_
  refine wp_seq ?_
  refine region_text (M := [p3]) (
      rT (tR B64 0 0 0 0) ::
      rE 0 29 (tR B64 0 0 0 0) p3 ::
      rT (tV (.bool false)) ::
      []) hz hd (by kernel_rfl) ?_ ?_
  · refine ⟨?_, ?_, ?_, trivial⟩
    · exact sBuild0 rfl rfl rfl hz rfl (Gd.none_ rfl) rfl bd_r64 (fun _ => tR_nil)
    · exact sStoreE rfl rfl rfl rfl rfl (Src.out (t := 4) (by kernel_rfl) S4 rfl) (by simp [tagOf]) (Cp3.var tR_nd) (Src.dep (j := 0) (t := 24) (by kernel_rfl) (by kernel_rfl) rfl) st_r64
    · exact sAs rfl rfl rfl hz rfl (Gd.none_ rfl) rfl (Src.const (.bool false))
  intro a' γ' W' hz' hd' hC hk hh
  replace Cp1 := Cell.aft Cp1 hC (by simp [tagOf, n_p1_p3])
  replace Cp2 := Cell.aft Cp2 hC (by simp [tagOf, n_p2_p3])
  replace Cp3 := gotE (T := tR B64 0 0 0 0) (id := 29) (p := p3) 1 hh rfl rfl
  replace Cp6 := Cell.aft Cp6 hC (by simp [tagOf, n_p6_p3])
  replace S2 := hk 2 _ (by kernel_rfl) S2
  replace S3 := hk 3 _ (by kernel_rfl) S3
  replace S4 := hk 4 _ (by kernel_rfl) S4
  clear S5
  replace S8 := hk 8 _ (by kernel_rfl) S8
  clear S23
  have S5 := gotV hz' 2 hh rfl rfl rfl rfl
  replace HB := RelC.aftM HB hC (by intro m hm; simp at hm; rcases hm with rfl <;> assumption)
  clear hC hk hh; replace hz := hz'; replace hd := hd'; clear hz' hd'
  refine wp_ret ?_
  exact retct_r64 (by kernel_rfl) S4 S5 hd Cp3 HB

set_option maxRecDepth 10000 in
set_option maxHeartbeats 2000000 in
theorem c_rsub_g {l1 l2 l3 l4 p q p' q' : Nat} {v0 v1 : Value} {w : World} (h0 : (tR B64 l1 l2 p q).p v0 w) (h1 : (tR B64 l3 l4 p' q').p v1 w) (b1 : l1 ≤ 100000000) (b2 : l2 ≤ 100000000) (b3 : l3 ≤ 100000000) (b4 : l4 ≤ 100000000) (hs : decide (p' * (und q) ≤ p * (und q')) = true) :
    Calls Try.prog 37 #[v0, v1] w (Ret (tT [tR B64 (l1 + (l4 + 1)) ((l2 + 1) + (l4 + 1)) (((p * (und q')) - (p' * (und q))) / Nat.gcd ((p * (und q')) - (p' * (und q))) ((und q) * (und q'))) (((und q) * (und q')) / Nat.gcd ((p * (und q')) - (p' * (und q))) ((und q) * (und q'))), tV (.bool true)]) w) := by
  refine enter Try.func37 rfl Try.ntmps37 (by simp) ?_
  intro a hz hd ha
  have S0 := ha 0 _ rfl
  have H0 := h0
  have S1 := ha 1 _ rfl
  have H1 := h1
  clear ha
  have HB : Below w.heap.size w w := Below.refl _ _
  refine wp_seq ?_
  refine region_text (M := []) (
      rB 0 29 (tR B64 l1 l2 p q) none 0 ::
      rB 1 29 (tR B64 l3 l4 p' q') none 0 ::
      rB 2 29 (tR B64 0 0 0 0) none 0 ::
      rT (tV (.bool false)) ::
      []) hz hd (by kernel_rfl) ?_ ?_
  · refine ⟨?_, ?_, ?_, ?_, trivial⟩
    · exact sBox rfl rfl rfl hz rfl rfl rfl (Src.out (t := 0) (by kernel_rfl) S0 H0) box_r64
    · exact sBox rfl rfl rfl hz rfl rfl rfl (Src.out (t := 1) (by kernel_rfl) S1 H1) box_r64
    · exact sNew rfl rfl rfl hz rfl rfl rfl (fun _ => tR_nil) al_r64
    · exact sAs rfl rfl rfl hz rfl (Gd.none_ rfl) rfl (Src.const (.bool false))
  intro a' γ' W' hz' hd' hC hk hh
  clear S0 H0
  clear S1 H1
  obtain ⟨p1, S2, Cp1, lp1, gp1⟩ := gotB hz' 0 hC hh rfl rfl rfl rfl rfl rfl
  obtain ⟨p2, S3, Cp2, lp2, gp2⟩ := gotB hz' 1 hC hh rfl rfl rfl rfl rfl rfl
  obtain ⟨p3, S4, Cp3, lp3, gp3⟩ := gotB hz' 2 hC hh rfl rfl rfl rfl rfl rfl
  have S5 := gotV hz' 3 hh rfl rfl rfl rfl
  have n_p1_p3 : p1 ≠ p3 := by intro e; rw [e, gp3] at gp1; omega
  have n_p2_p3 : p2 ≠ p3 := by intro e; rw [e, gp3] at gp2; omega
  have bp3 : w.heap.size ≤ p3 := Nat.le_trans HB.size lp3
  clear lp1 gp1 lp2 gp2 lp3 gp3
  replace HB := aft_call HB (RelC.below_nil hC)
  clear hC hk hh; replace hz := hz'; replace hd := hd'; clear hz' hd'
  refine wp_seq ?_
  refine region_text (M := []) (
      rT (tR B64 l1 l2 p q) ::
      rT (tR B64 l3 l4 p' q') ::
      rT (tT [tN B64 (l1 + (l4 + 1)) (p * (und q')), tN B64 (l3 + (l2 + 1)) (p' * (und q))]) ::
      rT (tT [tN B64 (l1 + (l4 + 1)) (p * (und q')), tN B64 (l3 + (l2 + 1)) (p' * (und q))]) ::
      rT (tN B64 (l1 + (l4 + 1)) (p * (und q'))) ::
      rT (tN B64 (l3 + (l2 + 1)) (p' * (und q))) ::
      rVar 6 27 1 ::
      rVar 7 27 1 ::
      rB 6 27 (tN B64 (l1 + (l4 + 1)) (p * (und q'))) (some 6) 7 ::
      rB 7 27 (tN B64 (l3 + (l2 + 1)) (p' * (und q))) (some 7) 8 ::
      []) hz hd (by kernel_rfl) ?_ ?_
  · refine ⟨?_, ?_, ?_, ?_, ?_, ?_, ?_, ?_, ?_, ?_, trivial⟩
    · exact sLoad rfl rfl rfl hz rfl (Gd.none_ rfl) rfl (Src.out (t := 2) (by kernel_rfl) S2 rfl) Cp1 rfl ld_r64
    · exact sLoad rfl rfl rfl hz rfl (Gd.none_ rfl) rfl (Src.out (t := 3) (by kernel_rfl) S3 rfl) Cp2 rfl ld_r64
    · exact sCall rfl rfl rfl hz rfl (Gd.none_ rfl) rfl Try.func52 (by kernel_rfl) (by kernel_rfl) fun a γ w U => (by show Calls _ _ #[a.eval (.tmp 11), a.eval (.tmp 12)] _ _; exact c_cross (Src.at_ (Src.dep (j := 0) (t := 11) (by kernel_rfl) (by kernel_rfl) rfl) U) (Src.at_ (Src.dep (j := 1) (t := 12) (by kernel_rfl) (by kernel_rfl) rfl) U) (by omega) (by omega) (by omega) (by omega))
    · exact sMv rfl rfl rfl hz rfl (Gd.none_ rfl) rfl (Src.dep (j := 2) (t := 13) (by kernel_rfl) (by kernel_rfl) rfl)
    · exact sExt rfl rfl rfl hz rfl (Gd.none_ rfl) rfl (Src.dep (j := 3) (t := 10) (by kernel_rfl) (by kernel_rfl) rfl) rfl
    · exact sExt rfl rfl rfl hz rfl (Gd.none_ rfl) rfl (Src.dep (j := 3) (t := 10) (by kernel_rfl) (by kernel_rfl) rfl) rfl
    · exact sAlloc rfl rfl rfl hz rfl rfl rfl rfl nd_slice al_n64
    · exact sAlloc rfl rfl rfl hz rfl rfl rfl rfl nd_slice al_n64
    · exact sStore rfl rfl rfl rfl rfl (by kernel_rfl) (by kernel_rfl) rfl (Src.dep (j := 4) (t := 14) (by kernel_rfl) (by kernel_rfl) rfl) st_n64
    · exact sStore rfl rfl rfl rfl rfl (by kernel_rfl) (by kernel_rfl) rfl (Src.dep (j := 5) (t := 15) (by kernel_rfl) (by kernel_rfl) rfl) st_n64
  intro a' γ' W' hz' hd' hC hk hh
  replace Cp1 := Cell.aft Cp1 hC rfl
  replace Cp2 := Cell.aft Cp2 hC rfl
  have tp3 := Cp3.lt
  replace Cp3 := Cell.aft Cp3 hC rfl
  replace S2 := hk 2 _ (by kernel_rfl) S2
  replace S3 := hk 3 _ (by kernel_rfl) S3
  replace S4 := hk 4 _ (by kernel_rfl) S4
  replace S5 := hk 5 _ (by kernel_rfl) S5
  obtain ⟨p4, S6, Cp4, lp4, gp4⟩ := gotB hz' 8 hC hh rfl rfl rfl rfl rfl rfl
  obtain ⟨p5, S7, Cp5, lp5, gp5⟩ := gotB hz' 9 hC hh rfl rfl rfl rfl rfl rfl
  have n_p4_p3 : p4 ≠ p3 := by omega
  have n_p5_p3 : p5 ≠ p3 := by omega
  clear lp4 gp4 lp5 gp5
  clear tp3
  replace HB := aft_call HB (RelC.below_nil hC)
  clear hC hk hh; replace hz := hz'; replace hd := hd'; clear hz' hd'
  refine wp_seq ?_
  refine region_text (M := []) (
      rT (tN B64 (l1 + (l4 + 1)) (p * (und q'))) ::
      rT (tN B64 (l3 + (l2 + 1)) (p' * (und q))) ::
      rT (tT [tN B64 (l1 + (l4 + 1)) ((p * (und q')) - (p' * (und q))), tV (.bool true)]) ::
      rT (tT [tN B64 (l1 + (l4 + 1)) ((p * (und q')) - (p' * (und q))), tV (.bool true)]) ::
      rT (tN B64 (l1 + (l4 + 1)) ((p * (und q')) - (p' * (und q)))) ::
      rT (tV (.bool true)) ::
      rVar 6 27 1 ::
      rB 6 27 (tN B64 (l1 + (l4 + 1)) ((p * (und q')) - (p' * (und q)))) (some 6) 7 ::
      rT (tV (.bool true)) ::
      []) hz hd (by kernel_rfl) ?_ ?_
  · refine ⟨?_, ?_, ?_, ?_, ?_, ?_, ?_, ?_, ?_, trivial⟩
    · exact sLoad rfl rfl rfl hz rfl (Gd.none_ rfl) rfl (Src.out (t := 6) (by kernel_rfl) S6 rfl) Cp4 rfl ld_n64
    · exact sLoad rfl rfl rfl hz rfl (Gd.none_ rfl) rfl (Src.out (t := 7) (by kernel_rfl) S7 rfl) Cp5 rfl ld_n64
    · exact sCall rfl rfl rfl hz rfl (Gd.none_ rfl) rfl Try.func64 (by kernel_rfl) (by kernel_rfl) fun a γ w U => (by show Calls _ _ #[a.eval (.tmp 17), a.eval (.tmp 18)] _ _; have hq : Calls _ _ #[a.eval (.tmp 17), a.eval (.tmp 18)] w (Ret _ w) := c_sub (Src.at_ (Src.dep (j := 0) (t := 17) (by kernel_rfl) (by kernel_rfl) rfl) U) (Src.at_ (Src.dep (j := 1) (t := 18) (by kernel_rfl) (by kernel_rfl) rfl) U) (by rw [big_eq]; omega) (by rw [big_eq]; omega); simp only [hs] at hq; exact hq)
    · exact sMv rfl rfl rfl hz rfl (Gd.none_ rfl) rfl (Src.dep (j := 2) (t := 19) (by kernel_rfl) (by kernel_rfl) rfl)
    · exact sExt rfl rfl rfl hz rfl (Gd.none_ rfl) rfl (Src.dep (j := 3) (t := 16) (by kernel_rfl) (by kernel_rfl) rfl) rfl
    · exact sExt rfl rfl rfl hz rfl (Gd.none_ rfl) rfl (Src.dep (j := 3) (t := 16) (by kernel_rfl) (by kernel_rfl) rfl) rfl
    · exact sAlloc rfl rfl rfl hz rfl rfl rfl rfl nd_slice al_n64
    · exact sStore rfl rfl rfl rfl rfl (by kernel_rfl) (by kernel_rfl) rfl (Src.dep (j := 4) (t := 20) (by kernel_rfl) (by kernel_rfl) rfl) st_n64
    · exact sAs rfl rfl rfl hz rfl (Gd.none_ rfl) rfl (Src.dep (j := 5) (t := 21) (by kernel_rfl) (by kernel_rfl) rfl)
  intro a' γ' W' hz' hd' hC hk hh
  replace Cp1 := Cell.aft Cp1 hC rfl
  replace Cp2 := Cell.aft Cp2 hC rfl
  have tp3 := Cp3.lt
  replace Cp3 := Cell.aft Cp3 hC rfl
  clear Cp4
  clear Cp5
  replace S2 := hk 2 _ (by kernel_rfl) S2
  replace S3 := hk 3 _ (by kernel_rfl) S3
  replace S4 := hk 4 _ (by kernel_rfl) S4
  replace S5 := hk 5 _ (by kernel_rfl) S5
  clear S6
  clear S7
  obtain ⟨p6, S8, Cp6, lp6, gp6⟩ := gotB hz' 7 hC hh rfl rfl rfl rfl rfl rfl
  have S9 := gotV hz' 8 hh rfl rfl rfl rfl
  have n_p6_p3 : p6 ≠ p3 := by omega
  clear lp6 gp6
  clear tp3
  replace HB := aft_call HB (RelC.below_nil hC)
  clear hC hk hh; replace hz := hz'; replace hd := hd'; clear hz' hd'
  refine wp_seq ?_
  refine wp_seq ?_
  refine region_text (M := []) (
      rT (tV (.bool true)) ::
      rT (tV (.bool false)) ::
      []) hz hd (by kernel_rfl) ?_ ?_
  · refine ⟨?_, ?_, trivial⟩
    · exact sMv rfl rfl rfl hz rfl (Gd.none_ rfl) rfl (Src.out (t := 9) (by kernel_rfl) S9 rfl)
    · exact sNot (b := true) rfl rfl rfl hz rfl (Gd.none_ rfl) rfl (Src.dep (j := 0) (t := 22) (by kernel_rfl) (by kernel_rfl) rfl)
  intro a' γ' W' hz' hd' hC hk hh
  replace Cp1 := Cell.aft Cp1 hC rfl
  replace Cp2 := Cell.aft Cp2 hC rfl
  have tp3 := Cp3.lt
  replace Cp3 := Cell.aft Cp3 hC rfl
  replace Cp6 := Cell.aft Cp6 hC rfl
  replace S2 := hk 2 _ (by kernel_rfl) S2
  replace S3 := hk 3 _ (by kernel_rfl) S3
  replace S4 := hk 4 _ (by kernel_rfl) S4
  replace S5 := hk 5 _ (by kernel_rfl) S5
  replace S8 := hk 8 _ (by kernel_rfl) S8
  clear S9
  have S23 := gotV hz' 1 hh rfl rfl rfl rfl
  clear tp3
  replace HB := aft_call HB (RelC.below_nil hC)
  clear hC hk hh; replace hz := hz'; replace hd := hd'; clear hz' hd'
  refine wp_cond_false S23.ev ?_
  refine wp_skip ?_
  refine wp_seq ?_
  refine region_drawn (M := [p3]) (
      rT (tN B64 (l1 + (l4 + 1)) ((p * (und q')) - (p' * (und q)))) ::
      rT (tR B64 l1 l2 p q) ::
      rT (tN B64 (l2 + 1) (und q)) ::
      rT (tR B64 l3 l4 p' q') ::
      rT (tN B64 (l4 + 1) (und q')) ::
      rT (tN B64 ((l2 + 1) + (l4 + 1)) ((und q) * (und q'))) ::
      rT (tR B64 (l1 + (l4 + 1)) ((l2 + 1) + (l4 + 1)) (((p * (und q')) - (p' * (und q))) / Nat.gcd ((p * (und q')) - (p' * (und q))) ((und q) * (und q'))) (((und q) * (und q')) / Nat.gcd ((p * (und q')) - (p' * (und q))) ((und q) * (und q')))) ::
      rE 0 29 (tR B64 (l1 + (l4 + 1)) ((l2 + 1) + (l4 + 1)) (((p * (und q')) - (p' * (und q))) / Nat.gcd ((p * (und q')) - (p' * (und q))) ((und q) * (und q'))) (((und q) * (und q')) / Nat.gcd ((p * (und q')) - (p' * (und q))) ((und q) * (und q')))) p3 ::
      rT (tV (.bool true)) ::
      []) hz hd (by kernel_rfl) (by kernel_rfl) ?_ ?_
  · refine ⟨?_, ?_, ?_, ?_, ?_, ?_, ?_, ?_, ?_, trivial⟩
    · exact sLoad rfl rfl rfl hz rfl (Gd.none_ rfl) rfl (Src.out (t := 8) (by kernel_rfl) S8 rfl) Cp6 (by simp [tagOf, n_p6_p3]) ld_n64
    · exact sLoad rfl rfl rfl hz rfl (Gd.none_ rfl) rfl (Src.out (t := 2) (by kernel_rfl) S2 rfl) Cp1 (by simp [tagOf, n_p1_p3]) ld_r64
    · exact sCall rfl rfl rfl hz rfl (Gd.none_ rfl) rfl Try.func54 (by kernel_rfl) (by kernel_rfl) fun a γ w U => (by show Calls _ _ #[a.eval (.tmp 26)] _ _; exact c_under (Src.at_ (Src.dep (j := 1) (t := 26) (by kernel_rfl) (by kernel_rfl) rfl) U) (by omega) (by omega))
    · exact sLoad rfl rfl rfl hz rfl (Gd.none_ rfl) rfl (Src.out (t := 3) (by kernel_rfl) S3 rfl) Cp2 (by simp [tagOf, n_p2_p3]) ld_r64
    · exact sCall rfl rfl rfl hz rfl (Gd.none_ rfl) rfl Try.func54 (by kernel_rfl) (by kernel_rfl) fun a γ w U => (by show Calls _ _ #[a.eval (.tmp 28)] _ _; exact c_under (Src.at_ (Src.dep (j := 3) (t := 28) (by kernel_rfl) (by kernel_rfl) rfl) U) (by omega) (by omega))
    · exact sCall rfl rfl rfl hz rfl (Gd.none_ rfl) rfl Try.func55 (by kernel_rfl) (by kernel_rfl) fun a γ w U => (by show Calls _ _ #[a.eval (.tmp 27), a.eval (.tmp 29)] _ _; exact c_mul (Src.at_ (Src.dep (j := 2) (t := 27) (by kernel_rfl) (by kernel_rfl) rfl) U) (Src.at_ (Src.dep (j := 4) (t := 29) (by kernel_rfl) (by kernel_rfl) rfl) U) (by rw [big_eq]; omega) (by rw [big_eq]; omega))
    · exact sCall rfl rfl rfl hz rfl (Gd.none_ rfl) rfl Try.func48 (by kernel_rfl) (by kernel_rfl) fun a γ w U => (by show Calls _ _ #[a.eval (.tmp 25), a.eval (.tmp 30)] _ _; exact c_lowest (l3 := 0) (l4 := 0) (p' := 0) (q' := 0) (Src.at_ (Src.dep (j := 0) (t := 25) (by kernel_rfl) (by kernel_rfl) rfl) U) (Src.at_ (Src.dep (j := 5) (t := 30) (by kernel_rfl) (by kernel_rfl) rfl) U) (by omega) (by omega) (by omega) (by omega))
    · exact sStoreE rfl rfl rfl rfl rfl (Src.out (t := 4) (by kernel_rfl) S4 rfl) (by simp [tagOf]) (Cp3.var tR_nd) (Src.dep (j := 6) (t := 31) (by kernel_rfl) (by kernel_rfl) rfl) st_r64
    · exact sAs rfl rfl rfl hz rfl (Gd.none_ rfl) rfl (Src.const (.bool true))
  intro a' γ' W' hz' hd' hC hk hh
  clear Cp1
  clear Cp2
  replace Cp3 := gotE (T := tR B64 (l1 + (l4 + 1)) ((l2 + 1) + (l4 + 1)) (((p * (und q')) - (p' * (und q))) / Nat.gcd ((p * (und q')) - (p' * (und q))) ((und q) * (und q'))) (((und q) * (und q')) / Nat.gcd ((p * (und q')) - (p' * (und q))) ((und q) * (und q')))) (id := 29) (p := p3) 7 hh rfl rfl
  clear Cp6
  clear S2
  clear S3
  replace S4 := hk 4 _ (by kernel_rfl) S4
  clear S5
  clear S8
  clear S23
  have S5 := gotV hz' 8 hh rfl rfl rfl rfl
  replace HB := RelC.aftM HB hC (by intro m hm; simp at hm; rcases hm with rfl <;> assumption)
  clear hC hk hh; replace hz := hz'; replace hd := hd'; clear hz' hd'
  refine wp_ret ?_
  exact retct_r64 (by kernel_rfl) S4 S5 hd Cp3 HB

set_option maxRecDepth 10000 in
set_option maxHeartbeats 2000000 in
theorem c_rfloor {l1 l2 l3 l4 p q p' q' : Nat} {v0 : Value} {w : World} (h0 : (tR B64 l1 l2 p q).p v0 w) (b1 : l1 ≤ 100000000) (b2 : l2 ≤ 100000000) (b3 : l3 ≤ 100000000) (b4 : l4 ≤ 100000000) :
    Calls Try.prog 27 #[v0] w (Ret (tN B64 l1 (p / (und q))) w) := by
  refine enter Try.func27 rfl Try.ntmps27 (by simp) ?_
  intro a hz hd ha
  have S0 := ha 0 _ rfl
  have H0 := h0
  clear ha
  have HB : Below w.heap.size w w := Below.refl _ _
  refine wp_seq ?_
  refine region_text (M := []) (
      rB 0 29 (tR B64 l1 l2 p q) none 0 ::
      rB 1 27 (tN B64 0 0) none 0 ::
      []) hz hd (by kernel_rfl) ?_ ?_
  · refine ⟨?_, ?_, trivial⟩
    · exact sBox rfl rfl rfl hz rfl rfl rfl (Src.out (t := 0) (by kernel_rfl) S0 H0) box_r64
    · exact sNew rfl rfl rfl hz rfl rfl rfl (fun _ => tN_nil) al_n64
  intro a' γ' W' hz' hd' hC hk hh
  clear S0 H0
  obtain ⟨p1, S1, Cp1, lp1, gp1⟩ := gotB hz' 0 hC hh rfl rfl rfl rfl rfl rfl
  obtain ⟨p2, S2, Cp2, lp2, gp2⟩ := gotB hz' 1 hC hh rfl rfl rfl rfl rfl rfl
  have n_p1_p2 : p1 ≠ p2 := by intro e; rw [e, gp2] at gp1; omega
  have bp2 : w.heap.size ≤ p2 := Nat.le_trans HB.size lp2
  clear lp1 gp1 lp2 gp2
  replace HB := aft_call HB (RelC.below_nil hC)
  clear hC hk hh; replace hz := hz'; replace hd := hd'; clear hz' hd'
  refine wp_seq ?_
  refine region_drawn (M := [p2]) (
      rT (tV (.pointer (some ⟨p1, 0, none⟩))) ::
      rT (tN B64 l1 p) ::
      rT (tR B64 l1 l2 p q) ::
      rT (tN B64 (l2 + 1) (und q)) ::
      rT (tN B64 l1 (p / (und q))) ::
      rE 0 27 (tN B64 l1 (p / (und q))) p2 ::
      []) hz hd (by kernel_rfl) (by kernel_rfl) ?_ ?_
  · refine ⟨?_, ?_, ?_, ?_, ?_, ?_, trivial⟩
    · exact sFA rfl rfl rfl hz rfl (Gd.none_ rfl) rfl (Src.out (t := 1) (by kernel_rfl) S1 rfl) (fun w => by simp [go_sem])
    · exact sLoadP rfl rfl rfl hz rfl (Gd.none_ rfl) rfl (Src.dep (j := 0) (t := 3) (by kernel_rfl) (by kernel_rfl) rfl) Cp1 (by simp [tagOf, n_p1_p2]) ldp_r64
    · exact sLoad rfl rfl rfl hz rfl (Gd.none_ rfl) rfl (Src.out (t := 1) (by kernel_rfl) S1 rfl) Cp1 (by simp [tagOf, n_p1_p2]) ld_r64
    · exact sCall rfl rfl rfl hz rfl (Gd.none_ rfl) rfl Try.func54 (by kernel_rfl) (by kernel_rfl) fun a γ w U => (by show Calls _ _ #[a.eval (.tmp 5)] _ _; exact c_under (Src.at_ (Src.dep (j := 2) (t := 5) (by kernel_rfl) (by kernel_rfl) rfl) U) (by omega) (by omega))
    · exact sCall rfl rfl rfl hz rfl (Gd.none_ rfl) rfl Try.func58 (by kernel_rfl) (by kernel_rfl) fun a γ w U => (by show Calls _ _ #[a.eval (.tmp 4), a.eval (.tmp 6)] _ _; exact c_over (l3 := 0) (l4 := 0) (p' := 0) (q' := 0) (Src.at_ (Src.dep (j := 1) (t := 4) (by kernel_rfl) (by kernel_rfl) rfl) U) (Src.at_ (Src.dep (j := 3) (t := 6) (by kernel_rfl) (by kernel_rfl) rfl) U) (by omega) (by omega) (by omega) (by omega))
    · exact sStoreE rfl rfl rfl rfl rfl (Src.out (t := 2) (by kernel_rfl) S2 rfl) (by simp [tagOf]) (Cp2.var tN_nd) (Src.dep (j := 4) (t := 7) (by kernel_rfl) (by kernel_rfl) rfl) st_n64
  intro a' γ' W' hz' hd' hC hk hh
  clear Cp1
  replace Cp2 := gotE (T := tN B64 l1 (p / (und q))) (id := 27) (p := p2) 5 hh rfl rfl
  clear S1
  replace S2 := hk 2 _ (by kernel_rfl) S2
  replace HB := RelC.aftM HB hC (by intro m hm; simp at hm; rcases hm with rfl <;> assumption)
  clear hC hk hh; replace hz := hz'; replace hd := hd'; clear hz' hd'
  refine wp_ret ?_
  exact ret1_n64 (by kernel_rfl) S2 hd Cp2 HB

set_option maxRecDepth 10000 in
set_option maxHeartbeats 2000000 in
theorem c_rdiv_z {l1 l2 l3 l4 p q p' q' : Nat} {v0 v1 : Value} {w : World} (h0 : (tR B64 l1 l2 p q).p v0 w) (h1 : (tR B64 l3 l4 p' q').p v1 w) (b1 : l1 ≤ 100000000) (b2 : l2 ≤ 100000000) (b3 : l3 ≤ 100000000) (b4 : l4 ≤ 100000000) (hq : bl p' = 0) :
    Calls Try.prog 40 #[v0, v1] w (Ret (tT [tR B64 0 0 0 0, tV (.bool false)]) w) := by
  refine enter Try.func40 rfl Try.ntmps40 (by simp) ?_
  intro a hz hd ha
  have S0 := ha 0 _ rfl
  have H0 := h0
  have S1 := ha 1 _ rfl
  have H1 := h1
  clear ha
  have HB : Below w.heap.size w w := Below.refl _ _
  refine wp_seq ?_
  refine region_text (M := []) (
      rB 0 29 (tR B64 l1 l2 p q) none 0 ::
      rB 1 29 (tR B64 l3 l4 p' q') none 0 ::
      rB 2 29 (tR B64 0 0 0 0) none 0 ::
      rT (tV (.bool false)) ::
      []) hz hd (by kernel_rfl) ?_ ?_
  · refine ⟨?_, ?_, ?_, ?_, trivial⟩
    · exact sBox rfl rfl rfl hz rfl rfl rfl (Src.out (t := 0) (by kernel_rfl) S0 H0) box_r64
    · exact sBox rfl rfl rfl hz rfl rfl rfl (Src.out (t := 1) (by kernel_rfl) S1 H1) box_r64
    · exact sNew rfl rfl rfl hz rfl rfl rfl (fun _ => tR_nil) al_r64
    · exact sAs rfl rfl rfl hz rfl (Gd.none_ rfl) rfl (Src.const (.bool false))
  intro a' γ' W' hz' hd' hC hk hh
  clear S0 H0
  clear S1 H1
  obtain ⟨p1, S2, Cp1, lp1, gp1⟩ := gotB hz' 0 hC hh rfl rfl rfl rfl rfl rfl
  obtain ⟨p2, S3, Cp2, lp2, gp2⟩ := gotB hz' 1 hC hh rfl rfl rfl rfl rfl rfl
  obtain ⟨p3, S4, Cp3, lp3, gp3⟩ := gotB hz' 2 hC hh rfl rfl rfl rfl rfl rfl
  have S5 := gotV hz' 3 hh rfl rfl rfl rfl
  have n_p1_p3 : p1 ≠ p3 := by intro e; rw [e, gp3] at gp1; omega
  have n_p2_p3 : p2 ≠ p3 := by intro e; rw [e, gp3] at gp2; omega
  have bp3 : w.heap.size ≤ p3 := Nat.le_trans HB.size lp3
  clear lp1 gp1 lp2 gp2 lp3 gp3
  replace HB := aft_call HB (RelC.below_nil hC)
  clear hC hk hh; replace hz := hz'; replace hd := hd'; clear hz' hd'
  refine wp_seq ?_
  refine wp_seq ?_
  refine region_text (M := []) (
      rT (tV (.pointer (some ⟨p2, 0, none⟩))) ::
      rT (tN B64 l3 p') ::
      rT (tV (.int .i64 ((bl p' : Nat) : Int))) ::
      rT (tV (.bool true)) ::
      []) hz hd (by kernel_rfl) ?_ ?_
  · refine ⟨?_, ?_, ?_, ?_, trivial⟩
    · exact sFA rfl rfl rfl hz rfl (Gd.none_ rfl) rfl (Src.out (t := 3) (by kernel_rfl) S3 rfl) (fun w => by simp [go_sem])
    · exact sLoadP rfl rfl rfl hz rfl (Gd.none_ rfl) rfl (Src.dep (j := 0) (t := 6) (by kernel_rfl) (by kernel_rfl) rfl) Cp2 rfl ldp_r64
    · exact sCall rfl rfl rfl hz rfl (Gd.none_ rfl) rfl Try.func47 (by kernel_rfl) (by kernel_rfl) fun a γ w U => (by show Calls _ _ #[a.eval (.tmp 7)] _ _; exact c_len (Src.at_ (Src.dep (j := 1) (t := 7) (by kernel_rfl) (by kernel_rfl) rfl) U) (by rw [big_eq]; omega))
    · exact sBin rfl rfl rfl hz rfl (Gd.none_ rfl) rfl (Src.dep (j := 2) (t := 8) (by kernel_rfl) (by kernel_rfl) rfl) (Src.const (.int .i64 0)) (fun w => by simp [go_sem, hq])
  intro a' γ' W' hz' hd' hC hk hh
  replace Cp1 := Cell.aft Cp1 hC rfl
  replace Cp2 := Cell.aft Cp2 hC rfl
  have tp3 := Cp3.lt
  replace Cp3 := Cell.aft Cp3 hC rfl
  replace S2 := hk 2 _ (by kernel_rfl) S2
  replace S3 := hk 3 _ (by kernel_rfl) S3
  replace S4 := hk 4 _ (by kernel_rfl) S4
  replace S5 := hk 5 _ (by kernel_rfl) S5
  have S9 := gotV hz' 3 hh rfl rfl rfl rfl
  clear tp3
  replace HB := aft_call HB (RelC.below_nil hC)
  clear hC hk hh; replace hz := hz'; replace hd := hd'; clear hz' hd'
  refine wp_cond_true S9.ev ?_
  refine wp_seq ?_
  refine region_text (M := [p3]) (
      rT (tR B64 0 0 0 0) ::
      rE 0 29 (tR B64 0 0 0 0) p3 ::
      rT (tV (.bool false)) ::
      []) hz hd (by kernel_rfl) ?_ ?_
  · refine ⟨?_, ?_, ?_, trivial⟩
    · exact sBuild0 rfl rfl rfl hz rfl (Gd.none_ rfl) rfl bd_r64 (fun _ => tR_nil)
    · exact sStoreE rfl rfl rfl rfl rfl (Src.out (t := 4) (by kernel_rfl) S4 rfl) (by simp [tagOf]) (Cp3.var tR_nd) (Src.dep (j := 0) (t := 10) (by kernel_rfl) (by kernel_rfl) rfl) st_r64
    · exact sAs rfl rfl rfl hz rfl (Gd.none_ rfl) rfl (Src.const (.bool false))
  intro a' γ' W' hz' hd' hC hk hh
  replace Cp1 := Cell.aft Cp1 hC (by simp [tagOf, n_p1_p3])
  replace Cp2 := Cell.aft Cp2 hC (by simp [tagOf, n_p2_p3])
  replace Cp3 := gotE (T := tR B64 0 0 0 0) (id := 29) (p := p3) 1 hh rfl rfl
  replace S2 := hk 2 _ (by kernel_rfl) S2
  replace S3 := hk 3 _ (by kernel_rfl) S3
  replace S4 := hk 4 _ (by kernel_rfl) S4
  clear S5
  clear S9
  have S5 := gotV hz' 2 hh rfl rfl rfl rfl
  replace HB := RelC.aftM HB hC (by intro m hm; simp at hm; rcases hm with rfl <;> assumption)
  clear hC hk hh; replace hz := hz'; replace hd := hd'; clear hz' hd'
  refine wp_ret ?_
  exact retct_r64 (by kernel_rfl) S4 S5 hd Cp3 HB

set_option maxRecDepth 10000 in
set_option maxHeartbeats 2000000 in
theorem c_rdiv_p {l1 l2 l3 l4 p q p' q' : Nat} {v0 v1 : Value} {w : World} (h0 : (tR B64 l1 l2 p q).p v0 w) (h1 : (tR B64 l3 l4 p' q').p v1 w) (b1 : l1 ≤ 100000000) (b2 : l2 ≤ 100000000) (b3 : l3 ≤ 100000000) (b4 : l4 ≤ 100000000) (hq : bl p' ≠ 0) :
    Calls Try.prog 40 #[v0, v1] w (Ret (tT [tR B64 (l1 + (l4 + 1)) ((l2 + 1) + l3) ((p * (und q')) / Nat.gcd (p * (und q')) ((und q) * p')) (((und q) * p') / Nat.gcd (p * (und q')) ((und q) * p')), tV (.bool true)]) w) := by
  refine enter Try.func40 rfl Try.ntmps40 (by simp) ?_
  intro a hz hd ha
  have S0 := ha 0 _ rfl
  have H0 := h0
  have S1 := ha 1 _ rfl
  have H1 := h1
  clear ha
  have HB : Below w.heap.size w w := Below.refl _ _
  refine wp_seq ?_
  refine region_text (M := []) (
      rB 0 29 (tR B64 l1 l2 p q) none 0 ::
      rB 1 29 (tR B64 l3 l4 p' q') none 0 ::
      rB 2 29 (tR B64 0 0 0 0) none 0 ::
      rT (tV (.bool false)) ::
      []) hz hd (by kernel_rfl) ?_ ?_
  · refine ⟨?_, ?_, ?_, ?_, trivial⟩
    · exact sBox rfl rfl rfl hz rfl rfl rfl (Src.out (t := 0) (by kernel_rfl) S0 H0) box_r64
    · exact sBox rfl rfl rfl hz rfl rfl rfl (Src.out (t := 1) (by kernel_rfl) S1 H1) box_r64
    · exact sNew rfl rfl rfl hz rfl rfl rfl (fun _ => tR_nil) al_r64
    · exact sAs rfl rfl rfl hz rfl (Gd.none_ rfl) rfl (Src.const (.bool false))
  intro a' γ' W' hz' hd' hC hk hh
  clear S0 H0
  clear S1 H1
  obtain ⟨p1, S2, Cp1, lp1, gp1⟩ := gotB hz' 0 hC hh rfl rfl rfl rfl rfl rfl
  obtain ⟨p2, S3, Cp2, lp2, gp2⟩ := gotB hz' 1 hC hh rfl rfl rfl rfl rfl rfl
  obtain ⟨p3, S4, Cp3, lp3, gp3⟩ := gotB hz' 2 hC hh rfl rfl rfl rfl rfl rfl
  have S5 := gotV hz' 3 hh rfl rfl rfl rfl
  have n_p1_p3 : p1 ≠ p3 := by intro e; rw [e, gp3] at gp1; omega
  have n_p2_p3 : p2 ≠ p3 := by intro e; rw [e, gp3] at gp2; omega
  have bp3 : w.heap.size ≤ p3 := Nat.le_trans HB.size lp3
  clear lp1 gp1 lp2 gp2 lp3 gp3
  replace HB := aft_call HB (RelC.below_nil hC)
  clear hC hk hh; replace hz := hz'; replace hd := hd'; clear hz' hd'
  refine wp_seq ?_
  refine wp_seq ?_
  refine region_text (M := []) (
      rT (tV (.pointer (some ⟨p2, 0, none⟩))) ::
      rT (tN B64 l3 p') ::
      rT (tV (.int .i64 ((bl p' : Nat) : Int))) ::
      rT (tV (.bool false)) ::
      []) hz hd (by kernel_rfl) ?_ ?_
  · refine ⟨?_, ?_, ?_, ?_, trivial⟩
    · exact sFA rfl rfl rfl hz rfl (Gd.none_ rfl) rfl (Src.out (t := 3) (by kernel_rfl) S3 rfl) (fun w => by simp [go_sem])
    · exact sLoadP rfl rfl rfl hz rfl (Gd.none_ rfl) rfl (Src.dep (j := 0) (t := 6) (by kernel_rfl) (by kernel_rfl) rfl) Cp2 rfl ldp_r64
    · exact sCall rfl rfl rfl hz rfl (Gd.none_ rfl) rfl Try.func47 (by kernel_rfl) (by kernel_rfl) fun a γ w U => (by show Calls _ _ #[a.eval (.tmp 7)] _ _; exact c_len (Src.at_ (Src.dep (j := 1) (t := 7) (by kernel_rfl) (by kernel_rfl) rfl) U) (by rw [big_eq]; omega))
    · exact sBin rfl rfl rfl hz rfl (Gd.none_ rfl) rfl (Src.dep (j := 2) (t := 8) (by kernel_rfl) (by kernel_rfl) rfl) (Src.const (.int .i64 0)) (fun w => by simp [go_sem, hq])
  intro a' γ' W' hz' hd' hC hk hh
  replace Cp1 := Cell.aft Cp1 hC rfl
  replace Cp2 := Cell.aft Cp2 hC rfl
  have tp3 := Cp3.lt
  replace Cp3 := Cell.aft Cp3 hC rfl
  replace S2 := hk 2 _ (by kernel_rfl) S2
  replace S3 := hk 3 _ (by kernel_rfl) S3
  replace S4 := hk 4 _ (by kernel_rfl) S4
  replace S5 := hk 5 _ (by kernel_rfl) S5
  have S9 := gotV hz' 3 hh rfl rfl rfl rfl
  clear tp3
  replace HB := aft_call HB (RelC.below_nil hC)
  clear hC hk hh; replace hz := hz'; replace hd := hd'; clear hz' hd'
  refine wp_cond_false S9.ev ?_
  refine wp_skip ?_
  refine wp_seq ?_
  refine region_drawn (M := [p3]) (
      rT (tV (.pointer (some ⟨p1, 0, none⟩))) ::
      rT (tN B64 l1 p) ::
      rT (tR B64 l3 l4 p' q') ::
      rT (tN B64 (l4 + 1) (und q')) ::
      rT (tN B64 (l1 + (l4 + 1)) (p * (und q'))) ::
      rT (tR B64 l1 l2 p q) ::
      rT (tN B64 (l2 + 1) (und q)) ::
      rT (tV (.pointer (some ⟨p2, 0, none⟩))) ::
      rT (tN B64 l3 p') ::
      rT (tN B64 ((l2 + 1) + l3) ((und q) * p')) ::
      rT (tR B64 (l1 + (l4 + 1)) ((l2 + 1) + l3) ((p * (und q')) / Nat.gcd (p * (und q')) ((und q) * p')) (((und q) * p') / Nat.gcd (p * (und q')) ((und q) * p'))) ::
      rE 0 29 (tR B64 (l1 + (l4 + 1)) ((l2 + 1) + l3) ((p * (und q')) / Nat.gcd (p * (und q')) ((und q) * p')) (((und q) * p') / Nat.gcd (p * (und q')) ((und q) * p'))) p3 ::
      rT (tV (.bool true)) ::
      []) hz hd (by kernel_rfl) (by kernel_rfl) ?_ ?_
  · refine ⟨?_, ?_, ?_, ?_, ?_, ?_, ?_, ?_, ?_, ?_, ?_, ?_, ?_, trivial⟩
    · exact sFA rfl rfl rfl hz rfl (Gd.none_ rfl) rfl (Src.out (t := 2) (by kernel_rfl) S2 rfl) (fun w => by simp [go_sem])
    · exact sLoadP rfl rfl rfl hz rfl (Gd.none_ rfl) rfl (Src.dep (j := 0) (t := 11) (by kernel_rfl) (by kernel_rfl) rfl) Cp1 (by simp [tagOf, n_p1_p3]) ldp_r64
    · exact sLoad rfl rfl rfl hz rfl (Gd.none_ rfl) rfl (Src.out (t := 3) (by kernel_rfl) S3 rfl) Cp2 (by simp [tagOf, n_p2_p3]) ld_r64
    · exact sCall rfl rfl rfl hz rfl (Gd.none_ rfl) rfl Try.func54 (by kernel_rfl) (by kernel_rfl) fun a γ w U => (by show Calls _ _ #[a.eval (.tmp 13)] _ _; exact c_under (Src.at_ (Src.dep (j := 2) (t := 13) (by kernel_rfl) (by kernel_rfl) rfl) U) (by omega) (by omega))
    · exact sCall rfl rfl rfl hz rfl (Gd.none_ rfl) rfl Try.func55 (by kernel_rfl) (by kernel_rfl) fun a γ w U => (by show Calls _ _ #[a.eval (.tmp 12), a.eval (.tmp 14)] _ _; exact c_mul (Src.at_ (Src.dep (j := 1) (t := 12) (by kernel_rfl) (by kernel_rfl) rfl) U) (Src.at_ (Src.dep (j := 3) (t := 14) (by kernel_rfl) (by kernel_rfl) rfl) U) (by rw [big_eq]; omega) (by rw [big_eq]; omega))
    · exact sLoad rfl rfl rfl hz rfl (Gd.none_ rfl) rfl (Src.out (t := 2) (by kernel_rfl) S2 rfl) Cp1 (by simp [tagOf, n_p1_p3]) ld_r64
    · exact sCall rfl rfl rfl hz rfl (Gd.none_ rfl) rfl Try.func54 (by kernel_rfl) (by kernel_rfl) fun a γ w U => (by show Calls _ _ #[a.eval (.tmp 16)] _ _; exact c_under (Src.at_ (Src.dep (j := 5) (t := 16) (by kernel_rfl) (by kernel_rfl) rfl) U) (by omega) (by omega))
    · exact sFA rfl rfl rfl hz rfl (Gd.none_ rfl) rfl (Src.out (t := 3) (by kernel_rfl) S3 rfl) (fun w => by simp [go_sem])
    · exact sLoadP rfl rfl rfl hz rfl (Gd.none_ rfl) rfl (Src.dep (j := 7) (t := 18) (by kernel_rfl) (by kernel_rfl) rfl) Cp2 (by simp [tagOf, n_p2_p3]) ldp_r64
    · exact sCall rfl rfl rfl hz rfl (Gd.none_ rfl) rfl Try.func55 (by kernel_rfl) (by kernel_rfl) fun a γ w U => (by show Calls _ _ #[a.eval (.tmp 17), a.eval (.tmp 19)] _ _; exact c_mul (Src.at_ (Src.dep (j := 6) (t := 17) (by kernel_rfl) (by kernel_rfl) rfl) U) (Src.at_ (Src.dep (j := 8) (t := 19) (by kernel_rfl) (by kernel_rfl) rfl) U) (by rw [big_eq]; omega) (by rw [big_eq]; omega))
    · exact sCall rfl rfl rfl hz rfl (Gd.none_ rfl) rfl Try.func48 (by kernel_rfl) (by kernel_rfl) fun a γ w U => (by show Calls _ _ #[a.eval (.tmp 15), a.eval (.tmp 20)] _ _; exact c_lowest (l3 := 0) (l4 := 0) (p' := 0) (q' := 0) (Src.at_ (Src.dep (j := 4) (t := 15) (by kernel_rfl) (by kernel_rfl) rfl) U) (Src.at_ (Src.dep (j := 9) (t := 20) (by kernel_rfl) (by kernel_rfl) rfl) U) (by omega) (by omega) (by omega) (by omega))
    · exact sStoreE rfl rfl rfl rfl rfl (Src.out (t := 4) (by kernel_rfl) S4 rfl) (by simp [tagOf]) (Cp3.var tR_nd) (Src.dep (j := 10) (t := 21) (by kernel_rfl) (by kernel_rfl) rfl) st_r64
    · exact sAs rfl rfl rfl hz rfl (Gd.none_ rfl) rfl (Src.const (.bool true))
  intro a' γ' W' hz' hd' hC hk hh
  clear Cp1
  clear Cp2
  replace Cp3 := gotE (T := tR B64 (l1 + (l4 + 1)) ((l2 + 1) + l3) ((p * (und q')) / Nat.gcd (p * (und q')) ((und q) * p')) (((und q) * p') / Nat.gcd (p * (und q')) ((und q) * p'))) (id := 29) (p := p3) 11 hh rfl rfl
  clear S2
  clear S3
  replace S4 := hk 4 _ (by kernel_rfl) S4
  clear S5
  clear S9
  have S5 := gotV hz' 12 hh rfl rfl rfl rfl
  replace HB := RelC.aftM HB hC (by intro m hm; simp at hm; rcases hm with rfl <;> assumption)
  clear hC hk hh; replace hz := hz'; replace hd := hd'; clear hz' hd'
  refine wp_ret ?_
  exact retct_r64 (by kernel_rfl) S4 S5 hd Cp3 HB

set_option maxRecDepth 10000 in
set_option maxHeartbeats 2000000 in
theorem c_of_n {l1 l2 l3 l4 p q p' q' : Nat} {w : World}  {a1 a2 : Int} (hs : a1 < 0) :
    Calls Try.prog 30 #[.int .i64 a1, .int .i64 a2] w (Ret (tT [tR B64 0 0 0 0, tV (.bool false)]) w) := by
  refine enter Try.func30 rfl Try.ntmps30 (by simp) ?_
  intro a hz hd ha
  have S0 := ha 0 _ rfl
  have S1 := ha 1 _ rfl
  clear ha
  have HB : Below w.heap.size w w := Below.refl _ _
  refine wp_seq ?_
  refine region_text (M := []) (
      rB 0 29 (tR B64 0 0 0 0) none 0 ::
      rT (tV (.bool false)) ::
      []) hz hd (by kernel_rfl) ?_ ?_
  · refine ⟨?_, ?_, trivial⟩
    · exact sNew rfl rfl rfl hz rfl rfl rfl (fun _ => tR_nil) al_r64
    · exact sAs rfl rfl rfl hz rfl (Gd.none_ rfl) rfl (Src.const (.bool false))
  intro a' γ' W' hz' hd' hC hk hh
  replace S0 := hk 0 _ (by kernel_rfl) S0
  replace S1 := hk 1 _ (by kernel_rfl) S1
  obtain ⟨p1, S4, Cp1, lp1, gp1⟩ := gotB hz' 0 hC hh rfl rfl rfl rfl rfl rfl
  have S5 := gotV hz' 1 hh rfl rfl rfl rfl
  have bp1 : w.heap.size ≤ p1 := Nat.le_trans HB.size lp1
  clear lp1 gp1
  replace HB := aft_call HB (RelC.below_nil hC)
  clear hC hk hh; replace hz := hz'; replace hd := hd'; clear hz' hd'
  refine wp_seq ?_
  refine wp_seq ?_
  refine region_text (M := []) (
      rT (tV (.int .i64 a1)) ::
      rT (tV (.bool true)) ::
      rT (tV (.bool true)) ::
      rT tAny ::
      rT tAny ::
      rT (tV (.bool true)) ::
      []) hz hd (by kernel_rfl) ?_ ?_
  · refine ⟨?_, ?_, ?_, ?_, ?_, ?_, trivial⟩
    · exact sMv rfl rfl rfl hz rfl (Gd.none_ rfl) rfl (Src.out (t := 0) (by kernel_rfl) S0 rfl)
    · exact sBin rfl rfl rfl hz rfl (Gd.none_ rfl) rfl (Src.dep (j := 0) (t := 6) (by kernel_rfl) (by kernel_rfl) rfl) (Src.const (.int .i64 0)) (fun w => by simp [go_sem, hs])
    · exact sMv rfl rfl rfl hz rfl (Gd.none_ rfl) rfl (Src.dep (j := 1) (t := 7) (by kernel_rfl) (by kernel_rfl) rfl)
    · exact sSkip rfl rfl rfl hz rfl (Gd.no rfl rfl (Src.dep (j := 2) (t := 8) (by kernel_rfl) (by kernel_rfl) rfl) rfl)
    · exact sSkip rfl rfl rfl hz rfl (Gd.no rfl rfl (Src.dep (j := 2) (t := 8) (by kernel_rfl) (by kernel_rfl) rfl) rfl)
    · exact sPickT rfl rfl rfl hz rfl (Gd.none_ rfl) rfl (Src.dep (j := 2) (t := 8) (by kernel_rfl) (by kernel_rfl) rfl) (Src.const (.bool true))
  intro a' γ' W' hz' hd' hC hk hh
  have tp1 := Cp1.lt
  replace Cp1 := Cell.aft Cp1 hC rfl
  replace S0 := hk 0 _ (by kernel_rfl) S0
  replace S1 := hk 1 _ (by kernel_rfl) S1
  replace S4 := hk 4 _ (by kernel_rfl) S4
  replace S5 := hk 5 _ (by kernel_rfl) S5
  have S11 := gotV hz' 5 hh rfl rfl rfl rfl
  clear tp1
  replace HB := aft_call HB (RelC.below_nil hC)
  clear hC hk hh; replace hz := hz'; replace hd := hd'; clear hz' hd'
  refine wp_cond_true S11.ev ?_
  refine wp_seq ?_
  refine region_text (M := [p1]) (
      rT (tR B64 0 0 0 0) ::
      rE 0 29 (tR B64 0 0 0 0) p1 ::
      rT (tV (.bool false)) ::
      []) hz hd (by kernel_rfl) ?_ ?_
  · refine ⟨?_, ?_, ?_, trivial⟩
    · exact sBuild0 rfl rfl rfl hz rfl (Gd.none_ rfl) rfl bd_r64 (fun _ => tR_nil)
    · exact sStoreE rfl rfl rfl rfl rfl (Src.out (t := 4) (by kernel_rfl) S4 rfl) (by simp [tagOf]) (Cp1.var tR_nd) (Src.dep (j := 0) (t := 12) (by kernel_rfl) (by kernel_rfl) rfl) st_r64
    · exact sAs rfl rfl rfl hz rfl (Gd.none_ rfl) rfl (Src.const (.bool false))
  intro a' γ' W' hz' hd' hC hk hh
  replace Cp1 := gotE (T := tR B64 0 0 0 0) (id := 29) (p := p1) 1 hh rfl rfl
  replace S0 := hk 0 _ (by kernel_rfl) S0
  replace S1 := hk 1 _ (by kernel_rfl) S1
  replace S4 := hk 4 _ (by kernel_rfl) S4
  clear S5
  clear S11
  have S5 := gotV hz' 2 hh rfl rfl rfl rfl
  replace HB := RelC.aftM HB hC (by intro m hm; simp at hm; rcases hm with rfl <;> assumption)
  clear hC hk hh; replace hz := hz'; replace hd := hd'; clear hz' hd'
  refine wp_ret ?_
  exact retct_r64 (by kernel_rfl) S4 S5 hd Cp1 HB

set_option maxRecDepth 10000 in
set_option maxHeartbeats 2000000 in
theorem c_of_z {l1 l2 l3 l4 p q p' q' : Nat} {w : World}  {a1 a2 : Int} (hs : ¬ a1 < 0) (hq : a2 < 1) :
    Calls Try.prog 30 #[.int .i64 a1, .int .i64 a2] w (Ret (tT [tR B64 0 0 0 0, tV (.bool false)]) w) := by
  refine enter Try.func30 rfl Try.ntmps30 (by simp) ?_
  intro a hz hd ha
  have S0 := ha 0 _ rfl
  have S1 := ha 1 _ rfl
  clear ha
  have HB : Below w.heap.size w w := Below.refl _ _
  refine wp_seq ?_
  refine region_text (M := []) (
      rB 0 29 (tR B64 0 0 0 0) none 0 ::
      rT (tV (.bool false)) ::
      []) hz hd (by kernel_rfl) ?_ ?_
  · refine ⟨?_, ?_, trivial⟩
    · exact sNew rfl rfl rfl hz rfl rfl rfl (fun _ => tR_nil) al_r64
    · exact sAs rfl rfl rfl hz rfl (Gd.none_ rfl) rfl (Src.const (.bool false))
  intro a' γ' W' hz' hd' hC hk hh
  replace S0 := hk 0 _ (by kernel_rfl) S0
  replace S1 := hk 1 _ (by kernel_rfl) S1
  obtain ⟨p1, S4, Cp1, lp1, gp1⟩ := gotB hz' 0 hC hh rfl rfl rfl rfl rfl rfl
  have S5 := gotV hz' 1 hh rfl rfl rfl rfl
  have bp1 : w.heap.size ≤ p1 := Nat.le_trans HB.size lp1
  clear lp1 gp1
  replace HB := aft_call HB (RelC.below_nil hC)
  clear hC hk hh; replace hz := hz'; replace hd := hd'; clear hz' hd'
  refine wp_seq ?_
  refine wp_seq ?_
  refine region_text (M := []) (
      rT (tV (.int .i64 a1)) ::
      rT (tV (.bool false)) ::
      rT (tV (.bool false)) ::
      rT (tV (.int .i64 a2)) ::
      rT (tV (.bool true)) ::
      rT (tV (.bool true)) ::
      []) hz hd (by kernel_rfl) ?_ ?_
  · refine ⟨?_, ?_, ?_, ?_, ?_, ?_, trivial⟩
    · exact sMv rfl rfl rfl hz rfl (Gd.none_ rfl) rfl (Src.out (t := 0) (by kernel_rfl) S0 rfl)
    · exact sBin rfl rfl rfl hz rfl (Gd.none_ rfl) rfl (Src.dep (j := 0) (t := 6) (by kernel_rfl) (by kernel_rfl) rfl) (Src.const (.int .i64 0)) (fun w => by simp [go_sem, hs])
    · exact sMv rfl rfl rfl hz rfl (Gd.none_ rfl) rfl (Src.dep (j := 1) (t := 7) (by kernel_rfl) (by kernel_rfl) rfl)
    · exact sMv rfl rfl rfl hz rfl (Gd.yes rfl rfl (Src.dep (j := 2) (t := 8) (by kernel_rfl) (by kernel_rfl) rfl) rfl) rfl (Src.out (t := 1) (by kernel_rfl) S1 rfl)
    · exact sBin rfl rfl rfl hz rfl (Gd.yes rfl rfl (Src.dep (j := 2) (t := 8) (by kernel_rfl) (by kernel_rfl) rfl) rfl) rfl (Src.dep (j := 3) (t := 9) (by kernel_rfl) (by kernel_rfl) rfl) (Src.const (.int .i64 1)) (fun w => by simp [go_sem, hq])
    · exact sPickF rfl rfl rfl hz rfl (Gd.none_ rfl) rfl (Src.dep (j := 2) (t := 8) (by kernel_rfl) (by kernel_rfl) rfl) (Src.dep (j := 4) (t := 10) (by kernel_rfl) (by kernel_rfl) rfl)
  intro a' γ' W' hz' hd' hC hk hh
  have tp1 := Cp1.lt
  replace Cp1 := Cell.aft Cp1 hC rfl
  replace S0 := hk 0 _ (by kernel_rfl) S0
  replace S1 := hk 1 _ (by kernel_rfl) S1
  replace S4 := hk 4 _ (by kernel_rfl) S4
  replace S5 := hk 5 _ (by kernel_rfl) S5
  have S11 := gotV hz' 5 hh rfl rfl rfl rfl
  clear tp1
  replace HB := aft_call HB (RelC.below_nil hC)
  clear hC hk hh; replace hz := hz'; replace hd := hd'; clear hz' hd'
  refine wp_cond_true S11.ev ?_
  refine wp_seq ?_
  refine region_text (M := [p1]) (
      rT (tR B64 0 0 0 0) ::
      rE 0 29 (tR B64 0 0 0 0) p1 ::
      rT (tV (.bool false)) ::
      []) hz hd (by kernel_rfl) ?_ ?_
  · refine ⟨?_, ?_, ?_, trivial⟩
    · exact sBuild0 rfl rfl rfl hz rfl (Gd.none_ rfl) rfl bd_r64 (fun _ => tR_nil)
    · exact sStoreE rfl rfl rfl rfl rfl (Src.out (t := 4) (by kernel_rfl) S4 rfl) (by simp [tagOf]) (Cp1.var tR_nd) (Src.dep (j := 0) (t := 12) (by kernel_rfl) (by kernel_rfl) rfl) st_r64
    · exact sAs rfl rfl rfl hz rfl (Gd.none_ rfl) rfl (Src.const (.bool false))
  intro a' γ' W' hz' hd' hC hk hh
  replace Cp1 := gotE (T := tR B64 0 0 0 0) (id := 29) (p := p1) 1 hh rfl rfl
  replace S0 := hk 0 _ (by kernel_rfl) S0
  replace S1 := hk 1 _ (by kernel_rfl) S1
  replace S4 := hk 4 _ (by kernel_rfl) S4
  clear S5
  clear S11
  have S5 := gotV hz' 2 hh rfl rfl rfl rfl
  replace HB := RelC.aftM HB hC (by intro m hm; simp at hm; rcases hm with rfl <;> assumption)
  clear hC hk hh; replace hz := hz'; replace hd := hd'; clear hz' hd'
  refine wp_ret ?_
  exact retct_r64 (by kernel_rfl) S4 S5 hd Cp1 HB

set_option maxRecDepth 10000 in
set_option maxHeartbeats 2000000 in
theorem c_of_p {l1 l2 l3 l4 p q p' q' : Nat} {w : World}  {x y : Nat} (hx : x < 9223372036854775808) (hy : y < 9223372036854775808) (hq : 1 ≤ y) (hx2 : x < B64) (hy2 : y < B64) :
    Calls Try.prog 30 #[.int .i64 (x : Int), .int .i64 (y : Int)] w (Ret (tT [tR B64 1 1 (x / Nat.gcd x y) (y / Nat.gcd x y), tV (.bool true)]) w) := by
  refine enter Try.func30 rfl Try.ntmps30 (by simp) ?_
  intro a hz hd ha
  have S0 := ha 0 _ rfl
  have S1 := ha 1 _ rfl
  clear ha
  have HB : Below w.heap.size w w := Below.refl _ _
  refine wp_seq ?_
  refine region_text (M := []) (
      rB 0 29 (tR B64 0 0 0 0) none 0 ::
      rT (tV (.bool false)) ::
      []) hz hd (by kernel_rfl) ?_ ?_
  · refine ⟨?_, ?_, trivial⟩
    · exact sNew rfl rfl rfl hz rfl rfl rfl (fun _ => tR_nil) al_r64
    · exact sAs rfl rfl rfl hz rfl (Gd.none_ rfl) rfl (Src.const (.bool false))
  intro a' γ' W' hz' hd' hC hk hh
  replace S0 := hk 0 _ (by kernel_rfl) S0
  replace S1 := hk 1 _ (by kernel_rfl) S1
  obtain ⟨p1, S4, Cp1, lp1, gp1⟩ := gotB hz' 0 hC hh rfl rfl rfl rfl rfl rfl
  have S5 := gotV hz' 1 hh rfl rfl rfl rfl
  have bp1 : w.heap.size ≤ p1 := Nat.le_trans HB.size lp1
  clear lp1 gp1
  replace HB := aft_call HB (RelC.below_nil hC)
  clear hC hk hh; replace hz := hz'; replace hd := hd'; clear hz' hd'
  refine wp_seq ?_
  refine wp_seq ?_
  refine region_text (M := []) (
      rT (tV (.int .i64 (x : Int))) ::
      rT (tV (.bool false)) ::
      rT (tV (.bool false)) ::
      rT (tV (.int .i64 (y : Int))) ::
      rT (tV (.bool false)) ::
      rT (tV (.bool false)) ::
      []) hz hd (by kernel_rfl) ?_ ?_
  · refine ⟨?_, ?_, ?_, ?_, ?_, ?_, trivial⟩
    · exact sMv rfl rfl rfl hz rfl (Gd.none_ rfl) rfl (Src.out (t := 0) (by kernel_rfl) S0 rfl)
    · exact sBin rfl rfl rfl hz rfl (Gd.none_ rfl) rfl (Src.dep (j := 0) (t := 6) (by kernel_rfl) (by kernel_rfl) rfl) (Src.const (.int .i64 0)) (fun w => by first | (simp [go_sem]; done) | (simp [go_sem]; omega))
    · exact sMv rfl rfl rfl hz rfl (Gd.none_ rfl) rfl (Src.dep (j := 1) (t := 7) (by kernel_rfl) (by kernel_rfl) rfl)
    · exact sMv rfl rfl rfl hz rfl (Gd.yes rfl rfl (Src.dep (j := 2) (t := 8) (by kernel_rfl) (by kernel_rfl) rfl) rfl) rfl (Src.out (t := 1) (by kernel_rfl) S1 rfl)
    · exact sBin rfl rfl rfl hz rfl (Gd.yes rfl rfl (Src.dep (j := 2) (t := 8) (by kernel_rfl) (by kernel_rfl) rfl) rfl) rfl (Src.dep (j := 3) (t := 9) (by kernel_rfl) (by kernel_rfl) rfl) (Src.const (.int .i64 1)) (fun w => by first | (simp [go_sem]; done) | (simp [go_sem]; omega))
    · exact sPickF rfl rfl rfl hz rfl (Gd.none_ rfl) rfl (Src.dep (j := 2) (t := 8) (by kernel_rfl) (by kernel_rfl) rfl) (Src.dep (j := 4) (t := 10) (by kernel_rfl) (by kernel_rfl) rfl)
  intro a' γ' W' hz' hd' hC hk hh
  have tp1 := Cp1.lt
  replace Cp1 := Cell.aft Cp1 hC rfl
  replace S0 := hk 0 _ (by kernel_rfl) S0
  replace S1 := hk 1 _ (by kernel_rfl) S1
  replace S4 := hk 4 _ (by kernel_rfl) S4
  replace S5 := hk 5 _ (by kernel_rfl) S5
  have S11 := gotV hz' 5 hh rfl rfl rfl rfl
  clear tp1
  replace HB := aft_call HB (RelC.below_nil hC)
  clear hC hk hh; replace hz := hz'; replace hd := hd'; clear hz' hd'
  refine wp_cond_false S11.ev ?_
  refine wp_skip ?_
  refine wp_seq ?_
  refine region_text (M := [p1]) (
      rT (tV (.int .i64 (x : Int))) ::
      rT (tV (.int .u64 (x : Int))) ::
      rT (tN B64 1 x) ::
      rT (tV (.int .i64 (y : Int))) ::
      rT (tV (.int .u64 (y : Int))) ::
      rT (tN B64 1 y) ::
      rT (tR B64 1 1 (x / Nat.gcd x y) (y / Nat.gcd x y)) ::
      rE 0 29 (tR B64 1 1 (x / Nat.gcd x y) (y / Nat.gcd x y)) p1 ::
      rT (tV (.bool true)) ::
      []) hz hd (by kernel_rfl) ?_ ?_
  · refine ⟨?_, ?_, ?_, ?_, ?_, ?_, ?_, ?_, ?_, trivial⟩
    · exact sMv rfl rfl rfl hz rfl (Gd.none_ rfl) rfl (Src.out (t := 0) (by kernel_rfl) S0 rfl)
    · exact sConv (T' := tV (.int .i64 (x : Int))) rfl rfl rfl hz rfl (Gd.none_ rfl) rfl (Src.dep (j := 0) (t := 13) (by kernel_rfl) (by kernel_rfl) rfl) (fun v w h => by have h : v = .int .i64 (x : Int) := h; subst h; exact ⟨_, by first | (simp [go_sem, IntKind.wrap_u64]; done) | (simp [go_sem, IntKind.wrap_u64]; omega), rfl⟩)
    · exact sCall rfl rfl rfl hz rfl (Gd.none_ rfl) rfl Try.func13 (by kernel_rfl) (by kernel_rfl) fun a γ w U => (by show Calls _ _ #[a.eval (.tmp 14)] _ _; rw [show a.eval (.tmp 14) = .int .u64 (x : Int) from Src.at_ (Src.dep (j := 1) (t := 14) (by kernel_rfl) (by kernel_rfl) rfl) U]; exact c_of hx2)
    · exact sMv rfl rfl rfl hz rfl (Gd.none_ rfl) rfl (Src.out (t := 1) (by kernel_rfl) S1 rfl)
    · exact sConv (T' := tV (.int .i64 (y : Int))) rfl rfl rfl hz rfl (Gd.none_ rfl) rfl (Src.dep (j := 3) (t := 16) (by kernel_rfl) (by kernel_rfl) rfl) (fun v w h => by have h : v = .int .i64 (y : Int) := h; subst h; exact ⟨_, by first | (simp [go_sem, IntKind.wrap_u64]; done) | (simp [go_sem, IntKind.wrap_u64]; omega), rfl⟩)
    · exact sCall rfl rfl rfl hz rfl (Gd.none_ rfl) rfl Try.func13 (by kernel_rfl) (by kernel_rfl) fun a γ w U => (by show Calls _ _ #[a.eval (.tmp 17)] _ _; rw [show a.eval (.tmp 17) = .int .u64 (y : Int) from Src.at_ (Src.dep (j := 4) (t := 17) (by kernel_rfl) (by kernel_rfl) rfl) U]; exact c_of hy2)
    · exact sCall rfl rfl rfl hz rfl (Gd.none_ rfl) rfl Try.func48 (by kernel_rfl) (by kernel_rfl) fun a γ w U => (by show Calls _ _ #[a.eval (.tmp 15), a.eval (.tmp 18)] _ _; exact c_lowest (l3 := 0) (l4 := 0) (p' := 0) (q' := 0) (Src.at_ (Src.dep (j := 2) (t := 15) (by kernel_rfl) (by kernel_rfl) rfl) U) (Src.at_ (Src.dep (j := 5) (t := 18) (by kernel_rfl) (by kernel_rfl) rfl) U) (by omega) (by omega) (by omega) (by omega))
    · exact sStoreE rfl rfl rfl rfl rfl (Src.out (t := 4) (by kernel_rfl) S4 rfl) (by simp [tagOf]) (Cp1.var tR_nd) (Src.dep (j := 6) (t := 19) (by kernel_rfl) (by kernel_rfl) rfl) st_r64
    · exact sAs rfl rfl rfl hz rfl (Gd.none_ rfl) rfl (Src.const (.bool true))
  intro a' γ' W' hz' hd' hC hk hh
  replace Cp1 := gotE (T := tR B64 1 1 (x / Nat.gcd x y) (y / Nat.gcd x y)) (id := 29) (p := p1) 7 hh rfl rfl
  clear S0
  clear S1
  replace S4 := hk 4 _ (by kernel_rfl) S4
  clear S5
  clear S11
  have S5 := gotV hz' 8 hh rfl rfl rfl rfl
  replace HB := RelC.aftM HB hC (by intro m hm; simp at hm; rcases hm with rfl <;> assumption)
  clear hC hk hh; replace hz := hz'; replace hd := hd'; clear hz' hd'
  refine wp_ret ?_
  exact retct_r64 (by kernel_rfl) S4 S5 hd Cp1 HB

set_option maxRecDepth 10000 in
set_option maxHeartbeats 2000000 in
theorem c_rceil_w {l1 l2 l3 l4 p q p' q' : Nat} {v0 : Value} {w : World} (h0 : (tR B64 l1 l2 p q).p v0 w) (b1 : l1 ≤ 100000000) (b2 : l2 ≤ 100000000) (b3 : l3 ≤ 100000000) (b4 : l4 ≤ 100000000) (hm : bl (modOf p (und q)) = 0) :
    Calls Try.prog 28 #[v0] w (Ret (tN B64 l1 (p / (und q))) w) := by
  refine enter Try.func28 rfl Try.ntmps28 (by simp) ?_
  intro a hz hd ha
  have S0 := ha 0 _ rfl
  have H0 := h0
  clear ha
  have HB : Below w.heap.size w w := Below.refl _ _
  refine wp_seq ?_
  refine region_text (M := []) (
      rB 0 29 (tR B64 l1 l2 p q) none 0 ::
      rB 1 27 (tN B64 0 0) none 0 ::
      []) hz hd (by kernel_rfl) ?_ ?_
  · refine ⟨?_, ?_, trivial⟩
    · exact sBox rfl rfl rfl hz rfl rfl rfl (Src.out (t := 0) (by kernel_rfl) S0 H0) box_r64
    · exact sNew rfl rfl rfl hz rfl rfl rfl (fun _ => tN_nil) al_n64
  intro a' γ' W' hz' hd' hC hk hh
  clear S0 H0
  obtain ⟨p1, S1, Cp1, lp1, gp1⟩ := gotB hz' 0 hC hh rfl rfl rfl rfl rfl rfl
  obtain ⟨p2, S2, Cp2, lp2, gp2⟩ := gotB hz' 1 hC hh rfl rfl rfl rfl rfl rfl
  have n_p1_p2 : p1 ≠ p2 := by intro e; rw [e, gp2] at gp1; omega
  have bp2 : w.heap.size ≤ p2 := Nat.le_trans HB.size lp2
  clear lp1 gp1 lp2 gp2
  replace HB := aft_call HB (RelC.below_nil hC)
  clear hC hk hh; replace hz := hz'; replace hd := hd'; clear hz' hd'
  refine wp_seq ?_
  refine region_drawn (M := []) (
      rT (tV (.pointer (some ⟨p1, 0, none⟩))) ::
      rT (tN B64 l1 p) ::
      rT (tR B64 l1 l2 p q) ::
      rT (tN B64 (l2 + 1) (und q)) ::
      rT (tT [tN B64 l1 (p / (und q)), tN B64 l1 (modOf p (und q)), tV (.bool (nz (und q)))]) ::
      rT (tT [tN B64 l1 (p / (und q)), tN B64 l1 (modOf p (und q)), tV (.bool (nz (und q)))]) ::
      rT (tN B64 l1 (p / (und q))) ::
      rT (tN B64 l1 (modOf p (und q))) ::
      rT (tV (.bool (nz (und q)))) ::
      rVar 9 27 1 ::
      rVar 10 27 1 ::
      rB 9 27 (tN B64 l1 (p / (und q))) (some 9) 10 ::
      rB 10 27 (tN B64 l1 (modOf p (und q))) (some 10) 11 ::
      rT (tV (.bool (nz (und q)))) ::
      []) hz hd (by kernel_rfl) (by kernel_rfl) ?_ ?_
  · refine ⟨?_, ?_, ?_, ?_, ?_, ?_, ?_, ?_, ?_, ?_, ?_, ?_, ?_, ?_, trivial⟩
    · exact sFA rfl rfl rfl hz rfl (Gd.none_ rfl) rfl (Src.out (t := 1) (by kernel_rfl) S1 rfl) (fun w => by simp [go_sem])
    · exact sLoadP rfl rfl rfl hz rfl (Gd.none_ rfl) rfl (Src.dep (j := 0) (t := 7) (by kernel_rfl) (by kernel_rfl) rfl) Cp1 rfl ldp_r64
    · exact sLoad rfl rfl rfl hz rfl (Gd.none_ rfl) rfl (Src.out (t := 1) (by kernel_rfl) S1 rfl) Cp1 rfl ld_r64
    · exact sCall rfl rfl rfl hz rfl (Gd.none_ rfl) rfl Try.func54 (by kernel_rfl) (by kernel_rfl) fun a γ w U => (by show Calls _ _ #[a.eval (.tmp 9)] _ _; exact c_under (Src.at_ (Src.dep (j := 2) (t := 9) (by kernel_rfl) (by kernel_rfl) rfl) U) (by omega) (by omega))
    · exact sCall rfl rfl rfl hz rfl (Gd.none_ rfl) rfl Try.func59 (by kernel_rfl) (by kernel_rfl) fun a γ w U => (by show Calls _ _ #[a.eval (.tmp 8), a.eval (.tmp 10)] _ _; exact c_divmod (Src.at_ (Src.dep (j := 1) (t := 8) (by kernel_rfl) (by kernel_rfl) rfl) U) (Src.at_ (Src.dep (j := 3) (t := 10) (by kernel_rfl) (by kernel_rfl) rfl) U) (by rw [big_eq]; omega) (by rw [big_eq]; omega))
    · exact sMv rfl rfl rfl hz rfl (Gd.none_ rfl) rfl (Src.dep (j := 4) (t := 11) (by kernel_rfl) (by kernel_rfl) rfl)
    · exact sExt rfl rfl rfl hz rfl (Gd.none_ rfl) rfl (Src.dep (j := 5) (t := 6) (by kernel_rfl) (by kernel_rfl) rfl) rfl
    · exact sExt rfl rfl rfl hz rfl (Gd.none_ rfl) rfl (Src.dep (j := 5) (t := 6) (by kernel_rfl) (by kernel_rfl) rfl) rfl
    · exact sExt rfl rfl rfl hz rfl (Gd.none_ rfl) rfl (Src.dep (j := 5) (t := 6) (by kernel_rfl) (by kernel_rfl) rfl) rfl
    · exact sAlloc rfl rfl rfl hz rfl rfl rfl rfl nd_slice al_n64
    · exact sAlloc rfl rfl rfl hz rfl rfl rfl rfl nd_slice al_n64
    · exact sStore rfl rfl rfl rfl rfl (by kernel_rfl) (by kernel_rfl) rfl (Src.dep (j := 6) (t := 12) (by kernel_rfl) (by kernel_rfl) rfl) st_n64
    · exact sStore rfl rfl rfl rfl rfl (by kernel_rfl) (by kernel_rfl) rfl (Src.dep (j := 7) (t := 13) (by kernel_rfl) (by kernel_rfl) rfl) st_n64
    · exact sAs rfl rfl rfl hz rfl (Gd.none_ rfl) rfl (Src.dep (j := 8) (t := 14) (by kernel_rfl) (by kernel_rfl) rfl)
  intro a' γ' W' hz' hd' hC hk hh
  have ep1 := Cp1.lt
  have ep2 := Cp2.lt
  clear Cp1
  have tp2 := Cp2.lt
  replace Cp2 := Cell.aft Cp2 hC rfl
  clear S1
  replace S2 := hk 2 _ (by kernel_rfl) S2
  obtain ⟨p3, S3, Cp3, lp3, gp3⟩ := gotB hz' 11 hC hh rfl rfl rfl rfl rfl rfl
  obtain ⟨p4, S4, Cp4, lp4, gp4⟩ := gotB hz' 12 hC hh rfl rfl rfl rfl rfl rfl
  have n_p3_p2 : p3 ≠ p2 := by omega
  have n_p4_p2 : p4 ≠ p2 := by omega
  have n_p4_p3 : p4 ≠ p3 := by intro e; rw [e, gp3] at gp4; omega
  have n_p2_p3 : p2 ≠ p3 := by have := ep2; omega
  have bp3 : w.heap.size ≤ p3 := Nat.le_trans HB.size lp3
  clear lp3 gp3 lp4 gp4
  clear tp2
  clear ep1 ep2
  replace HB := aft_call HB (RelC.below_nil hC)
  clear hC hk hh; replace hz := hz'; replace hd := hd'; clear hz' hd'
  refine wp_seq ?_
  refine wp_seq ?_
  refine region_text (M := []) (
      rT (tN B64 l1 (modOf p (und q))) ::
      rT (tV (.int .i64 ((bl (modOf p (und q)) : Nat) : Int))) ::
      rT (tV (.bool false)) ::
      []) hz hd (by kernel_rfl) ?_ ?_
  · refine ⟨?_, ?_, ?_, trivial⟩
    · exact sLoad rfl rfl rfl hz rfl (Gd.none_ rfl) rfl (Src.out (t := 4) (by kernel_rfl) S4 rfl) Cp4 rfl ld_n64
    · exact sCall rfl rfl rfl hz rfl (Gd.none_ rfl) rfl Try.func47 (by kernel_rfl) (by kernel_rfl) fun a γ w U => (by show Calls _ _ #[a.eval (.tmp 15)] _ _; exact c_len (Src.at_ (Src.dep (j := 0) (t := 15) (by kernel_rfl) (by kernel_rfl) rfl) U) (by rw [big_eq]; omega))
    · exact sBin rfl rfl rfl hz rfl (Gd.none_ rfl) rfl (Src.dep (j := 1) (t := 16) (by kernel_rfl) (by kernel_rfl) rfl) (Src.const (.int .i64 0)) (fun w => by first | (simp [go_sem, hm]; done) | (simp [go_sem]; omega))
  intro a' γ' W' hz' hd' hC hk hh
  have tp2 := Cp2.lt
  replace Cp2 := Cell.aft Cp2 hC rfl
  have tp3 := Cp3.lt
  replace Cp3 := Cell.aft Cp3 hC rfl
  clear Cp4
  replace S2 := hk 2 _ (by kernel_rfl) S2
  replace S3 := hk 3 _ (by kernel_rfl) S3
  clear S4
  have S17 := gotV hz' 2 hh rfl rfl rfl rfl
  clear tp2 tp3
  replace HB := aft_call HB (RelC.below_nil hC)
  clear hC hk hh; replace hz := hz'; replace hd := hd'; clear hz' hd'
  refine wp_cond_false S17.ev ?_
  refine wp_skip ?_
  refine wp_seq ?_
  refine region_text (M := [p2]) (
      rT (tN B64 l1 (p / (und q))) ::
      rE 0 27 (tN B64 l1 (p / (und q))) p2 ::
      []) hz hd (by kernel_rfl) ?_ ?_
  · refine ⟨?_, ?_, trivial⟩
    · exact sLoad rfl rfl rfl hz rfl (Gd.none_ rfl) rfl (Src.out (t := 3) (by kernel_rfl) S3 rfl) Cp3 (by simp [tagOf, n_p3_p2]) ld_n64
    · exact sStoreE rfl rfl rfl rfl rfl (Src.out (t := 2) (by kernel_rfl) S2 rfl) (by simp [tagOf]) (Cp2.var tN_nd) (Src.dep (j := 0) (t := 21) (by kernel_rfl) (by kernel_rfl) rfl) st_n64
  intro a' γ' W' hz' hd' hC hk hh
  replace Cp2 := gotE (T := tN B64 l1 (p / (und q))) (id := 27) (p := p2) 1 hh rfl rfl
  have tp3 := Cp3.lt
  clear Cp3
  replace S2 := hk 2 _ (by kernel_rfl) S2
  clear S3
  clear S17
  clear tp3
  replace HB := RelC.aftM HB hC (by intro m hm; simp at hm; rcases hm with rfl <;> assumption)
  clear hC hk hh; replace hz := hz'; replace hd := hd'; clear hz' hd'
  refine wp_ret ?_
  exact ret1_n64 (by kernel_rfl) S2 hd Cp2 HB

set_option maxRecDepth 10000 in
set_option maxHeartbeats 2000000 in
theorem c_rceil_u {l1 l2 l3 l4 p q p' q' : Nat} {v0 : Value} {w : World} (h0 : (tR B64 l1 l2 p q).p v0 w) (b1 : l1 ≤ 100000000) (b2 : l2 ≤ 100000000) (b3 : l3 ≤ 100000000) (b4 : l4 ≤ 100000000) (hm : 0 < bl (modOf p (und q))) :
    Calls Try.prog 28 #[v0] w (Ret (tN B64 ((max l1 1) + 1) ((p / (und q)) + 1)) w) := by
  refine enter Try.func28 rfl Try.ntmps28 (by simp) ?_
  intro a hz hd ha
  have S0 := ha 0 _ rfl
  have H0 := h0
  clear ha
  have HB : Below w.heap.size w w := Below.refl _ _
  refine wp_seq ?_
  refine region_text (M := []) (
      rB 0 29 (tR B64 l1 l2 p q) none 0 ::
      rB 1 27 (tN B64 0 0) none 0 ::
      []) hz hd (by kernel_rfl) ?_ ?_
  · refine ⟨?_, ?_, trivial⟩
    · exact sBox rfl rfl rfl hz rfl rfl rfl (Src.out (t := 0) (by kernel_rfl) S0 H0) box_r64
    · exact sNew rfl rfl rfl hz rfl rfl rfl (fun _ => tN_nil) al_n64
  intro a' γ' W' hz' hd' hC hk hh
  clear S0 H0
  obtain ⟨p1, S1, Cp1, lp1, gp1⟩ := gotB hz' 0 hC hh rfl rfl rfl rfl rfl rfl
  obtain ⟨p2, S2, Cp2, lp2, gp2⟩ := gotB hz' 1 hC hh rfl rfl rfl rfl rfl rfl
  have n_p1_p2 : p1 ≠ p2 := by intro e; rw [e, gp2] at gp1; omega
  have bp2 : w.heap.size ≤ p2 := Nat.le_trans HB.size lp2
  clear lp1 gp1 lp2 gp2
  replace HB := aft_call HB (RelC.below_nil hC)
  clear hC hk hh; replace hz := hz'; replace hd := hd'; clear hz' hd'
  refine wp_seq ?_
  refine region_drawn (M := []) (
      rT (tV (.pointer (some ⟨p1, 0, none⟩))) ::
      rT (tN B64 l1 p) ::
      rT (tR B64 l1 l2 p q) ::
      rT (tN B64 (l2 + 1) (und q)) ::
      rT (tT [tN B64 l1 (p / (und q)), tN B64 l1 (modOf p (und q)), tV (.bool (nz (und q)))]) ::
      rT (tT [tN B64 l1 (p / (und q)), tN B64 l1 (modOf p (und q)), tV (.bool (nz (und q)))]) ::
      rT (tN B64 l1 (p / (und q))) ::
      rT (tN B64 l1 (modOf p (und q))) ::
      rT (tV (.bool (nz (und q)))) ::
      rVar 9 27 1 ::
      rVar 10 27 1 ::
      rB 9 27 (tN B64 l1 (p / (und q))) (some 9) 10 ::
      rB 10 27 (tN B64 l1 (modOf p (und q))) (some 10) 11 ::
      rT (tV (.bool (nz (und q)))) ::
      []) hz hd (by kernel_rfl) (by kernel_rfl) ?_ ?_
  · refine ⟨?_, ?_, ?_, ?_, ?_, ?_, ?_, ?_, ?_, ?_, ?_, ?_, ?_, ?_, trivial⟩
    · exact sFA rfl rfl rfl hz rfl (Gd.none_ rfl) rfl (Src.out (t := 1) (by kernel_rfl) S1 rfl) (fun w => by simp [go_sem])
    · exact sLoadP rfl rfl rfl hz rfl (Gd.none_ rfl) rfl (Src.dep (j := 0) (t := 7) (by kernel_rfl) (by kernel_rfl) rfl) Cp1 rfl ldp_r64
    · exact sLoad rfl rfl rfl hz rfl (Gd.none_ rfl) rfl (Src.out (t := 1) (by kernel_rfl) S1 rfl) Cp1 rfl ld_r64
    · exact sCall rfl rfl rfl hz rfl (Gd.none_ rfl) rfl Try.func54 (by kernel_rfl) (by kernel_rfl) fun a γ w U => (by show Calls _ _ #[a.eval (.tmp 9)] _ _; exact c_under (Src.at_ (Src.dep (j := 2) (t := 9) (by kernel_rfl) (by kernel_rfl) rfl) U) (by omega) (by omega))
    · exact sCall rfl rfl rfl hz rfl (Gd.none_ rfl) rfl Try.func59 (by kernel_rfl) (by kernel_rfl) fun a γ w U => (by show Calls _ _ #[a.eval (.tmp 8), a.eval (.tmp 10)] _ _; exact c_divmod (Src.at_ (Src.dep (j := 1) (t := 8) (by kernel_rfl) (by kernel_rfl) rfl) U) (Src.at_ (Src.dep (j := 3) (t := 10) (by kernel_rfl) (by kernel_rfl) rfl) U) (by rw [big_eq]; omega) (by rw [big_eq]; omega))
    · exact sMv rfl rfl rfl hz rfl (Gd.none_ rfl) rfl (Src.dep (j := 4) (t := 11) (by kernel_rfl) (by kernel_rfl) rfl)
    · exact sExt rfl rfl rfl hz rfl (Gd.none_ rfl) rfl (Src.dep (j := 5) (t := 6) (by kernel_rfl) (by kernel_rfl) rfl) rfl
    · exact sExt rfl rfl rfl hz rfl (Gd.none_ rfl) rfl (Src.dep (j := 5) (t := 6) (by kernel_rfl) (by kernel_rfl) rfl) rfl
    · exact sExt rfl rfl rfl hz rfl (Gd.none_ rfl) rfl (Src.dep (j := 5) (t := 6) (by kernel_rfl) (by kernel_rfl) rfl) rfl
    · exact sAlloc rfl rfl rfl hz rfl rfl rfl rfl nd_slice al_n64
    · exact sAlloc rfl rfl rfl hz rfl rfl rfl rfl nd_slice al_n64
    · exact sStore rfl rfl rfl rfl rfl (by kernel_rfl) (by kernel_rfl) rfl (Src.dep (j := 6) (t := 12) (by kernel_rfl) (by kernel_rfl) rfl) st_n64
    · exact sStore rfl rfl rfl rfl rfl (by kernel_rfl) (by kernel_rfl) rfl (Src.dep (j := 7) (t := 13) (by kernel_rfl) (by kernel_rfl) rfl) st_n64
    · exact sAs rfl rfl rfl hz rfl (Gd.none_ rfl) rfl (Src.dep (j := 8) (t := 14) (by kernel_rfl) (by kernel_rfl) rfl)
  intro a' γ' W' hz' hd' hC hk hh
  have ep1 := Cp1.lt
  have ep2 := Cp2.lt
  clear Cp1
  have tp2 := Cp2.lt
  replace Cp2 := Cell.aft Cp2 hC rfl
  clear S1
  replace S2 := hk 2 _ (by kernel_rfl) S2
  obtain ⟨p3, S3, Cp3, lp3, gp3⟩ := gotB hz' 11 hC hh rfl rfl rfl rfl rfl rfl
  obtain ⟨p4, S4, Cp4, lp4, gp4⟩ := gotB hz' 12 hC hh rfl rfl rfl rfl rfl rfl
  have n_p3_p2 : p3 ≠ p2 := by omega
  have n_p4_p2 : p4 ≠ p2 := by omega
  have n_p4_p3 : p4 ≠ p3 := by intro e; rw [e, gp3] at gp4; omega
  have n_p2_p3 : p2 ≠ p3 := by have := ep2; omega
  have bp3 : w.heap.size ≤ p3 := Nat.le_trans HB.size lp3
  clear lp3 gp3 lp4 gp4
  clear tp2
  clear ep1 ep2
  replace HB := aft_call HB (RelC.below_nil hC)
  clear hC hk hh; replace hz := hz'; replace hd := hd'; clear hz' hd'
  refine wp_seq ?_
  refine wp_seq ?_
  refine region_text (M := []) (
      rT (tN B64 l1 (modOf p (und q))) ::
      rT (tV (.int .i64 ((bl (modOf p (und q)) : Nat) : Int))) ::
      rT (tV (.bool true)) ::
      []) hz hd (by kernel_rfl) ?_ ?_
  · refine ⟨?_, ?_, ?_, trivial⟩
    · exact sLoad rfl rfl rfl hz rfl (Gd.none_ rfl) rfl (Src.out (t := 4) (by kernel_rfl) S4 rfl) Cp4 rfl ld_n64
    · exact sCall rfl rfl rfl hz rfl (Gd.none_ rfl) rfl Try.func47 (by kernel_rfl) (by kernel_rfl) fun a γ w U => (by show Calls _ _ #[a.eval (.tmp 15)] _ _; exact c_len (Src.at_ (Src.dep (j := 0) (t := 15) (by kernel_rfl) (by kernel_rfl) rfl) U) (by rw [big_eq]; omega))
    · exact sBin rfl rfl rfl hz rfl (Gd.none_ rfl) rfl (Src.dep (j := 1) (t := 16) (by kernel_rfl) (by kernel_rfl) rfl) (Src.const (.int .i64 0)) (fun w => by first | (simp [go_sem, hm]; done) | (simp [go_sem]; omega))
  intro a' γ' W' hz' hd' hC hk hh
  have tp2 := Cp2.lt
  replace Cp2 := Cell.aft Cp2 hC rfl
  have tp3 := Cp3.lt
  replace Cp3 := Cell.aft Cp3 hC rfl
  clear Cp4
  replace S2 := hk 2 _ (by kernel_rfl) S2
  replace S3 := hk 3 _ (by kernel_rfl) S3
  clear S4
  have S17 := gotV hz' 2 hh rfl rfl rfl rfl
  clear tp2 tp3
  replace HB := aft_call HB (RelC.below_nil hC)
  clear hC hk hh; replace hz := hz'; replace hd := hd'; clear hz' hd'
  refine wp_cond_true S17.ev ?_
  refine region_drawn (M := [p3]) (
      rT (tN B64 l1 (p / (und q))) ::
      rT (tN B64 1 1) ::
      rT (tN B64 ((max l1 1) + 1) ((p / (und q)) + 1)) ::
      rE 0 27 (tN B64 ((max l1 1) + 1) ((p / (und q)) + 1)) p3 ::
      []) hz hd (by kernel_rfl) (by kernel_rfl) ?_ ?_
  · refine ⟨?_, ?_, ?_, ?_, trivial⟩
    · exact sLoadM rfl rfl rfl hz rfl (Gd.none_ rfl) rfl (Src.out (t := 3) (by kernel_rfl) S3 rfl) Cp3 (k := 0) (by simp [tagOf]) (by kernel_rfl) ld_n64
    · exact sCall rfl rfl rfl hz rfl (Gd.none_ rfl) rfl Try.func60 (by kernel_rfl) (by kernel_rfl) fun a γ w U => (by show Calls _ _ #[] _ _; exact c_one (l1 := 0) (l2 := 0) (l3 := 0) (l4 := 0) (p := 0) (q := 0) (p' := 0) (q' := 0))
    · exact sCall rfl rfl rfl hz rfl (Gd.none_ rfl) rfl Try.func53 (by kernel_rfl) (by kernel_rfl) fun a γ w U => (by show Calls _ _ #[a.eval (.tmp 18), a.eval (.tmp 19)] _ _; exact c_add (Src.at_ (Src.dep (j := 0) (t := 18) (by kernel_rfl) (by kernel_rfl) rfl) U) (Src.at_ (Src.dep (j := 1) (t := 19) (by kernel_rfl) (by kernel_rfl) rfl) U) (by rw [big_eq]; omega) (by decide))
    · exact sStoreE rfl rfl rfl rfl rfl (Src.out (t := 3) (by kernel_rfl) S3 rfl) (by simp [tagOf]) (Cp3.var tN_nd) (Src.dep (j := 2) (t := 20) (by kernel_rfl) (by kernel_rfl) rfl) st_n64
  intro a' γ' W' hz' hd' hC hk hh
  have tp2 := Cp2.lt
  replace Cp2 := Cell.aft Cp2 hC (by simp [tagOf, n_p2_p3])
  replace Cp3 := gotE (T := tN B64 ((max l1 1) + 1) ((p / (und q)) + 1)) (id := 27) (p := p3) 3 hh rfl rfl
  replace S2 := hk 2 _ (by kernel_rfl) S2
  replace S3 := hk 3 _ (by kernel_rfl) S3
  clear S17
  clear tp2
  replace HB := RelC.aftM HB hC (by intro m hm; simp at hm; rcases hm with rfl <;> assumption)
  clear hC hk hh; replace hz := hz'; replace hd := hd'; clear hz' hd'
  refine wp_seq ?_
  refine region_text (M := [p2]) (
      rT (tN B64 ((max l1 1) + 1) ((p / (und q)) + 1)) ::
      rE 0 27 (tN B64 ((max l1 1) + 1) ((p / (und q)) + 1)) p2 ::
      []) hz hd (by kernel_rfl) ?_ ?_
  · refine ⟨?_, ?_, trivial⟩
    · exact sLoad rfl rfl rfl hz rfl (Gd.none_ rfl) rfl (Src.out (t := 3) (by kernel_rfl) S3 rfl) Cp3 (by simp [tagOf, n_p3_p2]) ld_n64
    · exact sStoreE rfl rfl rfl rfl rfl (Src.out (t := 2) (by kernel_rfl) S2 rfl) (by simp [tagOf]) (Cp2.var tN_nd) (Src.dep (j := 0) (t := 21) (by kernel_rfl) (by kernel_rfl) rfl) st_n64
  intro a' γ' W' hz' hd' hC hk hh
  replace Cp2 := gotE (T := tN B64 ((max l1 1) + 1) ((p / (und q)) + 1)) (id := 27) (p := p2) 1 hh rfl rfl
  have tp3 := Cp3.lt
  clear Cp3
  replace S2 := hk 2 _ (by kernel_rfl) S2
  clear S3
  clear tp3
  replace HB := RelC.aftM HB hC (by intro m hm; simp at hm; rcases hm with rfl <;> assumption)
  clear hC hk hh; replace hz := hz'; replace hd := hd'; clear hz' hd'
  refine wp_ret ?_
  exact ret1_n64 (by kernel_rfl) S2 hd Cp2 HB

end Go.Proofs.Ythanbjbcpljcoaa.Rg

namespace Go.Proofs.Ythanbjbcpljcoaa.Rg

open Go.RowKit

section

variable {l l1 l2 : Nat} {x y : Rat} {v0 v1 : Value} {w : World}
theorem bl_pos {n : Nat} (h : n ≠ 0) : 0 < bl n := by
  rcases Nat.eq_zero_or_pos (bl n) with h1 | h1
  · exfalso; have := bl_lt (x := n); rw [h1] at this; simp at this; exact h this
  · exact h1
theorem cq_cmp (h0 : (tQ B64 l1 x).p v0 w) (h1 : (tQ B64 l2 y).p v1 w) (b1 : l1 ≤ 100000000) (b2 : l2 ≤ 100000000) : Calls Try.prog 38 #[v0, v1] w (Ret (tV (.int .i64 (cmpQ x y))) w) := by
  obtain ⟨p, q, h, e1, e2, -, h3, h4⟩ := h0
  obtain ⟨p', q', h', e1', e2', -, h3', h4'⟩ := h1
  rw [← q_cmp e1 e2 e1' e2']
  exact c_rcmp h h' (by omega) (by omega) (by omega) (by omega)
theorem cq_add (h0 : (tQ B64 l1 x).p v0 w) (h1 : (tQ B64 l2 y).p v1 w) (b1 : l1 ≤ 100000000) (b2 : l2 ≤ 100000000) : Calls Try.prog 17 #[v0, v1] w (Ret (tQ B64 (l1 + l2 + 1) (x + y)) w) := by
  obtain ⟨p, q, h, e1, e2, -, h3, h4⟩ := h0
  obtain ⟨p', q', h', e1', e2', -, h3', h4'⟩ := h1
  refine (c_radd h h' (by omega) (by omega) (by omega) (by omega)).mono ?_
  rintro e w' ⟨v, rfl, hv, hb⟩
  exact ⟨v, rfl, tQ_low (by decide) hv (Nat.mul_ne_zero (und_ne _) (und_ne _)) (q_add e1 e2 e1' e2') (bits_cross h3 h4 h3' h4') (bits_le (bits_mul h4 h4') (by omega)), hb⟩
theorem cq_mul (h0 : (tQ B64 l1 x).p v0 w) (h1 : (tQ B64 l2 y).p v1 w) (b1 : l1 ≤ 100000000) (b2 : l2 ≤ 100000000) : Calls Try.prog 39 #[v0, v1] w (Ret (tQ B64 (l1 + l2) (x * y)) w) := by
  obtain ⟨p, q, h, e1, e2, -, h3, h4⟩ := h0
  obtain ⟨p', q', h', e1', e2', -, h3', h4'⟩ := h1
  refine (c_rmul h h' (by omega) (by omega) (by omega) (by omega)).mono ?_
  rintro e w' ⟨v, rfl, hv, hb⟩
  exact ⟨v, rfl, tQ_low (by decide) hv (Nat.mul_ne_zero (und_ne _) (und_ne _)) (q_mul e1 e2 e1' e2') (bits_mul h3 h3') (bits_mul h4 h4'), hb⟩
/-- x - y, 0 if y is above x. -/
def subQ (x y : Rat) : Rat := if y ≤ x then x - y else 0
theorem cq_sub (h0 : (tQ B64 l1 x).p v0 w) (h1 : (tQ B64 l2 y).p v1 w) (b1 : l1 ≤ 100000000) (b2 : l2 ≤ 100000000) : Calls Try.prog 37 #[v0, v1] w (Ret (tT [tQ B64 (l1 + l2 + 1) (subQ x y), tV (.bool (decide (y ≤ x)))]) w) := by
  obtain ⟨p, q, h, e1, e2, -, h3, h4⟩ := h0
  obtain ⟨p', q', h', e1', e2', -, h3', h4'⟩ := h1
  by_cases hs : p' * und q ≤ p * und q'
  · have hy : y ≤ x := (q_le e1 e2 e1' e2').2 hs
    refine (c_rsub_g h h' (by omega) (by omega) (by omega) (by omega) (decide_eq_true hs)).mono ?_
    rintro e w' ⟨v, rfl, ⟨m, rfl, hv⟩, hb⟩
    match m, hv with
    | [u1, u2], ⟨hv, hv2, _⟩ =>
      refine ⟨_, rfl, ⟨_, rfl, ?_, by rw [decide_eq_true hy]; exact hv2, trivial⟩, hb⟩
      unfold subQ; rw [if_pos hy]
      exact tQ_low (by decide) hv (Nat.mul_ne_zero (und_ne _) (und_ne _)) (q_sub e1 e2 e1' e2' hs) (Nat.lt_of_le_of_lt (Nat.sub_le _ _) (bits_le (bits_mul h3 h4') (by omega))) (bits_le (bits_mul h4 h4') (by omega))
  · have hy : ¬ y ≤ x := fun h => hs ((q_le e1 e2 e1' e2').1 h)
    refine (c_rsub_l h h' (by omega) (by omega) (by omega) (by omega) (decide_eq_false hs)).mono ?_
    rintro e w' ⟨v, rfl, ⟨m, rfl, hv⟩, hb⟩
    match m, hv with
    | [u1, u2], ⟨hv, hv2, _⟩ =>
      refine ⟨_, rfl, ⟨_, rfl, ?_, by rw [decide_eq_false hy]; exact hv2, trivial⟩, hb⟩
      unfold subQ; rw [if_neg hy]
      exact tQ_le (by decide) (by omega) _ _ (tQ_0 hv)
theorem cq_div (h0 : (tQ B64 l1 x).p v0 w) (h1 : (tQ B64 l2 y).p v1 w) (b1 : l1 ≤ 100000000) (b2 : l2 ≤ 100000000) : Calls Try.prog 40 #[v0, v1] w (Ret (tT [tQ B64 (l1 + l2 + 1) (x / y), tV (.bool (decide (y ≠ 0)))]) w) := by
  obtain ⟨p, q, h, e1, e2, -, h3, h4⟩ := h0
  obtain ⟨p', q', h', e1', e2', -, h3', h4'⟩ := h1
  by_cases hs : p' = 0
  · have hy : y = 0 := (q_zero e1').1 hs
    subst hs
    refine (c_rdiv_z h h' (by omega) (by omega) (by omega) (by omega) bl_zero).mono ?_
    rintro e w' ⟨v, rfl, ⟨m, rfl, hv⟩, hb⟩
    match m, hv with
    | [u1, u2], ⟨hv, hv2, _⟩ =>
      refine ⟨_, rfl, ⟨_, rfl, ?_, by rw [decide_eq_false (fun h => h hy)]; exact hv2, trivial⟩, hb⟩
      rw [hy, Rat.div_def, Rat.inv_zero, Rat.mul_zero]
      exact tQ_le (by decide) (by omega) _ _ (tQ_0 hv)
  · have hy : y ≠ 0 := fun h => hs ((q_zero e1').2 h)
    have hl : bl p' ≠ 0 := fun h => hs (by have := bl_lt (x := p'); rw [h] at this; simpa using this)
    refine (c_rdiv_p h h' (by omega) (by omega) (by omega) (by omega) hl).mono ?_
    rintro e w' ⟨v, rfl, ⟨m, rfl, hv⟩, hb⟩
    match m, hv with
    | [u1, u2], ⟨hv, hv2, _⟩ =>
      refine ⟨_, rfl, ⟨_, rfl, ?_, by rw [decide_eq_true hy]; exact hv2, trivial⟩, hb⟩
      exact tQ_low (by decide) hv (Nat.mul_ne_zero (und_ne _) hs) (q_div e1 e2 e1' e2') (bits_le (bits_mul h3 h4') (by omega)) (bits_le (bits_mul h4 h3') (by omega))
theorem cq_floor (h0 : (tQ B64 l1 x).p v0 w) (b1 : l1 ≤ 100000000) : Calls Try.prog 27 #[v0] w (Ret (tN B64 l1 x.floor.toNat) w) := by
  obtain ⟨p, q, h, e1, e2, -, h3, h4⟩ := h0
  rw [← q_floor e1 e2]
  exact c_rfloor (l3 := 0) (l4 := 0) (p' := 0) (q' := 0) h (by omega) (by omega) (by omega) (by omega)
theorem cq_ceil (h0 : (tQ B64 l1 x).p v0 w) (b1 : l1 ≤ 100000000) : Calls Try.prog 28 #[v0] w (Ret (tN B64 (l1 + 1) x.ceil.toNat) w) := by
  obtain ⟨p, q, h, e1, e2, -, h3, h4⟩ := h0
  have h1 : 1 ≤ l1 := by
    rcases Nat.eq_zero_or_pos l1 with h | h
    · subst h; have := und_pos q; simp at h4; omega
    · omega
  have hm : modOf p (und q) = p % und q := by unfold modOf; rw [if_neg (und_ne q)]
  by_cases hz : p % und q = 0
  · rw [← q_ceil0 e1 e2 hz]
    refine (c_rceil_w (l3 := 0) (l4 := 0) (p' := 0) (q' := 0) h (by omega) (by omega) (by omega) (by omega) (by rw [hm, hz]; exact bl_zero)).mono ?_
    rintro e w' ⟨v, rfl, hv, hb⟩
    exact ⟨v, rfl, tN_le (by omega) _ _ hv, hb⟩
  · rw [← q_ceil1 e1 e2 hz]
    refine (c_rceil_u (l3 := 0) (l4 := 0) (p' := 0) (q' := 0) h (by omega) (by omega) (by omega) (by omega) (by rw [hm]; exact bl_pos hz)).mono ?_
    rintro e w' ⟨v, rfl, hv, hb⟩
    exact ⟨v, rfl, tN_le (by rw [Nat.max_eq_left h1]; omega) _ _ hv, hb⟩
theorem cq_parts (h0 : (tQ B64 l1 x).p v0 w) (b1 : l1 ≤ 100000000) : Calls Try.prog 18 #[v0] w (Ret (tT [tN B64 l1 x.num.toNat, tN B64 (l1 + 1) x.den]) w) := by
  obtain ⟨p, q, h, e1, e2, -, h3, h4⟩ := h0
  rw [e1, e2]
  exact c_parts (l3 := 0) (l4 := 0) (p' := 0) (q' := 0) h (by omega) (by omega) (by omega) (by omega)
end

end Go.Proofs.Ythanbjbcpljcoaa.Rg

namespace Go.Proofs.Ythanbjbcpljcoaa.Rg

open Go.RowKit

theorem cmpI_lt {x y : Nat} (h : x < y) : cmpI x y = -1 := by unfold cmpI; rw [if_pos h]
theorem cmpI_ge {x y : Nat} (h : y ≤ x) : cmpI x y = 0 ∨ cmpI x y = 1 := by
  unfold cmpI; rw [if_neg (by omega)]
  by_cases h1 : y < x
  · rw [if_pos h1]; exact .inr rfl
  · rw [if_neg h1]; exact .inl rfl

set_option maxRecDepth 10000 in
set_option maxHeartbeats 2000000 in
theorem d_made {l1 l2 p q : Nat} {v0 v1 : Value} {w : World} (h0 : (tN B32 l1 p).p v0 w) (h1 : (tN B32 l2 q).p v1 w) (b1 : l1 ≤ 1000000000) (b2 : l2 ≤ 1000000000) (hq : 0 < q) :
    Calls Try.prog 50 #[v0, v1] w (Ret (tR B32 l1 l2 (p / (Nat.gcd p q)) (q / (Nat.gcd p q))) w) := by
  refine enter Try.func50 rfl Try.ntmps50 (by simp) ?_
  intro a hz hd ha
  have S0 := ha 0 _ rfl
  have H0 := h0
  have S1 := ha 1 _ rfl
  have H1 := h1
  clear ha
  have HB : Below w.heap.size w w := Below.refl _ _
  refine wp_seq ?_
  refine region_text (M := []) (
      rB 0 31 (tN B32 l1 p) none 0 ::
      rB 1 31 (tN B32 l2 q) none 0 ::
      rB 2 33 (tR B32 0 0 0 0) none 0 ::
      []) hz hd (by kernel_rfl) ?_ ?_
  · refine ⟨?_, ?_, ?_, trivial⟩
    · exact sBox rfl rfl rfl hz rfl rfl rfl (Src.out (t := 0) (by kernel_rfl) S0 H0) box_n32
    · exact sBox rfl rfl rfl hz rfl rfl rfl (Src.out (t := 1) (by kernel_rfl) S1 H1) box_n32
    · exact sNew rfl rfl rfl hz rfl rfl rfl (fun _ => tR_nil) al_r32
  intro a' γ' W' hz' hd' hC hk hh
  clear S0 H0
  clear S1 H1
  obtain ⟨p1, S2, Cp1, lp1, gp1⟩ := gotB hz' 0 hC hh rfl rfl rfl rfl rfl rfl
  obtain ⟨p2, S3, Cp2, lp2, gp2⟩ := gotB hz' 1 hC hh rfl rfl rfl rfl rfl rfl
  obtain ⟨p3, S4, Cp3, lp3, gp3⟩ := gotB hz' 2 hC hh rfl rfl rfl rfl rfl rfl
  have n_p1_p3 : p1 ≠ p3 := by intro e; rw [e, gp3] at gp1; omega
  have n_p2_p3 : p2 ≠ p3 := by intro e; rw [e, gp3] at gp2; omega
  have bp3 : w.heap.size ≤ p3 := Nat.le_trans HB.size lp3
  clear lp1 gp1 lp2 gp2 lp3 gp3
  replace HB := aft_call HB (RelC.below_nil hC)
  clear hC hk hh; replace hz := hz'; replace hd := hd'; clear hz' hd'
  refine wp_seq ?_
  refine region_text (M := []) (
      rT (tN B32 l1 p) ::
      rT (tN B32 l2 q) ::
      rT (tN B32 (max l1 l2) (Nat.gcd p q)) ::
      rVar 3 31 1 ::
      rB 3 31 (tN B32 (max l1 l2) (Nat.gcd p q)) (some 3) 4 ::
      []) hz hd (by kernel_rfl) ?_ ?_
  · refine ⟨?_, ?_, ?_, ?_, ?_, trivial⟩
    · exact sLoad rfl rfl rfl hz rfl (Gd.none_ rfl) rfl (Src.out (t := 2) (by kernel_rfl) S2 rfl) Cp1 rfl ld_n32
    · exact sLoad rfl rfl rfl hz rfl (Gd.none_ rfl) rfl (Src.out (t := 3) (by kernel_rfl) S3 rfl) Cp2 rfl ld_n32
    · exact sCall rfl rfl rfl hz rfl (Gd.none_ rfl) rfl Try.func25 (by kernel_rfl) (by kernel_rfl) fun a γ w U => (by show Calls _ _ #[a.eval (.tmp 10), a.eval (.tmp 11)] _ _; exact d_gcd (Src.at_ (Src.dep (j := 0) (t := 10) (by kernel_rfl) (by kernel_rfl) rfl) U) (Src.at_ (Src.dep (j := 1) (t := 11) (by kernel_rfl) (by kernel_rfl) rfl) U) (by rw [big_eq]; omega) (by rw [big_eq]; omega))
    · exact sAlloc rfl rfl rfl hz rfl rfl rfl rfl nd_slice al_n32
    · exact sStore rfl rfl rfl rfl rfl (by kernel_rfl) (by kernel_rfl) rfl (Src.dep (j := 2) (t := 12) (by kernel_rfl) (by kernel_rfl) rfl) st_n32
  intro a' γ' W' hz' hd' hC hk hh
  replace Cp1 := Cell.aft Cp1 hC rfl
  replace Cp2 := Cell.aft Cp2 hC rfl
  have tp3 := Cp3.lt
  replace Cp3 := Cell.aft Cp3 hC rfl
  replace S2 := hk 2 _ (by kernel_rfl) S2
  replace S3 := hk 3 _ (by kernel_rfl) S3
  replace S4 := hk 4 _ (by kernel_rfl) S4
  obtain ⟨p4, S5, Cp4, lp4, gp4⟩ := gotB hz' 4 hC hh rfl rfl rfl rfl rfl rfl
  have n_p4_p3 : p4 ≠ p3 := by omega
  clear lp4 gp4
  clear tp3
  replace HB := aft_call HB (RelC.below_nil hC)
  clear hC hk hh; replace hz := hz'; replace hd := hd'; clear hz' hd'
  refine wp_seq ?_
  refine region_text (M := []) (
      rT (tN B32 l1 p) ::
      rT (tN B32 (max l1 l2) (Nat.gcd p q)) ::
      rT (tT [tN B32 l1 (p / (Nat.gcd p q)), tN B32 l1 (p % (Nat.gcd p q))]) ::
      rT (tT [tN B32 l1 (p / (Nat.gcd p q)), tN B32 l1 (p % (Nat.gcd p q))]) ::
      rT (tN B32 l1 (p / (Nat.gcd p q))) ::
      rT (tN B32 l1 (p % (Nat.gcd p q))) ::
      rVar 6 31 1 ::
      rVar 7 31 1 ::
      rB 6 31 (tN B32 l1 (p / (Nat.gcd p q))) (some 6) 7 ::
      rB 7 31 (tN B32 l1 (p % (Nat.gcd p q))) (some 7) 8 ::
      []) hz hd (by kernel_rfl) ?_ ?_
  · refine ⟨?_, ?_, ?_, ?_, ?_, ?_, ?_, ?_, ?_, ?_, trivial⟩
    · exact sLoad rfl rfl rfl hz rfl (Gd.none_ rfl) rfl (Src.out (t := 2) (by kernel_rfl) S2 rfl) Cp1 rfl ld_n32
    · exact sLoad rfl rfl rfl hz rfl (Gd.none_ rfl) rfl (Src.out (t := 5) (by kernel_rfl) S5 rfl) Cp4 rfl ld_n32
    · exact sCall rfl rfl rfl hz rfl (Gd.none_ rfl) rfl Try.func57 (by kernel_rfl) (by kernel_rfl) fun a γ w U => (by show Calls _ _ #[a.eval (.tmp 14), a.eval (.tmp 15)] _ _; exact d_divmod (Src.at_ (Src.dep (j := 0) (t := 14) (by kernel_rfl) (by kernel_rfl) rfl) U) (Src.at_ (Src.dep (j := 1) (t := 15) (by kernel_rfl) (by kernel_rfl) rfl) U) (by rw [big_eq]; omega) (by rw [big_eq]; omega) (Nat.gcd_pos_of_pos_right _ hq))
    · exact sMv rfl rfl rfl hz rfl (Gd.none_ rfl) rfl (Src.dep (j := 2) (t := 16) (by kernel_rfl) (by kernel_rfl) rfl)
    · exact sExt rfl rfl rfl hz rfl (Gd.none_ rfl) rfl (Src.dep (j := 3) (t := 13) (by kernel_rfl) (by kernel_rfl) rfl) rfl
    · exact sExt rfl rfl rfl hz rfl (Gd.none_ rfl) rfl (Src.dep (j := 3) (t := 13) (by kernel_rfl) (by kernel_rfl) rfl) rfl
    · exact sAlloc rfl rfl rfl hz rfl rfl rfl rfl nd_slice al_n32
    · exact sAlloc rfl rfl rfl hz rfl rfl rfl rfl nd_slice al_n32
    · exact sStore rfl rfl rfl rfl rfl (by kernel_rfl) (by kernel_rfl) rfl (Src.dep (j := 4) (t := 17) (by kernel_rfl) (by kernel_rfl) rfl) st_n32
    · exact sStore rfl rfl rfl rfl rfl (by kernel_rfl) (by kernel_rfl) rfl (Src.dep (j := 5) (t := 18) (by kernel_rfl) (by kernel_rfl) rfl) st_n32
  intro a' γ' W' hz' hd' hC hk hh
  clear Cp1
  replace Cp2 := Cell.aft Cp2 hC rfl
  have tp3 := Cp3.lt
  replace Cp3 := Cell.aft Cp3 hC rfl
  replace Cp4 := Cell.aft Cp4 hC rfl
  clear S2
  replace S3 := hk 3 _ (by kernel_rfl) S3
  replace S4 := hk 4 _ (by kernel_rfl) S4
  replace S5 := hk 5 _ (by kernel_rfl) S5
  obtain ⟨p5, S6, Cp5, lp5, gp5⟩ := gotB hz' 8 hC hh rfl rfl rfl rfl rfl rfl
  have n_p5_p3 : p5 ≠ p3 := by omega
  clear lp5 gp5
  clear tp3
  replace HB := aft_call HB (RelC.below_nil hC)
  clear hC hk hh; replace hz := hz'; replace hd := hd'; clear hz' hd'
  refine wp_seq ?_
  refine region_text (M := []) (
      rT (tN B32 l2 q) ::
      rT (tN B32 (max l1 l2) (Nat.gcd p q)) ::
      rT (tT [tN B32 l2 (q / (Nat.gcd p q)), tN B32 l2 (q % (Nat.gcd p q))]) ::
      rT (tT [tN B32 l2 (q / (Nat.gcd p q)), tN B32 l2 (q % (Nat.gcd p q))]) ::
      rT (tN B32 l2 (q / (Nat.gcd p q))) ::
      rT (tN B32 l2 (q % (Nat.gcd p q))) ::
      rVar 6 31 1 ::
      rVar 7 31 1 ::
      rB 6 31 (tN B32 l2 (q / (Nat.gcd p q))) (some 6) 7 ::
      rB 7 31 (tN B32 l2 (q % (Nat.gcd p q))) (some 7) 8 ::
      []) hz hd (by kernel_rfl) ?_ ?_
  · refine ⟨?_, ?_, ?_, ?_, ?_, ?_, ?_, ?_, ?_, ?_, trivial⟩
    · exact sLoad rfl rfl rfl hz rfl (Gd.none_ rfl) rfl (Src.out (t := 3) (by kernel_rfl) S3 rfl) Cp2 rfl ld_n32
    · exact sLoad rfl rfl rfl hz rfl (Gd.none_ rfl) rfl (Src.out (t := 5) (by kernel_rfl) S5 rfl) Cp4 rfl ld_n32
    · exact sCall rfl rfl rfl hz rfl (Gd.none_ rfl) rfl Try.func57 (by kernel_rfl) (by kernel_rfl) fun a γ w U => (by show Calls _ _ #[a.eval (.tmp 20), a.eval (.tmp 21)] _ _; exact d_divmod (Src.at_ (Src.dep (j := 0) (t := 20) (by kernel_rfl) (by kernel_rfl) rfl) U) (Src.at_ (Src.dep (j := 1) (t := 21) (by kernel_rfl) (by kernel_rfl) rfl) U) (by rw [big_eq]; omega) (by rw [big_eq]; omega) (Nat.gcd_pos_of_pos_right _ hq))
    · exact sMv rfl rfl rfl hz rfl (Gd.none_ rfl) rfl (Src.dep (j := 2) (t := 22) (by kernel_rfl) (by kernel_rfl) rfl)
    · exact sExt rfl rfl rfl hz rfl (Gd.none_ rfl) rfl (Src.dep (j := 3) (t := 19) (by kernel_rfl) (by kernel_rfl) rfl) rfl
    · exact sExt rfl rfl rfl hz rfl (Gd.none_ rfl) rfl (Src.dep (j := 3) (t := 19) (by kernel_rfl) (by kernel_rfl) rfl) rfl
    · exact sAlloc rfl rfl rfl hz rfl rfl rfl rfl nd_slice al_n32
    · exact sAlloc rfl rfl rfl hz rfl rfl rfl rfl nd_slice al_n32
    · exact sStore rfl rfl rfl rfl rfl (by kernel_rfl) (by kernel_rfl) rfl (Src.dep (j := 4) (t := 23) (by kernel_rfl) (by kernel_rfl) rfl) st_n32
    · exact sStore rfl rfl rfl rfl rfl (by kernel_rfl) (by kernel_rfl) rfl (Src.dep (j := 5) (t := 24) (by kernel_rfl) (by kernel_rfl) rfl) st_n32
  intro a' γ' W' hz' hd' hC hk hh
  clear Cp2
  have tp3 := Cp3.lt
  replace Cp3 := Cell.aft Cp3 hC rfl
  clear Cp4
  replace Cp5 := Cell.aft Cp5 hC rfl
  clear S3
  replace S4 := hk 4 _ (by kernel_rfl) S4
  clear S5
  replace S6 := hk 6 _ (by kernel_rfl) S6
  obtain ⟨p6, S8, Cp6, lp6, gp6⟩ := gotB hz' 8 hC hh rfl rfl rfl rfl rfl rfl
  have n_p6_p3 : p6 ≠ p3 := by omega
  clear lp6 gp6
  clear tp3
  replace HB := aft_call HB (RelC.below_nil hC)
  clear hC hk hh; replace hz := hz'; replace hd := hd'; clear hz' hd'
  refine wp_seq ?_
  refine region_text (M := [p3]) (
      rT (tN B32 l1 (p / (Nat.gcd p q))) ::
      rT (tN B32 l2 (q / (Nat.gcd p q))) ::
      rT (tR B32 l1 l2 (p / (Nat.gcd p q)) (q / (Nat.gcd p q))) ::
      rE 0 33 (tR B32 l1 l2 (p / (Nat.gcd p q)) (q / (Nat.gcd p q))) p3 ::
      []) hz hd (by kernel_rfl) ?_ ?_
  · refine ⟨?_, ?_, ?_, ?_, trivial⟩
    · exact sLoad rfl rfl rfl hz rfl (Gd.none_ rfl) rfl (Src.out (t := 6) (by kernel_rfl) S6 rfl) Cp5 (by simp [tagOf, n_p5_p3]) ld_n32
    · exact sLoad rfl rfl rfl hz rfl (Gd.none_ rfl) rfl (Src.out (t := 8) (by kernel_rfl) S8 rfl) Cp6 (by simp [tagOf, n_p6_p3]) ld_n32
    · exact sBuild2 rfl rfl rfl hz rfl (Gd.none_ rfl) rfl (Src.dep (j := 0) (t := 25) (by kernel_rfl) (by kernel_rfl) rfl) (Src.dep (j := 1) (t := 26) (by kernel_rfl) (by kernel_rfl) rfl) mk_r32
    · exact sStoreE rfl rfl rfl rfl rfl (Src.out (t := 4) (by kernel_rfl) S4 rfl) (by simp [tagOf]) (Cp3.var tR_nd) (Src.dep (j := 2) (t := 27) (by kernel_rfl) (by kernel_rfl) rfl) st_r32
  intro a' γ' W' hz' hd' hC hk hh
  replace Cp3 := gotE (T := tR B32 l1 l2 (p / (Nat.gcd p q)) (q / (Nat.gcd p q))) (id := 33) (p := p3) 3 hh rfl rfl
  clear Cp5
  clear Cp6
  replace S4 := hk 4 _ (by kernel_rfl) S4
  clear S6
  clear S8
  replace HB := RelC.aftM HB hC (by intro m hm; simp at hm; rcases hm with rfl <;> assumption)
  clear hC hk hh; replace hz := hz'; replace hd := hd'; clear hz' hd'
  refine wp_ret ?_
  exact ret1_r32 (by kernel_rfl) S4 hd Cp3 HB

set_option maxRecDepth 10000 in
set_option maxHeartbeats 2000000 in
theorem d_qzero {w : World}   :
    Calls Try.prog 44 #[] w (Ret (tR B32 2 2 0 1) w) := by
  refine enter Try.func44 rfl Try.ntmps44 (by simp) ?_
  intro a hz hd ha
  clear ha
  have HB : Below w.heap.size w w := Below.refl _ _
  refine wp_seq ?_
  refine region_text (M := []) (
      rB 0 33 (tR B32 0 0 0 0) none 0 ::
      []) hz hd (by kernel_rfl) ?_ ?_
  · refine ⟨?_, trivial⟩
    · exact sNew rfl rfl rfl hz rfl rfl rfl (fun _ => tR_nil) al_r32
  intro a' γ' W' hz' hd' hC hk hh
  obtain ⟨p1, S0, Cp1, lp1, gp1⟩ := gotB hz' 0 hC hh rfl rfl rfl rfl rfl rfl
  have bp1 : w.heap.size ≤ p1 := Nat.le_trans HB.size lp1
  clear lp1 gp1
  replace HB := aft_call HB (RelC.below_nil hC)
  clear hC hk hh; replace hz := hz'; replace hd := hd'; clear hz' hd'
  refine wp_seq ?_
  refine region_text (M := [p1]) (
      rT (tN B32 2 0) ::
      rT (tN B32 2 1) ::
      rT (tR B32 2 2 0 1) ::
      rE 0 33 (tR B32 2 2 0 1) p1 ::
      []) hz hd (by kernel_rfl) ?_ ?_
  · refine ⟨?_, ?_, ?_, ?_, trivial⟩
    · exact sCall rfl rfl rfl hz rfl (Gd.none_ rfl) rfl Try.func16 (by kernel_rfl) (by kernel_rfl) fun a γ w U => (by show Calls _ _ #[.int .u64 0] _ _; exact d_of (by decide))
    · exact sCall rfl rfl rfl hz rfl (Gd.none_ rfl) rfl Try.func16 (by kernel_rfl) (by kernel_rfl) fun a γ w U => (by show Calls _ _ #[.int .u64 1] _ _; exact d_of (by decide))
    · exact sBuild2 rfl rfl rfl hz rfl (Gd.none_ rfl) rfl (Src.dep (j := 0) (t := 1) (by kernel_rfl) (by kernel_rfl) rfl) (Src.dep (j := 1) (t := 2) (by kernel_rfl) (by kernel_rfl) rfl) mk_r32
    · exact sStoreE rfl rfl rfl rfl rfl (Src.out (t := 0) (by kernel_rfl) S0 rfl) (by simp [tagOf]) (Cp1.var tR_nd) (Src.dep (j := 2) (t := 3) (by kernel_rfl) (by kernel_rfl) rfl) st_r32
  intro a' γ' W' hz' hd' hC hk hh
  replace Cp1 := gotE (T := tR B32 2 2 0 1) (id := 33) (p := p1) 3 hh rfl rfl
  replace S0 := hk 0 _ (by kernel_rfl) S0
  replace HB := RelC.aftM HB hC (by intro m hm; simp at hm; rcases hm with rfl <;> assumption)
  clear hC hk hh; replace hz := hz'; replace hd := hd'; clear hz' hd'
  refine wp_ret ?_
  exact ret1_r32 (by kernel_rfl) S0 hd Cp1 HB

set_option maxRecDepth 10000 in
set_option maxHeartbeats 2000000 in
theorem d_qwhole {p : Nat} {w : World}  (hp : p < B64) :
    Calls Try.prog 99 #[.int .u64 (p : Int)] w (Ret (tR B32 2 2 p 1) w) := by
  refine enter Try.func99 rfl Try.ntmps99 (by simp) ?_
  intro a hz hd ha
  have S0 := ha 0 _ rfl
  clear ha
  have HB : Below w.heap.size w w := Below.refl _ _
  refine wp_seq ?_
  refine region_text (M := []) (
      rB 0 33 (tR B32 0 0 0 0) none 0 ::
      []) hz hd (by kernel_rfl) ?_ ?_
  · refine ⟨?_, trivial⟩
    · exact sNew rfl rfl rfl hz rfl rfl rfl (fun _ => tR_nil) al_r32
  intro a' γ' W' hz' hd' hC hk hh
  replace S0 := hk 0 _ (by kernel_rfl) S0
  obtain ⟨p1, S2, Cp1, lp1, gp1⟩ := gotB hz' 0 hC hh rfl rfl rfl rfl rfl rfl
  have bp1 : w.heap.size ≤ p1 := Nat.le_trans HB.size lp1
  clear lp1 gp1
  replace HB := aft_call HB (RelC.below_nil hC)
  clear hC hk hh; replace hz := hz'; replace hd := hd'; clear hz' hd'
  refine wp_seq ?_
  refine region_text (M := [p1]) (
      rT (tV (.int .u64 (p : Int))) ::
      rT (tN B32 2 p) ::
      rT (tN B32 2 1) ::
      rT (tR B32 2 2 p 1) ::
      rE 0 33 (tR B32 2 2 p 1) p1 ::
      []) hz hd (by kernel_rfl) ?_ ?_
  · refine ⟨?_, ?_, ?_, ?_, ?_, trivial⟩
    · exact sMv rfl rfl rfl hz rfl (Gd.none_ rfl) rfl (Src.out (t := 0) (by kernel_rfl) S0 rfl)
    · exact sCall rfl rfl rfl hz rfl (Gd.none_ rfl) rfl Try.func16 (by kernel_rfl) (by kernel_rfl) fun a γ w U => (by show Calls _ _ #[a.eval (.tmp 3)] _ _; rw [show a.eval (.tmp 3) = .int .u64 (p : Int) from Src.at_ (Src.dep (j := 0) (t := 3) (by kernel_rfl) (by kernel_rfl) rfl) U]; exact d_of hp)
    · exact sCall rfl rfl rfl hz rfl (Gd.none_ rfl) rfl Try.func16 (by kernel_rfl) (by kernel_rfl) fun a γ w U => (by show Calls _ _ #[.int .u64 1] _ _; exact d_of (by decide))
    · exact sBuild2 rfl rfl rfl hz rfl (Gd.none_ rfl) rfl (Src.dep (j := 1) (t := 4) (by kernel_rfl) (by kernel_rfl) rfl) (Src.dep (j := 2) (t := 5) (by kernel_rfl) (by kernel_rfl) rfl) mk_r32
    · exact sStoreE rfl rfl rfl rfl rfl (Src.out (t := 2) (by kernel_rfl) S2 rfl) (by simp [tagOf]) (Cp1.var tR_nd) (Src.dep (j := 3) (t := 6) (by kernel_rfl) (by kernel_rfl) rfl) st_r32
  intro a' γ' W' hz' hd' hC hk hh
  replace Cp1 := gotE (T := tR B32 2 2 p 1) (id := 33) (p := p1) 4 hh rfl rfl
  clear S0
  replace S2 := hk 2 _ (by kernel_rfl) S2
  replace HB := RelC.aftM HB hC (by intro m hm; simp at hm; rcases hm with rfl <;> assumption)
  clear hC hk hh; replace hz := hz'; replace hd := hd'; clear hz' hd'
  refine wp_ret ?_
  exact ret1_r32 (by kernel_rfl) S2 hd Cp1 HB

set_option maxRecDepth 10000 in
set_option maxHeartbeats 2000000 in
theorem d_rcmp {l1 l2 l3 l4 p q p' q' : Nat} {v0 v1 : Value} {w : World} (h0 : (tR B32 l1 l2 p q).p v0 w) (h1 : (tR B32 l3 l4 p' q').p v1 w) (b1 : l1 ≤ 100000000) (b2 : l2 ≤ 100000000) (b3 : l3 ≤ 100000000) (b4 : l4 ≤ 100000000) :
    Calls Try.prog 76 #[v0, v1] w (Ret (tV (.int .i64 (cmpI (p * q') (p' * q)))) w) := by
  refine enter Try.func76 rfl Try.ntmps76 (by simp) ?_
  intro a hz hd ha
  have S0 := ha 0 _ rfl
  have H0 := h0
  have S1 := ha 1 _ rfl
  have H1 := h1
  clear ha
  have HB : Below w.heap.size w w := Below.refl _ _
  refine wp_seq ?_
  refine region_text (M := []) (
      rB 0 33 (tR B32 l1 l2 p q) none 0 ::
      rB 1 33 (tR B32 l3 l4 p' q') none 0 ::
      rT (tV (.int .i64 0)) ::
      []) hz hd (by kernel_rfl) ?_ ?_
  · refine ⟨?_, ?_, ?_, trivial⟩
    · exact sBox rfl rfl rfl hz rfl rfl rfl (Src.out (t := 0) (by kernel_rfl) S0 H0) box_r32
    · exact sBox rfl rfl rfl hz rfl rfl rfl (Src.out (t := 1) (by kernel_rfl) S1 H1) box_r32
    · exact sAs rfl rfl rfl hz rfl (Gd.none_ rfl) rfl (Src.const (.int .i64 0))
  intro a' γ' W' hz' hd' hC hk hh
  clear S0 H0
  clear S1 H1
  obtain ⟨p1, S2, Cp1, lp1, gp1⟩ := gotB hz' 0 hC hh rfl rfl rfl rfl rfl rfl
  obtain ⟨p2, S3, Cp2, lp2, gp2⟩ := gotB hz' 1 hC hh rfl rfl rfl rfl rfl rfl
  have S4 := gotV hz' 2 hh rfl rfl rfl rfl
  clear lp1 gp1 lp2 gp2
  replace HB := aft_call HB (RelC.below_nil hC)
  clear hC hk hh; replace hz := hz'; replace hd := hd'; clear hz' hd'
  refine wp_seq ?_
  refine region_drawn (M := []) (
      rT (tV (.pointer (some ⟨p1, 0, none⟩))) ::
      rT (tN B32 l1 p) ::
      rT (tV (.pointer (some ⟨p2, 1, none⟩))) ::
      rT (tN B32 l4 q') ::
      rT (tN B32 (l1 + l4) (p * q')) ::
      rT (tV (.pointer (some ⟨p2, 0, none⟩))) ::
      rT (tN B32 l3 p') ::
      rT (tV (.pointer (some ⟨p1, 1, none⟩))) ::
      rT (tN B32 l2 q) ::
      rT (tN B32 (l3 + l2) (p' * q)) ::
      rT (tV (.int .i64 (cmpI (p * q') (p' * q)))) ::
      rT (tV (.int .i64 (cmpI (p * q') (p' * q)))) ::
      []) hz hd (by kernel_rfl) (by kernel_rfl) ?_ ?_
  · refine ⟨?_, ?_, ?_, ?_, ?_, ?_, ?_, ?_, ?_, ?_, ?_, ?_, trivial⟩
    · exact sFA rfl rfl rfl hz rfl (Gd.none_ rfl) rfl (Src.out (t := 2) (by kernel_rfl) S2 rfl) (fun w => by simp [go_sem])
    · exact sLoadP rfl rfl rfl hz rfl (Gd.none_ rfl) rfl (Src.dep (j := 0) (t := 5) (by kernel_rfl) (by kernel_rfl) rfl) Cp1 rfl ldp_r32
    · exact sFA rfl rfl rfl hz rfl (Gd.none_ rfl) rfl (Src.out (t := 3) (by kernel_rfl) S3 rfl) (fun w => by simp [go_sem])
    · exact sLoadP rfl rfl rfl hz rfl (Gd.none_ rfl) rfl (Src.dep (j := 2) (t := 7) (by kernel_rfl) (by kernel_rfl) rfl) Cp2 rfl ldq_r32
    · exact sCall rfl rfl rfl hz rfl (Gd.none_ rfl) rfl Try.func26 (by kernel_rfl) (by kernel_rfl) fun a γ w U => (by show Calls _ _ #[a.eval (.tmp 6), a.eval (.tmp 8)] _ _; exact d_mul (Src.at_ (Src.dep (j := 1) (t := 6) (by kernel_rfl) (by kernel_rfl) rfl) U) (Src.at_ (Src.dep (j := 3) (t := 8) (by kernel_rfl) (by kernel_rfl) rfl) U) (by rw [big_eq]; omega) (by rw [big_eq]; omega))
    · exact sFA rfl rfl rfl hz rfl (Gd.none_ rfl) rfl (Src.out (t := 3) (by kernel_rfl) S3 rfl) (fun w => by simp [go_sem])
    · exact sLoadP rfl rfl rfl hz rfl (Gd.none_ rfl) rfl (Src.dep (j := 5) (t := 10) (by kernel_rfl) (by kernel_rfl) rfl) Cp2 rfl ldp_r32
    · exact sFA rfl rfl rfl hz rfl (Gd.none_ rfl) rfl (Src.out (t := 2) (by kernel_rfl) S2 rfl) (fun w => by simp [go_sem])
    · exact sLoadP rfl rfl rfl hz rfl (Gd.none_ rfl) rfl (Src.dep (j := 7) (t := 12) (by kernel_rfl) (by kernel_rfl) rfl) Cp1 rfl ldq_r32
    · exact sCall rfl rfl rfl hz rfl (Gd.none_ rfl) rfl Try.func26 (by kernel_rfl) (by kernel_rfl) fun a γ w U => (by show Calls _ _ #[a.eval (.tmp 11), a.eval (.tmp 13)] _ _; exact d_mul (Src.at_ (Src.dep (j := 6) (t := 11) (by kernel_rfl) (by kernel_rfl) rfl) U) (Src.at_ (Src.dep (j := 8) (t := 13) (by kernel_rfl) (by kernel_rfl) rfl) U) (by rw [big_eq]; omega) (by rw [big_eq]; omega))
    · exact sCall rfl rfl rfl hz rfl (Gd.none_ rfl) rfl Try.func24 (by kernel_rfl) (by kernel_rfl) fun a γ w U => (by show Calls _ _ #[a.eval (.tmp 9), a.eval (.tmp 14)] _ _; exact d_cmp (Src.at_ (Src.dep (j := 4) (t := 9) (by kernel_rfl) (by kernel_rfl) rfl) U) (Src.at_ (Src.dep (j := 9) (t := 14) (by kernel_rfl) (by kernel_rfl) rfl) U) (by rw [big_eq]; omega) (by rw [big_eq]; omega))
    · exact sAs rfl rfl rfl hz rfl (Gd.none_ rfl) rfl (Src.dep (j := 10) (t := 15) (by kernel_rfl) (by kernel_rfl) rfl)
  intro a' γ' W' hz' hd' hC hk hh
  clear Cp1
  clear Cp2
  clear S2
  clear S3
  clear S4
  have S4 := gotV hz' 11 hh rfl rfl rfl rfl
  replace HB := aft_call HB (RelC.below_nil hC)
  clear hC hk hh; replace hz := hz'; replace hd := hd'; clear hz' hd'
  refine wp_ret ?_
  exact ret1 (by kernel_rfl) S4 hd ⟨_, rfl, rfl, HB⟩

set_option maxRecDepth 10000 in
set_option maxHeartbeats 2000000 in
theorem d_radd {l1 l2 l3 l4 p q p' q' : Nat} {v0 v1 : Value} {w : World} (h0 : (tR B32 l1 l2 p q).p v0 w) (h1 : (tR B32 l3 l4 p' q').p v1 w) (b1 : l1 ≤ 100000000) (b2 : l2 ≤ 100000000) (b3 : l3 ≤ 100000000) (b4 : l4 ≤ 100000000) (hq : 0 < q) (hq' : 0 < q') :
    Calls Try.prog 22 #[v0, v1] w (Ret (tR B32 ((max (l1 + l4) (l3 + l2)) + 1) (l2 + l4) (((p * q') + (p' * q)) / Nat.gcd ((p * q') + (p' * q)) (q * q')) ((q * q') / Nat.gcd ((p * q') + (p' * q)) (q * q'))) w) := by
  refine enter Try.func22 rfl Try.ntmps22 (by simp) ?_
  intro a hz hd ha
  have S0 := ha 0 _ rfl
  have H0 := h0
  have S1 := ha 1 _ rfl
  have H1 := h1
  clear ha
  have HB : Below w.heap.size w w := Below.refl _ _
  refine wp_seq ?_
  refine region_text (M := []) (
      rB 0 33 (tR B32 l1 l2 p q) none 0 ::
      rB 1 33 (tR B32 l3 l4 p' q') none 0 ::
      rB 2 33 (tR B32 0 0 0 0) none 0 ::
      []) hz hd (by kernel_rfl) ?_ ?_
  · refine ⟨?_, ?_, ?_, trivial⟩
    · exact sBox rfl rfl rfl hz rfl rfl rfl (Src.out (t := 0) (by kernel_rfl) S0 H0) box_r32
    · exact sBox rfl rfl rfl hz rfl rfl rfl (Src.out (t := 1) (by kernel_rfl) S1 H1) box_r32
    · exact sNew rfl rfl rfl hz rfl rfl rfl (fun _ => tR_nil) al_r32
  intro a' γ' W' hz' hd' hC hk hh
  clear S0 H0
  clear S1 H1
  obtain ⟨p1, S2, Cp1, lp1, gp1⟩ := gotB hz' 0 hC hh rfl rfl rfl rfl rfl rfl
  obtain ⟨p2, S3, Cp2, lp2, gp2⟩ := gotB hz' 1 hC hh rfl rfl rfl rfl rfl rfl
  obtain ⟨p3, S4, Cp3, lp3, gp3⟩ := gotB hz' 2 hC hh rfl rfl rfl rfl rfl rfl
  have n_p1_p3 : p1 ≠ p3 := by intro e; rw [e, gp3] at gp1; omega
  have n_p2_p3 : p2 ≠ p3 := by intro e; rw [e, gp3] at gp2; omega
  have bp3 : w.heap.size ≤ p3 := Nat.le_trans HB.size lp3
  clear lp1 gp1 lp2 gp2 lp3 gp3
  replace HB := aft_call HB (RelC.below_nil hC)
  clear hC hk hh; replace hz := hz'; replace hd := hd'; clear hz' hd'
  refine wp_seq ?_
  refine region_drawn (M := [p3]) (
      rT (tV (.pointer (some ⟨p1, 0, none⟩))) ::
      rT (tN B32 l1 p) ::
      rT (tV (.pointer (some ⟨p2, 1, none⟩))) ::
      rT (tN B32 l4 q') ::
      rT (tN B32 (l1 + l4) (p * q')) ::
      rT (tV (.pointer (some ⟨p2, 0, none⟩))) ::
      rT (tN B32 l3 p') ::
      rT (tV (.pointer (some ⟨p1, 1, none⟩))) ::
      rT (tN B32 l2 q) ::
      rT (tN B32 (l3 + l2) (p' * q)) ::
      rT (tN B32 ((max (l1 + l4) (l3 + l2)) + 1) ((p * q') + (p' * q))) ::
      rT (tV (.pointer (some ⟨p1, 1, none⟩))) ::
      rT (tN B32 l2 q) ::
      rT (tV (.pointer (some ⟨p2, 1, none⟩))) ::
      rT (tN B32 l4 q') ::
      rT (tN B32 (l2 + l4) (q * q')) ::
      rT (tR B32 ((max (l1 + l4) (l3 + l2)) + 1) (l2 + l4) (((p * q') + (p' * q)) / Nat.gcd ((p * q') + (p' * q)) (q * q')) ((q * q') / Nat.gcd ((p * q') + (p' * q)) (q * q'))) ::
      rE 0 33 (tR B32 ((max (l1 + l4) (l3 + l2)) + 1) (l2 + l4) (((p * q') + (p' * q)) / Nat.gcd ((p * q') + (p' * q)) (q * q')) ((q * q') / Nat.gcd ((p * q') + (p' * q)) (q * q'))) p3 ::
      []) hz hd (by kernel_rfl) (by kernel_rfl) ?_ ?_
  · refine ⟨?_, ?_, ?_, ?_, ?_, ?_, ?_, ?_, ?_, ?_, ?_, ?_, ?_, ?_, ?_, ?_, ?_, ?_, trivial⟩
    · exact sFA rfl rfl rfl hz rfl (Gd.none_ rfl) rfl (Src.out (t := 2) (by kernel_rfl) S2 rfl) (fun w => by simp [go_sem])
    · exact sLoadP rfl rfl rfl hz rfl (Gd.none_ rfl) rfl (Src.dep (j := 0) (t := 5) (by kernel_rfl) (by kernel_rfl) rfl) Cp1 (by simp [tagOf, n_p1_p3]) ldp_r32
    · exact sFA rfl rfl rfl hz rfl (Gd.none_ rfl) rfl (Src.out (t := 3) (by kernel_rfl) S3 rfl) (fun w => by simp [go_sem])
    · exact sLoadP rfl rfl rfl hz rfl (Gd.none_ rfl) rfl (Src.dep (j := 2) (t := 7) (by kernel_rfl) (by kernel_rfl) rfl) Cp2 (by simp [tagOf, n_p2_p3]) ldq_r32
    · exact sCall rfl rfl rfl hz rfl (Gd.none_ rfl) rfl Try.func26 (by kernel_rfl) (by kernel_rfl) fun a γ w U => (by show Calls _ _ #[a.eval (.tmp 6), a.eval (.tmp 8)] _ _; exact d_mul (Src.at_ (Src.dep (j := 1) (t := 6) (by kernel_rfl) (by kernel_rfl) rfl) U) (Src.at_ (Src.dep (j := 3) (t := 8) (by kernel_rfl) (by kernel_rfl) rfl) U) (by rw [big_eq]; omega) (by rw [big_eq]; omega))
    · exact sFA rfl rfl rfl hz rfl (Gd.none_ rfl) rfl (Src.out (t := 3) (by kernel_rfl) S3 rfl) (fun w => by simp [go_sem])
    · exact sLoadP rfl rfl rfl hz rfl (Gd.none_ rfl) rfl (Src.dep (j := 5) (t := 10) (by kernel_rfl) (by kernel_rfl) rfl) Cp2 (by simp [tagOf, n_p2_p3]) ldp_r32
    · exact sFA rfl rfl rfl hz rfl (Gd.none_ rfl) rfl (Src.out (t := 2) (by kernel_rfl) S2 rfl) (fun w => by simp [go_sem])
    · exact sLoadP rfl rfl rfl hz rfl (Gd.none_ rfl) rfl (Src.dep (j := 7) (t := 12) (by kernel_rfl) (by kernel_rfl) rfl) Cp1 (by simp [tagOf, n_p1_p3]) ldq_r32
    · exact sCall rfl rfl rfl hz rfl (Gd.none_ rfl) rfl Try.func26 (by kernel_rfl) (by kernel_rfl) fun a γ w U => (by show Calls _ _ #[a.eval (.tmp 11), a.eval (.tmp 13)] _ _; exact d_mul (Src.at_ (Src.dep (j := 6) (t := 11) (by kernel_rfl) (by kernel_rfl) rfl) U) (Src.at_ (Src.dep (j := 8) (t := 13) (by kernel_rfl) (by kernel_rfl) rfl) U) (by rw [big_eq]; omega) (by rw [big_eq]; omega))
    · exact sCall rfl rfl rfl hz rfl (Gd.none_ rfl) rfl Try.func29 (by kernel_rfl) (by kernel_rfl) fun a γ w U => (by show Calls _ _ #[a.eval (.tmp 9), a.eval (.tmp 14)] _ _; exact d_add (Src.at_ (Src.dep (j := 4) (t := 9) (by kernel_rfl) (by kernel_rfl) rfl) U) (Src.at_ (Src.dep (j := 9) (t := 14) (by kernel_rfl) (by kernel_rfl) rfl) U) (by rw [big_eq]; omega) (by rw [big_eq]; omega))
    · exact sFA rfl rfl rfl hz rfl (Gd.none_ rfl) rfl (Src.out (t := 2) (by kernel_rfl) S2 rfl) (fun w => by simp [go_sem])
    · exact sLoadP rfl rfl rfl hz rfl (Gd.none_ rfl) rfl (Src.dep (j := 11) (t := 16) (by kernel_rfl) (by kernel_rfl) rfl) Cp1 (by simp [tagOf, n_p1_p3]) ldq_r32
    · exact sFA rfl rfl rfl hz rfl (Gd.none_ rfl) rfl (Src.out (t := 3) (by kernel_rfl) S3 rfl) (fun w => by simp [go_sem])
    · exact sLoadP rfl rfl rfl hz rfl (Gd.none_ rfl) rfl (Src.dep (j := 13) (t := 18) (by kernel_rfl) (by kernel_rfl) rfl) Cp2 (by simp [tagOf, n_p2_p3]) ldq_r32
    · exact sCall rfl rfl rfl hz rfl (Gd.none_ rfl) rfl Try.func26 (by kernel_rfl) (by kernel_rfl) fun a γ w U => (by show Calls _ _ #[a.eval (.tmp 17), a.eval (.tmp 19)] _ _; exact d_mul (Src.at_ (Src.dep (j := 12) (t := 17) (by kernel_rfl) (by kernel_rfl) rfl) U) (Src.at_ (Src.dep (j := 14) (t := 19) (by kernel_rfl) (by kernel_rfl) rfl) U) (by rw [big_eq]; omega) (by rw [big_eq]; omega))
    · exact sCall rfl rfl rfl hz rfl (Gd.none_ rfl) rfl Try.func50 (by kernel_rfl) (by kernel_rfl) fun a γ w U => (by show Calls _ _ #[a.eval (.tmp 15), a.eval (.tmp 20)] _ _; exact d_made (Src.at_ (Src.dep (j := 10) (t := 15) (by kernel_rfl) (by kernel_rfl) rfl) U) (Src.at_ (Src.dep (j := 15) (t := 20) (by kernel_rfl) (by kernel_rfl) rfl) U) (by omega) (by omega) (Nat.mul_pos hq hq'))
    · exact sStoreE rfl rfl rfl rfl rfl (Src.out (t := 4) (by kernel_rfl) S4 rfl) (by simp [tagOf]) (Cp3.var tR_nd) (Src.dep (j := 16) (t := 21) (by kernel_rfl) (by kernel_rfl) rfl) st_r32
  intro a' γ' W' hz' hd' hC hk hh
  clear Cp1
  clear Cp2
  replace Cp3 := gotE (T := tR B32 ((max (l1 + l4) (l3 + l2)) + 1) (l2 + l4) (((p * q') + (p' * q)) / Nat.gcd ((p * q') + (p' * q)) (q * q')) ((q * q') / Nat.gcd ((p * q') + (p' * q)) (q * q'))) (id := 33) (p := p3) 17 hh rfl rfl
  clear S2
  clear S3
  replace S4 := hk 4 _ (by kernel_rfl) S4
  replace HB := RelC.aftM HB hC (by intro m hm; simp at hm; rcases hm with rfl <;> assumption)
  clear hC hk hh; replace hz := hz'; replace hd := hd'; clear hz' hd'
  refine wp_ret ?_
  exact ret1_r32 (by kernel_rfl) S4 hd Cp3 HB

set_option maxRecDepth 10000 in
set_option maxHeartbeats 2000000 in
theorem d_rmul {l1 l2 l3 l4 p q p' q' : Nat} {v0 v1 : Value} {w : World} (h0 : (tR B32 l1 l2 p q).p v0 w) (h1 : (tR B32 l3 l4 p' q').p v1 w) (b1 : l1 ≤ 100000000) (b2 : l2 ≤ 100000000) (b3 : l3 ≤ 100000000) (b4 : l4 ≤ 100000000) (hq : 0 < q) (hq' : 0 < q') :
    Calls Try.prog 68 #[v0, v1] w (Ret (tR B32 (l1 + l3) (l2 + l4) ((p * p') / Nat.gcd (p * p') (q * q')) ((q * q') / Nat.gcd (p * p') (q * q'))) w) := by
  refine enter Try.func68 rfl Try.ntmps68 (by simp) ?_
  intro a hz hd ha
  have S0 := ha 0 _ rfl
  have H0 := h0
  have S1 := ha 1 _ rfl
  have H1 := h1
  clear ha
  have HB : Below w.heap.size w w := Below.refl _ _
  refine wp_seq ?_
  refine region_text (M := []) (
      rB 0 33 (tR B32 l1 l2 p q) none 0 ::
      rB 1 33 (tR B32 l3 l4 p' q') none 0 ::
      rB 2 33 (tR B32 0 0 0 0) none 0 ::
      []) hz hd (by kernel_rfl) ?_ ?_
  · refine ⟨?_, ?_, ?_, trivial⟩
    · exact sBox rfl rfl rfl hz rfl rfl rfl (Src.out (t := 0) (by kernel_rfl) S0 H0) box_r32
    · exact sBox rfl rfl rfl hz rfl rfl rfl (Src.out (t := 1) (by kernel_rfl) S1 H1) box_r32
    · exact sNew rfl rfl rfl hz rfl rfl rfl (fun _ => tR_nil) al_r32
  intro a' γ' W' hz' hd' hC hk hh
  clear S0 H0
  clear S1 H1
  obtain ⟨p1, S2, Cp1, lp1, gp1⟩ := gotB hz' 0 hC hh rfl rfl rfl rfl rfl rfl
  obtain ⟨p2, S3, Cp2, lp2, gp2⟩ := gotB hz' 1 hC hh rfl rfl rfl rfl rfl rfl
  obtain ⟨p3, S4, Cp3, lp3, gp3⟩ := gotB hz' 2 hC hh rfl rfl rfl rfl rfl rfl
  have n_p1_p3 : p1 ≠ p3 := by intro e; rw [e, gp3] at gp1; omega
  have n_p2_p3 : p2 ≠ p3 := by intro e; rw [e, gp3] at gp2; omega
  have bp3 : w.heap.size ≤ p3 := Nat.le_trans HB.size lp3
  clear lp1 gp1 lp2 gp2 lp3 gp3
  replace HB := aft_call HB (RelC.below_nil hC)
  clear hC hk hh; replace hz := hz'; replace hd := hd'; clear hz' hd'
  refine wp_seq ?_
  refine region_drawn (M := [p3]) (
      rT (tV (.pointer (some ⟨p1, 0, none⟩))) ::
      rT (tN B32 l1 p) ::
      rT (tV (.pointer (some ⟨p2, 0, none⟩))) ::
      rT (tN B32 l3 p') ::
      rT (tN B32 (l1 + l3) (p * p')) ::
      rT (tV (.pointer (some ⟨p1, 1, none⟩))) ::
      rT (tN B32 l2 q) ::
      rT (tV (.pointer (some ⟨p2, 1, none⟩))) ::
      rT (tN B32 l4 q') ::
      rT (tN B32 (l2 + l4) (q * q')) ::
      rT (tR B32 (l1 + l3) (l2 + l4) ((p * p') / Nat.gcd (p * p') (q * q')) ((q * q') / Nat.gcd (p * p') (q * q'))) ::
      rE 0 33 (tR B32 (l1 + l3) (l2 + l4) ((p * p') / Nat.gcd (p * p') (q * q')) ((q * q') / Nat.gcd (p * p') (q * q'))) p3 ::
      []) hz hd (by kernel_rfl) (by kernel_rfl) ?_ ?_
  · refine ⟨?_, ?_, ?_, ?_, ?_, ?_, ?_, ?_, ?_, ?_, ?_, ?_, trivial⟩
    · exact sFA rfl rfl rfl hz rfl (Gd.none_ rfl) rfl (Src.out (t := 2) (by kernel_rfl) S2 rfl) (fun w => by simp [go_sem])
    · exact sLoadP rfl rfl rfl hz rfl (Gd.none_ rfl) rfl (Src.dep (j := 0) (t := 5) (by kernel_rfl) (by kernel_rfl) rfl) Cp1 (by simp [tagOf, n_p1_p3]) ldp_r32
    · exact sFA rfl rfl rfl hz rfl (Gd.none_ rfl) rfl (Src.out (t := 3) (by kernel_rfl) S3 rfl) (fun w => by simp [go_sem])
    · exact sLoadP rfl rfl rfl hz rfl (Gd.none_ rfl) rfl (Src.dep (j := 2) (t := 7) (by kernel_rfl) (by kernel_rfl) rfl) Cp2 (by simp [tagOf, n_p2_p3]) ldp_r32
    · exact sCall rfl rfl rfl hz rfl (Gd.none_ rfl) rfl Try.func26 (by kernel_rfl) (by kernel_rfl) fun a γ w U => (by show Calls _ _ #[a.eval (.tmp 6), a.eval (.tmp 8)] _ _; exact d_mul (Src.at_ (Src.dep (j := 1) (t := 6) (by kernel_rfl) (by kernel_rfl) rfl) U) (Src.at_ (Src.dep (j := 3) (t := 8) (by kernel_rfl) (by kernel_rfl) rfl) U) (by rw [big_eq]; omega) (by rw [big_eq]; omega))
    · exact sFA rfl rfl rfl hz rfl (Gd.none_ rfl) rfl (Src.out (t := 2) (by kernel_rfl) S2 rfl) (fun w => by simp [go_sem])
    · exact sLoadP rfl rfl rfl hz rfl (Gd.none_ rfl) rfl (Src.dep (j := 5) (t := 10) (by kernel_rfl) (by kernel_rfl) rfl) Cp1 (by simp [tagOf, n_p1_p3]) ldq_r32
    · exact sFA rfl rfl rfl hz rfl (Gd.none_ rfl) rfl (Src.out (t := 3) (by kernel_rfl) S3 rfl) (fun w => by simp [go_sem])
    · exact sLoadP rfl rfl rfl hz rfl (Gd.none_ rfl) rfl (Src.dep (j := 7) (t := 12) (by kernel_rfl) (by kernel_rfl) rfl) Cp2 (by simp [tagOf, n_p2_p3]) ldq_r32
    · exact sCall rfl rfl rfl hz rfl (Gd.none_ rfl) rfl Try.func26 (by kernel_rfl) (by kernel_rfl) fun a γ w U => (by show Calls _ _ #[a.eval (.tmp 11), a.eval (.tmp 13)] _ _; exact d_mul (Src.at_ (Src.dep (j := 6) (t := 11) (by kernel_rfl) (by kernel_rfl) rfl) U) (Src.at_ (Src.dep (j := 8) (t := 13) (by kernel_rfl) (by kernel_rfl) rfl) U) (by rw [big_eq]; omega) (by rw [big_eq]; omega))
    · exact sCall rfl rfl rfl hz rfl (Gd.none_ rfl) rfl Try.func50 (by kernel_rfl) (by kernel_rfl) fun a γ w U => (by show Calls _ _ #[a.eval (.tmp 9), a.eval (.tmp 14)] _ _; exact d_made (Src.at_ (Src.dep (j := 4) (t := 9) (by kernel_rfl) (by kernel_rfl) rfl) U) (Src.at_ (Src.dep (j := 9) (t := 14) (by kernel_rfl) (by kernel_rfl) rfl) U) (by omega) (by omega) (Nat.mul_pos hq hq'))
    · exact sStoreE rfl rfl rfl rfl rfl (Src.out (t := 4) (by kernel_rfl) S4 rfl) (by simp [tagOf]) (Cp3.var tR_nd) (Src.dep (j := 10) (t := 15) (by kernel_rfl) (by kernel_rfl) rfl) st_r32
  intro a' γ' W' hz' hd' hC hk hh
  clear Cp1
  clear Cp2
  replace Cp3 := gotE (T := tR B32 (l1 + l3) (l2 + l4) ((p * p') / Nat.gcd (p * p') (q * q')) ((q * q') / Nat.gcd (p * p') (q * q'))) (id := 33) (p := p3) 11 hh rfl rfl
  clear S2
  clear S3
  replace S4 := hk 4 _ (by kernel_rfl) S4
  replace HB := RelC.aftM HB hC (by intro m hm; simp at hm; rcases hm with rfl <;> assumption)
  clear hC hk hh; replace hz := hz'; replace hd := hd'; clear hz' hd'
  refine wp_ret ?_
  exact ret1_r32 (by kernel_rfl) S4 hd Cp3 HB

set_option maxRecDepth 10000 in
set_option maxHeartbeats 2000000 in
theorem d_rsub_l {l1 l2 l3 l4 p q p' q' : Nat} {v0 v1 : Value} {w : World} (h0 : (tR B32 l1 l2 p q).p v0 w) (h1 : (tR B32 l3 l4 p' q').p v1 w) (b1 : l1 ≤ 100000000) (b2 : l2 ≤ 100000000) (b3 : l3 ≤ 100000000) (b4 : l4 ≤ 100000000) (hs : p * q' < p' * q) :
    Calls Try.prog 67 #[v0, v1] w (Ret (tT [tR B32 2 2 0 1, tV (.bool false)]) w) := by
  refine enter Try.func67 rfl Try.ntmps67 (by simp) ?_
  intro a hz hd ha
  have S0 := ha 0 _ rfl
  have H0 := h0
  have S1 := ha 1 _ rfl
  have H1 := h1
  clear ha
  have HB : Below w.heap.size w w := Below.refl _ _
  refine wp_seq ?_
  refine region_text (M := []) (
      rB 0 33 (tR B32 l1 l2 p q) none 0 ::
      rB 1 33 (tR B32 l3 l4 p' q') none 0 ::
      rB 2 33 (tR B32 0 0 0 0) none 0 ::
      rT (tV (.bool false)) ::
      []) hz hd (by kernel_rfl) ?_ ?_
  · refine ⟨?_, ?_, ?_, ?_, trivial⟩
    · exact sBox rfl rfl rfl hz rfl rfl rfl (Src.out (t := 0) (by kernel_rfl) S0 H0) box_r32
    · exact sBox rfl rfl rfl hz rfl rfl rfl (Src.out (t := 1) (by kernel_rfl) S1 H1) box_r32
    · exact sNew rfl rfl rfl hz rfl rfl rfl (fun _ => tR_nil) al_r32
    · exact sAs rfl rfl rfl hz rfl (Gd.none_ rfl) rfl (Src.const (.bool false))
  intro a' γ' W' hz' hd' hC hk hh
  clear S0 H0
  clear S1 H1
  obtain ⟨p1, S2, Cp1, lp1, gp1⟩ := gotB hz' 0 hC hh rfl rfl rfl rfl rfl rfl
  obtain ⟨p2, S3, Cp2, lp2, gp2⟩ := gotB hz' 1 hC hh rfl rfl rfl rfl rfl rfl
  obtain ⟨p3, S4, Cp3, lp3, gp3⟩ := gotB hz' 2 hC hh rfl rfl rfl rfl rfl rfl
  have S5 := gotV hz' 3 hh rfl rfl rfl rfl
  have n_p1_p3 : p1 ≠ p3 := by intro e; rw [e, gp3] at gp1; omega
  have n_p2_p3 : p2 ≠ p3 := by intro e; rw [e, gp3] at gp2; omega
  have bp3 : w.heap.size ≤ p3 := Nat.le_trans HB.size lp3
  clear lp1 gp1 lp2 gp2 lp3 gp3
  replace HB := aft_call HB (RelC.below_nil hC)
  clear hC hk hh; replace hz := hz'; replace hd := hd'; clear hz' hd'
  refine wp_seq ?_
  refine wp_seq ?_
  refine region_text (M := []) (
      rT (tR B32 l1 l2 p q) ::
      rT (tR B32 l3 l4 p' q') ::
      rT (tV (.int .i64 (cmpI (p * q') (p' * q)))) ::
      rT (tV (.bool true)) ::
      []) hz hd (by kernel_rfl) ?_ ?_
  · refine ⟨?_, ?_, ?_, ?_, trivial⟩
    · exact sLoad rfl rfl rfl hz rfl (Gd.none_ rfl) rfl (Src.out (t := 2) (by kernel_rfl) S2 rfl) Cp1 rfl ld_r32
    · exact sLoad rfl rfl rfl hz rfl (Gd.none_ rfl) rfl (Src.out (t := 3) (by kernel_rfl) S3 rfl) Cp2 rfl ld_r32
    · exact sCall rfl rfl rfl hz rfl (Gd.none_ rfl) rfl Try.func76 (by kernel_rfl) (by kernel_rfl) fun a γ w U => (by show Calls _ _ #[a.eval (.tmp 6), a.eval (.tmp 7)] _ _; exact d_rcmp (Src.at_ (Src.dep (j := 0) (t := 6) (by kernel_rfl) (by kernel_rfl) rfl) U) (Src.at_ (Src.dep (j := 1) (t := 7) (by kernel_rfl) (by kernel_rfl) rfl) U) (by omega) (by omega) (by omega) (by omega))
    · exact sBin rfl rfl rfl hz rfl (Gd.none_ rfl) rfl (Src.dep (j := 2) (t := 8) (by kernel_rfl) (by kernel_rfl) rfl) (Src.const (.int .i64 0)) (fun w => by rw [cmpI_lt hs]; simp [go_sem])
  intro a' γ' W' hz' hd' hC hk hh
  replace Cp1 := Cell.aft Cp1 hC rfl
  replace Cp2 := Cell.aft Cp2 hC rfl
  have tp3 := Cp3.lt
  replace Cp3 := Cell.aft Cp3 hC rfl
  replace S2 := hk 2 _ (by kernel_rfl) S2
  replace S3 := hk 3 _ (by kernel_rfl) S3
  replace S4 := hk 4 _ (by kernel_rfl) S4
  replace S5 := hk 5 _ (by kernel_rfl) S5
  have S9 := gotV hz' 3 hh rfl rfl rfl rfl
  clear tp3
  replace HB := aft_call HB (RelC.below_nil hC)
  clear hC hk hh; replace hz := hz'; replace hd := hd'; clear hz' hd'
  refine wp_cond_true S9.ev ?_
  refine wp_seq ?_
  refine region_text (M := [p3]) (
      rT (tR B32 2 2 0 1) ::
      rE 0 33 (tR B32 2 2 0 1) p3 ::
      rT (tV (.bool false)) ::
      []) hz hd (by kernel_rfl) ?_ ?_
  · refine ⟨?_, ?_, ?_, trivial⟩
    · exact sCall rfl rfl rfl hz rfl (Gd.none_ rfl) rfl Try.func44 (by kernel_rfl) (by kernel_rfl) fun a γ w U => (by show Calls _ _ #[] _ _; exact d_qzero)
    · exact sStoreE rfl rfl rfl rfl rfl (Src.out (t := 4) (by kernel_rfl) S4 rfl) (by simp [tagOf]) (Cp3.var tR_nd) (Src.dep (j := 0) (t := 10) (by kernel_rfl) (by kernel_rfl) rfl) st_r32
    · exact sAs rfl rfl rfl hz rfl (Gd.none_ rfl) rfl (Src.const (.bool false))
  intro a' γ' W' hz' hd' hC hk hh
  replace Cp1 := Cell.aft Cp1 hC (by simp [tagOf, n_p1_p3])
  replace Cp2 := Cell.aft Cp2 hC (by simp [tagOf, n_p2_p3])
  replace Cp3 := gotE (T := tR B32 2 2 0 1) (id := 33) (p := p3) 1 hh rfl rfl
  replace S2 := hk 2 _ (by kernel_rfl) S2
  replace S3 := hk 3 _ (by kernel_rfl) S3
  replace S4 := hk 4 _ (by kernel_rfl) S4
  clear S5
  clear S9
  have S5 := gotV hz' 2 hh rfl rfl rfl rfl
  replace HB := RelC.aftM HB hC (by intro m hm; simp at hm; rcases hm with rfl <;> assumption)
  clear hC hk hh; replace hz := hz'; replace hd := hd'; clear hz' hd'
  refine wp_ret ?_
  exact retct_r32 (by kernel_rfl) S4 S5 hd Cp3 HB

set_option maxRecDepth 10000 in
set_option maxHeartbeats 2000000 in
theorem d_rsub_g {l1 l2 l3 l4 p q p' q' : Nat} {v0 v1 : Value} {w : World} (h0 : (tR B32 l1 l2 p q).p v0 w) (h1 : (tR B32 l3 l4 p' q').p v1 w) (b1 : l1 ≤ 100000000) (b2 : l2 ≤ 100000000) (b3 : l3 ≤ 100000000) (b4 : l4 ≤ 100000000) (hs : p' * q ≤ p * q') (hq : 0 < q) (hq' : 0 < q') :
    Calls Try.prog 67 #[v0, v1] w (Ret (tT [tR B32 (l1 + l4) (l2 + l4) (((p * q') - (p' * q)) / Nat.gcd ((p * q') - (p' * q)) (q * q')) ((q * q') / Nat.gcd ((p * q') - (p' * q)) (q * q')), tV (.bool true)]) w) := by
  refine enter Try.func67 rfl Try.ntmps67 (by simp) ?_
  intro a hz hd ha
  have S0 := ha 0 _ rfl
  have H0 := h0
  have S1 := ha 1 _ rfl
  have H1 := h1
  clear ha
  have HB : Below w.heap.size w w := Below.refl _ _
  refine wp_seq ?_
  refine region_text (M := []) (
      rB 0 33 (tR B32 l1 l2 p q) none 0 ::
      rB 1 33 (tR B32 l3 l4 p' q') none 0 ::
      rB 2 33 (tR B32 0 0 0 0) none 0 ::
      rT (tV (.bool false)) ::
      []) hz hd (by kernel_rfl) ?_ ?_
  · refine ⟨?_, ?_, ?_, ?_, trivial⟩
    · exact sBox rfl rfl rfl hz rfl rfl rfl (Src.out (t := 0) (by kernel_rfl) S0 H0) box_r32
    · exact sBox rfl rfl rfl hz rfl rfl rfl (Src.out (t := 1) (by kernel_rfl) S1 H1) box_r32
    · exact sNew rfl rfl rfl hz rfl rfl rfl (fun _ => tR_nil) al_r32
    · exact sAs rfl rfl rfl hz rfl (Gd.none_ rfl) rfl (Src.const (.bool false))
  intro a' γ' W' hz' hd' hC hk hh
  clear S0 H0
  clear S1 H1
  obtain ⟨p1, S2, Cp1, lp1, gp1⟩ := gotB hz' 0 hC hh rfl rfl rfl rfl rfl rfl
  obtain ⟨p2, S3, Cp2, lp2, gp2⟩ := gotB hz' 1 hC hh rfl rfl rfl rfl rfl rfl
  obtain ⟨p3, S4, Cp3, lp3, gp3⟩ := gotB hz' 2 hC hh rfl rfl rfl rfl rfl rfl
  have S5 := gotV hz' 3 hh rfl rfl rfl rfl
  have n_p1_p3 : p1 ≠ p3 := by intro e; rw [e, gp3] at gp1; omega
  have n_p2_p3 : p2 ≠ p3 := by intro e; rw [e, gp3] at gp2; omega
  have bp3 : w.heap.size ≤ p3 := Nat.le_trans HB.size lp3
  clear lp1 gp1 lp2 gp2 lp3 gp3
  replace HB := aft_call HB (RelC.below_nil hC)
  clear hC hk hh; replace hz := hz'; replace hd := hd'; clear hz' hd'
  refine wp_seq ?_
  refine wp_seq ?_
  refine region_text (M := []) (
      rT (tR B32 l1 l2 p q) ::
      rT (tR B32 l3 l4 p' q') ::
      rT (tV (.int .i64 (cmpI (p * q') (p' * q)))) ::
      rT (tV (.bool false)) ::
      []) hz hd (by kernel_rfl) ?_ ?_
  · refine ⟨?_, ?_, ?_, ?_, trivial⟩
    · exact sLoad rfl rfl rfl hz rfl (Gd.none_ rfl) rfl (Src.out (t := 2) (by kernel_rfl) S2 rfl) Cp1 rfl ld_r32
    · exact sLoad rfl rfl rfl hz rfl (Gd.none_ rfl) rfl (Src.out (t := 3) (by kernel_rfl) S3 rfl) Cp2 rfl ld_r32
    · exact sCall rfl rfl rfl hz rfl (Gd.none_ rfl) rfl Try.func76 (by kernel_rfl) (by kernel_rfl) fun a γ w U => (by show Calls _ _ #[a.eval (.tmp 6), a.eval (.tmp 7)] _ _; exact d_rcmp (Src.at_ (Src.dep (j := 0) (t := 6) (by kernel_rfl) (by kernel_rfl) rfl) U) (Src.at_ (Src.dep (j := 1) (t := 7) (by kernel_rfl) (by kernel_rfl) rfl) U) (by omega) (by omega) (by omega) (by omega))
    · exact sBin rfl rfl rfl hz rfl (Gd.none_ rfl) rfl (Src.dep (j := 2) (t := 8) (by kernel_rfl) (by kernel_rfl) rfl) (Src.const (.int .i64 0)) (fun w => by rcases cmpI_ge hs with h | h <;> rw [h] <;> simp [go_sem])
  intro a' γ' W' hz' hd' hC hk hh
  replace Cp1 := Cell.aft Cp1 hC rfl
  replace Cp2 := Cell.aft Cp2 hC rfl
  have tp3 := Cp3.lt
  replace Cp3 := Cell.aft Cp3 hC rfl
  replace S2 := hk 2 _ (by kernel_rfl) S2
  replace S3 := hk 3 _ (by kernel_rfl) S3
  replace S4 := hk 4 _ (by kernel_rfl) S4
  replace S5 := hk 5 _ (by kernel_rfl) S5
  have S9 := gotV hz' 3 hh rfl rfl rfl rfl
  clear tp3
  replace HB := aft_call HB (RelC.below_nil hC)
  clear hC hk hh; replace hz := hz'; replace hd := hd'; clear hz' hd'
  refine wp_cond_false S9.ev ?_
  refine wp_skip ?_
  refine wp_seq ?_
  refine region_drawn (M := [p3]) (
      rT (tV (.pointer (some ⟨p1, 0, none⟩))) ::
      rT (tN B32 l1 p) ::
      rT (tV (.pointer (some ⟨p2, 1, none⟩))) ::
      rT (tN B32 l4 q') ::
      rT (tN B32 (l1 + l4) (p * q')) ::
      rT (tV (.pointer (some ⟨p2, 0, none⟩))) ::
      rT (tN B32 l3 p') ::
      rT (tV (.pointer (some ⟨p1, 1, none⟩))) ::
      rT (tN B32 l2 q) ::
      rT (tN B32 (l3 + l2) (p' * q)) ::
      rT (tN B32 (l1 + l4) ((p * q') - (p' * q))) ::
      rT (tV (.pointer (some ⟨p1, 1, none⟩))) ::
      rT (tN B32 l2 q) ::
      rT (tV (.pointer (some ⟨p2, 1, none⟩))) ::
      rT (tN B32 l4 q') ::
      rT (tN B32 (l2 + l4) (q * q')) ::
      rT (tR B32 (l1 + l4) (l2 + l4) (((p * q') - (p' * q)) / Nat.gcd ((p * q') - (p' * q)) (q * q')) ((q * q') / Nat.gcd ((p * q') - (p' * q)) (q * q'))) ::
      rE 0 33 (tR B32 (l1 + l4) (l2 + l4) (((p * q') - (p' * q)) / Nat.gcd ((p * q') - (p' * q)) (q * q')) ((q * q') / Nat.gcd ((p * q') - (p' * q)) (q * q'))) p3 ::
      rT (tV (.bool true)) ::
      []) hz hd (by kernel_rfl) (by kernel_rfl) ?_ ?_
  · refine ⟨?_, ?_, ?_, ?_, ?_, ?_, ?_, ?_, ?_, ?_, ?_, ?_, ?_, ?_, ?_, ?_, ?_, ?_, ?_, trivial⟩
    · exact sFA rfl rfl rfl hz rfl (Gd.none_ rfl) rfl (Src.out (t := 2) (by kernel_rfl) S2 rfl) (fun w => by simp [go_sem])
    · exact sLoadP rfl rfl rfl hz rfl (Gd.none_ rfl) rfl (Src.dep (j := 0) (t := 11) (by kernel_rfl) (by kernel_rfl) rfl) Cp1 (by simp [tagOf, n_p1_p3]) ldp_r32
    · exact sFA rfl rfl rfl hz rfl (Gd.none_ rfl) rfl (Src.out (t := 3) (by kernel_rfl) S3 rfl) (fun w => by simp [go_sem])
    · exact sLoadP rfl rfl rfl hz rfl (Gd.none_ rfl) rfl (Src.dep (j := 2) (t := 13) (by kernel_rfl) (by kernel_rfl) rfl) Cp2 (by simp [tagOf, n_p2_p3]) ldq_r32
    · exact sCall rfl rfl rfl hz rfl (Gd.none_ rfl) rfl Try.func26 (by kernel_rfl) (by kernel_rfl) fun a γ w U => (by show Calls _ _ #[a.eval (.tmp 12), a.eval (.tmp 14)] _ _; exact d_mul (Src.at_ (Src.dep (j := 1) (t := 12) (by kernel_rfl) (by kernel_rfl) rfl) U) (Src.at_ (Src.dep (j := 3) (t := 14) (by kernel_rfl) (by kernel_rfl) rfl) U) (by rw [big_eq]; omega) (by rw [big_eq]; omega))
    · exact sFA rfl rfl rfl hz rfl (Gd.none_ rfl) rfl (Src.out (t := 3) (by kernel_rfl) S3 rfl) (fun w => by simp [go_sem])
    · exact sLoadP rfl rfl rfl hz rfl (Gd.none_ rfl) rfl (Src.dep (j := 5) (t := 16) (by kernel_rfl) (by kernel_rfl) rfl) Cp2 (by simp [tagOf, n_p2_p3]) ldp_r32
    · exact sFA rfl rfl rfl hz rfl (Gd.none_ rfl) rfl (Src.out (t := 2) (by kernel_rfl) S2 rfl) (fun w => by simp [go_sem])
    · exact sLoadP rfl rfl rfl hz rfl (Gd.none_ rfl) rfl (Src.dep (j := 7) (t := 18) (by kernel_rfl) (by kernel_rfl) rfl) Cp1 (by simp [tagOf, n_p1_p3]) ldq_r32
    · exact sCall rfl rfl rfl hz rfl (Gd.none_ rfl) rfl Try.func26 (by kernel_rfl) (by kernel_rfl) fun a γ w U => (by show Calls _ _ #[a.eval (.tmp 17), a.eval (.tmp 19)] _ _; exact d_mul (Src.at_ (Src.dep (j := 6) (t := 17) (by kernel_rfl) (by kernel_rfl) rfl) U) (Src.at_ (Src.dep (j := 8) (t := 19) (by kernel_rfl) (by kernel_rfl) rfl) U) (by rw [big_eq]; omega) (by rw [big_eq]; omega))
    · exact sCall rfl rfl rfl hz rfl (Gd.none_ rfl) rfl Try.func97 (by kernel_rfl) (by kernel_rfl) fun a γ w U => (by show Calls _ _ #[a.eval (.tmp 15), a.eval (.tmp 20)] _ _; exact d_minus (Src.at_ (Src.dep (j := 4) (t := 15) (by kernel_rfl) (by kernel_rfl) rfl) U) (Src.at_ (Src.dep (j := 9) (t := 20) (by kernel_rfl) (by kernel_rfl) rfl) U) (by rw [big_eq]; omega) (by rw [big_eq]; omega) hs)
    · exact sFA rfl rfl rfl hz rfl (Gd.none_ rfl) rfl (Src.out (t := 2) (by kernel_rfl) S2 rfl) (fun w => by simp [go_sem])
    · exact sLoadP rfl rfl rfl hz rfl (Gd.none_ rfl) rfl (Src.dep (j := 11) (t := 22) (by kernel_rfl) (by kernel_rfl) rfl) Cp1 (by simp [tagOf, n_p1_p3]) ldq_r32
    · exact sFA rfl rfl rfl hz rfl (Gd.none_ rfl) rfl (Src.out (t := 3) (by kernel_rfl) S3 rfl) (fun w => by simp [go_sem])
    · exact sLoadP rfl rfl rfl hz rfl (Gd.none_ rfl) rfl (Src.dep (j := 13) (t := 24) (by kernel_rfl) (by kernel_rfl) rfl) Cp2 (by simp [tagOf, n_p2_p3]) ldq_r32
    · exact sCall rfl rfl rfl hz rfl (Gd.none_ rfl) rfl Try.func26 (by kernel_rfl) (by kernel_rfl) fun a γ w U => (by show Calls _ _ #[a.eval (.tmp 23), a.eval (.tmp 25)] _ _; exact d_mul (Src.at_ (Src.dep (j := 12) (t := 23) (by kernel_rfl) (by kernel_rfl) rfl) U) (Src.at_ (Src.dep (j := 14) (t := 25) (by kernel_rfl) (by kernel_rfl) rfl) U) (by rw [big_eq]; omega) (by rw [big_eq]; omega))
    · exact sCall rfl rfl rfl hz rfl (Gd.none_ rfl) rfl Try.func50 (by kernel_rfl) (by kernel_rfl) fun a γ w U => (by show Calls _ _ #[a.eval (.tmp 21), a.eval (.tmp 26)] _ _; exact d_made (Src.at_ (Src.dep (j := 10) (t := 21) (by kernel_rfl) (by kernel_rfl) rfl) U) (Src.at_ (Src.dep (j := 15) (t := 26) (by kernel_rfl) (by kernel_rfl) rfl) U) (by omega) (by omega) (Nat.mul_pos hq hq'))
    · exact sStoreE rfl rfl rfl rfl rfl (Src.out (t := 4) (by kernel_rfl) S4 rfl) (by simp [tagOf]) (Cp3.var tR_nd) (Src.dep (j := 16) (t := 27) (by kernel_rfl) (by kernel_rfl) rfl) st_r32
    · exact sAs rfl rfl rfl hz rfl (Gd.none_ rfl) rfl (Src.const (.bool true))
  intro a' γ' W' hz' hd' hC hk hh
  clear Cp1
  clear Cp2
  replace Cp3 := gotE (T := tR B32 (l1 + l4) (l2 + l4) (((p * q') - (p' * q)) / Nat.gcd ((p * q') - (p' * q)) (q * q')) ((q * q') / Nat.gcd ((p * q') - (p' * q)) (q * q'))) (id := 33) (p := p3) 17 hh rfl rfl
  clear S2
  clear S3
  replace S4 := hk 4 _ (by kernel_rfl) S4
  clear S5
  clear S9
  have S5 := gotV hz' 18 hh rfl rfl rfl rfl
  replace HB := RelC.aftM HB hC (by intro m hm; simp at hm; rcases hm with rfl <;> assumption)
  clear hC hk hh; replace hz := hz'; replace hd := hd'; clear hz' hd'
  refine wp_ret ?_
  exact retct_r32 (by kernel_rfl) S4 S5 hd Cp3 HB

set_option maxRecDepth 10000 in
set_option maxHeartbeats 2000000 in
theorem d_sign_z {l1 l2 p q : Nat} {v0 : Value} {w : World} (h0 : (tR B32 l1 l2 p q).p v0 w) (b1 : l1 ≤ 100000000) (b2 : l2 ≤ 100000000) (hp : decide (p = 0) = true) :
    Calls Try.prog 98 #[v0] w (Ret (tV (.int .i64 0)) w) := by
  refine enter Try.func98 rfl Try.ntmps98 (by simp) ?_
  intro a hz hd ha
  have S0 := ha 0 _ rfl
  have H0 := h0
  clear ha
  have HB : Below w.heap.size w w := Below.refl _ _
  refine wp_seq ?_
  refine region_text (M := []) (
      rB 0 33 (tR B32 l1 l2 p q) none 0 ::
      rT (tV (.int .i64 0)) ::
      []) hz hd (by kernel_rfl) ?_ ?_
  · refine ⟨?_, ?_, trivial⟩
    · exact sBox rfl rfl rfl hz rfl rfl rfl (Src.out (t := 0) (by kernel_rfl) S0 H0) box_r32
    · exact sAs rfl rfl rfl hz rfl (Gd.none_ rfl) rfl (Src.const (.int .i64 0))
  intro a' γ' W' hz' hd' hC hk hh
  clear S0 H0
  obtain ⟨p1, S1, Cp1, lp1, gp1⟩ := gotB hz' 0 hC hh rfl rfl rfl rfl rfl rfl
  have S2 := gotV hz' 1 hh rfl rfl rfl rfl
  clear lp1 gp1
  replace HB := aft_call HB (RelC.below_nil hC)
  clear hC hk hh; replace hz := hz'; replace hd := hd'; clear hz' hd'
  refine wp_seq ?_
  refine wp_seq ?_
  refine region_text (M := []) (
      rT (tV (.pointer (some ⟨p1, 0, none⟩))) ::
      rT (tN B32 l1 p) ::
      rT (tV (.bool true)) ::
      []) hz hd (by kernel_rfl) ?_ ?_
  · refine ⟨?_, ?_, ?_, trivial⟩
    · exact sFA rfl rfl rfl hz rfl (Gd.none_ rfl) rfl (Src.out (t := 1) (by kernel_rfl) S1 rfl) (fun w => by simp [go_sem])
    · exact sLoadP rfl rfl rfl hz rfl (Gd.none_ rfl) rfl (Src.dep (j := 0) (t := 3) (by kernel_rfl) (by kernel_rfl) rfl) Cp1 rfl ldp_r32
    · exact sCall rfl rfl rfl hz rfl (Gd.none_ rfl) rfl Try.func23 (by kernel_rfl) (by kernel_rfl) fun a γ w U => (by show Calls _ _ #[a.eval (.tmp 4)] _ _; have hq : Calls _ _ #[a.eval (.tmp 4)] w (Ret _ w) := d_zero (Src.at_ (Src.dep (j := 1) (t := 4) (by kernel_rfl) (by kernel_rfl) rfl) U); simp only [hp] at hq; exact hq)
  intro a' γ' W' hz' hd' hC hk hh
  clear Cp1
  clear S1
  replace S2 := hk 2 _ (by kernel_rfl) S2
  have S5 := gotV hz' 2 hh rfl rfl rfl rfl
  replace HB := aft_call HB (RelC.below_nil hC)
  clear hC hk hh; replace hz := hz'; replace hd := hd'; clear hz' hd'
  refine wp_cond_true S5.ev ?_
  refine wp_seq ?_
  refine region_text (M := []) (
      rT (tV (.int .i64 0)) ::
      []) hz hd (by kernel_rfl) ?_ ?_
  · refine ⟨?_, trivial⟩
    · exact sAs rfl rfl rfl hz rfl (Gd.none_ rfl) rfl (Src.const (.int .i64 0))
  intro a' γ' W' hz' hd' hC hk hh
  clear S2
  clear S5
  have S2 := gotV hz' 0 hh rfl rfl rfl rfl
  replace HB := aft_call HB (RelC.below_nil hC)
  clear hC hk hh; replace hz := hz'; replace hd := hd'; clear hz' hd'
  refine wp_ret ?_
  exact ret1 (by kernel_rfl) S2 hd ⟨_, rfl, rfl, HB⟩

set_option maxRecDepth 10000 in
set_option maxHeartbeats 2000000 in
theorem d_sign_p {l1 l2 p q : Nat} {v0 : Value} {w : World} (h0 : (tR B32 l1 l2 p q).p v0 w) (b1 : l1 ≤ 100000000) (b2 : l2 ≤ 100000000) (hp : decide (p = 0) = false) :
    Calls Try.prog 98 #[v0] w (Ret (tV (.int .i64 1)) w) := by
  refine enter Try.func98 rfl Try.ntmps98 (by simp) ?_
  intro a hz hd ha
  have S0 := ha 0 _ rfl
  have H0 := h0
  clear ha
  have HB : Below w.heap.size w w := Below.refl _ _
  refine wp_seq ?_
  refine region_text (M := []) (
      rB 0 33 (tR B32 l1 l2 p q) none 0 ::
      rT (tV (.int .i64 0)) ::
      []) hz hd (by kernel_rfl) ?_ ?_
  · refine ⟨?_, ?_, trivial⟩
    · exact sBox rfl rfl rfl hz rfl rfl rfl (Src.out (t := 0) (by kernel_rfl) S0 H0) box_r32
    · exact sAs rfl rfl rfl hz rfl (Gd.none_ rfl) rfl (Src.const (.int .i64 0))
  intro a' γ' W' hz' hd' hC hk hh
  clear S0 H0
  obtain ⟨p1, S1, Cp1, lp1, gp1⟩ := gotB hz' 0 hC hh rfl rfl rfl rfl rfl rfl
  have S2 := gotV hz' 1 hh rfl rfl rfl rfl
  clear lp1 gp1
  replace HB := aft_call HB (RelC.below_nil hC)
  clear hC hk hh; replace hz := hz'; replace hd := hd'; clear hz' hd'
  refine wp_seq ?_
  refine wp_seq ?_
  refine region_text (M := []) (
      rT (tV (.pointer (some ⟨p1, 0, none⟩))) ::
      rT (tN B32 l1 p) ::
      rT (tV (.bool false)) ::
      []) hz hd (by kernel_rfl) ?_ ?_
  · refine ⟨?_, ?_, ?_, trivial⟩
    · exact sFA rfl rfl rfl hz rfl (Gd.none_ rfl) rfl (Src.out (t := 1) (by kernel_rfl) S1 rfl) (fun w => by simp [go_sem])
    · exact sLoadP rfl rfl rfl hz rfl (Gd.none_ rfl) rfl (Src.dep (j := 0) (t := 3) (by kernel_rfl) (by kernel_rfl) rfl) Cp1 rfl ldp_r32
    · exact sCall rfl rfl rfl hz rfl (Gd.none_ rfl) rfl Try.func23 (by kernel_rfl) (by kernel_rfl) fun a γ w U => (by show Calls _ _ #[a.eval (.tmp 4)] _ _; have hq : Calls _ _ #[a.eval (.tmp 4)] w (Ret _ w) := d_zero (Src.at_ (Src.dep (j := 1) (t := 4) (by kernel_rfl) (by kernel_rfl) rfl) U); simp only [hp] at hq; exact hq)
  intro a' γ' W' hz' hd' hC hk hh
  clear Cp1
  clear S1
  replace S2 := hk 2 _ (by kernel_rfl) S2
  have S5 := gotV hz' 2 hh rfl rfl rfl rfl
  replace HB := aft_call HB (RelC.below_nil hC)
  clear hC hk hh; replace hz := hz'; replace hd := hd'; clear hz' hd'
  refine wp_cond_false S5.ev ?_
  refine wp_skip ?_
  refine wp_seq ?_
  refine region_text (M := []) (
      rT (tV (.int .i64 1)) ::
      []) hz hd (by kernel_rfl) ?_ ?_
  · refine ⟨?_, trivial⟩
    · exact sAs rfl rfl rfl hz rfl (Gd.none_ rfl) rfl (Src.const (.int .i64 1))
  intro a' γ' W' hz' hd' hC hk hh
  clear S2
  clear S5
  have S2 := gotV hz' 0 hh rfl rfl rfl rfl
  replace HB := aft_call HB (RelC.below_nil hC)
  clear hC hk hh; replace hz := hz'; replace hd := hd'; clear hz' hd'
  refine wp_ret ?_
  exact ret1 (by kernel_rfl) S2 hd ⟨_, rfl, rfl, HB⟩

set_option maxRecDepth 10000 in
set_option maxHeartbeats 2000000 in
theorem d_rdiv_z {l1 l2 l3 l4 p q p' q' : Nat} {v0 v1 : Value} {w : World} (h0 : (tR B32 l1 l2 p q).p v0 w) (h1 : (tR B32 l3 l4 p' q').p v1 w) (b1 : l1 ≤ 100000000) (b2 : l2 ≤ 100000000) (b3 : l3 ≤ 100000000) (b4 : l4 ≤ 100000000) (hp : decide (p' = 0) = true) :
    Calls Try.prog 69 #[v0, v1] w (Ret (tT [tR B32 2 2 0 1, tV (.bool false)]) w) := by
  refine enter Try.func69 rfl Try.ntmps69 (by simp) ?_
  intro a hz hd ha
  have S0 := ha 0 _ rfl
  have H0 := h0
  have S1 := ha 1 _ rfl
  have H1 := h1
  clear ha
  have HB : Below w.heap.size w w := Below.refl _ _
  refine wp_seq ?_
  refine region_text (M := []) (
      rB 0 33 (tR B32 l1 l2 p q) none 0 ::
      rB 1 33 (tR B32 l3 l4 p' q') none 0 ::
      rB 2 33 (tR B32 0 0 0 0) none 0 ::
      rT (tV (.bool false)) ::
      []) hz hd (by kernel_rfl) ?_ ?_
  · refine ⟨?_, ?_, ?_, ?_, trivial⟩
    · exact sBox rfl rfl rfl hz rfl rfl rfl (Src.out (t := 0) (by kernel_rfl) S0 H0) box_r32
    · exact sBox rfl rfl rfl hz rfl rfl rfl (Src.out (t := 1) (by kernel_rfl) S1 H1) box_r32
    · exact sNew rfl rfl rfl hz rfl rfl rfl (fun _ => tR_nil) al_r32
    · exact sAs rfl rfl rfl hz rfl (Gd.none_ rfl) rfl (Src.const (.bool false))
  intro a' γ' W' hz' hd' hC hk hh
  clear S0 H0
  clear S1 H1
  obtain ⟨p1, S2, Cp1, lp1, gp1⟩ := gotB hz' 0 hC hh rfl rfl rfl rfl rfl rfl
  obtain ⟨p2, S3, Cp2, lp2, gp2⟩ := gotB hz' 1 hC hh rfl rfl rfl rfl rfl rfl
  obtain ⟨p3, S4, Cp3, lp3, gp3⟩ := gotB hz' 2 hC hh rfl rfl rfl rfl rfl rfl
  have S5 := gotV hz' 3 hh rfl rfl rfl rfl
  have n_p1_p3 : p1 ≠ p3 := by intro e; rw [e, gp3] at gp1; omega
  have n_p2_p3 : p2 ≠ p3 := by intro e; rw [e, gp3] at gp2; omega
  have bp3 : w.heap.size ≤ p3 := Nat.le_trans HB.size lp3
  clear lp1 gp1 lp2 gp2 lp3 gp3
  replace HB := aft_call HB (RelC.below_nil hC)
  clear hC hk hh; replace hz := hz'; replace hd := hd'; clear hz' hd'
  refine wp_seq ?_
  refine wp_seq ?_
  refine region_text (M := []) (
      rT (tR B32 l3 l4 p' q') ::
      rT (tV (.int .i64 0)) ::
      rT (tV (.bool true)) ::
      []) hz hd (by kernel_rfl) ?_ ?_
  · refine ⟨?_, ?_, ?_, trivial⟩
    · exact sLoad rfl rfl rfl hz rfl (Gd.none_ rfl) rfl (Src.out (t := 3) (by kernel_rfl) S3 rfl) Cp2 rfl ld_r32
    · exact sCall rfl rfl rfl hz rfl (Gd.none_ rfl) rfl Try.func98 (by kernel_rfl) (by kernel_rfl) fun a γ w U => (by show Calls _ _ #[a.eval (.tmp 6)] _ _; exact d_sign_z (Src.at_ (Src.dep (j := 0) (t := 6) (by kernel_rfl) (by kernel_rfl) rfl) U) (by omega) (by omega) hp)
    · exact sBin rfl rfl rfl hz rfl (Gd.none_ rfl) rfl (Src.dep (j := 1) (t := 7) (by kernel_rfl) (by kernel_rfl) rfl) (Src.const (.int .i64 0)) (fun w => by simp [go_sem])
  intro a' γ' W' hz' hd' hC hk hh
  replace Cp1 := Cell.aft Cp1 hC rfl
  replace Cp2 := Cell.aft Cp2 hC rfl
  have tp3 := Cp3.lt
  replace Cp3 := Cell.aft Cp3 hC rfl
  replace S2 := hk 2 _ (by kernel_rfl) S2
  replace S3 := hk 3 _ (by kernel_rfl) S3
  replace S4 := hk 4 _ (by kernel_rfl) S4
  replace S5 := hk 5 _ (by kernel_rfl) S5
  have S8 := gotV hz' 2 hh rfl rfl rfl rfl
  clear tp3
  replace HB := aft_call HB (RelC.below_nil hC)
  clear hC hk hh; replace hz := hz'; replace hd := hd'; clear hz' hd'
  refine wp_cond_true S8.ev ?_
  refine wp_seq ?_
  refine region_text (M := [p3]) (
      rT (tR B32 2 2 0 1) ::
      rE 0 33 (tR B32 2 2 0 1) p3 ::
      rT (tV (.bool false)) ::
      []) hz hd (by kernel_rfl) ?_ ?_
  · refine ⟨?_, ?_, ?_, trivial⟩
    · exact sCall rfl rfl rfl hz rfl (Gd.none_ rfl) rfl Try.func44 (by kernel_rfl) (by kernel_rfl) fun a γ w U => (by show Calls _ _ #[] _ _; exact d_qzero)
    · exact sStoreE rfl rfl rfl rfl rfl (Src.out (t := 4) (by kernel_rfl) S4 rfl) (by simp [tagOf]) (Cp3.var tR_nd) (Src.dep (j := 0) (t := 9) (by kernel_rfl) (by kernel_rfl) rfl) st_r32
    · exact sAs rfl rfl rfl hz rfl (Gd.none_ rfl) rfl (Src.const (.bool false))
  intro a' γ' W' hz' hd' hC hk hh
  replace Cp1 := Cell.aft Cp1 hC (by simp [tagOf, n_p1_p3])
  replace Cp2 := Cell.aft Cp2 hC (by simp [tagOf, n_p2_p3])
  replace Cp3 := gotE (T := tR B32 2 2 0 1) (id := 33) (p := p3) 1 hh rfl rfl
  replace S2 := hk 2 _ (by kernel_rfl) S2
  replace S3 := hk 3 _ (by kernel_rfl) S3
  replace S4 := hk 4 _ (by kernel_rfl) S4
  clear S5
  clear S8
  have S5 := gotV hz' 2 hh rfl rfl rfl rfl
  replace HB := RelC.aftM HB hC (by intro m hm; simp at hm; rcases hm with rfl <;> assumption)
  clear hC hk hh; replace hz := hz'; replace hd := hd'; clear hz' hd'
  refine wp_ret ?_
  exact retct_r32 (by kernel_rfl) S4 S5 hd Cp3 HB

set_option maxRecDepth 10000 in
set_option maxHeartbeats 2000000 in
theorem d_rdiv_p {l1 l2 l3 l4 p q p' q' : Nat} {v0 v1 : Value} {w : World} (h0 : (tR B32 l1 l2 p q).p v0 w) (h1 : (tR B32 l3 l4 p' q').p v1 w) (b1 : l1 ≤ 100000000) (b2 : l2 ≤ 100000000) (b3 : l3 ≤ 100000000) (b4 : l4 ≤ 100000000) (hp : 0 < p') (hq : 0 < q) :
    Calls Try.prog 69 #[v0, v1] w (Ret (tT [tR B32 (l1 + l4) (l2 + l3) ((p * q') / Nat.gcd (p * q') (q * p')) ((q * p') / Nat.gcd (p * q') (q * p')), tV (.bool true)]) w) := by
  refine enter Try.func69 rfl Try.ntmps69 (by simp) ?_
  intro a hz hd ha
  have S0 := ha 0 _ rfl
  have H0 := h0
  have S1 := ha 1 _ rfl
  have H1 := h1
  clear ha
  have HB : Below w.heap.size w w := Below.refl _ _
  refine wp_seq ?_
  refine region_text (M := []) (
      rB 0 33 (tR B32 l1 l2 p q) none 0 ::
      rB 1 33 (tR B32 l3 l4 p' q') none 0 ::
      rB 2 33 (tR B32 0 0 0 0) none 0 ::
      rT (tV (.bool false)) ::
      []) hz hd (by kernel_rfl) ?_ ?_
  · refine ⟨?_, ?_, ?_, ?_, trivial⟩
    · exact sBox rfl rfl rfl hz rfl rfl rfl (Src.out (t := 0) (by kernel_rfl) S0 H0) box_r32
    · exact sBox rfl rfl rfl hz rfl rfl rfl (Src.out (t := 1) (by kernel_rfl) S1 H1) box_r32
    · exact sNew rfl rfl rfl hz rfl rfl rfl (fun _ => tR_nil) al_r32
    · exact sAs rfl rfl rfl hz rfl (Gd.none_ rfl) rfl (Src.const (.bool false))
  intro a' γ' W' hz' hd' hC hk hh
  clear S0 H0
  clear S1 H1
  obtain ⟨p1, S2, Cp1, lp1, gp1⟩ := gotB hz' 0 hC hh rfl rfl rfl rfl rfl rfl
  obtain ⟨p2, S3, Cp2, lp2, gp2⟩ := gotB hz' 1 hC hh rfl rfl rfl rfl rfl rfl
  obtain ⟨p3, S4, Cp3, lp3, gp3⟩ := gotB hz' 2 hC hh rfl rfl rfl rfl rfl rfl
  have S5 := gotV hz' 3 hh rfl rfl rfl rfl
  have n_p1_p3 : p1 ≠ p3 := by intro e; rw [e, gp3] at gp1; omega
  have n_p2_p3 : p2 ≠ p3 := by intro e; rw [e, gp3] at gp2; omega
  have bp3 : w.heap.size ≤ p3 := Nat.le_trans HB.size lp3
  clear lp1 gp1 lp2 gp2 lp3 gp3
  replace HB := aft_call HB (RelC.below_nil hC)
  clear hC hk hh; replace hz := hz'; replace hd := hd'; clear hz' hd'
  refine wp_seq ?_
  refine wp_seq ?_
  refine region_text (M := []) (
      rT (tR B32 l3 l4 p' q') ::
      rT (tV (.int .i64 1)) ::
      rT (tV (.bool false)) ::
      []) hz hd (by kernel_rfl) ?_ ?_
  · refine ⟨?_, ?_, ?_, trivial⟩
    · exact sLoad rfl rfl rfl hz rfl (Gd.none_ rfl) rfl (Src.out (t := 3) (by kernel_rfl) S3 rfl) Cp2 rfl ld_r32
    · exact sCall rfl rfl rfl hz rfl (Gd.none_ rfl) rfl Try.func98 (by kernel_rfl) (by kernel_rfl) fun a γ w U => (by show Calls _ _ #[a.eval (.tmp 6)] _ _; exact d_sign_p (Src.at_ (Src.dep (j := 0) (t := 6) (by kernel_rfl) (by kernel_rfl) rfl) U) (by omega) (by omega) (decide_eq_false (by omega)))
    · exact sBin rfl rfl rfl hz rfl (Gd.none_ rfl) rfl (Src.dep (j := 1) (t := 7) (by kernel_rfl) (by kernel_rfl) rfl) (Src.const (.int .i64 0)) (fun w => by simp [go_sem])
  intro a' γ' W' hz' hd' hC hk hh
  replace Cp1 := Cell.aft Cp1 hC rfl
  replace Cp2 := Cell.aft Cp2 hC rfl
  have tp3 := Cp3.lt
  replace Cp3 := Cell.aft Cp3 hC rfl
  replace S2 := hk 2 _ (by kernel_rfl) S2
  replace S3 := hk 3 _ (by kernel_rfl) S3
  replace S4 := hk 4 _ (by kernel_rfl) S4
  replace S5 := hk 5 _ (by kernel_rfl) S5
  have S8 := gotV hz' 2 hh rfl rfl rfl rfl
  clear tp3
  replace HB := aft_call HB (RelC.below_nil hC)
  clear hC hk hh; replace hz := hz'; replace hd := hd'; clear hz' hd'
  refine wp_cond_false S8.ev ?_
  refine wp_skip ?_
  refine wp_seq ?_
  refine region_drawn (M := [p3]) (
      rT (tV (.pointer (some ⟨p1, 0, none⟩))) ::
      rT (tN B32 l1 p) ::
      rT (tV (.pointer (some ⟨p2, 1, none⟩))) ::
      rT (tN B32 l4 q') ::
      rT (tN B32 (l1 + l4) (p * q')) ::
      rT (tV (.pointer (some ⟨p1, 1, none⟩))) ::
      rT (tN B32 l2 q) ::
      rT (tV (.pointer (some ⟨p2, 0, none⟩))) ::
      rT (tN B32 l3 p') ::
      rT (tN B32 (l2 + l3) (q * p')) ::
      rT (tR B32 (l1 + l4) (l2 + l3) ((p * q') / Nat.gcd (p * q') (q * p')) ((q * p') / Nat.gcd (p * q') (q * p'))) ::
      rE 0 33 (tR B32 (l1 + l4) (l2 + l3) ((p * q') / Nat.gcd (p * q') (q * p')) ((q * p') / Nat.gcd (p * q') (q * p'))) p3 ::
      rT (tV (.bool true)) ::
      []) hz hd (by kernel_rfl) (by kernel_rfl) ?_ ?_
  · refine ⟨?_, ?_, ?_, ?_, ?_, ?_, ?_, ?_, ?_, ?_, ?_, ?_, ?_, trivial⟩
    · exact sFA rfl rfl rfl hz rfl (Gd.none_ rfl) rfl (Src.out (t := 2) (by kernel_rfl) S2 rfl) (fun w => by simp [go_sem])
    · exact sLoadP rfl rfl rfl hz rfl (Gd.none_ rfl) rfl (Src.dep (j := 0) (t := 10) (by kernel_rfl) (by kernel_rfl) rfl) Cp1 (by simp [tagOf, n_p1_p3]) ldp_r32
    · exact sFA rfl rfl rfl hz rfl (Gd.none_ rfl) rfl (Src.out (t := 3) (by kernel_rfl) S3 rfl) (fun w => by simp [go_sem])
    · exact sLoadP rfl rfl rfl hz rfl (Gd.none_ rfl) rfl (Src.dep (j := 2) (t := 12) (by kernel_rfl) (by kernel_rfl) rfl) Cp2 (by simp [tagOf, n_p2_p3]) ldq_r32
    · exact sCall rfl rfl rfl hz rfl (Gd.none_ rfl) rfl Try.func26 (by kernel_rfl) (by kernel_rfl) fun a γ w U => (by show Calls _ _ #[a.eval (.tmp 11), a.eval (.tmp 13)] _ _; exact d_mul (Src.at_ (Src.dep (j := 1) (t := 11) (by kernel_rfl) (by kernel_rfl) rfl) U) (Src.at_ (Src.dep (j := 3) (t := 13) (by kernel_rfl) (by kernel_rfl) rfl) U) (by rw [big_eq]; omega) (by rw [big_eq]; omega))
    · exact sFA rfl rfl rfl hz rfl (Gd.none_ rfl) rfl (Src.out (t := 2) (by kernel_rfl) S2 rfl) (fun w => by simp [go_sem])
    · exact sLoadP rfl rfl rfl hz rfl (Gd.none_ rfl) rfl (Src.dep (j := 5) (t := 15) (by kernel_rfl) (by kernel_rfl) rfl) Cp1 (by simp [tagOf, n_p1_p3]) ldq_r32
    · exact sFA rfl rfl rfl hz rfl (Gd.none_ rfl) rfl (Src.out (t := 3) (by kernel_rfl) S3 rfl) (fun w => by simp [go_sem])
    · exact sLoadP rfl rfl rfl hz rfl (Gd.none_ rfl) rfl (Src.dep (j := 7) (t := 17) (by kernel_rfl) (by kernel_rfl) rfl) Cp2 (by simp [tagOf, n_p2_p3]) ldp_r32
    · exact sCall rfl rfl rfl hz rfl (Gd.none_ rfl) rfl Try.func26 (by kernel_rfl) (by kernel_rfl) fun a γ w U => (by show Calls _ _ #[a.eval (.tmp 16), a.eval (.tmp 18)] _ _; exact d_mul (Src.at_ (Src.dep (j := 6) (t := 16) (by kernel_rfl) (by kernel_rfl) rfl) U) (Src.at_ (Src.dep (j := 8) (t := 18) (by kernel_rfl) (by kernel_rfl) rfl) U) (by rw [big_eq]; omega) (by rw [big_eq]; omega))
    · exact sCall rfl rfl rfl hz rfl (Gd.none_ rfl) rfl Try.func50 (by kernel_rfl) (by kernel_rfl) fun a γ w U => (by show Calls _ _ #[a.eval (.tmp 14), a.eval (.tmp 19)] _ _; exact d_made (Src.at_ (Src.dep (j := 4) (t := 14) (by kernel_rfl) (by kernel_rfl) rfl) U) (Src.at_ (Src.dep (j := 9) (t := 19) (by kernel_rfl) (by kernel_rfl) rfl) U) (by omega) (by omega) (Nat.mul_pos hq hp))
    · exact sStoreE rfl rfl rfl rfl rfl (Src.out (t := 4) (by kernel_rfl) S4 rfl) (by simp [tagOf]) (Cp3.var tR_nd) (Src.dep (j := 10) (t := 20) (by kernel_rfl) (by kernel_rfl) rfl) st_r32
    · exact sAs rfl rfl rfl hz rfl (Gd.none_ rfl) rfl (Src.const (.bool true))
  intro a' γ' W' hz' hd' hC hk hh
  clear Cp1
  clear Cp2
  replace Cp3 := gotE (T := tR B32 (l1 + l4) (l2 + l3) ((p * q') / Nat.gcd (p * q') (q * p')) ((q * p') / Nat.gcd (p * q') (q * p'))) (id := 33) (p := p3) 11 hh rfl rfl
  clear S2
  clear S3
  replace S4 := hk 4 _ (by kernel_rfl) S4
  clear S5
  clear S8
  have S5 := gotV hz' 12 hh rfl rfl rfl rfl
  replace HB := RelC.aftM HB hC (by intro m hm; simp at hm; rcases hm with rfl <;> assumption)
  clear hC hk hh; replace hz := hz'; replace hd := hd'; clear hz' hd'
  refine wp_ret ?_
  exact retct_r32 (by kernel_rfl) S4 S5 hd Cp3 HB

set_option maxRecDepth 10000 in
set_option maxHeartbeats 2000000 in
theorem d_rfloor {l1 l2 p q : Nat} {v0 : Value} {w : World} (h0 : (tR B32 l1 l2 p q).p v0 w) (b1 : l1 ≤ 100000000) (b2 : l2 ≤ 100000000) (hq : 0 < q) :
    Calls Try.prog 35 #[v0] w (Ret (tN B32 l1 (p / q)) w) := by
  refine enter Try.func35 rfl Try.ntmps35 (by simp) ?_
  intro a hz hd ha
  have S0 := ha 0 _ rfl
  have H0 := h0
  clear ha
  have HB : Below w.heap.size w w := Below.refl _ _
  refine wp_seq ?_
  refine region_text (M := []) (
      rB 0 33 (tR B32 l1 l2 p q) none 0 ::
      rB 1 31 (tN B32 0 0) none 0 ::
      []) hz hd (by kernel_rfl) ?_ ?_
  · refine ⟨?_, ?_, trivial⟩
    · exact sBox rfl rfl rfl hz rfl rfl rfl (Src.out (t := 0) (by kernel_rfl) S0 H0) box_r32
    · exact sNew rfl rfl rfl hz rfl rfl rfl (fun _ => tN_nil) al_n32
  intro a' γ' W' hz' hd' hC hk hh
  clear S0 H0
  obtain ⟨p1, S1, Cp1, lp1, gp1⟩ := gotB hz' 0 hC hh rfl rfl rfl rfl rfl rfl
  obtain ⟨p2, S2, Cp2, lp2, gp2⟩ := gotB hz' 1 hC hh rfl rfl rfl rfl rfl rfl
  have n_p1_p2 : p1 ≠ p2 := by intro e; rw [e, gp2] at gp1; omega
  have bp2 : w.heap.size ≤ p2 := Nat.le_trans HB.size lp2
  clear lp1 gp1 lp2 gp2
  replace HB := aft_call HB (RelC.below_nil hC)
  clear hC hk hh; replace hz := hz'; replace hd := hd'; clear hz' hd'
  refine wp_seq ?_
  refine region_text (M := []) (
      rT (tV (.pointer (some ⟨p1, 0, none⟩))) ::
      rT (tN B32 l1 p) ::
      rT (tV (.pointer (some ⟨p1, 1, none⟩))) ::
      rT (tN B32 l2 q) ::
      rT (tT [tN B32 l1 (p / q), tN B32 l1 (p % q)]) ::
      rT (tT [tN B32 l1 (p / q), tN B32 l1 (p % q)]) ::
      rT (tN B32 l1 (p / q)) ::
      rT (tN B32 l1 (p % q)) ::
      rVar 8 31 1 ::
      rVar 9 31 1 ::
      rB 8 31 (tN B32 l1 (p / q)) (some 8) 9 ::
      rB 9 31 (tN B32 l1 (p % q)) (some 9) 10 ::
      []) hz hd (by kernel_rfl) ?_ ?_
  · refine ⟨?_, ?_, ?_, ?_, ?_, ?_, ?_, ?_, ?_, ?_, ?_, ?_, trivial⟩
    · exact sFA rfl rfl rfl hz rfl (Gd.none_ rfl) rfl (Src.out (t := 1) (by kernel_rfl) S1 rfl) (fun w => by simp [go_sem])
    · exact sLoadP rfl rfl rfl hz rfl (Gd.none_ rfl) rfl (Src.dep (j := 0) (t := 6) (by kernel_rfl) (by kernel_rfl) rfl) Cp1 rfl ldp_r32
    · exact sFA rfl rfl rfl hz rfl (Gd.none_ rfl) rfl (Src.out (t := 1) (by kernel_rfl) S1 rfl) (fun w => by simp [go_sem])
    · exact sLoadP rfl rfl rfl hz rfl (Gd.none_ rfl) rfl (Src.dep (j := 2) (t := 8) (by kernel_rfl) (by kernel_rfl) rfl) Cp1 rfl ldq_r32
    · exact sCall rfl rfl rfl hz rfl (Gd.none_ rfl) rfl Try.func57 (by kernel_rfl) (by kernel_rfl) fun a γ w U => (by show Calls _ _ #[a.eval (.tmp 7), a.eval (.tmp 9)] _ _; exact d_divmod (Src.at_ (Src.dep (j := 1) (t := 7) (by kernel_rfl) (by kernel_rfl) rfl) U) (Src.at_ (Src.dep (j := 3) (t := 9) (by kernel_rfl) (by kernel_rfl) rfl) U) (by rw [big_eq]; omega) (by rw [big_eq]; omega) hq)
    · exact sMv rfl rfl rfl hz rfl (Gd.none_ rfl) rfl (Src.dep (j := 4) (t := 10) (by kernel_rfl) (by kernel_rfl) rfl)
    · exact sExt rfl rfl rfl hz rfl (Gd.none_ rfl) rfl (Src.dep (j := 5) (t := 5) (by kernel_rfl) (by kernel_rfl) rfl) rfl
    · exact sExt rfl rfl rfl hz rfl (Gd.none_ rfl) rfl (Src.dep (j := 5) (t := 5) (by kernel_rfl) (by kernel_rfl) rfl) rfl
    · exact sAlloc rfl rfl rfl hz rfl rfl rfl rfl nd_slice al_n32
    · exact sAlloc rfl rfl rfl hz rfl rfl rfl rfl nd_slice al_n32
    · exact sStore rfl rfl rfl rfl rfl (by kernel_rfl) (by kernel_rfl) rfl (Src.dep (j := 6) (t := 11) (by kernel_rfl) (by kernel_rfl) rfl) st_n32
    · exact sStore rfl rfl rfl rfl rfl (by kernel_rfl) (by kernel_rfl) rfl (Src.dep (j := 7) (t := 12) (by kernel_rfl) (by kernel_rfl) rfl) st_n32
  intro a' γ' W' hz' hd' hC hk hh
  have ep1 := Cp1.lt
  have ep2 := Cp2.lt
  clear Cp1
  have tp2 := Cp2.lt
  replace Cp2 := Cell.aft Cp2 hC rfl
  clear S1
  replace S2 := hk 2 _ (by kernel_rfl) S2
  obtain ⟨p3, S3, Cp3, lp3, gp3⟩ := gotB hz' 10 hC hh rfl rfl rfl rfl rfl rfl
  have n_p3_p2 : p3 ≠ p2 := by omega
  have n_p2_p3 : p2 ≠ p3 := by have := ep2; omega
  have bp3 : w.heap.size ≤ p3 := Nat.le_trans HB.size lp3
  clear lp3 gp3
  clear tp2
  clear ep1 ep2
  replace HB := aft_call HB (RelC.below_nil hC)
  clear hC hk hh; replace hz := hz'; replace hd := hd'; clear hz' hd'
  refine wp_seq ?_
  refine region_text (M := [p2]) (
      rT (tN B32 l1 (p / q)) ::
      rE 0 31 (tN B32 l1 (p / q)) p2 ::
      []) hz hd (by kernel_rfl) ?_ ?_
  · refine ⟨?_, ?_, trivial⟩
    · exact sLoad rfl rfl rfl hz rfl (Gd.none_ rfl) rfl (Src.out (t := 3) (by kernel_rfl) S3 rfl) Cp3 (by simp [tagOf, n_p3_p2]) ld_n32
    · exact sStoreE rfl rfl rfl rfl rfl (Src.out (t := 2) (by kernel_rfl) S2 rfl) (by simp [tagOf]) (Cp2.var tN_nd) (Src.dep (j := 0) (t := 13) (by kernel_rfl) (by kernel_rfl) rfl) st_n32
  intro a' γ' W' hz' hd' hC hk hh
  replace Cp2 := gotE (T := tN B32 l1 (p / q)) (id := 31) (p := p2) 1 hh rfl rfl
  have tp3 := Cp3.lt
  clear Cp3
  replace S2 := hk 2 _ (by kernel_rfl) S2
  clear S3
  clear tp3
  replace HB := RelC.aftM HB hC (by intro m hm; simp at hm; rcases hm with rfl <;> assumption)
  clear hC hk hh; replace hz := hz'; replace hd := hd'; clear hz' hd'
  refine wp_ret ?_
  exact ret1_n32 (by kernel_rfl) S2 hd Cp2 HB

set_option maxRecDepth 10000 in
set_option maxHeartbeats 2000000 in
theorem d_rceil_w {l1 l2 p q : Nat} {v0 : Value} {w : World} (h0 : (tR B32 l1 l2 p q).p v0 w) (b1 : l1 ≤ 100000000) (b2 : l2 ≤ 100000000) (hq : 0 < q) (hm : decide (p % q = 0) = true) :
    Calls Try.prog 36 #[v0] w (Ret (tN B32 l1 (p / q)) w) := by
  refine enter Try.func36 rfl Try.ntmps36 (by simp) ?_
  intro a hz hd ha
  have S0 := ha 0 _ rfl
  have H0 := h0
  clear ha
  have HB : Below w.heap.size w w := Below.refl _ _
  refine wp_seq ?_
  refine region_text (M := []) (
      rB 0 33 (tR B32 l1 l2 p q) none 0 ::
      rB 1 31 (tN B32 0 0) none 0 ::
      []) hz hd (by kernel_rfl) ?_ ?_
  · refine ⟨?_, ?_, trivial⟩
    · exact sBox rfl rfl rfl hz rfl rfl rfl (Src.out (t := 0) (by kernel_rfl) S0 H0) box_r32
    · exact sNew rfl rfl rfl hz rfl rfl rfl (fun _ => tN_nil) al_n32
  intro a' γ' W' hz' hd' hC hk hh
  clear S0 H0
  obtain ⟨p1, S1, Cp1, lp1, gp1⟩ := gotB hz' 0 hC hh rfl rfl rfl rfl rfl rfl
  obtain ⟨p2, S2, Cp2, lp2, gp2⟩ := gotB hz' 1 hC hh rfl rfl rfl rfl rfl rfl
  have n_p1_p2 : p1 ≠ p2 := by intro e; rw [e, gp2] at gp1; omega
  have bp2 : w.heap.size ≤ p2 := Nat.le_trans HB.size lp2
  clear lp1 gp1 lp2 gp2
  replace HB := aft_call HB (RelC.below_nil hC)
  clear hC hk hh; replace hz := hz'; replace hd := hd'; clear hz' hd'
  refine wp_seq ?_
  refine region_text (M := []) (
      rT (tV (.pointer (some ⟨p1, 0, none⟩))) ::
      rT (tN B32 l1 p) ::
      rT (tV (.pointer (some ⟨p1, 1, none⟩))) ::
      rT (tN B32 l2 q) ::
      rT (tT [tN B32 l1 (p / q), tN B32 l1 (p % q)]) ::
      rT (tT [tN B32 l1 (p / q), tN B32 l1 (p % q)]) ::
      rT (tN B32 l1 (p / q)) ::
      rT (tN B32 l1 (p % q)) ::
      rVar 8 31 1 ::
      rVar 9 31 1 ::
      rB 8 31 (tN B32 l1 (p / q)) (some 8) 9 ::
      rB 9 31 (tN B32 l1 (p % q)) (some 9) 10 ::
      []) hz hd (by kernel_rfl) ?_ ?_
  · refine ⟨?_, ?_, ?_, ?_, ?_, ?_, ?_, ?_, ?_, ?_, ?_, ?_, trivial⟩
    · exact sFA rfl rfl rfl hz rfl (Gd.none_ rfl) rfl (Src.out (t := 1) (by kernel_rfl) S1 rfl) (fun w => by simp [go_sem])
    · exact sLoadP rfl rfl rfl hz rfl (Gd.none_ rfl) rfl (Src.dep (j := 0) (t := 6) (by kernel_rfl) (by kernel_rfl) rfl) Cp1 rfl ldp_r32
    · exact sFA rfl rfl rfl hz rfl (Gd.none_ rfl) rfl (Src.out (t := 1) (by kernel_rfl) S1 rfl) (fun w => by simp [go_sem])
    · exact sLoadP rfl rfl rfl hz rfl (Gd.none_ rfl) rfl (Src.dep (j := 2) (t := 8) (by kernel_rfl) (by kernel_rfl) rfl) Cp1 rfl ldq_r32
    · exact sCall rfl rfl rfl hz rfl (Gd.none_ rfl) rfl Try.func57 (by kernel_rfl) (by kernel_rfl) fun a γ w U => (by show Calls _ _ #[a.eval (.tmp 7), a.eval (.tmp 9)] _ _; exact d_divmod (Src.at_ (Src.dep (j := 1) (t := 7) (by kernel_rfl) (by kernel_rfl) rfl) U) (Src.at_ (Src.dep (j := 3) (t := 9) (by kernel_rfl) (by kernel_rfl) rfl) U) (by rw [big_eq]; omega) (by rw [big_eq]; omega) hq)
    · exact sMv rfl rfl rfl hz rfl (Gd.none_ rfl) rfl (Src.dep (j := 4) (t := 10) (by kernel_rfl) (by kernel_rfl) rfl)
    · exact sExt rfl rfl rfl hz rfl (Gd.none_ rfl) rfl (Src.dep (j := 5) (t := 5) (by kernel_rfl) (by kernel_rfl) rfl) rfl
    · exact sExt rfl rfl rfl hz rfl (Gd.none_ rfl) rfl (Src.dep (j := 5) (t := 5) (by kernel_rfl) (by kernel_rfl) rfl) rfl
    · exact sAlloc rfl rfl rfl hz rfl rfl rfl rfl nd_slice al_n32
    · exact sAlloc rfl rfl rfl hz rfl rfl rfl rfl nd_slice al_n32
    · exact sStore rfl rfl rfl rfl rfl (by kernel_rfl) (by kernel_rfl) rfl (Src.dep (j := 6) (t := 11) (by kernel_rfl) (by kernel_rfl) rfl) st_n32
    · exact sStore rfl rfl rfl rfl rfl (by kernel_rfl) (by kernel_rfl) rfl (Src.dep (j := 7) (t := 12) (by kernel_rfl) (by kernel_rfl) rfl) st_n32
  intro a' γ' W' hz' hd' hC hk hh
  have ep1 := Cp1.lt
  have ep2 := Cp2.lt
  clear Cp1
  have tp2 := Cp2.lt
  replace Cp2 := Cell.aft Cp2 hC rfl
  clear S1
  replace S2 := hk 2 _ (by kernel_rfl) S2
  obtain ⟨p3, S3, Cp3, lp3, gp3⟩ := gotB hz' 10 hC hh rfl rfl rfl rfl rfl rfl
  obtain ⟨p4, S4, Cp4, lp4, gp4⟩ := gotB hz' 11 hC hh rfl rfl rfl rfl rfl rfl
  have n_p3_p2 : p3 ≠ p2 := by omega
  have n_p4_p2 : p4 ≠ p2 := by omega
  have n_p4_p3 : p4 ≠ p3 := by intro e; rw [e, gp3] at gp4; omega
  have n_p2_p3 : p2 ≠ p3 := by have := ep2; omega
  have bp3 : w.heap.size ≤ p3 := Nat.le_trans HB.size lp3
  clear lp3 gp3 lp4 gp4
  clear tp2
  clear ep1 ep2
  replace HB := aft_call HB (RelC.below_nil hC)
  clear hC hk hh; replace hz := hz'; replace hd := hd'; clear hz' hd'
  refine wp_seq ?_
  refine wp_seq ?_
  refine region_text (M := []) (
      rT (tN B32 l1 (p % q)) ::
      rT (tV (.bool true)) ::
      rT (tV (.bool false)) ::
      []) hz hd (by kernel_rfl) ?_ ?_
  · refine ⟨?_, ?_, ?_, trivial⟩
    · exact sLoad rfl rfl rfl hz rfl (Gd.none_ rfl) rfl (Src.out (t := 4) (by kernel_rfl) S4 rfl) Cp4 rfl ld_n32
    · exact sCall rfl rfl rfl hz rfl (Gd.none_ rfl) rfl Try.func23 (by kernel_rfl) (by kernel_rfl) fun a γ w U => (by show Calls _ _ #[a.eval (.tmp 13)] _ _; have hq : Calls _ _ #[a.eval (.tmp 13)] w (Ret _ w) := d_zero (Src.at_ (Src.dep (j := 0) (t := 13) (by kernel_rfl) (by kernel_rfl) rfl) U); simp only [hm] at hq; exact hq)
    · exact sNot (b := true) rfl rfl rfl hz rfl (Gd.none_ rfl) rfl (Src.dep (j := 1) (t := 14) (by kernel_rfl) (by kernel_rfl) rfl)
  intro a' γ' W' hz' hd' hC hk hh
  have tp2 := Cp2.lt
  replace Cp2 := Cell.aft Cp2 hC rfl
  have tp3 := Cp3.lt
  replace Cp3 := Cell.aft Cp3 hC rfl
  clear Cp4
  replace S2 := hk 2 _ (by kernel_rfl) S2
  replace S3 := hk 3 _ (by kernel_rfl) S3
  clear S4
  have S15 := gotV hz' 2 hh rfl rfl rfl rfl
  clear tp2 tp3
  replace HB := aft_call HB (RelC.below_nil hC)
  clear hC hk hh; replace hz := hz'; replace hd := hd'; clear hz' hd'
  refine wp_cond_false S15.ev ?_
  refine wp_skip ?_
  refine wp_seq ?_
  refine region_text (M := [p2]) (
      rT (tN B32 l1 (p / q)) ::
      rE 0 31 (tN B32 l1 (p / q)) p2 ::
      []) hz hd (by kernel_rfl) ?_ ?_
  · refine ⟨?_, ?_, trivial⟩
    · exact sLoad rfl rfl rfl hz rfl (Gd.none_ rfl) rfl (Src.out (t := 3) (by kernel_rfl) S3 rfl) Cp3 (by simp [tagOf, n_p3_p2]) ld_n32
    · exact sStoreE rfl rfl rfl rfl rfl (Src.out (t := 2) (by kernel_rfl) S2 rfl) (by simp [tagOf]) (Cp2.var tN_nd) (Src.dep (j := 0) (t := 19) (by kernel_rfl) (by kernel_rfl) rfl) st_n32
  intro a' γ' W' hz' hd' hC hk hh
  replace Cp2 := gotE (T := tN B32 l1 (p / q)) (id := 31) (p := p2) 1 hh rfl rfl
  have tp3 := Cp3.lt
  clear Cp3
  replace S2 := hk 2 _ (by kernel_rfl) S2
  clear S3
  clear S15
  clear tp3
  replace HB := RelC.aftM HB hC (by intro m hm; simp at hm; rcases hm with rfl <;> assumption)
  clear hC hk hh; replace hz := hz'; replace hd := hd'; clear hz' hd'
  refine wp_ret ?_
  exact ret1_n32 (by kernel_rfl) S2 hd Cp2 HB

set_option maxRecDepth 10000 in
set_option maxHeartbeats 2000000 in
theorem d_rceil_u {l1 l2 p q : Nat} {v0 : Value} {w : World} (h0 : (tR B32 l1 l2 p q).p v0 w) (b1 : l1 ≤ 100000000) (b2 : l2 ≤ 100000000) (hq : 0 < q) (hm : decide (p % q = 0) = false) :
    Calls Try.prog 36 #[v0] w (Ret (tN B32 ((max l1 2) + 1) ((p / q) + 1)) w) := by
  refine enter Try.func36 rfl Try.ntmps36 (by simp) ?_
  intro a hz hd ha
  have S0 := ha 0 _ rfl
  have H0 := h0
  clear ha
  have HB : Below w.heap.size w w := Below.refl _ _
  refine wp_seq ?_
  refine region_text (M := []) (
      rB 0 33 (tR B32 l1 l2 p q) none 0 ::
      rB 1 31 (tN B32 0 0) none 0 ::
      []) hz hd (by kernel_rfl) ?_ ?_
  · refine ⟨?_, ?_, trivial⟩
    · exact sBox rfl rfl rfl hz rfl rfl rfl (Src.out (t := 0) (by kernel_rfl) S0 H0) box_r32
    · exact sNew rfl rfl rfl hz rfl rfl rfl (fun _ => tN_nil) al_n32
  intro a' γ' W' hz' hd' hC hk hh
  clear S0 H0
  obtain ⟨p1, S1, Cp1, lp1, gp1⟩ := gotB hz' 0 hC hh rfl rfl rfl rfl rfl rfl
  obtain ⟨p2, S2, Cp2, lp2, gp2⟩ := gotB hz' 1 hC hh rfl rfl rfl rfl rfl rfl
  have n_p1_p2 : p1 ≠ p2 := by intro e; rw [e, gp2] at gp1; omega
  have bp2 : w.heap.size ≤ p2 := Nat.le_trans HB.size lp2
  clear lp1 gp1 lp2 gp2
  replace HB := aft_call HB (RelC.below_nil hC)
  clear hC hk hh; replace hz := hz'; replace hd := hd'; clear hz' hd'
  refine wp_seq ?_
  refine region_text (M := []) (
      rT (tV (.pointer (some ⟨p1, 0, none⟩))) ::
      rT (tN B32 l1 p) ::
      rT (tV (.pointer (some ⟨p1, 1, none⟩))) ::
      rT (tN B32 l2 q) ::
      rT (tT [tN B32 l1 (p / q), tN B32 l1 (p % q)]) ::
      rT (tT [tN B32 l1 (p / q), tN B32 l1 (p % q)]) ::
      rT (tN B32 l1 (p / q)) ::
      rT (tN B32 l1 (p % q)) ::
      rVar 8 31 1 ::
      rVar 9 31 1 ::
      rB 8 31 (tN B32 l1 (p / q)) (some 8) 9 ::
      rB 9 31 (tN B32 l1 (p % q)) (some 9) 10 ::
      []) hz hd (by kernel_rfl) ?_ ?_
  · refine ⟨?_, ?_, ?_, ?_, ?_, ?_, ?_, ?_, ?_, ?_, ?_, ?_, trivial⟩
    · exact sFA rfl rfl rfl hz rfl (Gd.none_ rfl) rfl (Src.out (t := 1) (by kernel_rfl) S1 rfl) (fun w => by simp [go_sem])
    · exact sLoadP rfl rfl rfl hz rfl (Gd.none_ rfl) rfl (Src.dep (j := 0) (t := 6) (by kernel_rfl) (by kernel_rfl) rfl) Cp1 rfl ldp_r32
    · exact sFA rfl rfl rfl hz rfl (Gd.none_ rfl) rfl (Src.out (t := 1) (by kernel_rfl) S1 rfl) (fun w => by simp [go_sem])
    · exact sLoadP rfl rfl rfl hz rfl (Gd.none_ rfl) rfl (Src.dep (j := 2) (t := 8) (by kernel_rfl) (by kernel_rfl) rfl) Cp1 rfl ldq_r32
    · exact sCall rfl rfl rfl hz rfl (Gd.none_ rfl) rfl Try.func57 (by kernel_rfl) (by kernel_rfl) fun a γ w U => (by show Calls _ _ #[a.eval (.tmp 7), a.eval (.tmp 9)] _ _; exact d_divmod (Src.at_ (Src.dep (j := 1) (t := 7) (by kernel_rfl) (by kernel_rfl) rfl) U) (Src.at_ (Src.dep (j := 3) (t := 9) (by kernel_rfl) (by kernel_rfl) rfl) U) (by rw [big_eq]; omega) (by rw [big_eq]; omega) hq)
    · exact sMv rfl rfl rfl hz rfl (Gd.none_ rfl) rfl (Src.dep (j := 4) (t := 10) (by kernel_rfl) (by kernel_rfl) rfl)
    · exact sExt rfl rfl rfl hz rfl (Gd.none_ rfl) rfl (Src.dep (j := 5) (t := 5) (by kernel_rfl) (by kernel_rfl) rfl) rfl
    · exact sExt rfl rfl rfl hz rfl (Gd.none_ rfl) rfl (Src.dep (j := 5) (t := 5) (by kernel_rfl) (by kernel_rfl) rfl) rfl
    · exact sAlloc rfl rfl rfl hz rfl rfl rfl rfl nd_slice al_n32
    · exact sAlloc rfl rfl rfl hz rfl rfl rfl rfl nd_slice al_n32
    · exact sStore rfl rfl rfl rfl rfl (by kernel_rfl) (by kernel_rfl) rfl (Src.dep (j := 6) (t := 11) (by kernel_rfl) (by kernel_rfl) rfl) st_n32
    · exact sStore rfl rfl rfl rfl rfl (by kernel_rfl) (by kernel_rfl) rfl (Src.dep (j := 7) (t := 12) (by kernel_rfl) (by kernel_rfl) rfl) st_n32
  intro a' γ' W' hz' hd' hC hk hh
  have ep1 := Cp1.lt
  have ep2 := Cp2.lt
  clear Cp1
  have tp2 := Cp2.lt
  replace Cp2 := Cell.aft Cp2 hC rfl
  clear S1
  replace S2 := hk 2 _ (by kernel_rfl) S2
  obtain ⟨p3, S3, Cp3, lp3, gp3⟩ := gotB hz' 10 hC hh rfl rfl rfl rfl rfl rfl
  obtain ⟨p4, S4, Cp4, lp4, gp4⟩ := gotB hz' 11 hC hh rfl rfl rfl rfl rfl rfl
  have n_p3_p2 : p3 ≠ p2 := by omega
  have n_p4_p2 : p4 ≠ p2 := by omega
  have n_p4_p3 : p4 ≠ p3 := by intro e; rw [e, gp3] at gp4; omega
  have n_p2_p3 : p2 ≠ p3 := by have := ep2; omega
  have bp3 : w.heap.size ≤ p3 := Nat.le_trans HB.size lp3
  clear lp3 gp3 lp4 gp4
  clear tp2
  clear ep1 ep2
  replace HB := aft_call HB (RelC.below_nil hC)
  clear hC hk hh; replace hz := hz'; replace hd := hd'; clear hz' hd'
  refine wp_seq ?_
  refine wp_seq ?_
  refine region_text (M := []) (
      rT (tN B32 l1 (p % q)) ::
      rT (tV (.bool false)) ::
      rT (tV (.bool true)) ::
      []) hz hd (by kernel_rfl) ?_ ?_
  · refine ⟨?_, ?_, ?_, trivial⟩
    · exact sLoad rfl rfl rfl hz rfl (Gd.none_ rfl) rfl (Src.out (t := 4) (by kernel_rfl) S4 rfl) Cp4 rfl ld_n32
    · exact sCall rfl rfl rfl hz rfl (Gd.none_ rfl) rfl Try.func23 (by kernel_rfl) (by kernel_rfl) fun a γ w U => (by show Calls _ _ #[a.eval (.tmp 13)] _ _; have hq : Calls _ _ #[a.eval (.tmp 13)] w (Ret _ w) := d_zero (Src.at_ (Src.dep (j := 0) (t := 13) (by kernel_rfl) (by kernel_rfl) rfl) U); simp only [hm] at hq; exact hq)
    · exact sNot (b := false) rfl rfl rfl hz rfl (Gd.none_ rfl) rfl (Src.dep (j := 1) (t := 14) (by kernel_rfl) (by kernel_rfl) rfl)
  intro a' γ' W' hz' hd' hC hk hh
  have tp2 := Cp2.lt
  replace Cp2 := Cell.aft Cp2 hC rfl
  have tp3 := Cp3.lt
  replace Cp3 := Cell.aft Cp3 hC rfl
  clear Cp4
  replace S2 := hk 2 _ (by kernel_rfl) S2
  replace S3 := hk 3 _ (by kernel_rfl) S3
  clear S4
  have S15 := gotV hz' 2 hh rfl rfl rfl rfl
  clear tp2 tp3
  replace HB := aft_call HB (RelC.below_nil hC)
  clear hC hk hh; replace hz := hz'; replace hd := hd'; clear hz' hd'
  refine wp_cond_true S15.ev ?_
  refine region_drawn (M := [p3]) (
      rT (tN B32 l1 (p / q)) ::
      rT (tN B32 2 1) ::
      rT (tN B32 ((max l1 2) + 1) ((p / q) + 1)) ::
      rE 0 31 (tN B32 ((max l1 2) + 1) ((p / q) + 1)) p3 ::
      []) hz hd (by kernel_rfl) (by kernel_rfl) ?_ ?_
  · refine ⟨?_, ?_, ?_, ?_, trivial⟩
    · exact sLoadM rfl rfl rfl hz rfl (Gd.none_ rfl) rfl (Src.out (t := 3) (by kernel_rfl) S3 rfl) Cp3 (k := 0) (by simp [tagOf]) (by kernel_rfl) ld_n32
    · exact sCall rfl rfl rfl hz rfl (Gd.none_ rfl) rfl Try.func16 (by kernel_rfl) (by kernel_rfl) fun a γ w U => (by show Calls _ _ #[.int .u64 1] _ _; exact d_of (by decide))
    · exact sCall rfl rfl rfl hz rfl (Gd.none_ rfl) rfl Try.func29 (by kernel_rfl) (by kernel_rfl) fun a γ w U => (by show Calls _ _ #[a.eval (.tmp 16), a.eval (.tmp 17)] _ _; exact d_add (Src.at_ (Src.dep (j := 0) (t := 16) (by kernel_rfl) (by kernel_rfl) rfl) U) (Src.at_ (Src.dep (j := 1) (t := 17) (by kernel_rfl) (by kernel_rfl) rfl) U) (by rw [big_eq]; omega) (by decide))
    · exact sStoreE rfl rfl rfl rfl rfl (Src.out (t := 3) (by kernel_rfl) S3 rfl) (by simp [tagOf]) (Cp3.var tN_nd) (Src.dep (j := 2) (t := 18) (by kernel_rfl) (by kernel_rfl) rfl) st_n32
  intro a' γ' W' hz' hd' hC hk hh
  have tp2 := Cp2.lt
  replace Cp2 := Cell.aft Cp2 hC (by simp [tagOf, n_p2_p3])
  replace Cp3 := gotE (T := tN B32 ((max l1 2) + 1) ((p / q) + 1)) (id := 31) (p := p3) 3 hh rfl rfl
  replace S2 := hk 2 _ (by kernel_rfl) S2
  replace S3 := hk 3 _ (by kernel_rfl) S3
  clear S15
  clear tp2
  replace HB := RelC.aftM HB hC (by intro m hm; simp at hm; rcases hm with rfl <;> assumption)
  clear hC hk hh; replace hz := hz'; replace hd := hd'; clear hz' hd'
  refine wp_seq ?_
  refine region_text (M := [p2]) (
      rT (tN B32 ((max l1 2) + 1) ((p / q) + 1)) ::
      rE 0 31 (tN B32 ((max l1 2) + 1) ((p / q) + 1)) p2 ::
      []) hz hd (by kernel_rfl) ?_ ?_
  · refine ⟨?_, ?_, trivial⟩
    · exact sLoad rfl rfl rfl hz rfl (Gd.none_ rfl) rfl (Src.out (t := 3) (by kernel_rfl) S3 rfl) Cp3 (by simp [tagOf, n_p3_p2]) ld_n32
    · exact sStoreE rfl rfl rfl rfl rfl (Src.out (t := 2) (by kernel_rfl) S2 rfl) (by simp [tagOf]) (Cp2.var tN_nd) (Src.dep (j := 0) (t := 19) (by kernel_rfl) (by kernel_rfl) rfl) st_n32
  intro a' γ' W' hz' hd' hC hk hh
  replace Cp2 := gotE (T := tN B32 ((max l1 2) + 1) ((p / q) + 1)) (id := 31) (p := p2) 1 hh rfl rfl
  have tp3 := Cp3.lt
  clear Cp3
  replace S2 := hk 2 _ (by kernel_rfl) S2
  clear S3
  clear tp3
  replace HB := RelC.aftM HB hC (by intro m hm; simp at hm; rcases hm with rfl <;> assumption)
  clear hC hk hh; replace hz := hz'; replace hd := hd'; clear hz' hd'
  refine wp_ret ?_
  exact ret1_n32 (by kernel_rfl) S2 hd Cp2 HB

end Go.Proofs.Ythanbjbcpljcoaa.Rg
