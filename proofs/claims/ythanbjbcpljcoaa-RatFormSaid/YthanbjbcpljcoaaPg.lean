/-
  Walks and plain laws, put together: TH TI.
-/
import Derived.Test.YthanbjbcpljcoaaPf
import Derived.Test.YthanbjbcpljcoaaFr
import Derived.ChangeSlices
set_option linter.unusedVariables false
set_option linter.unusedSimpArgs false
namespace Go.Proofs.Ythanbjbcpljcoaa.Rg

open Go.RowKit

theorem c_fbb {lim x : Nat} {v1 : Value} {w : World} (h1 : (tBy lim (bytesOf x)).p v1 w) (b1 : lim ≤ big) : Calls Try.prog 12 #[v1] w (Ret (tN B64 lim x) w) := by
  have := c_fb h1 b1; rwa [bev_bytesOf] at this
theorem d_fbb {lim x : Nat} {v1 : Value} {w : World} (h1 : (tBy lim (bytesOf x)).p v1 w) (b1 : lim ≤ big) : Calls Try.prog 15 #[v1] w (Ret (tN B32 lim x) w) := by
  have := d_fb h1 b1; rwa [bev_bytesOf] at this
theorem form_gcd {x : Rat} (h0 : 0 ≤ x) : Nat.gcd x.num.toNat x.den = 1 := q_gcd (num_i h0).symm rfl
theorem form_cross {p q : Nat} (hq : q ≠ 0) : (mkRat p q).num.toNat * q = p * (mkRat p q).den := by
  have h := Rat.mkRat_self (mkRat p q)
  rw [Rat.mkRat_eq_iff (mkRat p q).den_nz hq] at h
  have h1 : (((mkRat p q).num.toNat : Nat) : Int) = (mkRat p q).num := by rw [low_num p q hq]; rfl
  rw [← h1] at h
  exact_mod_cast h
theorem mkF_1 {l k : List Nat} (h : bev (k.take 120) = 0) : (mkF l k).num.toNat * 1 = bev (l.take 120) * (mkF l k).den := by
  unfold mkF; rw [h]; exact form_cross (q := und 0) (und_ne 0)
theorem mkF_2 {l k : List Nat} (h : ¬ bev (k.take 120) = 0) : (mkF l k).num.toNat * bev (k.take 120) = bev (l.take 120) * (mkF l k).den := by
  unfold mkF; rw [und_of h]; exact form_cross h
section

variable {x : Rat} (h0 : 0 ≤ x)

include h0
theorem fl_le : x.floor.toNat * x.den ≤ x.num.toNat := by
  have e := num_i h0
  rw [← q_floor e.symm rfl]
  exact Nat.div_mul_le_self _ _
theorem fl_gt : x.num.toNat < (x.floor.toNat + 1) * x.den := by
  have e := num_i h0
  rw [← q_floor e.symm rfl, Nat.mul_comm]
  exact Nat.lt_mul_div_succ _ x.den_pos
theorem ce_1 (h : x.den = 1) : x.floor.toNat = x.ceil.toNat := by
  have e := num_i h0
  rw [← q_floor e.symm rfl]
  exact q_ceil0 e.symm rfl (by rw [h]; exact Nat.mod_one _)
theorem ce_2 (h : x.den ≠ 1) : x.floor.toNat + 1 = x.ceil.toNat := by
  have e := num_i h0
  rw [← q_floor e.symm rfl]
  refine q_ceil1 e.symm rfl fun hm => h ?_
  have hg := q_gcd e.symm rfl
  rw [Nat.gcd_eq_right (Nat.dvd_of_mod_eq_zero hm)] at hg
  exact hg
end
theorem mkF_nonneg (l k : List Nat) : 0 ≤ mkF l k := by
  refine q_nonneg (p := (mkF l k).num.toNat) ?_
  unfold mkF; rw [low_num _ _ (und_ne _)]; rfl

set_option maxRecDepth 10000 in
set_option maxHeartbeats 2000000 in
theorem ratForm_ret {l k : List Nat} {v0 : Value} {w : World} (h0 : (tF l k).p v0 w)  :
    Calls Try.prog 4 #[v0] w (Ret (tV (.bool true)) w) := by
  refine enter Try.func4 rfl Try.ntmps4 (by simp) ?_
  intro a hz hd ha
  have S0 := ha 0 _ rfl
  have H0 := h0
  clear ha
  have HB : Below w.heap.size w w := Below.refl _ _
  refine wp_seq ?_
  refine region_text (M := []) (
      rB 0 24 (tF l k) none 0 ::
      rT (tV (.bool false)) ::
      []) hz hd (by kernel_rfl) ?_ ?_
  · refine ⟨?_, ?_, trivial⟩
    · exact sBox rfl rfl rfl hz rfl rfl rfl (Src.out (t := 0) (by kernel_rfl) S0 H0) box_f
    · exact sAs rfl rfl rfl hz rfl (Gd.none_ rfl) rfl (Src.const (.bool false))
  intro a' γ' W' hz' hd' hC hk hh
  clear S0 H0
  obtain ⟨p1, S1, Cp1, lp1, gp1⟩ := gotB hz' 0 hC hh rfl rfl rfl rfl rfl rfl
  have S2 := gotV hz' 1 hh rfl rfl rfl rfl
  clear lp1 gp1
  replace HB := aft_call HB (RelC.below_nil hC)
  clear hC hk hh; replace hz := hz'; replace hd := hd'; clear hz' hd'
  refine wp_seq ?_
  refine region_text (M := []) (
      rT (tF l k) ::
      rT (tT [tQ B64 960 (mkF l k), tQ B32 960 (mkF l k)]) ::
      rT (tT [tQ B64 960 (mkF l k), tQ B32 960 (mkF l k)]) ::
      rT (tQ B64 960 (mkF l k)) ::
      rT (tQ B32 960 (mkF l k)) ::
      rVar 5 29 2 ::
      rVar 6 33 2 ::
      rB 5 29 (tQ B64 960 (mkF l k)) (some 5) 6 ::
      rB 6 33 (tQ B32 960 (mkF l k)) (some 6) 7 ::
      []) hz hd (by kernel_rfl) ?_ ?_
  · refine ⟨?_, ?_, ?_, ?_, ?_, ?_, ?_, ?_, ?_, trivial⟩
    · exact sLoad rfl rfl rfl hz rfl (Gd.none_ rfl) rfl (Src.out (t := 1) (by kernel_rfl) S1 rfl) Cp1 rfl ld_f
    · exact sCall rfl rfl rfl hz rfl (Gd.none_ rfl) rfl Try.func9 (by kernel_rfl) (by kernel_rfl) fun a γ w U => (by show Calls _ _ #[a.eval (.tmp 16)] _ _; exact l_made (Src.at_ (Src.dep (j := 0) (t := 16) (by kernel_rfl) (by kernel_rfl) rfl) U))
    · exact sMv rfl rfl rfl hz rfl (Gd.none_ rfl) rfl (Src.dep (j := 1) (t := 17) (by kernel_rfl) (by kernel_rfl) rfl)
    · exact sExt rfl rfl rfl hz rfl (Gd.none_ rfl) rfl (Src.dep (j := 2) (t := 15) (by kernel_rfl) (by kernel_rfl) rfl) rfl
    · exact sExt rfl rfl rfl hz rfl (Gd.none_ rfl) rfl (Src.dep (j := 2) (t := 15) (by kernel_rfl) (by kernel_rfl) rfl) rfl
    · exact sAlloc rfl rfl rfl hz rfl rfl rfl rfl nd_rat al_r64
    · exact sAlloc rfl rfl rfl hz rfl rfl rfl rfl nd_rat al_r32
    · exact sStore rfl rfl rfl rfl rfl (by kernel_rfl) (by kernel_rfl) rfl (Src.dep (j := 3) (t := 18) (by kernel_rfl) (by kernel_rfl) rfl) st_q64
    · exact sStore rfl rfl rfl rfl rfl (by kernel_rfl) (by kernel_rfl) rfl (Src.dep (j := 4) (t := 19) (by kernel_rfl) (by kernel_rfl) rfl) st_q32
  intro a' γ' W' hz' hd' hC hk hh
  have ep1 := Cp1.lt
  replace Cp1 := Cell.aft Cp1 hC rfl
  replace S1 := hk 1 _ (by kernel_rfl) S1
  replace S2 := hk 2 _ (by kernel_rfl) S2
  obtain ⟨p2, S3, Cp2, lp2, gp2⟩ := gotB hz' 7 hC hh rfl rfl rfl rfl rfl rfl
  have n_p1_p2 : p1 ≠ p2 := by have := ep1; omega
  have bp2 : w.heap.size ≤ p2 := Nat.le_trans HB.size lp2
  clear lp2 gp2
  clear ep1
  replace HB := aft_call HB (RelC.below_nil hC)
  clear hC hk hh; replace hz := hz'; replace hd := hd'; clear hz' hd'
  refine wp_seq ?_
  refine region_text (M := []) (
      rT (tQ B64 960 (mkF l k)) ::
      rT (tT [tN B64 960 ((mkF l k).num.toNat), tN B64 961 ((mkF l k).den)]) ::
      rT (tT [tN B64 960 ((mkF l k).num.toNat), tN B64 961 ((mkF l k).den)]) ::
      rT (tN B64 960 ((mkF l k).num.toNat)) ::
      rT (tN B64 961 ((mkF l k).den)) ::
      rVar 5 27 1 ::
      rVar 6 27 1 ::
      rB 5 27 (tN B64 960 ((mkF l k).num.toNat)) (some 5) 6 ::
      rB 6 27 (tN B64 961 ((mkF l k).den)) (some 6) 7 ::
      []) hz hd (by kernel_rfl) ?_ ?_
  · refine ⟨?_, ?_, ?_, ?_, ?_, ?_, ?_, ?_, ?_, trivial⟩
    · exact sLoad rfl rfl rfl hz rfl (Gd.none_ rfl) rfl (Src.out (t := 3) (by kernel_rfl) S3 rfl) Cp2 rfl ld_q64
    · exact sCall rfl rfl rfl hz rfl (Gd.none_ rfl) rfl Try.func18 (by kernel_rfl) (by kernel_rfl) fun a γ w U => (by show Calls _ _ #[a.eval (.tmp 21)] _ _; exact cq_parts (Src.at_ (Src.dep (j := 0) (t := 21) (by kernel_rfl) (by kernel_rfl) rfl) U) (by decide))
    · exact sMv rfl rfl rfl hz rfl (Gd.none_ rfl) rfl (Src.dep (j := 1) (t := 22) (by kernel_rfl) (by kernel_rfl) rfl)
    · exact sExt rfl rfl rfl hz rfl (Gd.none_ rfl) rfl (Src.dep (j := 2) (t := 20) (by kernel_rfl) (by kernel_rfl) rfl) rfl
    · exact sExt rfl rfl rfl hz rfl (Gd.none_ rfl) rfl (Src.dep (j := 2) (t := 20) (by kernel_rfl) (by kernel_rfl) rfl) rfl
    · exact sAlloc rfl rfl rfl hz rfl rfl rfl rfl nd_slice al_n64
    · exact sAlloc rfl rfl rfl hz rfl rfl rfl rfl nd_slice al_n64
    · exact sStore rfl rfl rfl rfl rfl (by kernel_rfl) (by kernel_rfl) rfl (Src.dep (j := 3) (t := 23) (by kernel_rfl) (by kernel_rfl) rfl) st_n64
    · exact sStore rfl rfl rfl rfl rfl (by kernel_rfl) (by kernel_rfl) rfl (Src.dep (j := 4) (t := 24) (by kernel_rfl) (by kernel_rfl) rfl) st_n64
  intro a' γ' W' hz' hd' hC hk hh
  have ep1 := Cp1.lt
  have ep2 := Cp2.lt
  replace Cp1 := Cell.aft Cp1 hC rfl
  have tp2 := Cp2.lt
  replace Cp2 := Cell.aft Cp2 hC rfl
  replace S1 := hk 1 _ (by kernel_rfl) S1
  replace S2 := hk 2 _ (by kernel_rfl) S2
  replace S3 := hk 3 _ (by kernel_rfl) S3
  obtain ⟨p3, S5, Cp3, lp3, gp3⟩ := gotB hz' 7 hC hh rfl rfl rfl rfl rfl rfl
  obtain ⟨p4, S6, Cp4, lp4, gp4⟩ := gotB hz' 8 hC hh rfl rfl rfl rfl rfl rfl
  have n_p3_p2 : p3 ≠ p2 := by omega
  have n_p3_p4 : p3 ≠ p4 := by intro e; rw [e, gp4] at gp3; omega
  have n_p4_p2 : p4 ≠ p2 := by omega
  have n_p4_p3 : p4 ≠ p3 := by intro e; rw [e, gp3] at gp4; omega
  have n_p1_p3 : p1 ≠ p3 := by have := ep1; omega
  have n_p2_p3 : p2 ≠ p3 := by have := ep2; omega
  have n_p1_p4 : p1 ≠ p4 := by have := ep1; omega
  have n_p2_p4 : p2 ≠ p4 := by have := ep2; omega
  have bp3 : w.heap.size ≤ p3 := Nat.le_trans HB.size lp3
  have bp4 : w.heap.size ≤ p4 := Nat.le_trans HB.size lp4
  clear lp3 gp3 lp4 gp4
  clear tp2
  clear ep1 ep2
  replace HB := aft_call HB (RelC.below_nil hC)
  clear hC hk hh; replace hz := hz'; replace hd := hd'; clear hz' hd'
  refine wp_seq ?_
  refine region_drawn (M := []) (
      rT (tN B64 960 ((mkF l k).num.toNat)) ::
      rT (tBy 7680 (bytesOf ((mkF l k).num.toNat))) ::
      rT (tN B32 7680 ((mkF l k).num.toNat)) ::
      rT (tN B64 961 ((mkF l k).den)) ::
      rT (tBy 7688 (bytesOf ((mkF l k).den))) ::
      rT (tN B32 7688 ((mkF l k).den)) ::
      rVar 6 31 1 ::
      rVar 7 31 1 ::
      rB 6 31 (tN B32 7680 ((mkF l k).num.toNat)) (some 6) 7 ::
      rB 7 31 (tN B32 7688 ((mkF l k).den)) (some 7) 8 ::
      []) hz hd (by kernel_rfl) (by kernel_rfl) ?_ ?_
  · refine ⟨?_, ?_, ?_, ?_, ?_, ?_, ?_, ?_, ?_, ?_, trivial⟩
    · exact sLoad rfl rfl rfl hz rfl (Gd.none_ rfl) rfl (Src.out (t := 5) (by kernel_rfl) S5 rfl) Cp3 rfl ld_n64
    · exact sCall rfl rfl rfl hz rfl (Gd.none_ rfl) rfl Try.func19 (by kernel_rfl) (by kernel_rfl) fun a γ w U => (by show Calls _ _ #[a.eval (.tmp 25)] _ _; exact c_bytes (Src.at_ (Src.dep (j := 0) (t := 25) (by kernel_rfl) (by kernel_rfl) rfl) U) (by decide))
    · exact sCall rfl rfl rfl hz rfl (Gd.none_ rfl) rfl Try.func15 (by kernel_rfl) (by kernel_rfl) fun a γ w U => (by show Calls _ _ #[a.eval (.tmp 26)] _ _; exact d_fbb (Src.at_ (Src.dep (j := 1) (t := 26) (by kernel_rfl) (by kernel_rfl) rfl) U) (by decide))
    · exact sLoad rfl rfl rfl hz rfl (Gd.none_ rfl) rfl (Src.out (t := 6) (by kernel_rfl) S6 rfl) Cp4 rfl ld_n64
    · exact sCall rfl rfl rfl hz rfl (Gd.none_ rfl) rfl Try.func19 (by kernel_rfl) (by kernel_rfl) fun a γ w U => (by show Calls _ _ #[a.eval (.tmp 28)] _ _; exact c_bytes (Src.at_ (Src.dep (j := 3) (t := 28) (by kernel_rfl) (by kernel_rfl) rfl) U) (by decide))
    · exact sCall rfl rfl rfl hz rfl (Gd.none_ rfl) rfl Try.func15 (by kernel_rfl) (by kernel_rfl) fun a γ w U => (by show Calls _ _ #[a.eval (.tmp 29)] _ _; exact d_fbb (Src.at_ (Src.dep (j := 4) (t := 29) (by kernel_rfl) (by kernel_rfl) rfl) U) (by decide))
    · exact sAlloc rfl rfl rfl hz rfl rfl rfl rfl nd_slice al_n32
    · exact sAlloc rfl rfl rfl hz rfl rfl rfl rfl nd_slice al_n32
    · exact sStore rfl rfl rfl rfl rfl (by kernel_rfl) (by kernel_rfl) rfl (Src.dep (j := 2) (t := 27) (by kernel_rfl) (by kernel_rfl) rfl) st_n32
    · exact sStore rfl rfl rfl rfl rfl (by kernel_rfl) (by kernel_rfl) rfl (Src.dep (j := 5) (t := 30) (by kernel_rfl) (by kernel_rfl) rfl) st_n32
  intro a' γ' W' hz' hd' hC hk hh
  have ep1 := Cp1.lt
  have ep2 := Cp2.lt
  have ep3 := Cp3.lt
  have ep4 := Cp4.lt
  replace Cp1 := Cell.aft Cp1 hC rfl
  have tp2 := Cp2.lt
  replace Cp2 := Cell.aft Cp2 hC rfl
  have tp3 := Cp3.lt
  clear Cp3
  have tp4 := Cp4.lt
  clear Cp4
  replace S1 := hk 1 _ (by kernel_rfl) S1
  replace S2 := hk 2 _ (by kernel_rfl) S2
  replace S3 := hk 3 _ (by kernel_rfl) S3
  clear S5
  clear S6
  obtain ⟨p5, S7, Cp5, lp5, gp5⟩ := gotB hz' 8 hC hh rfl rfl rfl rfl rfl rfl
  obtain ⟨p6, S8, Cp6, lp6, gp6⟩ := gotB hz' 9 hC hh rfl rfl rfl rfl rfl rfl
  have n_p5_p2 : p5 ≠ p2 := by omega
  have n_p5_p6 : p5 ≠ p6 := by intro e; rw [e, gp6] at gp5; omega
  have n_p6_p2 : p6 ≠ p2 := by omega
  have n_p6_p5 : p6 ≠ p5 := by intro e; rw [e, gp5] at gp6; omega
  have n_p1_p5 : p1 ≠ p5 := by have := ep1; omega
  have n_p2_p5 : p2 ≠ p5 := by have := ep2; omega
  have n_p1_p6 : p1 ≠ p6 := by have := ep1; omega
  have n_p2_p6 : p2 ≠ p6 := by have := ep2; omega
  have bp5 : w.heap.size ≤ p5 := Nat.le_trans HB.size lp5
  have bp6 : w.heap.size ≤ p6 := Nat.le_trans HB.size lp6
  clear lp5 gp5 lp6 gp6
  clear tp2 tp3 tp4
  clear ep1 ep2 ep3 ep4
  replace HB := aft_call HB (RelC.below_nil hC)
  clear hC hk hh; replace hz := hz'; replace hd := hd'; clear hz' hd'
  refine wp_seq ?_
  refine region_drawn (M := []) (
      rT (tV (.pointer (some ⟨p1, 0, none⟩))) ::
      rT (tBy 9223372036854775807 l) ::
      rT (tBy 120 (l.take 120)) ::
      rT (tN B32 120 (bev (l.take 120))) ::
      rT (tV (.pointer (some ⟨p1, 1, none⟩))) ::
      rT (tBy 9223372036854775807 k) ::
      rT (tBy 120 (k.take 120)) ::
      rT (tN B32 120 (bev (k.take 120))) ::
      rVar 8 31 1 ::
      rVar 9 31 1 ::
      rB 8 31 (tN B32 120 (bev (l.take 120))) (some 8) 9 ::
      rB 9 31 (tN B32 120 (bev (k.take 120))) (some 9) 10 ::
      []) hz hd (by kernel_rfl) (by kernel_rfl) ?_ ?_
  · refine ⟨?_, ?_, ?_, ?_, ?_, ?_, ?_, ?_, ?_, ?_, ?_, ?_, trivial⟩
    · exact sFA rfl rfl rfl hz rfl (Gd.none_ rfl) rfl (Src.out (t := 1) (by kernel_rfl) S1 rfl) (fun w => by simp [go_sem])
    · exact sLoadP rfl rfl rfl hz rfl (Gd.none_ rfl) rfl (Src.dep (j := 0) (t := 31) (by kernel_rfl) (by kernel_rfl) rfl) Cp1 rfl ldp_f
    · exact sCall rfl rfl rfl hz rfl (Gd.none_ rfl) rfl Try.func10 (by kernel_rfl) (by kernel_rfl) fun a γ w U => (by show Calls _ _ #[a.eval (.tmp 32)] _ _; exact l_cut (Src.at_ (Src.dep (j := 1) (t := 32) (by kernel_rfl) (by kernel_rfl) rfl) U))
    · exact sCall rfl rfl rfl hz rfl (Gd.none_ rfl) rfl Try.func15 (by kernel_rfl) (by kernel_rfl) fun a γ w U => (by show Calls _ _ #[a.eval (.tmp 33)] _ _; exact d_fb (Src.at_ (Src.dep (j := 2) (t := 33) (by kernel_rfl) (by kernel_rfl) rfl) U) (by decide))
    · exact sFA rfl rfl rfl hz rfl (Gd.none_ rfl) rfl (Src.out (t := 1) (by kernel_rfl) S1 rfl) (fun w => by simp [go_sem])
    · exact sLoadP rfl rfl rfl hz rfl (Gd.none_ rfl) rfl (Src.dep (j := 4) (t := 35) (by kernel_rfl) (by kernel_rfl) rfl) Cp1 rfl ldq_f
    · exact sCall rfl rfl rfl hz rfl (Gd.none_ rfl) rfl Try.func10 (by kernel_rfl) (by kernel_rfl) fun a γ w U => (by show Calls _ _ #[a.eval (.tmp 36)] _ _; exact l_cut (Src.at_ (Src.dep (j := 5) (t := 36) (by kernel_rfl) (by kernel_rfl) rfl) U))
    · exact sCall rfl rfl rfl hz rfl (Gd.none_ rfl) rfl Try.func15 (by kernel_rfl) (by kernel_rfl) fun a γ w U => (by show Calls _ _ #[a.eval (.tmp 37)] _ _; exact d_fb (Src.at_ (Src.dep (j := 6) (t := 37) (by kernel_rfl) (by kernel_rfl) rfl) U) (by decide))
    · exact sAlloc rfl rfl rfl hz rfl rfl rfl rfl nd_slice al_n32
    · exact sAlloc rfl rfl rfl hz rfl rfl rfl rfl nd_slice al_n32
    · exact sStore rfl rfl rfl rfl rfl (by kernel_rfl) (by kernel_rfl) rfl (Src.dep (j := 3) (t := 34) (by kernel_rfl) (by kernel_rfl) rfl) st_n32
    · exact sStore rfl rfl rfl rfl rfl (by kernel_rfl) (by kernel_rfl) rfl (Src.dep (j := 7) (t := 38) (by kernel_rfl) (by kernel_rfl) rfl) st_n32
  intro a' γ' W' hz' hd' hC hk hh
  have ep1 := Cp1.lt
  have ep2 := Cp2.lt
  have ep5 := Cp5.lt
  have ep6 := Cp6.lt
  clear Cp1
  have tp2 := Cp2.lt
  replace Cp2 := Cell.aft Cp2 hC rfl
  have tp5 := Cp5.lt
  replace Cp5 := Cell.aft Cp5 hC rfl
  have tp6 := Cp6.lt
  replace Cp6 := Cell.aft Cp6 hC rfl
  clear S1
  replace S2 := hk 2 _ (by kernel_rfl) S2
  replace S3 := hk 3 _ (by kernel_rfl) S3
  replace S7 := hk 7 _ (by kernel_rfl) S7
  replace S8 := hk 8 _ (by kernel_rfl) S8
  obtain ⟨p7, S9, Cp7, lp7, gp7⟩ := gotB hz' 10 hC hh rfl rfl rfl rfl rfl rfl
  obtain ⟨p8, S10, Cp8, lp8, gp8⟩ := gotB hz' 11 hC hh rfl rfl rfl rfl rfl rfl
  have n_p7_p2 : p7 ≠ p2 := by omega
  have n_p7_p5 : p7 ≠ p5 := by omega
  have n_p7_p6 : p7 ≠ p6 := by omega
  have n_p7_p8 : p7 ≠ p8 := by intro e; rw [e, gp8] at gp7; omega
  have n_p8_p2 : p8 ≠ p2 := by omega
  have n_p8_p5 : p8 ≠ p5 := by omega
  have n_p8_p6 : p8 ≠ p6 := by omega
  have n_p8_p7 : p8 ≠ p7 := by intro e; rw [e, gp7] at gp8; omega
  have n_p2_p7 : p2 ≠ p7 := by have := ep2; omega
  have n_p5_p7 : p5 ≠ p7 := by have := ep5; omega
  have n_p6_p7 : p6 ≠ p7 := by have := ep6; omega
  have n_p2_p8 : p2 ≠ p8 := by have := ep2; omega
  have n_p5_p8 : p5 ≠ p8 := by have := ep5; omega
  have n_p6_p8 : p6 ≠ p8 := by have := ep6; omega
  have bp7 : w.heap.size ≤ p7 := Nat.le_trans HB.size lp7
  have bp8 : w.heap.size ≤ p8 := Nat.le_trans HB.size lp8
  clear lp7 gp7 lp8 gp8
  clear tp2 tp5 tp6
  clear ep1 ep2 ep5 ep6
  replace HB := aft_call HB (RelC.below_nil hC)
  clear hC hk hh; replace hz := hz'; replace hd := hd'; clear hz' hd'
  refine wp_seq ?_
  refine wp_seq ?_
  refine region_text (M := []) (
      rT (tN B32 120 (bev (k.take 120))) ::
      rT (tV (.bool (decide (bev (k.take 120) = 0)))) ::
      []) hz hd (by kernel_rfl) ?_ ?_
  · refine ⟨?_, ?_, trivial⟩
    · exact sLoad rfl rfl rfl hz rfl (Gd.none_ rfl) rfl (Src.out (t := 10) (by kernel_rfl) S10 rfl) Cp8 rfl ld_n32
    · exact sCall rfl rfl rfl hz rfl (Gd.none_ rfl) rfl Try.func23 (by kernel_rfl) (by kernel_rfl) fun a γ w U => (by show Calls _ _ #[a.eval (.tmp 39)] _ _; exact d_zero (Src.at_ (Src.dep (j := 0) (t := 39) (by kernel_rfl) (by kernel_rfl) rfl) U))
  intro a' γ' W' hz' hd' hC hk hh
  have tp2 := Cp2.lt
  replace Cp2 := Cell.aft Cp2 hC rfl
  have tp5 := Cp5.lt
  replace Cp5 := Cell.aft Cp5 hC rfl
  have tp6 := Cp6.lt
  replace Cp6 := Cell.aft Cp6 hC rfl
  have tp7 := Cp7.lt
  replace Cp7 := Cell.aft Cp7 hC rfl
  have tp8 := Cp8.lt
  replace Cp8 := Cell.aft Cp8 hC rfl
  replace S2 := hk 2 _ (by kernel_rfl) S2
  replace S3 := hk 3 _ (by kernel_rfl) S3
  replace S7 := hk 7 _ (by kernel_rfl) S7
  replace S8 := hk 8 _ (by kernel_rfl) S8
  replace S9 := hk 9 _ (by kernel_rfl) S9
  replace S10 := hk 10 _ (by kernel_rfl) S10
  have S40 := gotV hz' 1 hh rfl rfl rfl rfl
  clear tp2 tp5 tp6 tp7 tp8
  replace HB := aft_call HB (RelC.below_nil hC)
  clear hC hk hh; replace hz := hz'; replace hd := hd'; clear hz' hd'
  by_cases hc9 : bev (k.take 120) = 0
  · rw [decide_eq_true hc9] at S40
    refine wp_cond_true S40.ev ?_
    refine region_text (M := [p8]) (
        rT (tN B32 2 1) ::
        rE 0 31 (tN B32 2 1) p8 ::
        []) hz hd (by kernel_rfl) ?_ ?_
    · refine ⟨?_, ?_, trivial⟩
      · exact sCall rfl rfl rfl hz rfl (Gd.none_ rfl) rfl Try.func16 (by kernel_rfl) (by kernel_rfl) fun a γ w U => (by show Calls _ _ #[.int .u64 1] _ _; exact d_of (by decide))
      · exact sStoreE rfl rfl rfl rfl rfl (Src.out (t := 10) (by kernel_rfl) S10 rfl) (by simp [tagOf]) (Cp8.var tN_nd) (Src.dep (j := 0) (t := 41) (by kernel_rfl) (by kernel_rfl) rfl) st_n32
    intro a' γ' W' hz' hd' hC hk hh
    have tp2 := Cp2.lt
    replace Cp2 := Cell.aft Cp2 hC (by simp [tagOf, n_p2_p8])
    have tp5 := Cp5.lt
    replace Cp5 := Cell.aft Cp5 hC (by simp [tagOf, n_p5_p8])
    have tp6 := Cp6.lt
    replace Cp6 := Cell.aft Cp6 hC (by simp [tagOf, n_p6_p8])
    have tp7 := Cp7.lt
    replace Cp7 := Cell.aft Cp7 hC (by simp [tagOf, n_p7_p8])
    replace Cp8 := gotE (T := tN B32 2 1) (id := 31) (p := p8) 1 hh rfl rfl
    replace S2 := hk 2 _ (by kernel_rfl) S2
    replace S3 := hk 3 _ (by kernel_rfl) S3
    replace S7 := hk 7 _ (by kernel_rfl) S7
    replace S8 := hk 8 _ (by kernel_rfl) S8
    replace S9 := hk 9 _ (by kernel_rfl) S9
    replace S10 := hk 10 _ (by kernel_rfl) S10
    clear S40
    clear tp2 tp5 tp6 tp7
    replace HB := RelC.aftM HB hC (by intro m hm; simp at hm; rcases hm with rfl <;> assumption)
    clear hC hk hh; replace hz := hz'; replace hd := hd'; clear hz' hd'
    refine wp_seq ?_
    refine region_text (M := []) (
        rT (tN B32 2 1) ::
        rVar 1 31 1 ::
        rB 1 31 (tN B32 2 1) (some 1) 2 ::
        []) hz hd (by kernel_rfl) ?_ ?_
    · refine ⟨?_, ?_, ?_, trivial⟩
      · exact sCall rfl rfl rfl hz rfl (Gd.none_ rfl) rfl Try.func16 (by kernel_rfl) (by kernel_rfl) fun a γ w U => (by show Calls _ _ #[.int .u64 1] _ _; exact d_of (by decide))
      · exact sAlloc rfl rfl rfl hz rfl rfl rfl rfl nd_slice al_n32
      · exact sStore rfl rfl rfl rfl rfl (by kernel_rfl) (by kernel_rfl) rfl (Src.dep (j := 0) (t := 42) (by kernel_rfl) (by kernel_rfl) rfl) st_n32
    intro a' γ' W' hz' hd' hC hk hh
    have ep2 := Cp2.lt
    have ep5 := Cp5.lt
    have ep6 := Cp6.lt
    have ep7 := Cp7.lt
    have ep8 := Cp8.lt
    have tp2 := Cp2.lt
    replace Cp2 := Cell.aft Cp2 hC rfl
    have tp5 := Cp5.lt
    replace Cp5 := Cell.aft Cp5 hC rfl
    have tp6 := Cp6.lt
    replace Cp6 := Cell.aft Cp6 hC rfl
    have tp7 := Cp7.lt
    replace Cp7 := Cell.aft Cp7 hC rfl
    have tp8 := Cp8.lt
    replace Cp8 := Cell.aft Cp8 hC rfl
    replace S2 := hk 2 _ (by kernel_rfl) S2
    replace S3 := hk 3 _ (by kernel_rfl) S3
    replace S7 := hk 7 _ (by kernel_rfl) S7
    replace S8 := hk 8 _ (by kernel_rfl) S8
    replace S9 := hk 9 _ (by kernel_rfl) S9
    replace S10 := hk 10 _ (by kernel_rfl) S10
    obtain ⟨p10, S11, Cp10, lp10, gp10⟩ := gotB hz' 2 hC hh rfl rfl rfl rfl rfl rfl
    have n_p10_p2 : p10 ≠ p2 := by omega
    have n_p10_p5 : p10 ≠ p5 := by omega
    have n_p10_p6 : p10 ≠ p6 := by omega
    have n_p10_p7 : p10 ≠ p7 := by omega
    have n_p10_p8 : p10 ≠ p8 := by omega
    have n_p2_p10 : p2 ≠ p10 := by have := ep2; omega
    have n_p5_p10 : p5 ≠ p10 := by have := ep5; omega
    have n_p6_p10 : p6 ≠ p10 := by have := ep6; omega
    have n_p7_p10 : p7 ≠ p10 := by have := ep7; omega
    have n_p8_p10 : p8 ≠ p10 := by have := ep8; omega
    have bp10 : w.heap.size ≤ p10 := Nat.le_trans HB.size lp10
    clear lp10 gp10
    clear tp2 tp5 tp6 tp7 tp8
    clear ep2 ep5 ep6 ep7 ep8
    replace HB := aft_call HB (RelC.below_nil hC)
    clear hC hk hh; replace hz := hz'; replace hd := hd'; clear hz' hd'
    refine wp_seq ?_
    refine wp_seq ?_
    have hc11 : ¬ ((Nat.gcd ((mkF l k).num.toNat) ((mkF l k).den)) ≠ 1) := (fun h => h (form_gcd (mkF_nonneg l k)))
    refine region_drawn (M := []) (
        rT (tV (.bool true)) ::
        rT (tV (.bool false)) ::
        rT (tV (.bool false)) ::
        rT (tN B32 7680 ((mkF l k).num.toNat)) ::
        rT (tN B32 7688 ((mkF l k).den)) ::
        rT (tN B32 7688 (Nat.gcd ((mkF l k).num.toNat) ((mkF l k).den))) ::
        rT (tN B32 2 1) ::
        rT (tV (.int .i64 (cmpI (Nat.gcd ((mkF l k).num.toNat) ((mkF l k).den)) 1))) ::
        rT (tV (.bool false)) ::
        rT (tV (.bool false)) ::
        rT (tV (.bool false)) ::
        rT (tN B32 7680 ((mkF l k).num.toNat)) ::
        rT (tN B32 2 1) ::
        rT (tN B32 7682 (((mkF l k).num.toNat) * 1)) ::
        rT (tN B32 120 (bev (l.take 120))) ::
        rT (tN B32 7688 ((mkF l k).den)) ::
        rT (tN B32 7808 ((bev (l.take 120)) * ((mkF l k).den))) ::
        rT (tV (.int .i64 (cmpI (((mkF l k).num.toNat) * 1) ((bev (l.take 120)) * ((mkF l k).den))))) ::
        rT (tV (.bool (decide ((((mkF l k).num.toNat) * 1) ≠ ((bev (l.take 120)) * ((mkF l k).den)))))) ::
        rT (tV (.bool (decide ((((mkF l k).num.toNat) * 1) ≠ ((bev (l.take 120)) * ((mkF l k).den)))))) ::
        []) hz hd (by kernel_rfl) (by kernel_rfl) ?_ ?_
    · refine ⟨?_, ?_, ?_, ?_, ?_, ?_, ?_, ?_, ?_, ?_, ?_, ?_, ?_, ?_, ?_, ?_, ?_, ?_, ?_, ?_, trivial⟩
      · exact sCall rfl rfl rfl hz rfl (Gd.none_ rfl) rfl Try.func20 (by kernel_rfl) (by kernel_rfl) fun a γ w U => (by show Calls _ _ #[] _ _; exact l_told)
      · exact sNot (b := true) rfl rfl rfl hz rfl (Gd.none_ rfl) rfl (Src.dep (j := 0) (t := 43) (by kernel_rfl) (by kernel_rfl) rfl)
      · exact sMv rfl rfl rfl hz rfl (Gd.none_ rfl) rfl (Src.dep (j := 1) (t := 44) (by kernel_rfl) (by kernel_rfl) rfl)
      · exact sLoad rfl rfl rfl hz rfl (Gd.yes rfl rfl (Src.dep (j := 2) (t := 45) (by kernel_rfl) (by kernel_rfl) rfl) rfl) rfl (Src.out (t := 7) (by kernel_rfl) S7 rfl) Cp5 rfl ld_n32
      · exact sLoad rfl rfl rfl hz rfl (Gd.yes rfl rfl (Src.dep (j := 2) (t := 45) (by kernel_rfl) (by kernel_rfl) rfl) rfl) rfl (Src.out (t := 8) (by kernel_rfl) S8 rfl) Cp6 rfl ld_n32
      · exact sCall rfl rfl rfl hz rfl (Gd.yes rfl rfl (Src.dep (j := 2) (t := 45) (by kernel_rfl) (by kernel_rfl) rfl) rfl) rfl Try.func25 (by kernel_rfl) (by kernel_rfl) fun a γ w U => (by show Calls _ _ #[a.eval (.tmp 46), a.eval (.tmp 47)] _ _; exact d_gcd (Src.at_ (Src.dep (j := 3) (t := 46) (by kernel_rfl) (by kernel_rfl) rfl) U) (Src.at_ (Src.dep (j := 4) (t := 47) (by kernel_rfl) (by kernel_rfl) rfl) U) (by decide) (by decide))
      · exact sLoad rfl rfl rfl hz rfl (Gd.yes rfl rfl (Src.dep (j := 2) (t := 45) (by kernel_rfl) (by kernel_rfl) rfl) rfl) rfl (Src.out (t := 11) (by kernel_rfl) S11 rfl) Cp10 rfl ld_n32
      · exact sCall rfl rfl rfl hz rfl (Gd.yes rfl rfl (Src.dep (j := 2) (t := 45) (by kernel_rfl) (by kernel_rfl) rfl) rfl) rfl Try.func24 (by kernel_rfl) (by kernel_rfl) fun a γ w U => (by show Calls _ _ #[a.eval (.tmp 48), a.eval (.tmp 49)] _ _; exact d_cmp (Src.at_ (Src.dep (j := 5) (t := 48) (by kernel_rfl) (by kernel_rfl) rfl) U) (Src.at_ (Src.dep (j := 6) (t := 49) (by kernel_rfl) (by kernel_rfl) rfl) U) (by decide) (by decide))
      · exact sBin rfl rfl rfl hz rfl (Gd.yes rfl rfl (Src.dep (j := 2) (t := 45) (by kernel_rfl) (by kernel_rfl) rfl) rfl) rfl (Src.dep (j := 7) (t := 50) (by kernel_rfl) (by kernel_rfl) rfl) (Src.const (.int .i64 0)) (fun w => run_f (P := (Nat.gcd ((mkF l k).num.toNat) ((mkF l k).den)) ≠ 1) ((fun w => run_cI_neq (Nat.gcd ((mkF l k).num.toNat) ((mkF l k).den)) 1 w) w) hc11)
      · exact sPickF rfl rfl rfl hz rfl (Gd.none_ rfl) rfl (Src.dep (j := 2) (t := 45) (by kernel_rfl) (by kernel_rfl) rfl) (Src.dep (j := 8) (t := 51) (by kernel_rfl) (by kernel_rfl) rfl)
      · exact sMv rfl rfl rfl hz rfl (Gd.none_ rfl) rfl (Src.dep (j := 9) (t := 52) (by kernel_rfl) (by kernel_rfl) rfl)
      · exact sLoad rfl rfl rfl hz rfl (Gd.yes rfl rfl (Src.dep (j := 10) (t := 53) (by kernel_rfl) (by kernel_rfl) rfl) rfl) rfl (Src.out (t := 7) (by kernel_rfl) S7 rfl) Cp5 rfl ld_n32
      · exact sLoad rfl rfl rfl hz rfl (Gd.yes rfl rfl (Src.dep (j := 10) (t := 53) (by kernel_rfl) (by kernel_rfl) rfl) rfl) rfl (Src.out (t := 10) (by kernel_rfl) S10 rfl) Cp8 rfl ld_n32
      · exact sCall rfl rfl rfl hz rfl (Gd.yes rfl rfl (Src.dep (j := 10) (t := 53) (by kernel_rfl) (by kernel_rfl) rfl) rfl) rfl Try.func26 (by kernel_rfl) (by kernel_rfl) fun a γ w U => (by show Calls _ _ #[a.eval (.tmp 54), a.eval (.tmp 55)] _ _; exact d_mul (Src.at_ (Src.dep (j := 11) (t := 54) (by kernel_rfl) (by kernel_rfl) rfl) U) (Src.at_ (Src.dep (j := 12) (t := 55) (by kernel_rfl) (by kernel_rfl) rfl) U) (by decide) (by decide))
      · exact sLoad rfl rfl rfl hz rfl (Gd.yes rfl rfl (Src.dep (j := 10) (t := 53) (by kernel_rfl) (by kernel_rfl) rfl) rfl) rfl (Src.out (t := 9) (by kernel_rfl) S9 rfl) Cp7 rfl ld_n32
      · exact sLoad rfl rfl rfl hz rfl (Gd.yes rfl rfl (Src.dep (j := 10) (t := 53) (by kernel_rfl) (by kernel_rfl) rfl) rfl) rfl (Src.out (t := 8) (by kernel_rfl) S8 rfl) Cp6 rfl ld_n32
      · exact sCall rfl rfl rfl hz rfl (Gd.yes rfl rfl (Src.dep (j := 10) (t := 53) (by kernel_rfl) (by kernel_rfl) rfl) rfl) rfl Try.func26 (by kernel_rfl) (by kernel_rfl) fun a γ w U => (by show Calls _ _ #[a.eval (.tmp 57), a.eval (.tmp 58)] _ _; exact d_mul (Src.at_ (Src.dep (j := 14) (t := 57) (by kernel_rfl) (by kernel_rfl) rfl) U) (Src.at_ (Src.dep (j := 15) (t := 58) (by kernel_rfl) (by kernel_rfl) rfl) U) (by decide) (by decide))
      · exact sCall rfl rfl rfl hz rfl (Gd.yes rfl rfl (Src.dep (j := 10) (t := 53) (by kernel_rfl) (by kernel_rfl) rfl) rfl) rfl Try.func24 (by kernel_rfl) (by kernel_rfl) fun a γ w U => (by show Calls _ _ #[a.eval (.tmp 56), a.eval (.tmp 59)] _ _; exact d_cmp (Src.at_ (Src.dep (j := 13) (t := 56) (by kernel_rfl) (by kernel_rfl) rfl) U) (Src.at_ (Src.dep (j := 16) (t := 59) (by kernel_rfl) (by kernel_rfl) rfl) U) (by decide) (by decide))
      · exact sBin rfl rfl rfl hz rfl (Gd.yes rfl rfl (Src.dep (j := 10) (t := 53) (by kernel_rfl) (by kernel_rfl) rfl) rfl) rfl (Src.dep (j := 17) (t := 60) (by kernel_rfl) (by kernel_rfl) rfl) (Src.const (.int .i64 0)) (fun w => run_cI_neq (((mkF l k).num.toNat) * 1) ((bev (l.take 120)) * ((mkF l k).den)) w)
      · exact sPickF rfl rfl rfl hz rfl (Gd.none_ rfl) rfl (Src.dep (j := 10) (t := 53) (by kernel_rfl) (by kernel_rfl) rfl) (Src.dep (j := 18) (t := 61) (by kernel_rfl) (by kernel_rfl) rfl)
    intro a' γ' W' hz' hd' hC hk hh
    have tp2 := Cp2.lt
    replace Cp2 := Cell.aft Cp2 hC rfl
    have tp5 := Cp5.lt
    replace Cp5 := Cell.aft Cp5 hC rfl
    have tp6 := Cp6.lt
    replace Cp6 := Cell.aft Cp6 hC rfl
    have tp7 := Cp7.lt
    clear Cp7
    have tp8 := Cp8.lt
    clear Cp8
    have tp10 := Cp10.lt
    replace Cp10 := Cell.aft Cp10 hC rfl
    replace S2 := hk 2 _ (by kernel_rfl) S2
    replace S3 := hk 3 _ (by kernel_rfl) S3
    replace S7 := hk 7 _ (by kernel_rfl) S7
    replace S8 := hk 8 _ (by kernel_rfl) S8
    clear S9
    clear S10
    replace S11 := hk 11 _ (by kernel_rfl) S11
    have S62 := gotV hz' 19 hh rfl rfl rfl rfl
    clear tp2 tp5 tp6 tp7 tp8 tp10
    replace HB := aft_call HB (RelC.below_nil hC)
    clear hC hk hh; replace hz := hz'; replace hd := hd'; clear hz' hd'
    have hc12 : ¬ ((((mkF l k).num.toNat) * 1) ≠ ((bev (l.take 120)) * ((mkF l k).den))) := (fun h => h (mkF_1 hc9))
    rw [decide_eq_false hc12] at S62
    refine wp_cond_false S62.ev ?_
    refine wp_skip ?_
    refine wp_seq ?_
    refine region_drawn (M := []) (
        rT (tQ B64 960 (mkF l k)) ::
        rT (tN B64 960 ((mkF l k).floor.toNat)) ::
        rT (tBy 7680 (bytesOf ((mkF l k).floor.toNat))) ::
        rT (tN B32 7680 ((mkF l k).floor.toNat)) ::
        rT (tQ B64 960 (mkF l k)) ::
        rT (tN B64 961 ((mkF l k).ceil.toNat)) ::
        rT (tBy 7688 (bytesOf ((mkF l k).ceil.toNat))) ::
        rT (tN B32 7688 ((mkF l k).ceil.toNat)) ::
        rVar 8 31 1 ::
        rVar 9 31 1 ::
        rB 8 31 (tN B32 7680 ((mkF l k).floor.toNat)) (some 8) 9 ::
        rB 9 31 (tN B32 7688 ((mkF l k).ceil.toNat)) (some 9) 10 ::
        []) hz hd (by kernel_rfl) (by kernel_rfl) ?_ ?_
    · refine ⟨?_, ?_, ?_, ?_, ?_, ?_, ?_, ?_, ?_, ?_, ?_, ?_, trivial⟩
      · exact sLoad rfl rfl rfl hz rfl (Gd.none_ rfl) rfl (Src.out (t := 3) (by kernel_rfl) S3 rfl) Cp2 rfl ld_q64
      · exact sCall rfl rfl rfl hz rfl (Gd.none_ rfl) rfl Try.func27 (by kernel_rfl) (by kernel_rfl) fun a γ w U => (by show Calls _ _ #[a.eval (.tmp 63)] _ _; exact cq_floor (Src.at_ (Src.dep (j := 0) (t := 63) (by kernel_rfl) (by kernel_rfl) rfl) U) (by decide))
      · exact sCall rfl rfl rfl hz rfl (Gd.none_ rfl) rfl Try.func19 (by kernel_rfl) (by kernel_rfl) fun a γ w U => (by show Calls _ _ #[a.eval (.tmp 64)] _ _; exact c_bytes (Src.at_ (Src.dep (j := 1) (t := 64) (by kernel_rfl) (by kernel_rfl) rfl) U) (by decide))
      · exact sCall rfl rfl rfl hz rfl (Gd.none_ rfl) rfl Try.func15 (by kernel_rfl) (by kernel_rfl) fun a γ w U => (by show Calls _ _ #[a.eval (.tmp 65)] _ _; exact d_fbb (Src.at_ (Src.dep (j := 2) (t := 65) (by kernel_rfl) (by kernel_rfl) rfl) U) (by decide))
      · exact sLoad rfl rfl rfl hz rfl (Gd.none_ rfl) rfl (Src.out (t := 3) (by kernel_rfl) S3 rfl) Cp2 rfl ld_q64
      · exact sCall rfl rfl rfl hz rfl (Gd.none_ rfl) rfl Try.func28 (by kernel_rfl) (by kernel_rfl) fun a γ w U => (by show Calls _ _ #[a.eval (.tmp 67)] _ _; exact cq_ceil (Src.at_ (Src.dep (j := 4) (t := 67) (by kernel_rfl) (by kernel_rfl) rfl) U) (by decide))
      · exact sCall rfl rfl rfl hz rfl (Gd.none_ rfl) rfl Try.func19 (by kernel_rfl) (by kernel_rfl) fun a γ w U => (by show Calls _ _ #[a.eval (.tmp 68)] _ _; exact c_bytes (Src.at_ (Src.dep (j := 5) (t := 68) (by kernel_rfl) (by kernel_rfl) rfl) U) (by decide))
      · exact sCall rfl rfl rfl hz rfl (Gd.none_ rfl) rfl Try.func15 (by kernel_rfl) (by kernel_rfl) fun a γ w U => (by show Calls _ _ #[a.eval (.tmp 69)] _ _; exact d_fbb (Src.at_ (Src.dep (j := 6) (t := 69) (by kernel_rfl) (by kernel_rfl) rfl) U) (by decide))
      · exact sAlloc rfl rfl rfl hz rfl rfl rfl rfl nd_slice al_n32
      · exact sAlloc rfl rfl rfl hz rfl rfl rfl rfl nd_slice al_n32
      · exact sStore rfl rfl rfl rfl rfl (by kernel_rfl) (by kernel_rfl) rfl (Src.dep (j := 3) (t := 66) (by kernel_rfl) (by kernel_rfl) rfl) st_n32
      · exact sStore rfl rfl rfl rfl rfl (by kernel_rfl) (by kernel_rfl) rfl (Src.dep (j := 7) (t := 70) (by kernel_rfl) (by kernel_rfl) rfl) st_n32
    intro a' γ' W' hz' hd' hC hk hh
    have ep2 := Cp2.lt
    have ep5 := Cp5.lt
    have ep6 := Cp6.lt
    have ep10 := Cp10.lt
    have tp2 := Cp2.lt
    clear Cp2
    have tp5 := Cp5.lt
    replace Cp5 := Cell.aft Cp5 hC rfl
    have tp6 := Cp6.lt
    replace Cp6 := Cell.aft Cp6 hC rfl
    have tp10 := Cp10.lt
    replace Cp10 := Cell.aft Cp10 hC rfl
    replace S2 := hk 2 _ (by kernel_rfl) S2
    clear S3
    replace S7 := hk 7 _ (by kernel_rfl) S7
    replace S8 := hk 8 _ (by kernel_rfl) S8
    replace S11 := hk 11 _ (by kernel_rfl) S11
    clear S62
    obtain ⟨p13, S12, Cp13, lp13, gp13⟩ := gotB hz' 10 hC hh rfl rfl rfl rfl rfl rfl
    obtain ⟨p14, S13, Cp14, lp14, gp14⟩ := gotB hz' 11 hC hh rfl rfl rfl rfl rfl rfl
    have n_p13_p5 : p13 ≠ p5 := by omega
    have n_p13_p6 : p13 ≠ p6 := by omega
    have n_p13_p10 : p13 ≠ p10 := by omega
    have n_p13_p14 : p13 ≠ p14 := by intro e; rw [e, gp14] at gp13; omega
    have n_p14_p5 : p14 ≠ p5 := by omega
    have n_p14_p6 : p14 ≠ p6 := by omega
    have n_p14_p10 : p14 ≠ p10 := by omega
    have n_p14_p13 : p14 ≠ p13 := by intro e; rw [e, gp13] at gp14; omega
    have n_p5_p13 : p5 ≠ p13 := by have := ep5; omega
    have n_p6_p13 : p6 ≠ p13 := by have := ep6; omega
    have n_p10_p13 : p10 ≠ p13 := by have := ep10; omega
    have n_p5_p14 : p5 ≠ p14 := by have := ep5; omega
    have n_p6_p14 : p6 ≠ p14 := by have := ep6; omega
    have n_p10_p14 : p10 ≠ p14 := by have := ep10; omega
    have bp13 : w.heap.size ≤ p13 := Nat.le_trans HB.size lp13
    have bp14 : w.heap.size ≤ p14 := Nat.le_trans HB.size lp14
    clear lp13 gp13 lp14 gp14
    clear tp2 tp5 tp6 tp10
    clear ep2 ep5 ep6 ep10
    replace HB := aft_call HB (RelC.below_nil hC)
    clear hC hk hh; replace hz := hz'; replace hd := hd'; clear hz' hd'
    refine wp_seq ?_
    have hc15 : (((mkF l k).floor.toNat) * ((mkF l k).den)) ≤ ((mkF l k).num.toNat) := (fl_le (mkF_nonneg l k))
    refine region_drawn (M := []) (
        rT (tN B32 7680 ((mkF l k).floor.toNat)) ::
        rT (tN B32 7688 ((mkF l k).den)) ::
        rT (tN B32 15368 (((mkF l k).floor.toNat) * ((mkF l k).den))) ::
        rT (tN B32 7680 ((mkF l k).num.toNat)) ::
        rT (tV (.int .i64 (cmpI (((mkF l k).floor.toNat) * ((mkF l k).den)) ((mkF l k).num.toNat)))) ::
        rT (tV (.bool true)) ::
        rT (tV (.bool true)) ::
        rT (tN B32 7680 ((mkF l k).floor.toNat)) ::
        rT (tN B32 2 1) ::
        rT (tN B32 7681 (((mkF l k).floor.toNat) + 1)) ::
        rT (tN B32 7688 ((mkF l k).den)) ::
        rT (tN B32 15369 ((((mkF l k).floor.toNat) + 1) * ((mkF l k).den))) ::
        rT (tN B32 7680 ((mkF l k).num.toNat)) ::
        rT (tV (.int .i64 (cmpI ((((mkF l k).floor.toNat) + 1) * ((mkF l k).den)) ((mkF l k).num.toNat)))) ::
        rT (tV (.bool (decide (((mkF l k).num.toNat) < ((((mkF l k).floor.toNat) + 1) * ((mkF l k).den)))))) ::
        rT (tV (.bool (decide (((mkF l k).num.toNat) < ((((mkF l k).floor.toNat) + 1) * ((mkF l k).den)))))) ::
        rT (tV (.bool (decide (((mkF l k).num.toNat) < ((((mkF l k).floor.toNat) + 1) * ((mkF l k).den)))))) ::
        []) hz hd (by kernel_rfl) (by kernel_rfl) ?_ ?_
    · refine ⟨?_, ?_, ?_, ?_, ?_, ?_, ?_, ?_, ?_, ?_, ?_, ?_, ?_, ?_, ?_, ?_, ?_, trivial⟩
      · exact sLoad rfl rfl rfl hz rfl (Gd.none_ rfl) rfl (Src.out (t := 12) (by kernel_rfl) S12 rfl) Cp13 rfl ld_n32
      · exact sLoad rfl rfl rfl hz rfl (Gd.none_ rfl) rfl (Src.out (t := 8) (by kernel_rfl) S8 rfl) Cp6 rfl ld_n32
      · exact sCall rfl rfl rfl hz rfl (Gd.none_ rfl) rfl Try.func26 (by kernel_rfl) (by kernel_rfl) fun a γ w U => (by show Calls _ _ #[a.eval (.tmp 71), a.eval (.tmp 72)] _ _; exact d_mul (Src.at_ (Src.dep (j := 0) (t := 71) (by kernel_rfl) (by kernel_rfl) rfl) U) (Src.at_ (Src.dep (j := 1) (t := 72) (by kernel_rfl) (by kernel_rfl) rfl) U) (by decide) (by decide))
      · exact sLoad rfl rfl rfl hz rfl (Gd.none_ rfl) rfl (Src.out (t := 7) (by kernel_rfl) S7 rfl) Cp5 rfl ld_n32
      · exact sCall rfl rfl rfl hz rfl (Gd.none_ rfl) rfl Try.func24 (by kernel_rfl) (by kernel_rfl) fun a γ w U => (by show Calls _ _ #[a.eval (.tmp 73), a.eval (.tmp 74)] _ _; exact d_cmp (Src.at_ (Src.dep (j := 2) (t := 73) (by kernel_rfl) (by kernel_rfl) rfl) U) (Src.at_ (Src.dep (j := 3) (t := 74) (by kernel_rfl) (by kernel_rfl) rfl) U) (by decide) (by decide))
      · exact sBin rfl rfl rfl hz rfl (Gd.none_ rfl) rfl (Src.dep (j := 4) (t := 75) (by kernel_rfl) (by kernel_rfl) rfl) (Src.const (.int .i64 0)) (fun w => run_t (P := (((mkF l k).floor.toNat) * ((mkF l k).den)) ≤ ((mkF l k).num.toNat)) ((fun w => run_cI_leq (((mkF l k).floor.toNat) * ((mkF l k).den)) ((mkF l k).num.toNat) w) w) hc15)
      · exact sMv rfl rfl rfl hz rfl (Gd.none_ rfl) rfl (Src.dep (j := 5) (t := 76) (by kernel_rfl) (by kernel_rfl) rfl)
      · exact sLoad rfl rfl rfl hz rfl (Gd.yes rfl rfl (Src.dep (j := 6) (t := 77) (by kernel_rfl) (by kernel_rfl) rfl) rfl) rfl (Src.out (t := 12) (by kernel_rfl) S12 rfl) Cp13 rfl ld_n32
      · exact sLoad rfl rfl rfl hz rfl (Gd.yes rfl rfl (Src.dep (j := 6) (t := 77) (by kernel_rfl) (by kernel_rfl) rfl) rfl) rfl (Src.out (t := 11) (by kernel_rfl) S11 rfl) Cp10 rfl ld_n32
      · exact sCall rfl rfl rfl hz rfl (Gd.yes rfl rfl (Src.dep (j := 6) (t := 77) (by kernel_rfl) (by kernel_rfl) rfl) rfl) rfl Try.func29 (by kernel_rfl) (by kernel_rfl) fun a γ w U => (by show Calls _ _ #[a.eval (.tmp 78), a.eval (.tmp 79)] _ _; exact d_add (Src.at_ (Src.dep (j := 7) (t := 78) (by kernel_rfl) (by kernel_rfl) rfl) U) (Src.at_ (Src.dep (j := 8) (t := 79) (by kernel_rfl) (by kernel_rfl) rfl) U) (by decide) (by decide))
      · exact sLoad rfl rfl rfl hz rfl (Gd.yes rfl rfl (Src.dep (j := 6) (t := 77) (by kernel_rfl) (by kernel_rfl) rfl) rfl) rfl (Src.out (t := 8) (by kernel_rfl) S8 rfl) Cp6 rfl ld_n32
      · exact sCall rfl rfl rfl hz rfl (Gd.yes rfl rfl (Src.dep (j := 6) (t := 77) (by kernel_rfl) (by kernel_rfl) rfl) rfl) rfl Try.func26 (by kernel_rfl) (by kernel_rfl) fun a γ w U => (by show Calls _ _ #[a.eval (.tmp 80), a.eval (.tmp 81)] _ _; exact d_mul (Src.at_ (Src.dep (j := 9) (t := 80) (by kernel_rfl) (by kernel_rfl) rfl) U) (Src.at_ (Src.dep (j := 10) (t := 81) (by kernel_rfl) (by kernel_rfl) rfl) U) (by decide) (by decide))
      · exact sLoad rfl rfl rfl hz rfl (Gd.yes rfl rfl (Src.dep (j := 6) (t := 77) (by kernel_rfl) (by kernel_rfl) rfl) rfl) rfl (Src.out (t := 7) (by kernel_rfl) S7 rfl) Cp5 rfl ld_n32
      · exact sCall rfl rfl rfl hz rfl (Gd.yes rfl rfl (Src.dep (j := 6) (t := 77) (by kernel_rfl) (by kernel_rfl) rfl) rfl) rfl Try.func24 (by kernel_rfl) (by kernel_rfl) fun a γ w U => (by show Calls _ _ #[a.eval (.tmp 82), a.eval (.tmp 83)] _ _; exact d_cmp (Src.at_ (Src.dep (j := 11) (t := 82) (by kernel_rfl) (by kernel_rfl) rfl) U) (Src.at_ (Src.dep (j := 12) (t := 83) (by kernel_rfl) (by kernel_rfl) rfl) U) (by decide) (by decide))
      · exact sBin rfl rfl rfl hz rfl (Gd.yes rfl rfl (Src.dep (j := 6) (t := 77) (by kernel_rfl) (by kernel_rfl) rfl) rfl) rfl (Src.dep (j := 13) (t := 84) (by kernel_rfl) (by kernel_rfl) rfl) (Src.const (.int .i64 0)) (fun w => run_cI_gtr ((((mkF l k).floor.toNat) + 1) * ((mkF l k).den)) ((mkF l k).num.toNat) w)
      · exact sPickT rfl rfl rfl hz rfl (Gd.none_ rfl) rfl (Src.dep (j := 6) (t := 77) (by kernel_rfl) (by kernel_rfl) rfl) (Src.dep (j := 14) (t := 85) (by kernel_rfl) (by kernel_rfl) rfl)
      · exact sAs rfl rfl rfl hz rfl (Gd.none_ rfl) rfl (Src.dep (j := 15) (t := 86) (by kernel_rfl) (by kernel_rfl) rfl)
    intro a' γ' W' hz' hd' hC hk hh
    have tp5 := Cp5.lt
    clear Cp5
    have tp6 := Cp6.lt
    replace Cp6 := Cell.aft Cp6 hC rfl
    have tp10 := Cp10.lt
    replace Cp10 := Cell.aft Cp10 hC rfl
    have tp13 := Cp13.lt
    replace Cp13 := Cell.aft Cp13 hC rfl
    have tp14 := Cp14.lt
    replace Cp14 := Cell.aft Cp14 hC rfl
    replace S2 := hk 2 _ (by kernel_rfl) S2
    clear S7
    replace S8 := hk 8 _ (by kernel_rfl) S8
    replace S11 := hk 11 _ (by kernel_rfl) S11
    replace S12 := hk 12 _ (by kernel_rfl) S12
    replace S13 := hk 13 _ (by kernel_rfl) S13
    have S14 := gotV hz' 16 hh rfl rfl rfl rfl
    clear tp5 tp6 tp10 tp13 tp14
    replace HB := aft_call HB (RelC.below_nil hC)
    clear hC hk hh; replace hz := hz'; replace hd := hd'; clear hz' hd'
    refine wp_seq ?_
    refine wp_seq ?_
    refine region_text (M := []) (
        rT (tN B32 7688 ((mkF l k).den)) ::
        rT (tN B32 2 1) ::
        rT (tV (.int .i64 (cmpI ((mkF l k).den) 1))) ::
        rT (tV (.bool (decide (((mkF l k).den) ≠ 1)))) ::
        []) hz hd (by kernel_rfl) ?_ ?_
    · refine ⟨?_, ?_, ?_, ?_, trivial⟩
      · exact sLoad rfl rfl rfl hz rfl (Gd.none_ rfl) rfl (Src.out (t := 8) (by kernel_rfl) S8 rfl) Cp6 rfl ld_n32
      · exact sLoad rfl rfl rfl hz rfl (Gd.none_ rfl) rfl (Src.out (t := 11) (by kernel_rfl) S11 rfl) Cp10 rfl ld_n32
      · exact sCall rfl rfl rfl hz rfl (Gd.none_ rfl) rfl Try.func24 (by kernel_rfl) (by kernel_rfl) fun a γ w U => (by show Calls _ _ #[a.eval (.tmp 87), a.eval (.tmp 88)] _ _; exact d_cmp (Src.at_ (Src.dep (j := 0) (t := 87) (by kernel_rfl) (by kernel_rfl) rfl) U) (Src.at_ (Src.dep (j := 1) (t := 88) (by kernel_rfl) (by kernel_rfl) rfl) U) (by decide) (by decide))
      · exact sBin rfl rfl rfl hz rfl (Gd.none_ rfl) rfl (Src.dep (j := 2) (t := 89) (by kernel_rfl) (by kernel_rfl) rfl) (Src.const (.int .i64 0)) (fun w => run_cI_neq ((mkF l k).den) 1 w)
    intro a' γ' W' hz' hd' hC hk hh
    have tp6 := Cp6.lt
    clear Cp6
    have tp10 := Cp10.lt
    replace Cp10 := Cell.aft Cp10 hC rfl
    have tp13 := Cp13.lt
    replace Cp13 := Cell.aft Cp13 hC rfl
    have tp14 := Cp14.lt
    replace Cp14 := Cell.aft Cp14 hC rfl
    replace S2 := hk 2 _ (by kernel_rfl) S2
    clear S8
    replace S11 := hk 11 _ (by kernel_rfl) S11
    replace S12 := hk 12 _ (by kernel_rfl) S12
    replace S13 := hk 13 _ (by kernel_rfl) S13
    replace S14 := hk 14 _ (by kernel_rfl) S14
    have S90 := gotV hz' 3 hh rfl rfl rfl rfl
    clear tp6 tp10 tp13 tp14
    replace HB := aft_call HB (RelC.below_nil hC)
    clear hC hk hh; replace hz := hz'; replace hd := hd'; clear hz' hd'
    by_cases hc16 : ((mkF l k).den) ≠ 1
    · rw [decide_eq_true hc16] at S90
      refine wp_cond_true S90.ev ?_
      refine region_text (M := [p13]) (
          rT (tN B32 7680 ((mkF l k).floor.toNat)) ::
          rT (tN B32 2 1) ::
          rT (tN B32 7681 (((mkF l k).floor.toNat) + 1)) ::
          rE 0 31 (tN B32 7681 (((mkF l k).floor.toNat) + 1)) p13 ::
          []) hz hd (by kernel_rfl) ?_ ?_
      · refine ⟨?_, ?_, ?_, ?_, trivial⟩
        · exact sLoadM rfl rfl rfl hz rfl (Gd.none_ rfl) rfl (Src.out (t := 12) (by kernel_rfl) S12 rfl) Cp13 (k := 0) (by simp [tagOf]) (by kernel_rfl) ld_n32
        · exact sLoad rfl rfl rfl hz rfl (Gd.none_ rfl) rfl (Src.out (t := 11) (by kernel_rfl) S11 rfl) Cp10 (by simp [tagOf, n_p10_p13]) ld_n32
        · exact sCall rfl rfl rfl hz rfl (Gd.none_ rfl) rfl Try.func29 (by kernel_rfl) (by kernel_rfl) fun a γ w U => (by show Calls _ _ #[a.eval (.tmp 91), a.eval (.tmp 92)] _ _; exact d_add (Src.at_ (Src.dep (j := 0) (t := 91) (by kernel_rfl) (by kernel_rfl) rfl) U) (Src.at_ (Src.dep (j := 1) (t := 92) (by kernel_rfl) (by kernel_rfl) rfl) U) (by decide) (by decide))
        · exact sStoreE rfl rfl rfl rfl rfl (Src.out (t := 12) (by kernel_rfl) S12 rfl) (by simp [tagOf]) (Cp13.var tN_nd) (Src.dep (j := 2) (t := 93) (by kernel_rfl) (by kernel_rfl) rfl) st_n32
      intro a' γ' W' hz' hd' hC hk hh
      have tp10 := Cp10.lt
      clear Cp10
      replace Cp13 := gotE (T := tN B32 7681 (((mkF l k).floor.toNat) + 1)) (id := 31) (p := p13) 3 hh rfl rfl
      have tp14 := Cp14.lt
      replace Cp14 := Cell.aft Cp14 hC (by simp [tagOf, n_p14_p13])
      replace S2 := hk 2 _ (by kernel_rfl) S2
      clear S11
      replace S12 := hk 12 _ (by kernel_rfl) S12
      replace S13 := hk 13 _ (by kernel_rfl) S13
      replace S14 := hk 14 _ (by kernel_rfl) S14
      clear S90
      clear tp10 tp14
      replace HB := RelC.aftM HB hC (by intro m hm; simp at hm; rcases hm with rfl <;> assumption)
      clear hC hk hh; replace hz := hz'; replace hd := hd'; clear hz' hd'
      refine wp_seq ?_
      have hc17 : ((mkF l k).num.toNat) < ((((mkF l k).floor.toNat) + 1) * ((mkF l k).den)) := (fl_gt (mkF_nonneg l k))
      rw [decide_eq_true hc17] at S14
      refine region_text (M := []) (
          rT (tV (.bool true)) ::
          rT (tV (.bool true)) ::
          rT (tN B32 7681 (((mkF l k).floor.toNat) + 1)) ::
          rT (tN B32 7688 ((mkF l k).ceil.toNat)) ::
          rT (tV (.int .i64 (cmpI (((mkF l k).floor.toNat) + 1) ((mkF l k).ceil.toNat)))) ::
          rT (tV (.bool (decide ((((mkF l k).floor.toNat) + 1) = ((mkF l k).ceil.toNat))))) ::
          rT (tV (.bool (decide ((((mkF l k).floor.toNat) + 1) = ((mkF l k).ceil.toNat))))) ::
          rT (tV (.bool (decide ((((mkF l k).floor.toNat) + 1) = ((mkF l k).ceil.toNat))))) ::
          []) hz hd (by kernel_rfl) ?_ ?_
      · refine ⟨?_, ?_, ?_, ?_, ?_, ?_, ?_, ?_, trivial⟩
        · exact sMv rfl rfl rfl hz rfl (Gd.none_ rfl) rfl (Src.out (t := 14) (by kernel_rfl) S14 rfl)
        · exact sMv rfl rfl rfl hz rfl (Gd.none_ rfl) rfl (Src.dep (j := 0) (t := 94) (by kernel_rfl) (by kernel_rfl) rfl)
        · exact sLoad rfl rfl rfl hz rfl (Gd.yes rfl rfl (Src.dep (j := 1) (t := 95) (by kernel_rfl) (by kernel_rfl) rfl) rfl) rfl (Src.out (t := 12) (by kernel_rfl) S12 rfl) Cp13 rfl ld_n32
        · exact sLoad rfl rfl rfl hz rfl (Gd.yes rfl rfl (Src.dep (j := 1) (t := 95) (by kernel_rfl) (by kernel_rfl) rfl) rfl) rfl (Src.out (t := 13) (by kernel_rfl) S13 rfl) Cp14 rfl ld_n32
        · exact sCall rfl rfl rfl hz rfl (Gd.yes rfl rfl (Src.dep (j := 1) (t := 95) (by kernel_rfl) (by kernel_rfl) rfl) rfl) rfl Try.func24 (by kernel_rfl) (by kernel_rfl) fun a γ w U => (by show Calls _ _ #[a.eval (.tmp 96), a.eval (.tmp 97)] _ _; exact d_cmp (Src.at_ (Src.dep (j := 2) (t := 96) (by kernel_rfl) (by kernel_rfl) rfl) U) (Src.at_ (Src.dep (j := 3) (t := 97) (by kernel_rfl) (by kernel_rfl) rfl) U) (by decide) (by decide))
        · exact sBin rfl rfl rfl hz rfl (Gd.yes rfl rfl (Src.dep (j := 1) (t := 95) (by kernel_rfl) (by kernel_rfl) rfl) rfl) rfl (Src.dep (j := 4) (t := 98) (by kernel_rfl) (by kernel_rfl) rfl) (Src.const (.int .i64 0)) (fun w => run_cI_eql (((mkF l k).floor.toNat) + 1) ((mkF l k).ceil.toNat) w)
        · exact sPickT rfl rfl rfl hz rfl (Gd.none_ rfl) rfl (Src.dep (j := 1) (t := 95) (by kernel_rfl) (by kernel_rfl) rfl) (Src.dep (j := 5) (t := 99) (by kernel_rfl) (by kernel_rfl) rfl)
        · exact sAs rfl rfl rfl hz rfl (Gd.none_ rfl) rfl (Src.dep (j := 6) (t := 100) (by kernel_rfl) (by kernel_rfl) rfl)
      intro a' γ' W' hz' hd' hC hk hh
      have tp13 := Cp13.lt
      clear Cp13
      have tp14 := Cp14.lt
      clear Cp14
      clear S2
      clear S12
      clear S13
      clear S14
      have S2 := gotV hz' 7 hh rfl rfl rfl rfl
      clear tp13 tp14
      replace HB := aft_call HB (RelC.below_nil hC)
      clear hC hk hh; replace hz := hz'; replace hd := hd'; clear hz' hd'
      refine wp_ret ?_
      refine ret_to (T := tV (.bool (decide ((((mkF l k).floor.toNat) + 1) = ((mkF l k).ceil.toNat))))) (ret1 (by kernel_rfl) S2 hd ⟨_, rfl, rfl, HB⟩) ?_
      exact tV_to (by rw [decide_eq_true (ce_2 (mkF_nonneg l k) hc16)])
    · rw [decide_eq_false hc16] at S90
      refine wp_cond_false S90.ev ?_
      refine wp_skip ?_
      refine wp_seq ?_
      have hc18 : ((mkF l k).num.toNat) < ((((mkF l k).floor.toNat) + 1) * ((mkF l k).den)) := (fl_gt (mkF_nonneg l k))
      rw [decide_eq_true hc18] at S14
      refine region_text (M := []) (
          rT (tV (.bool true)) ::
          rT (tV (.bool true)) ::
          rT (tN B32 7680 ((mkF l k).floor.toNat)) ::
          rT (tN B32 7688 ((mkF l k).ceil.toNat)) ::
          rT (tV (.int .i64 (cmpI ((mkF l k).floor.toNat) ((mkF l k).ceil.toNat)))) ::
          rT (tV (.bool (decide (((mkF l k).floor.toNat) = ((mkF l k).ceil.toNat))))) ::
          rT (tV (.bool (decide (((mkF l k).floor.toNat) = ((mkF l k).ceil.toNat))))) ::
          rT (tV (.bool (decide (((mkF l k).floor.toNat) = ((mkF l k).ceil.toNat))))) ::
          []) hz hd (by kernel_rfl) ?_ ?_
      · refine ⟨?_, ?_, ?_, ?_, ?_, ?_, ?_, ?_, trivial⟩
        · exact sMv rfl rfl rfl hz rfl (Gd.none_ rfl) rfl (Src.out (t := 14) (by kernel_rfl) S14 rfl)
        · exact sMv rfl rfl rfl hz rfl (Gd.none_ rfl) rfl (Src.dep (j := 0) (t := 94) (by kernel_rfl) (by kernel_rfl) rfl)
        · exact sLoad rfl rfl rfl hz rfl (Gd.yes rfl rfl (Src.dep (j := 1) (t := 95) (by kernel_rfl) (by kernel_rfl) rfl) rfl) rfl (Src.out (t := 12) (by kernel_rfl) S12 rfl) Cp13 rfl ld_n32
        · exact sLoad rfl rfl rfl hz rfl (Gd.yes rfl rfl (Src.dep (j := 1) (t := 95) (by kernel_rfl) (by kernel_rfl) rfl) rfl) rfl (Src.out (t := 13) (by kernel_rfl) S13 rfl) Cp14 rfl ld_n32
        · exact sCall rfl rfl rfl hz rfl (Gd.yes rfl rfl (Src.dep (j := 1) (t := 95) (by kernel_rfl) (by kernel_rfl) rfl) rfl) rfl Try.func24 (by kernel_rfl) (by kernel_rfl) fun a γ w U => (by show Calls _ _ #[a.eval (.tmp 96), a.eval (.tmp 97)] _ _; exact d_cmp (Src.at_ (Src.dep (j := 2) (t := 96) (by kernel_rfl) (by kernel_rfl) rfl) U) (Src.at_ (Src.dep (j := 3) (t := 97) (by kernel_rfl) (by kernel_rfl) rfl) U) (by decide) (by decide))
        · exact sBin rfl rfl rfl hz rfl (Gd.yes rfl rfl (Src.dep (j := 1) (t := 95) (by kernel_rfl) (by kernel_rfl) rfl) rfl) rfl (Src.dep (j := 4) (t := 98) (by kernel_rfl) (by kernel_rfl) rfl) (Src.const (.int .i64 0)) (fun w => run_cI_eql ((mkF l k).floor.toNat) ((mkF l k).ceil.toNat) w)
        · exact sPickT rfl rfl rfl hz rfl (Gd.none_ rfl) rfl (Src.dep (j := 1) (t := 95) (by kernel_rfl) (by kernel_rfl) rfl) (Src.dep (j := 5) (t := 99) (by kernel_rfl) (by kernel_rfl) rfl)
        · exact sAs rfl rfl rfl hz rfl (Gd.none_ rfl) rfl (Src.dep (j := 6) (t := 100) (by kernel_rfl) (by kernel_rfl) rfl)
      intro a' γ' W' hz' hd' hC hk hh
      have tp10 := Cp10.lt
      clear Cp10
      have tp13 := Cp13.lt
      clear Cp13
      have tp14 := Cp14.lt
      clear Cp14
      clear S2
      clear S11
      clear S12
      clear S13
      clear S14
      clear S90
      have S2 := gotV hz' 7 hh rfl rfl rfl rfl
      clear tp10 tp13 tp14
      replace HB := aft_call HB (RelC.below_nil hC)
      clear hC hk hh; replace hz := hz'; replace hd := hd'; clear hz' hd'
      refine wp_ret ?_
      refine ret_to (T := tV (.bool (decide (((mkF l k).floor.toNat) = ((mkF l k).ceil.toNat))))) (ret1 (by kernel_rfl) S2 hd ⟨_, rfl, rfl, HB⟩) ?_
      exact tV_to (by rw [decide_eq_true (ce_1 (mkF_nonneg l k) (Classical.byContradiction hc16))])
  · rw [decide_eq_false hc9] at S40
    refine wp_cond_false S40.ev ?_
    refine wp_skip ?_
    refine wp_seq ?_
    refine region_text (M := []) (
        rT (tN B32 2 1) ::
        rVar 1 31 1 ::
        rB 1 31 (tN B32 2 1) (some 1) 2 ::
        []) hz hd (by kernel_rfl) ?_ ?_
    · refine ⟨?_, ?_, ?_, trivial⟩
      · exact sCall rfl rfl rfl hz rfl (Gd.none_ rfl) rfl Try.func16 (by kernel_rfl) (by kernel_rfl) fun a γ w U => (by show Calls _ _ #[.int .u64 1] _ _; exact d_of (by decide))
      · exact sAlloc rfl rfl rfl hz rfl rfl rfl rfl nd_slice al_n32
      · exact sStore rfl rfl rfl rfl rfl (by kernel_rfl) (by kernel_rfl) rfl (Src.dep (j := 0) (t := 42) (by kernel_rfl) (by kernel_rfl) rfl) st_n32
    intro a' γ' W' hz' hd' hC hk hh
    have ep2 := Cp2.lt
    have ep5 := Cp5.lt
    have ep6 := Cp6.lt
    have ep7 := Cp7.lt
    have ep8 := Cp8.lt
    have tp2 := Cp2.lt
    replace Cp2 := Cell.aft Cp2 hC rfl
    have tp5 := Cp5.lt
    replace Cp5 := Cell.aft Cp5 hC rfl
    have tp6 := Cp6.lt
    replace Cp6 := Cell.aft Cp6 hC rfl
    have tp7 := Cp7.lt
    replace Cp7 := Cell.aft Cp7 hC rfl
    have tp8 := Cp8.lt
    replace Cp8 := Cell.aft Cp8 hC rfl
    replace S2 := hk 2 _ (by kernel_rfl) S2
    replace S3 := hk 3 _ (by kernel_rfl) S3
    replace S7 := hk 7 _ (by kernel_rfl) S7
    replace S8 := hk 8 _ (by kernel_rfl) S8
    replace S9 := hk 9 _ (by kernel_rfl) S9
    replace S10 := hk 10 _ (by kernel_rfl) S10
    clear S40
    obtain ⟨p19, S11, Cp19, lp19, gp19⟩ := gotB hz' 2 hC hh rfl rfl rfl rfl rfl rfl
    have n_p19_p2 : p19 ≠ p2 := by omega
    have n_p19_p5 : p19 ≠ p5 := by omega
    have n_p19_p6 : p19 ≠ p6 := by omega
    have n_p19_p7 : p19 ≠ p7 := by omega
    have n_p19_p8 : p19 ≠ p8 := by omega
    have n_p2_p19 : p2 ≠ p19 := by have := ep2; omega
    have n_p5_p19 : p5 ≠ p19 := by have := ep5; omega
    have n_p6_p19 : p6 ≠ p19 := by have := ep6; omega
    have n_p7_p19 : p7 ≠ p19 := by have := ep7; omega
    have n_p8_p19 : p8 ≠ p19 := by have := ep8; omega
    have bp19 : w.heap.size ≤ p19 := Nat.le_trans HB.size lp19
    clear lp19 gp19
    clear tp2 tp5 tp6 tp7 tp8
    clear ep2 ep5 ep6 ep7 ep8
    replace HB := aft_call HB (RelC.below_nil hC)
    clear hC hk hh; replace hz := hz'; replace hd := hd'; clear hz' hd'
    refine wp_seq ?_
    refine wp_seq ?_
    have hc20 : ¬ ((Nat.gcd ((mkF l k).num.toNat) ((mkF l k).den)) ≠ 1) := (fun h => h (form_gcd (mkF_nonneg l k)))
    refine region_drawn (M := []) (
        rT (tV (.bool true)) ::
        rT (tV (.bool false)) ::
        rT (tV (.bool false)) ::
        rT (tN B32 7680 ((mkF l k).num.toNat)) ::
        rT (tN B32 7688 ((mkF l k).den)) ::
        rT (tN B32 7688 (Nat.gcd ((mkF l k).num.toNat) ((mkF l k).den))) ::
        rT (tN B32 2 1) ::
        rT (tV (.int .i64 (cmpI (Nat.gcd ((mkF l k).num.toNat) ((mkF l k).den)) 1))) ::
        rT (tV (.bool false)) ::
        rT (tV (.bool false)) ::
        rT (tV (.bool false)) ::
        rT (tN B32 7680 ((mkF l k).num.toNat)) ::
        rT (tN B32 120 (bev (k.take 120))) ::
        rT (tN B32 7800 (((mkF l k).num.toNat) * (bev (k.take 120)))) ::
        rT (tN B32 120 (bev (l.take 120))) ::
        rT (tN B32 7688 ((mkF l k).den)) ::
        rT (tN B32 7808 ((bev (l.take 120)) * ((mkF l k).den))) ::
        rT (tV (.int .i64 (cmpI (((mkF l k).num.toNat) * (bev (k.take 120))) ((bev (l.take 120)) * ((mkF l k).den))))) ::
        rT (tV (.bool (decide ((((mkF l k).num.toNat) * (bev (k.take 120))) ≠ ((bev (l.take 120)) * ((mkF l k).den)))))) ::
        rT (tV (.bool (decide ((((mkF l k).num.toNat) * (bev (k.take 120))) ≠ ((bev (l.take 120)) * ((mkF l k).den)))))) ::
        []) hz hd (by kernel_rfl) (by kernel_rfl) ?_ ?_
    · refine ⟨?_, ?_, ?_, ?_, ?_, ?_, ?_, ?_, ?_, ?_, ?_, ?_, ?_, ?_, ?_, ?_, ?_, ?_, ?_, ?_, trivial⟩
      · exact sCall rfl rfl rfl hz rfl (Gd.none_ rfl) rfl Try.func20 (by kernel_rfl) (by kernel_rfl) fun a γ w U => (by show Calls _ _ #[] _ _; exact l_told)
      · exact sNot (b := true) rfl rfl rfl hz rfl (Gd.none_ rfl) rfl (Src.dep (j := 0) (t := 43) (by kernel_rfl) (by kernel_rfl) rfl)
      · exact sMv rfl rfl rfl hz rfl (Gd.none_ rfl) rfl (Src.dep (j := 1) (t := 44) (by kernel_rfl) (by kernel_rfl) rfl)
      · exact sLoad rfl rfl rfl hz rfl (Gd.yes rfl rfl (Src.dep (j := 2) (t := 45) (by kernel_rfl) (by kernel_rfl) rfl) rfl) rfl (Src.out (t := 7) (by kernel_rfl) S7 rfl) Cp5 rfl ld_n32
      · exact sLoad rfl rfl rfl hz rfl (Gd.yes rfl rfl (Src.dep (j := 2) (t := 45) (by kernel_rfl) (by kernel_rfl) rfl) rfl) rfl (Src.out (t := 8) (by kernel_rfl) S8 rfl) Cp6 rfl ld_n32
      · exact sCall rfl rfl rfl hz rfl (Gd.yes rfl rfl (Src.dep (j := 2) (t := 45) (by kernel_rfl) (by kernel_rfl) rfl) rfl) rfl Try.func25 (by kernel_rfl) (by kernel_rfl) fun a γ w U => (by show Calls _ _ #[a.eval (.tmp 46), a.eval (.tmp 47)] _ _; exact d_gcd (Src.at_ (Src.dep (j := 3) (t := 46) (by kernel_rfl) (by kernel_rfl) rfl) U) (Src.at_ (Src.dep (j := 4) (t := 47) (by kernel_rfl) (by kernel_rfl) rfl) U) (by decide) (by decide))
      · exact sLoad rfl rfl rfl hz rfl (Gd.yes rfl rfl (Src.dep (j := 2) (t := 45) (by kernel_rfl) (by kernel_rfl) rfl) rfl) rfl (Src.out (t := 11) (by kernel_rfl) S11 rfl) Cp19 rfl ld_n32
      · exact sCall rfl rfl rfl hz rfl (Gd.yes rfl rfl (Src.dep (j := 2) (t := 45) (by kernel_rfl) (by kernel_rfl) rfl) rfl) rfl Try.func24 (by kernel_rfl) (by kernel_rfl) fun a γ w U => (by show Calls _ _ #[a.eval (.tmp 48), a.eval (.tmp 49)] _ _; exact d_cmp (Src.at_ (Src.dep (j := 5) (t := 48) (by kernel_rfl) (by kernel_rfl) rfl) U) (Src.at_ (Src.dep (j := 6) (t := 49) (by kernel_rfl) (by kernel_rfl) rfl) U) (by decide) (by decide))
      · exact sBin rfl rfl rfl hz rfl (Gd.yes rfl rfl (Src.dep (j := 2) (t := 45) (by kernel_rfl) (by kernel_rfl) rfl) rfl) rfl (Src.dep (j := 7) (t := 50) (by kernel_rfl) (by kernel_rfl) rfl) (Src.const (.int .i64 0)) (fun w => run_f (P := (Nat.gcd ((mkF l k).num.toNat) ((mkF l k).den)) ≠ 1) ((fun w => run_cI_neq (Nat.gcd ((mkF l k).num.toNat) ((mkF l k).den)) 1 w) w) hc20)
      · exact sPickF rfl rfl rfl hz rfl (Gd.none_ rfl) rfl (Src.dep (j := 2) (t := 45) (by kernel_rfl) (by kernel_rfl) rfl) (Src.dep (j := 8) (t := 51) (by kernel_rfl) (by kernel_rfl) rfl)
      · exact sMv rfl rfl rfl hz rfl (Gd.none_ rfl) rfl (Src.dep (j := 9) (t := 52) (by kernel_rfl) (by kernel_rfl) rfl)
      · exact sLoad rfl rfl rfl hz rfl (Gd.yes rfl rfl (Src.dep (j := 10) (t := 53) (by kernel_rfl) (by kernel_rfl) rfl) rfl) rfl (Src.out (t := 7) (by kernel_rfl) S7 rfl) Cp5 rfl ld_n32
      · exact sLoad rfl rfl rfl hz rfl (Gd.yes rfl rfl (Src.dep (j := 10) (t := 53) (by kernel_rfl) (by kernel_rfl) rfl) rfl) rfl (Src.out (t := 10) (by kernel_rfl) S10 rfl) Cp8 rfl ld_n32
      · exact sCall rfl rfl rfl hz rfl (Gd.yes rfl rfl (Src.dep (j := 10) (t := 53) (by kernel_rfl) (by kernel_rfl) rfl) rfl) rfl Try.func26 (by kernel_rfl) (by kernel_rfl) fun a γ w U => (by show Calls _ _ #[a.eval (.tmp 54), a.eval (.tmp 55)] _ _; exact d_mul (Src.at_ (Src.dep (j := 11) (t := 54) (by kernel_rfl) (by kernel_rfl) rfl) U) (Src.at_ (Src.dep (j := 12) (t := 55) (by kernel_rfl) (by kernel_rfl) rfl) U) (by decide) (by decide))
      · exact sLoad rfl rfl rfl hz rfl (Gd.yes rfl rfl (Src.dep (j := 10) (t := 53) (by kernel_rfl) (by kernel_rfl) rfl) rfl) rfl (Src.out (t := 9) (by kernel_rfl) S9 rfl) Cp7 rfl ld_n32
      · exact sLoad rfl rfl rfl hz rfl (Gd.yes rfl rfl (Src.dep (j := 10) (t := 53) (by kernel_rfl) (by kernel_rfl) rfl) rfl) rfl (Src.out (t := 8) (by kernel_rfl) S8 rfl) Cp6 rfl ld_n32
      · exact sCall rfl rfl rfl hz rfl (Gd.yes rfl rfl (Src.dep (j := 10) (t := 53) (by kernel_rfl) (by kernel_rfl) rfl) rfl) rfl Try.func26 (by kernel_rfl) (by kernel_rfl) fun a γ w U => (by show Calls _ _ #[a.eval (.tmp 57), a.eval (.tmp 58)] _ _; exact d_mul (Src.at_ (Src.dep (j := 14) (t := 57) (by kernel_rfl) (by kernel_rfl) rfl) U) (Src.at_ (Src.dep (j := 15) (t := 58) (by kernel_rfl) (by kernel_rfl) rfl) U) (by decide) (by decide))
      · exact sCall rfl rfl rfl hz rfl (Gd.yes rfl rfl (Src.dep (j := 10) (t := 53) (by kernel_rfl) (by kernel_rfl) rfl) rfl) rfl Try.func24 (by kernel_rfl) (by kernel_rfl) fun a γ w U => (by show Calls _ _ #[a.eval (.tmp 56), a.eval (.tmp 59)] _ _; exact d_cmp (Src.at_ (Src.dep (j := 13) (t := 56) (by kernel_rfl) (by kernel_rfl) rfl) U) (Src.at_ (Src.dep (j := 16) (t := 59) (by kernel_rfl) (by kernel_rfl) rfl) U) (by decide) (by decide))
      · exact sBin rfl rfl rfl hz rfl (Gd.yes rfl rfl (Src.dep (j := 10) (t := 53) (by kernel_rfl) (by kernel_rfl) rfl) rfl) rfl (Src.dep (j := 17) (t := 60) (by kernel_rfl) (by kernel_rfl) rfl) (Src.const (.int .i64 0)) (fun w => run_cI_neq (((mkF l k).num.toNat) * (bev (k.take 120))) ((bev (l.take 120)) * ((mkF l k).den)) w)
      · exact sPickF rfl rfl rfl hz rfl (Gd.none_ rfl) rfl (Src.dep (j := 10) (t := 53) (by kernel_rfl) (by kernel_rfl) rfl) (Src.dep (j := 18) (t := 61) (by kernel_rfl) (by kernel_rfl) rfl)
    intro a' γ' W' hz' hd' hC hk hh
    have tp2 := Cp2.lt
    replace Cp2 := Cell.aft Cp2 hC rfl
    have tp5 := Cp5.lt
    replace Cp5 := Cell.aft Cp5 hC rfl
    have tp6 := Cp6.lt
    replace Cp6 := Cell.aft Cp6 hC rfl
    have tp7 := Cp7.lt
    clear Cp7
    have tp8 := Cp8.lt
    clear Cp8
    have tp19 := Cp19.lt
    replace Cp19 := Cell.aft Cp19 hC rfl
    replace S2 := hk 2 _ (by kernel_rfl) S2
    replace S3 := hk 3 _ (by kernel_rfl) S3
    replace S7 := hk 7 _ (by kernel_rfl) S7
    replace S8 := hk 8 _ (by kernel_rfl) S8
    clear S9
    clear S10
    replace S11 := hk 11 _ (by kernel_rfl) S11
    have S62 := gotV hz' 19 hh rfl rfl rfl rfl
    clear tp2 tp5 tp6 tp7 tp8 tp19
    replace HB := aft_call HB (RelC.below_nil hC)
    clear hC hk hh; replace hz := hz'; replace hd := hd'; clear hz' hd'
    have hc21 : ¬ ((((mkF l k).num.toNat) * (bev (k.take 120))) ≠ ((bev (l.take 120)) * ((mkF l k).den))) := (fun h => h (mkF_2 hc9))
    rw [decide_eq_false hc21] at S62
    refine wp_cond_false S62.ev ?_
    refine wp_skip ?_
    refine wp_seq ?_
    refine region_drawn (M := []) (
        rT (tQ B64 960 (mkF l k)) ::
        rT (tN B64 960 ((mkF l k).floor.toNat)) ::
        rT (tBy 7680 (bytesOf ((mkF l k).floor.toNat))) ::
        rT (tN B32 7680 ((mkF l k).floor.toNat)) ::
        rT (tQ B64 960 (mkF l k)) ::
        rT (tN B64 961 ((mkF l k).ceil.toNat)) ::
        rT (tBy 7688 (bytesOf ((mkF l k).ceil.toNat))) ::
        rT (tN B32 7688 ((mkF l k).ceil.toNat)) ::
        rVar 8 31 1 ::
        rVar 9 31 1 ::
        rB 8 31 (tN B32 7680 ((mkF l k).floor.toNat)) (some 8) 9 ::
        rB 9 31 (tN B32 7688 ((mkF l k).ceil.toNat)) (some 9) 10 ::
        []) hz hd (by kernel_rfl) (by kernel_rfl) ?_ ?_
    · refine ⟨?_, ?_, ?_, ?_, ?_, ?_, ?_, ?_, ?_, ?_, ?_, ?_, trivial⟩
      · exact sLoad rfl rfl rfl hz rfl (Gd.none_ rfl) rfl (Src.out (t := 3) (by kernel_rfl) S3 rfl) Cp2 rfl ld_q64
      · exact sCall rfl rfl rfl hz rfl (Gd.none_ rfl) rfl Try.func27 (by kernel_rfl) (by kernel_rfl) fun a γ w U => (by show Calls _ _ #[a.eval (.tmp 63)] _ _; exact cq_floor (Src.at_ (Src.dep (j := 0) (t := 63) (by kernel_rfl) (by kernel_rfl) rfl) U) (by decide))
      · exact sCall rfl rfl rfl hz rfl (Gd.none_ rfl) rfl Try.func19 (by kernel_rfl) (by kernel_rfl) fun a γ w U => (by show Calls _ _ #[a.eval (.tmp 64)] _ _; exact c_bytes (Src.at_ (Src.dep (j := 1) (t := 64) (by kernel_rfl) (by kernel_rfl) rfl) U) (by decide))
      · exact sCall rfl rfl rfl hz rfl (Gd.none_ rfl) rfl Try.func15 (by kernel_rfl) (by kernel_rfl) fun a γ w U => (by show Calls _ _ #[a.eval (.tmp 65)] _ _; exact d_fbb (Src.at_ (Src.dep (j := 2) (t := 65) (by kernel_rfl) (by kernel_rfl) rfl) U) (by decide))
      · exact sLoad rfl rfl rfl hz rfl (Gd.none_ rfl) rfl (Src.out (t := 3) (by kernel_rfl) S3 rfl) Cp2 rfl ld_q64
      · exact sCall rfl rfl rfl hz rfl (Gd.none_ rfl) rfl Try.func28 (by kernel_rfl) (by kernel_rfl) fun a γ w U => (by show Calls _ _ #[a.eval (.tmp 67)] _ _; exact cq_ceil (Src.at_ (Src.dep (j := 4) (t := 67) (by kernel_rfl) (by kernel_rfl) rfl) U) (by decide))
      · exact sCall rfl rfl rfl hz rfl (Gd.none_ rfl) rfl Try.func19 (by kernel_rfl) (by kernel_rfl) fun a γ w U => (by show Calls _ _ #[a.eval (.tmp 68)] _ _; exact c_bytes (Src.at_ (Src.dep (j := 5) (t := 68) (by kernel_rfl) (by kernel_rfl) rfl) U) (by decide))
      · exact sCall rfl rfl rfl hz rfl (Gd.none_ rfl) rfl Try.func15 (by kernel_rfl) (by kernel_rfl) fun a γ w U => (by show Calls _ _ #[a.eval (.tmp 69)] _ _; exact d_fbb (Src.at_ (Src.dep (j := 6) (t := 69) (by kernel_rfl) (by kernel_rfl) rfl) U) (by decide))
      · exact sAlloc rfl rfl rfl hz rfl rfl rfl rfl nd_slice al_n32
      · exact sAlloc rfl rfl rfl hz rfl rfl rfl rfl nd_slice al_n32
      · exact sStore rfl rfl rfl rfl rfl (by kernel_rfl) (by kernel_rfl) rfl (Src.dep (j := 3) (t := 66) (by kernel_rfl) (by kernel_rfl) rfl) st_n32
      · exact sStore rfl rfl rfl rfl rfl (by kernel_rfl) (by kernel_rfl) rfl (Src.dep (j := 7) (t := 70) (by kernel_rfl) (by kernel_rfl) rfl) st_n32
    intro a' γ' W' hz' hd' hC hk hh
    have ep2 := Cp2.lt
    have ep5 := Cp5.lt
    have ep6 := Cp6.lt
    have ep19 := Cp19.lt
    have tp2 := Cp2.lt
    clear Cp2
    have tp5 := Cp5.lt
    replace Cp5 := Cell.aft Cp5 hC rfl
    have tp6 := Cp6.lt
    replace Cp6 := Cell.aft Cp6 hC rfl
    have tp19 := Cp19.lt
    replace Cp19 := Cell.aft Cp19 hC rfl
    replace S2 := hk 2 _ (by kernel_rfl) S2
    clear S3
    replace S7 := hk 7 _ (by kernel_rfl) S7
    replace S8 := hk 8 _ (by kernel_rfl) S8
    replace S11 := hk 11 _ (by kernel_rfl) S11
    clear S62
    obtain ⟨p22, S12, Cp22, lp22, gp22⟩ := gotB hz' 10 hC hh rfl rfl rfl rfl rfl rfl
    obtain ⟨p23, S13, Cp23, lp23, gp23⟩ := gotB hz' 11 hC hh rfl rfl rfl rfl rfl rfl
    have n_p22_p5 : p22 ≠ p5 := by omega
    have n_p22_p6 : p22 ≠ p6 := by omega
    have n_p22_p19 : p22 ≠ p19 := by omega
    have n_p22_p23 : p22 ≠ p23 := by intro e; rw [e, gp23] at gp22; omega
    have n_p23_p5 : p23 ≠ p5 := by omega
    have n_p23_p6 : p23 ≠ p6 := by omega
    have n_p23_p19 : p23 ≠ p19 := by omega
    have n_p23_p22 : p23 ≠ p22 := by intro e; rw [e, gp22] at gp23; omega
    have n_p5_p22 : p5 ≠ p22 := by have := ep5; omega
    have n_p6_p22 : p6 ≠ p22 := by have := ep6; omega
    have n_p19_p22 : p19 ≠ p22 := by have := ep19; omega
    have n_p5_p23 : p5 ≠ p23 := by have := ep5; omega
    have n_p6_p23 : p6 ≠ p23 := by have := ep6; omega
    have n_p19_p23 : p19 ≠ p23 := by have := ep19; omega
    have bp22 : w.heap.size ≤ p22 := Nat.le_trans HB.size lp22
    have bp23 : w.heap.size ≤ p23 := Nat.le_trans HB.size lp23
    clear lp22 gp22 lp23 gp23
    clear tp2 tp5 tp6 tp19
    clear ep2 ep5 ep6 ep19
    replace HB := aft_call HB (RelC.below_nil hC)
    clear hC hk hh; replace hz := hz'; replace hd := hd'; clear hz' hd'
    refine wp_seq ?_
    have hc24 : (((mkF l k).floor.toNat) * ((mkF l k).den)) ≤ ((mkF l k).num.toNat) := (fl_le (mkF_nonneg l k))
    refine region_drawn (M := []) (
        rT (tN B32 7680 ((mkF l k).floor.toNat)) ::
        rT (tN B32 7688 ((mkF l k).den)) ::
        rT (tN B32 15368 (((mkF l k).floor.toNat) * ((mkF l k).den))) ::
        rT (tN B32 7680 ((mkF l k).num.toNat)) ::
        rT (tV (.int .i64 (cmpI (((mkF l k).floor.toNat) * ((mkF l k).den)) ((mkF l k).num.toNat)))) ::
        rT (tV (.bool true)) ::
        rT (tV (.bool true)) ::
        rT (tN B32 7680 ((mkF l k).floor.toNat)) ::
        rT (tN B32 2 1) ::
        rT (tN B32 7681 (((mkF l k).floor.toNat) + 1)) ::
        rT (tN B32 7688 ((mkF l k).den)) ::
        rT (tN B32 15369 ((((mkF l k).floor.toNat) + 1) * ((mkF l k).den))) ::
        rT (tN B32 7680 ((mkF l k).num.toNat)) ::
        rT (tV (.int .i64 (cmpI ((((mkF l k).floor.toNat) + 1) * ((mkF l k).den)) ((mkF l k).num.toNat)))) ::
        rT (tV (.bool (decide (((mkF l k).num.toNat) < ((((mkF l k).floor.toNat) + 1) * ((mkF l k).den)))))) ::
        rT (tV (.bool (decide (((mkF l k).num.toNat) < ((((mkF l k).floor.toNat) + 1) * ((mkF l k).den)))))) ::
        rT (tV (.bool (decide (((mkF l k).num.toNat) < ((((mkF l k).floor.toNat) + 1) * ((mkF l k).den)))))) ::
        []) hz hd (by kernel_rfl) (by kernel_rfl) ?_ ?_
    · refine ⟨?_, ?_, ?_, ?_, ?_, ?_, ?_, ?_, ?_, ?_, ?_, ?_, ?_, ?_, ?_, ?_, ?_, trivial⟩
      · exact sLoad rfl rfl rfl hz rfl (Gd.none_ rfl) rfl (Src.out (t := 12) (by kernel_rfl) S12 rfl) Cp22 rfl ld_n32
      · exact sLoad rfl rfl rfl hz rfl (Gd.none_ rfl) rfl (Src.out (t := 8) (by kernel_rfl) S8 rfl) Cp6 rfl ld_n32
      · exact sCall rfl rfl rfl hz rfl (Gd.none_ rfl) rfl Try.func26 (by kernel_rfl) (by kernel_rfl) fun a γ w U => (by show Calls _ _ #[a.eval (.tmp 71), a.eval (.tmp 72)] _ _; exact d_mul (Src.at_ (Src.dep (j := 0) (t := 71) (by kernel_rfl) (by kernel_rfl) rfl) U) (Src.at_ (Src.dep (j := 1) (t := 72) (by kernel_rfl) (by kernel_rfl) rfl) U) (by decide) (by decide))
      · exact sLoad rfl rfl rfl hz rfl (Gd.none_ rfl) rfl (Src.out (t := 7) (by kernel_rfl) S7 rfl) Cp5 rfl ld_n32
      · exact sCall rfl rfl rfl hz rfl (Gd.none_ rfl) rfl Try.func24 (by kernel_rfl) (by kernel_rfl) fun a γ w U => (by show Calls _ _ #[a.eval (.tmp 73), a.eval (.tmp 74)] _ _; exact d_cmp (Src.at_ (Src.dep (j := 2) (t := 73) (by kernel_rfl) (by kernel_rfl) rfl) U) (Src.at_ (Src.dep (j := 3) (t := 74) (by kernel_rfl) (by kernel_rfl) rfl) U) (by decide) (by decide))
      · exact sBin rfl rfl rfl hz rfl (Gd.none_ rfl) rfl (Src.dep (j := 4) (t := 75) (by kernel_rfl) (by kernel_rfl) rfl) (Src.const (.int .i64 0)) (fun w => run_t (P := (((mkF l k).floor.toNat) * ((mkF l k).den)) ≤ ((mkF l k).num.toNat)) ((fun w => run_cI_leq (((mkF l k).floor.toNat) * ((mkF l k).den)) ((mkF l k).num.toNat) w) w) hc24)
      · exact sMv rfl rfl rfl hz rfl (Gd.none_ rfl) rfl (Src.dep (j := 5) (t := 76) (by kernel_rfl) (by kernel_rfl) rfl)
      · exact sLoad rfl rfl rfl hz rfl (Gd.yes rfl rfl (Src.dep (j := 6) (t := 77) (by kernel_rfl) (by kernel_rfl) rfl) rfl) rfl (Src.out (t := 12) (by kernel_rfl) S12 rfl) Cp22 rfl ld_n32
      · exact sLoad rfl rfl rfl hz rfl (Gd.yes rfl rfl (Src.dep (j := 6) (t := 77) (by kernel_rfl) (by kernel_rfl) rfl) rfl) rfl (Src.out (t := 11) (by kernel_rfl) S11 rfl) Cp19 rfl ld_n32
      · exact sCall rfl rfl rfl hz rfl (Gd.yes rfl rfl (Src.dep (j := 6) (t := 77) (by kernel_rfl) (by kernel_rfl) rfl) rfl) rfl Try.func29 (by kernel_rfl) (by kernel_rfl) fun a γ w U => (by show Calls _ _ #[a.eval (.tmp 78), a.eval (.tmp 79)] _ _; exact d_add (Src.at_ (Src.dep (j := 7) (t := 78) (by kernel_rfl) (by kernel_rfl) rfl) U) (Src.at_ (Src.dep (j := 8) (t := 79) (by kernel_rfl) (by kernel_rfl) rfl) U) (by decide) (by decide))
      · exact sLoad rfl rfl rfl hz rfl (Gd.yes rfl rfl (Src.dep (j := 6) (t := 77) (by kernel_rfl) (by kernel_rfl) rfl) rfl) rfl (Src.out (t := 8) (by kernel_rfl) S8 rfl) Cp6 rfl ld_n32
      · exact sCall rfl rfl rfl hz rfl (Gd.yes rfl rfl (Src.dep (j := 6) (t := 77) (by kernel_rfl) (by kernel_rfl) rfl) rfl) rfl Try.func26 (by kernel_rfl) (by kernel_rfl) fun a γ w U => (by show Calls _ _ #[a.eval (.tmp 80), a.eval (.tmp 81)] _ _; exact d_mul (Src.at_ (Src.dep (j := 9) (t := 80) (by kernel_rfl) (by kernel_rfl) rfl) U) (Src.at_ (Src.dep (j := 10) (t := 81) (by kernel_rfl) (by kernel_rfl) rfl) U) (by decide) (by decide))
      · exact sLoad rfl rfl rfl hz rfl (Gd.yes rfl rfl (Src.dep (j := 6) (t := 77) (by kernel_rfl) (by kernel_rfl) rfl) rfl) rfl (Src.out (t := 7) (by kernel_rfl) S7 rfl) Cp5 rfl ld_n32
      · exact sCall rfl rfl rfl hz rfl (Gd.yes rfl rfl (Src.dep (j := 6) (t := 77) (by kernel_rfl) (by kernel_rfl) rfl) rfl) rfl Try.func24 (by kernel_rfl) (by kernel_rfl) fun a γ w U => (by show Calls _ _ #[a.eval (.tmp 82), a.eval (.tmp 83)] _ _; exact d_cmp (Src.at_ (Src.dep (j := 11) (t := 82) (by kernel_rfl) (by kernel_rfl) rfl) U) (Src.at_ (Src.dep (j := 12) (t := 83) (by kernel_rfl) (by kernel_rfl) rfl) U) (by decide) (by decide))
      · exact sBin rfl rfl rfl hz rfl (Gd.yes rfl rfl (Src.dep (j := 6) (t := 77) (by kernel_rfl) (by kernel_rfl) rfl) rfl) rfl (Src.dep (j := 13) (t := 84) (by kernel_rfl) (by kernel_rfl) rfl) (Src.const (.int .i64 0)) (fun w => run_cI_gtr ((((mkF l k).floor.toNat) + 1) * ((mkF l k).den)) ((mkF l k).num.toNat) w)
      · exact sPickT rfl rfl rfl hz rfl (Gd.none_ rfl) rfl (Src.dep (j := 6) (t := 77) (by kernel_rfl) (by kernel_rfl) rfl) (Src.dep (j := 14) (t := 85) (by kernel_rfl) (by kernel_rfl) rfl)
      · exact sAs rfl rfl rfl hz rfl (Gd.none_ rfl) rfl (Src.dep (j := 15) (t := 86) (by kernel_rfl) (by kernel_rfl) rfl)
    intro a' γ' W' hz' hd' hC hk hh
    have tp5 := Cp5.lt
    clear Cp5
    have tp6 := Cp6.lt
    replace Cp6 := Cell.aft Cp6 hC rfl
    have tp19 := Cp19.lt
    replace Cp19 := Cell.aft Cp19 hC rfl
    have tp22 := Cp22.lt
    replace Cp22 := Cell.aft Cp22 hC rfl
    have tp23 := Cp23.lt
    replace Cp23 := Cell.aft Cp23 hC rfl
    replace S2 := hk 2 _ (by kernel_rfl) S2
    clear S7
    replace S8 := hk 8 _ (by kernel_rfl) S8
    replace S11 := hk 11 _ (by kernel_rfl) S11
    replace S12 := hk 12 _ (by kernel_rfl) S12
    replace S13 := hk 13 _ (by kernel_rfl) S13
    have S14 := gotV hz' 16 hh rfl rfl rfl rfl
    clear tp5 tp6 tp19 tp22 tp23
    replace HB := aft_call HB (RelC.below_nil hC)
    clear hC hk hh; replace hz := hz'; replace hd := hd'; clear hz' hd'
    refine wp_seq ?_
    refine wp_seq ?_
    refine region_text (M := []) (
        rT (tN B32 7688 ((mkF l k).den)) ::
        rT (tN B32 2 1) ::
        rT (tV (.int .i64 (cmpI ((mkF l k).den) 1))) ::
        rT (tV (.bool (decide (((mkF l k).den) ≠ 1)))) ::
        []) hz hd (by kernel_rfl) ?_ ?_
    · refine ⟨?_, ?_, ?_, ?_, trivial⟩
      · exact sLoad rfl rfl rfl hz rfl (Gd.none_ rfl) rfl (Src.out (t := 8) (by kernel_rfl) S8 rfl) Cp6 rfl ld_n32
      · exact sLoad rfl rfl rfl hz rfl (Gd.none_ rfl) rfl (Src.out (t := 11) (by kernel_rfl) S11 rfl) Cp19 rfl ld_n32
      · exact sCall rfl rfl rfl hz rfl (Gd.none_ rfl) rfl Try.func24 (by kernel_rfl) (by kernel_rfl) fun a γ w U => (by show Calls _ _ #[a.eval (.tmp 87), a.eval (.tmp 88)] _ _; exact d_cmp (Src.at_ (Src.dep (j := 0) (t := 87) (by kernel_rfl) (by kernel_rfl) rfl) U) (Src.at_ (Src.dep (j := 1) (t := 88) (by kernel_rfl) (by kernel_rfl) rfl) U) (by decide) (by decide))
      · exact sBin rfl rfl rfl hz rfl (Gd.none_ rfl) rfl (Src.dep (j := 2) (t := 89) (by kernel_rfl) (by kernel_rfl) rfl) (Src.const (.int .i64 0)) (fun w => run_cI_neq ((mkF l k).den) 1 w)
    intro a' γ' W' hz' hd' hC hk hh
    have tp6 := Cp6.lt
    clear Cp6
    have tp19 := Cp19.lt
    replace Cp19 := Cell.aft Cp19 hC rfl
    have tp22 := Cp22.lt
    replace Cp22 := Cell.aft Cp22 hC rfl
    have tp23 := Cp23.lt
    replace Cp23 := Cell.aft Cp23 hC rfl
    replace S2 := hk 2 _ (by kernel_rfl) S2
    clear S8
    replace S11 := hk 11 _ (by kernel_rfl) S11
    replace S12 := hk 12 _ (by kernel_rfl) S12
    replace S13 := hk 13 _ (by kernel_rfl) S13
    replace S14 := hk 14 _ (by kernel_rfl) S14
    have S90 := gotV hz' 3 hh rfl rfl rfl rfl
    clear tp6 tp19 tp22 tp23
    replace HB := aft_call HB (RelC.below_nil hC)
    clear hC hk hh; replace hz := hz'; replace hd := hd'; clear hz' hd'
    by_cases hc25 : ((mkF l k).den) ≠ 1
    · rw [decide_eq_true hc25] at S90
      refine wp_cond_true S90.ev ?_
      refine region_text (M := [p22]) (
          rT (tN B32 7680 ((mkF l k).floor.toNat)) ::
          rT (tN B32 2 1) ::
          rT (tN B32 7681 (((mkF l k).floor.toNat) + 1)) ::
          rE 0 31 (tN B32 7681 (((mkF l k).floor.toNat) + 1)) p22 ::
          []) hz hd (by kernel_rfl) ?_ ?_
      · refine ⟨?_, ?_, ?_, ?_, trivial⟩
        · exact sLoadM rfl rfl rfl hz rfl (Gd.none_ rfl) rfl (Src.out (t := 12) (by kernel_rfl) S12 rfl) Cp22 (k := 0) (by simp [tagOf]) (by kernel_rfl) ld_n32
        · exact sLoad rfl rfl rfl hz rfl (Gd.none_ rfl) rfl (Src.out (t := 11) (by kernel_rfl) S11 rfl) Cp19 (by simp [tagOf, n_p19_p22]) ld_n32
        · exact sCall rfl rfl rfl hz rfl (Gd.none_ rfl) rfl Try.func29 (by kernel_rfl) (by kernel_rfl) fun a γ w U => (by show Calls _ _ #[a.eval (.tmp 91), a.eval (.tmp 92)] _ _; exact d_add (Src.at_ (Src.dep (j := 0) (t := 91) (by kernel_rfl) (by kernel_rfl) rfl) U) (Src.at_ (Src.dep (j := 1) (t := 92) (by kernel_rfl) (by kernel_rfl) rfl) U) (by decide) (by decide))
        · exact sStoreE rfl rfl rfl rfl rfl (Src.out (t := 12) (by kernel_rfl) S12 rfl) (by simp [tagOf]) (Cp22.var tN_nd) (Src.dep (j := 2) (t := 93) (by kernel_rfl) (by kernel_rfl) rfl) st_n32
      intro a' γ' W' hz' hd' hC hk hh
      have tp19 := Cp19.lt
      clear Cp19
      replace Cp22 := gotE (T := tN B32 7681 (((mkF l k).floor.toNat) + 1)) (id := 31) (p := p22) 3 hh rfl rfl
      have tp23 := Cp23.lt
      replace Cp23 := Cell.aft Cp23 hC (by simp [tagOf, n_p23_p22])
      replace S2 := hk 2 _ (by kernel_rfl) S2
      clear S11
      replace S12 := hk 12 _ (by kernel_rfl) S12
      replace S13 := hk 13 _ (by kernel_rfl) S13
      replace S14 := hk 14 _ (by kernel_rfl) S14
      clear S90
      clear tp19 tp23
      replace HB := RelC.aftM HB hC (by intro m hm; simp at hm; rcases hm with rfl <;> assumption)
      clear hC hk hh; replace hz := hz'; replace hd := hd'; clear hz' hd'
      refine wp_seq ?_
      have hc26 : ((mkF l k).num.toNat) < ((((mkF l k).floor.toNat) + 1) * ((mkF l k).den)) := (fl_gt (mkF_nonneg l k))
      rw [decide_eq_true hc26] at S14
      refine region_text (M := []) (
          rT (tV (.bool true)) ::
          rT (tV (.bool true)) ::
          rT (tN B32 7681 (((mkF l k).floor.toNat) + 1)) ::
          rT (tN B32 7688 ((mkF l k).ceil.toNat)) ::
          rT (tV (.int .i64 (cmpI (((mkF l k).floor.toNat) + 1) ((mkF l k).ceil.toNat)))) ::
          rT (tV (.bool (decide ((((mkF l k).floor.toNat) + 1) = ((mkF l k).ceil.toNat))))) ::
          rT (tV (.bool (decide ((((mkF l k).floor.toNat) + 1) = ((mkF l k).ceil.toNat))))) ::
          rT (tV (.bool (decide ((((mkF l k).floor.toNat) + 1) = ((mkF l k).ceil.toNat))))) ::
          []) hz hd (by kernel_rfl) ?_ ?_
      · refine ⟨?_, ?_, ?_, ?_, ?_, ?_, ?_, ?_, trivial⟩
        · exact sMv rfl rfl rfl hz rfl (Gd.none_ rfl) rfl (Src.out (t := 14) (by kernel_rfl) S14 rfl)
        · exact sMv rfl rfl rfl hz rfl (Gd.none_ rfl) rfl (Src.dep (j := 0) (t := 94) (by kernel_rfl) (by kernel_rfl) rfl)
        · exact sLoad rfl rfl rfl hz rfl (Gd.yes rfl rfl (Src.dep (j := 1) (t := 95) (by kernel_rfl) (by kernel_rfl) rfl) rfl) rfl (Src.out (t := 12) (by kernel_rfl) S12 rfl) Cp22 rfl ld_n32
        · exact sLoad rfl rfl rfl hz rfl (Gd.yes rfl rfl (Src.dep (j := 1) (t := 95) (by kernel_rfl) (by kernel_rfl) rfl) rfl) rfl (Src.out (t := 13) (by kernel_rfl) S13 rfl) Cp23 rfl ld_n32
        · exact sCall rfl rfl rfl hz rfl (Gd.yes rfl rfl (Src.dep (j := 1) (t := 95) (by kernel_rfl) (by kernel_rfl) rfl) rfl) rfl Try.func24 (by kernel_rfl) (by kernel_rfl) fun a γ w U => (by show Calls _ _ #[a.eval (.tmp 96), a.eval (.tmp 97)] _ _; exact d_cmp (Src.at_ (Src.dep (j := 2) (t := 96) (by kernel_rfl) (by kernel_rfl) rfl) U) (Src.at_ (Src.dep (j := 3) (t := 97) (by kernel_rfl) (by kernel_rfl) rfl) U) (by decide) (by decide))
        · exact sBin rfl rfl rfl hz rfl (Gd.yes rfl rfl (Src.dep (j := 1) (t := 95) (by kernel_rfl) (by kernel_rfl) rfl) rfl) rfl (Src.dep (j := 4) (t := 98) (by kernel_rfl) (by kernel_rfl) rfl) (Src.const (.int .i64 0)) (fun w => run_cI_eql (((mkF l k).floor.toNat) + 1) ((mkF l k).ceil.toNat) w)
        · exact sPickT rfl rfl rfl hz rfl (Gd.none_ rfl) rfl (Src.dep (j := 1) (t := 95) (by kernel_rfl) (by kernel_rfl) rfl) (Src.dep (j := 5) (t := 99) (by kernel_rfl) (by kernel_rfl) rfl)
        · exact sAs rfl rfl rfl hz rfl (Gd.none_ rfl) rfl (Src.dep (j := 6) (t := 100) (by kernel_rfl) (by kernel_rfl) rfl)
      intro a' γ' W' hz' hd' hC hk hh
      have tp22 := Cp22.lt
      clear Cp22
      have tp23 := Cp23.lt
      clear Cp23
      clear S2
      clear S12
      clear S13
      clear S14
      have S2 := gotV hz' 7 hh rfl rfl rfl rfl
      clear tp22 tp23
      replace HB := aft_call HB (RelC.below_nil hC)
      clear hC hk hh; replace hz := hz'; replace hd := hd'; clear hz' hd'
      refine wp_ret ?_
      refine ret_to (T := tV (.bool (decide ((((mkF l k).floor.toNat) + 1) = ((mkF l k).ceil.toNat))))) (ret1 (by kernel_rfl) S2 hd ⟨_, rfl, rfl, HB⟩) ?_
      exact tV_to (by rw [decide_eq_true (ce_2 (mkF_nonneg l k) hc25)])
    · rw [decide_eq_false hc25] at S90
      refine wp_cond_false S90.ev ?_
      refine wp_skip ?_
      refine wp_seq ?_
      have hc27 : ((mkF l k).num.toNat) < ((((mkF l k).floor.toNat) + 1) * ((mkF l k).den)) := (fl_gt (mkF_nonneg l k))
      rw [decide_eq_true hc27] at S14
      refine region_text (M := []) (
          rT (tV (.bool true)) ::
          rT (tV (.bool true)) ::
          rT (tN B32 7680 ((mkF l k).floor.toNat)) ::
          rT (tN B32 7688 ((mkF l k).ceil.toNat)) ::
          rT (tV (.int .i64 (cmpI ((mkF l k).floor.toNat) ((mkF l k).ceil.toNat)))) ::
          rT (tV (.bool (decide (((mkF l k).floor.toNat) = ((mkF l k).ceil.toNat))))) ::
          rT (tV (.bool (decide (((mkF l k).floor.toNat) = ((mkF l k).ceil.toNat))))) ::
          rT (tV (.bool (decide (((mkF l k).floor.toNat) = ((mkF l k).ceil.toNat))))) ::
          []) hz hd (by kernel_rfl) ?_ ?_
      · refine ⟨?_, ?_, ?_, ?_, ?_, ?_, ?_, ?_, trivial⟩
        · exact sMv rfl rfl rfl hz rfl (Gd.none_ rfl) rfl (Src.out (t := 14) (by kernel_rfl) S14 rfl)
        · exact sMv rfl rfl rfl hz rfl (Gd.none_ rfl) rfl (Src.dep (j := 0) (t := 94) (by kernel_rfl) (by kernel_rfl) rfl)
        · exact sLoad rfl rfl rfl hz rfl (Gd.yes rfl rfl (Src.dep (j := 1) (t := 95) (by kernel_rfl) (by kernel_rfl) rfl) rfl) rfl (Src.out (t := 12) (by kernel_rfl) S12 rfl) Cp22 rfl ld_n32
        · exact sLoad rfl rfl rfl hz rfl (Gd.yes rfl rfl (Src.dep (j := 1) (t := 95) (by kernel_rfl) (by kernel_rfl) rfl) rfl) rfl (Src.out (t := 13) (by kernel_rfl) S13 rfl) Cp23 rfl ld_n32
        · exact sCall rfl rfl rfl hz rfl (Gd.yes rfl rfl (Src.dep (j := 1) (t := 95) (by kernel_rfl) (by kernel_rfl) rfl) rfl) rfl Try.func24 (by kernel_rfl) (by kernel_rfl) fun a γ w U => (by show Calls _ _ #[a.eval (.tmp 96), a.eval (.tmp 97)] _ _; exact d_cmp (Src.at_ (Src.dep (j := 2) (t := 96) (by kernel_rfl) (by kernel_rfl) rfl) U) (Src.at_ (Src.dep (j := 3) (t := 97) (by kernel_rfl) (by kernel_rfl) rfl) U) (by decide) (by decide))
        · exact sBin rfl rfl rfl hz rfl (Gd.yes rfl rfl (Src.dep (j := 1) (t := 95) (by kernel_rfl) (by kernel_rfl) rfl) rfl) rfl (Src.dep (j := 4) (t := 98) (by kernel_rfl) (by kernel_rfl) rfl) (Src.const (.int .i64 0)) (fun w => run_cI_eql ((mkF l k).floor.toNat) ((mkF l k).ceil.toNat) w)
        · exact sPickT rfl rfl rfl hz rfl (Gd.none_ rfl) rfl (Src.dep (j := 1) (t := 95) (by kernel_rfl) (by kernel_rfl) rfl) (Src.dep (j := 5) (t := 99) (by kernel_rfl) (by kernel_rfl) rfl)
        · exact sAs rfl rfl rfl hz rfl (Gd.none_ rfl) rfl (Src.dep (j := 6) (t := 100) (by kernel_rfl) (by kernel_rfl) rfl)
      intro a' γ' W' hz' hd' hC hk hh
      have tp19 := Cp19.lt
      clear Cp19
      have tp22 := Cp22.lt
      clear Cp22
      have tp23 := Cp23.lt
      clear Cp23
      clear S2
      clear S11
      clear S12
      clear S13
      clear S14
      clear S90
      have S2 := gotV hz' 7 hh rfl rfl rfl rfl
      clear tp19 tp22 tp23
      replace HB := aft_call HB (RelC.below_nil hC)
      clear hC hk hh; replace hz := hz'; replace hd := hd'; clear hz' hd'
      refine wp_ret ?_
      refine ret_to (T := tV (.bool (decide (((mkF l k).floor.toNat) = ((mkF l k).ceil.toNat))))) (ret1 (by kernel_rfl) S2 hd ⟨_, rfl, rfl, HB⟩) ?_
      exact tV_to (by rw [decide_eq_true (ce_1 (mkF_nonneg l k) (Classical.byContradiction hc25))])

set_option maxRecDepth 10000 in
set_option maxHeartbeats 2000000 in
theorem ratMakes_ret {a1 a2 : Int} {l k : List Nat} {v2 : Value} {w : World} (h2 : (tF l k).p v2 w) (ha : a1 < 9223372036854775808) (hb : a2 < 9223372036854775808) :
    Calls Try.prog 5 #[.int .i64 a1, .int .i64 a2, v2] w (Ret (tV (.bool true)) w) := by
  refine enter Try.func5 rfl Try.ntmps5 (by simp) ?_
  intro a hz hd ha
  have S0 := ha 0 _ rfl
  have S1 := ha 1 _ rfl
  have S2 := ha 2 _ rfl
  have H2 := h2
  clear ha
  have HB : Below w.heap.size w w := Below.refl _ _
  have hP := Lib.hid (tF_bits (m := 960) (Nat.le_refl _) h2)
  refine wp_seq ?_
  refine region_text (M := []) (
      rB 0 24 (tF l k) none 0 ::
      rT (tV (.bool false)) ::
      []) hz hd (by kernel_rfl) ?_ ?_
  · refine ⟨?_, ?_, trivial⟩
    · exact sBox rfl rfl rfl hz rfl rfl rfl (Src.out (t := 2) (by kernel_rfl) S2 H2) box_f
    · exact sAs rfl rfl rfl hz rfl (Gd.none_ rfl) rfl (Src.const (.bool false))
  intro a' γ' W' hz' hd' hC hk hh
  replace S0 := hk 0 _ (by kernel_rfl) S0
  replace S1 := hk 1 _ (by kernel_rfl) S1
  clear S2 H2
  obtain ⟨p1, S5, Cp1, lp1, gp1⟩ := gotB hz' 0 hC hh rfl rfl rfl rfl rfl rfl
  have S6 := gotV hz' 1 hh rfl rfl rfl rfl
  clear lp1 gp1
  replace HB := aft_call HB (RelC.below_nil hC)
  clear hC hk hh; replace hz := hz'; replace hd := hd'; clear hz' hd'
  refine wp_seq ?_
  refine region_text (M := []) (
      rT (tV (.int .i64 a1)) ::
      rT (tV (.int .i64 a2)) ::
      rT (tT [tQ B64 63 (ofQ a1 a2), tV (.bool (decide (OfOk a1 a2)))]) ::
      rT (tT [tQ B64 63 (ofQ a1 a2), tV (.bool (decide (OfOk a1 a2)))]) ::
      rT (tQ B64 63 (ofQ a1 a2)) ::
      rT (tV (.bool (decide (OfOk a1 a2)))) ::
      rVar 6 29 2 ::
      rB 6 29 (tQ B64 63 (ofQ a1 a2)) (some 6) 7 ::
      rT (tV (.bool (decide (OfOk a1 a2)))) ::
      []) hz hd (by kernel_rfl) ?_ ?_
  · refine ⟨?_, ?_, ?_, ?_, ?_, ?_, ?_, ?_, ?_, trivial⟩
    · exact sMv rfl rfl rfl hz rfl (Gd.none_ rfl) rfl (Src.out (t := 0) (by kernel_rfl) S0 rfl)
    · exact sMv rfl rfl rfl hz rfl (Gd.none_ rfl) rfl (Src.out (t := 1) (by kernel_rfl) S1 rfl)
    · exact sCall rfl rfl rfl hz rfl (Gd.none_ rfl) rfl Try.func30 (by kernel_rfl) (by kernel_rfl) fun a γ w U => (by show Calls _ _ #[a.eval (.tmp 22), a.eval (.tmp 23)] _ _; rw [show a.eval (.tmp 22) = .int .i64 a1 from Src.at_ (Src.dep (j := 0) (t := 22) (by kernel_rfl) (by kernel_rfl) rfl) U, show a.eval (.tmp 23) = .int .i64 a2 from Src.at_ (Src.dep (j := 1) (t := 23) (by kernel_rfl) (by kernel_rfl) rfl) U]; exact cq_of (a := a1) (b := a2) ha hb)
    · exact sMv rfl rfl rfl hz rfl (Gd.none_ rfl) rfl (Src.dep (j := 2) (t := 24) (by kernel_rfl) (by kernel_rfl) rfl)
    · exact sExt rfl rfl rfl hz rfl (Gd.none_ rfl) rfl (Src.dep (j := 3) (t := 21) (by kernel_rfl) (by kernel_rfl) rfl) rfl
    · exact sExt rfl rfl rfl hz rfl (Gd.none_ rfl) rfl (Src.dep (j := 3) (t := 21) (by kernel_rfl) (by kernel_rfl) rfl) rfl
    · exact sAlloc rfl rfl rfl hz rfl rfl rfl rfl nd_rat al_r64
    · exact sStore rfl rfl rfl rfl rfl (by kernel_rfl) (by kernel_rfl) rfl (Src.dep (j := 4) (t := 25) (by kernel_rfl) (by kernel_rfl) rfl) st_q64
    · exact sAs rfl rfl rfl hz rfl (Gd.none_ rfl) rfl (Src.dep (j := 5) (t := 26) (by kernel_rfl) (by kernel_rfl) rfl)
  intro a' γ' W' hz' hd' hC hk hh
  have ep1 := Cp1.lt
  replace Cp1 := Cell.aft Cp1 hC rfl
  replace S0 := hk 0 _ (by kernel_rfl) S0
  replace S1 := hk 1 _ (by kernel_rfl) S1
  replace S5 := hk 5 _ (by kernel_rfl) S5
  replace S6 := hk 6 _ (by kernel_rfl) S6
  obtain ⟨p2, S7, Cp2, lp2, gp2⟩ := gotB hz' 7 hC hh rfl rfl rfl rfl rfl rfl
  have S8 := gotV hz' 8 hh rfl rfl rfl rfl
  have n_p1_p2 : p1 ≠ p2 := by have := ep1; omega
  have bp2 : w.heap.size ≤ p2 := Nat.le_trans HB.size lp2
  clear lp2 gp2
  clear ep1
  replace HB := aft_call HB (RelC.below_nil hC)
  clear hC hk hh; replace hz := hz'; replace hd := hd'; clear hz' hd'
  refine wp_seq ?_
  refine region_text (M := []) (
      rT (tV (.int .i64 a1)) ::
      rT (tV (.int .i64 a2)) ::
      rT (tT [tQ B32 63 (ofQ a1 a2), tV (.bool (decide (OfOk a1 a2)))]) ::
      rT (tT [tQ B32 63 (ofQ a1 a2), tV (.bool (decide (OfOk a1 a2)))]) ::
      rT (tQ B32 63 (ofQ a1 a2)) ::
      rT (tV (.bool (decide (OfOk a1 a2)))) ::
      rVar 6 33 2 ::
      rB 6 33 (tQ B32 63 (ofQ a1 a2)) (some 6) 7 ::
      rT (tV (.bool (decide (OfOk a1 a2)))) ::
      []) hz hd (by kernel_rfl) ?_ ?_
  · refine ⟨?_, ?_, ?_, ?_, ?_, ?_, ?_, ?_, ?_, trivial⟩
    · exact sMv rfl rfl rfl hz rfl (Gd.none_ rfl) rfl (Src.out (t := 0) (by kernel_rfl) S0 rfl)
    · exact sMv rfl rfl rfl hz rfl (Gd.none_ rfl) rfl (Src.out (t := 1) (by kernel_rfl) S1 rfl)
    · exact sCall rfl rfl rfl hz rfl (Gd.none_ rfl) rfl Try.func31 (by kernel_rfl) (by kernel_rfl) fun a γ w U => (by show Calls _ _ #[a.eval (.tmp 28), a.eval (.tmp 29)] _ _; rw [show a.eval (.tmp 28) = .int .i64 a1 from Src.at_ (Src.dep (j := 0) (t := 28) (by kernel_rfl) (by kernel_rfl) rfl) U, show a.eval (.tmp 29) = .int .i64 a2 from Src.at_ (Src.dep (j := 1) (t := 29) (by kernel_rfl) (by kernel_rfl) rfl) U]; exact dq_of (a1 := a1) (a2 := a2) ha hb)
    · exact sMv rfl rfl rfl hz rfl (Gd.none_ rfl) rfl (Src.dep (j := 2) (t := 30) (by kernel_rfl) (by kernel_rfl) rfl)
    · exact sExt rfl rfl rfl hz rfl (Gd.none_ rfl) rfl (Src.dep (j := 3) (t := 27) (by kernel_rfl) (by kernel_rfl) rfl) rfl
    · exact sExt rfl rfl rfl hz rfl (Gd.none_ rfl) rfl (Src.dep (j := 3) (t := 27) (by kernel_rfl) (by kernel_rfl) rfl) rfl
    · exact sAlloc rfl rfl rfl hz rfl rfl rfl rfl nd_rat al_r32
    · exact sStore rfl rfl rfl rfl rfl (by kernel_rfl) (by kernel_rfl) rfl (Src.dep (j := 4) (t := 31) (by kernel_rfl) (by kernel_rfl) rfl) st_q32
    · exact sAs rfl rfl rfl hz rfl (Gd.none_ rfl) rfl (Src.dep (j := 5) (t := 32) (by kernel_rfl) (by kernel_rfl) rfl)
  intro a' γ' W' hz' hd' hC hk hh
  have ep1 := Cp1.lt
  have ep2 := Cp2.lt
  replace Cp1 := Cell.aft Cp1 hC rfl
  have tp2 := Cp2.lt
  replace Cp2 := Cell.aft Cp2 hC rfl
  clear S0
  clear S1
  replace S5 := hk 5 _ (by kernel_rfl) S5
  replace S6 := hk 6 _ (by kernel_rfl) S6
  replace S7 := hk 7 _ (by kernel_rfl) S7
  replace S8 := hk 8 _ (by kernel_rfl) S8
  obtain ⟨p3, S9, Cp3, lp3, gp3⟩ := gotB hz' 7 hC hh rfl rfl rfl rfl rfl rfl
  have S10 := gotV hz' 8 hh rfl rfl rfl rfl
  have n_p3_p2 : p3 ≠ p2 := by omega
  have n_p1_p3 : p1 ≠ p3 := by have := ep1; omega
  have n_p2_p3 : p2 ≠ p3 := by have := ep2; omega
  have bp3 : w.heap.size ≤ p3 := Nat.le_trans HB.size lp3
  clear lp3 gp3
  clear tp2
  clear ep1 ep2
  replace HB := aft_call HB (RelC.below_nil hC)
  clear hC hk hh; replace hz := hz'; replace hd := hd'; clear hz' hd'
  refine wp_seq ?_
  refine wp_seq ?_
  have hc4 : ofQ a1 a2 = ofQ a1 a2 := rfl
  refine region_text (M := []) (
      rT (tV (.bool true)) ::
      rT (tV (.bool false)) ::
      rT (tV (.bool false)) ::
      rT (tV (.bool (decide (OfOk a1 a2)))) ::
      rT (tV (.bool (decide (OfOk a1 a2)))) ::
      rT (tV (.bool false)) ::
      rT (tV (.bool false)) ::
      rT (tV (.bool false)) ::
      rT (tQ B64 63 (ofQ a1 a2)) ::
      rT (tQ B32 63 (ofQ a1 a2)) ::
      rT (tV (.bool true)) ::
      rT (tV (.bool false)) ::
      rT (tV (.bool false)) ::
      []) hz hd (by kernel_rfl) ?_ ?_
  · refine ⟨?_, ?_, ?_, ?_, ?_, ?_, ?_, ?_, ?_, ?_, ?_, ?_, ?_, trivial⟩
    · exact sCall rfl rfl rfl hz rfl (Gd.none_ rfl) rfl Try.func20 (by kernel_rfl) (by kernel_rfl) fun a γ w U => (by show Calls _ _ #[] _ _; exact l_told)
    · exact sNot (b := true) rfl rfl rfl hz rfl (Gd.none_ rfl) rfl (Src.dep (j := 0) (t := 33) (by kernel_rfl) (by kernel_rfl) rfl)
    · exact sMv rfl rfl rfl hz rfl (Gd.none_ rfl) rfl (Src.dep (j := 1) (t := 34) (by kernel_rfl) (by kernel_rfl) rfl)
    · exact sMv rfl rfl rfl hz rfl (Gd.yes rfl rfl (Src.dep (j := 2) (t := 35) (by kernel_rfl) (by kernel_rfl) rfl) rfl) rfl (Src.out (t := 8) (by kernel_rfl) S8 rfl)
    · exact sMv rfl rfl rfl hz rfl (Gd.yes rfl rfl (Src.dep (j := 2) (t := 35) (by kernel_rfl) (by kernel_rfl) rfl) rfl) rfl (Src.out (t := 10) (by kernel_rfl) S10 rfl)
    · exact sBin rfl rfl rfl hz rfl (Gd.yes rfl rfl (Src.dep (j := 2) (t := 35) (by kernel_rfl) (by kernel_rfl) rfl) rfl) rfl (Src.dep (j := 3) (t := 36) (by kernel_rfl) (by kernel_rfl) rfl) (Src.dep (j := 4) (t := 37) (by kernel_rfl) (by kernel_rfl) rfl) (fun w => by simp [go_sem])
    · exact sPickF rfl rfl rfl hz rfl (Gd.none_ rfl) rfl (Src.dep (j := 2) (t := 35) (by kernel_rfl) (by kernel_rfl) rfl) (Src.dep (j := 5) (t := 38) (by kernel_rfl) (by kernel_rfl) rfl)
    · exact sMv rfl rfl rfl hz rfl (Gd.none_ rfl) rfl (Src.dep (j := 6) (t := 39) (by kernel_rfl) (by kernel_rfl) rfl)
    · exact sLoad rfl rfl rfl hz rfl (Gd.yes rfl rfl (Src.dep (j := 7) (t := 40) (by kernel_rfl) (by kernel_rfl) rfl) rfl) rfl (Src.out (t := 7) (by kernel_rfl) S7 rfl) Cp2 rfl ld_q64
    · exact sLoad rfl rfl rfl hz rfl (Gd.yes rfl rfl (Src.dep (j := 7) (t := 40) (by kernel_rfl) (by kernel_rfl) rfl) rfl) rfl (Src.out (t := 9) (by kernel_rfl) S9 rfl) Cp3 rfl ld_q32
    · exact sCall rfl rfl rfl hz rfl (Gd.yes rfl rfl (Src.dep (j := 7) (t := 40) (by kernel_rfl) (by kernel_rfl) rfl) rfl) rfl Try.func21 (by kernel_rfl) (by kernel_rfl) fun a γ w U => (by show Calls _ _ #[a.eval (.tmp 41), a.eval (.tmp 42)] _ _; have hq : Calls _ _ #[a.eval (.tmp 41), a.eval (.tmp 42)] w (Ret _ w) := l_same (Src.at_ (Src.dep (j := 8) (t := 41) (by kernel_rfl) (by kernel_rfl) rfl) U) (Src.at_ (Src.dep (j := 9) (t := 42) (by kernel_rfl) (by kernel_rfl) rfl) U) (by decide) (by decide); simp only [decide_eq_true hc4] at hq; exact hq)
    · exact sNot (b := true) rfl rfl rfl hz rfl (Gd.yes rfl rfl (Src.dep (j := 7) (t := 40) (by kernel_rfl) (by kernel_rfl) rfl) rfl) rfl (Src.dep (j := 10) (t := 43) (by kernel_rfl) (by kernel_rfl) rfl)
    · exact sPickF rfl rfl rfl hz rfl (Gd.none_ rfl) rfl (Src.dep (j := 7) (t := 40) (by kernel_rfl) (by kernel_rfl) rfl) (Src.dep (j := 11) (t := 44) (by kernel_rfl) (by kernel_rfl) rfl)
  intro a' γ' W' hz' hd' hC hk hh
  replace Cp1 := Cell.aft Cp1 hC rfl
  have tp2 := Cp2.lt
  replace Cp2 := Cell.aft Cp2 hC rfl
  have tp3 := Cp3.lt
  replace Cp3 := Cell.aft Cp3 hC rfl
  replace S5 := hk 5 _ (by kernel_rfl) S5
  replace S6 := hk 6 _ (by kernel_rfl) S6
  replace S7 := hk 7 _ (by kernel_rfl) S7
  clear S8
  replace S9 := hk 9 _ (by kernel_rfl) S9
  clear S10
  have S45 := gotV hz' 12 hh rfl rfl rfl rfl
  clear tp2 tp3
  replace HB := aft_call HB (RelC.below_nil hC)
  clear hC hk hh; replace hz := hz'; replace hd := hd'; clear hz' hd'
  refine wp_cond_false S45.ev ?_
  refine wp_skip ?_
  refine wp_seq ?_
  refine region_text (M := []) (
      rT (tF l k) ::
      rT (tT [tQ B64 960 (mkF l k), tQ B32 960 (mkF l k)]) ::
      rT (tT [tQ B64 960 (mkF l k), tQ B32 960 (mkF l k)]) ::
      rT (tQ B64 960 (mkF l k)) ::
      rT (tQ B32 960 (mkF l k)) ::
      rVar 5 29 2 ::
      rVar 6 33 2 ::
      rB 5 29 (tQ B64 960 (mkF l k)) (some 5) 6 ::
      rB 6 33 (tQ B32 960 (mkF l k)) (some 6) 7 ::
      []) hz hd (by kernel_rfl) ?_ ?_
  · refine ⟨?_, ?_, ?_, ?_, ?_, ?_, ?_, ?_, ?_, trivial⟩
    · exact sLoad rfl rfl rfl hz rfl (Gd.none_ rfl) rfl (Src.out (t := 5) (by kernel_rfl) S5 rfl) Cp1 rfl ld_f
    · exact sCall rfl rfl rfl hz rfl (Gd.none_ rfl) rfl Try.func9 (by kernel_rfl) (by kernel_rfl) fun a γ w U => (by show Calls _ _ #[a.eval (.tmp 47)] _ _; exact l_made (Src.at_ (Src.dep (j := 0) (t := 47) (by kernel_rfl) (by kernel_rfl) rfl) U))
    · exact sMv rfl rfl rfl hz rfl (Gd.none_ rfl) rfl (Src.dep (j := 1) (t := 48) (by kernel_rfl) (by kernel_rfl) rfl)
    · exact sExt rfl rfl rfl hz rfl (Gd.none_ rfl) rfl (Src.dep (j := 2) (t := 46) (by kernel_rfl) (by kernel_rfl) rfl) rfl
    · exact sExt rfl rfl rfl hz rfl (Gd.none_ rfl) rfl (Src.dep (j := 2) (t := 46) (by kernel_rfl) (by kernel_rfl) rfl) rfl
    · exact sAlloc rfl rfl rfl hz rfl rfl rfl rfl nd_rat al_r64
    · exact sAlloc rfl rfl rfl hz rfl rfl rfl rfl nd_rat al_r32
    · exact sStore rfl rfl rfl rfl rfl (by kernel_rfl) (by kernel_rfl) rfl (Src.dep (j := 3) (t := 49) (by kernel_rfl) (by kernel_rfl) rfl) st_q64
    · exact sStore rfl rfl rfl rfl rfl (by kernel_rfl) (by kernel_rfl) rfl (Src.dep (j := 4) (t := 50) (by kernel_rfl) (by kernel_rfl) rfl) st_q32
  intro a' γ' W' hz' hd' hC hk hh
  have ep1 := Cp1.lt
  have ep2 := Cp2.lt
  have ep3 := Cp3.lt
  replace Cp1 := Cell.aft Cp1 hC rfl
  have tp2 := Cp2.lt
  replace Cp2 := Cell.aft Cp2 hC rfl
  have tp3 := Cp3.lt
  replace Cp3 := Cell.aft Cp3 hC rfl
  replace S5 := hk 5 _ (by kernel_rfl) S5
  replace S6 := hk 6 _ (by kernel_rfl) S6
  replace S7 := hk 7 _ (by kernel_rfl) S7
  replace S9 := hk 9 _ (by kernel_rfl) S9
  clear S45
  obtain ⟨p5, S11, Cp5, lp5, gp5⟩ := gotB hz' 7 hC hh rfl rfl rfl rfl rfl rfl
  obtain ⟨p6, S12, Cp6, lp6, gp6⟩ := gotB hz' 8 hC hh rfl rfl rfl rfl rfl rfl
  have n_p5_p2 : p5 ≠ p2 := by omega
  have n_p5_p3 : p5 ≠ p3 := by omega
  have n_p5_p6 : p5 ≠ p6 := by intro e; rw [e, gp6] at gp5; omega
  have n_p6_p2 : p6 ≠ p2 := by omega
  have n_p6_p3 : p6 ≠ p3 := by omega
  have n_p6_p5 : p6 ≠ p5 := by intro e; rw [e, gp5] at gp6; omega
  have n_p1_p5 : p1 ≠ p5 := by have := ep1; omega
  have n_p2_p5 : p2 ≠ p5 := by have := ep2; omega
  have n_p3_p5 : p3 ≠ p5 := by have := ep3; omega
  have n_p1_p6 : p1 ≠ p6 := by have := ep1; omega
  have n_p2_p6 : p2 ≠ p6 := by have := ep2; omega
  have n_p3_p6 : p3 ≠ p6 := by have := ep3; omega
  have bp5 : w.heap.size ≤ p5 := Nat.le_trans HB.size lp5
  have bp6 : w.heap.size ≤ p6 := Nat.le_trans HB.size lp6
  clear lp5 gp5 lp6 gp6
  clear tp2 tp3
  clear ep1 ep2 ep3
  replace HB := aft_call HB (RelC.below_nil hC)
  clear hC hk hh; replace hz := hz'; replace hd := hd'; clear hz' hd'
  refine wp_seq ?_
  refine region_drawn (M := []) (
      rT (tV (.pointer (some ⟨p1, 0, none⟩))) ::
      rT (tBy 9223372036854775807 l) ::
      rT (tBy 120 (l.take 120)) ::
      rT (tN B64 120 (bev (l.take 120))) ::
      rT (tV (.pointer (some ⟨p1, 1, none⟩))) ::
      rT (tBy 9223372036854775807 k) ::
      rT (tBy 120 (k.take 120)) ::
      rT (tN B64 120 (bev (k.take 120))) ::
      rT (tT [tQ B64 960 (mkRat (bev (l.take 120)) (bev (k.take 120))), tV (.bool (decide (bev (k.take 120) ≠ 0)))]) ::
      rT (tT [tQ B64 960 (mkRat (bev (l.take 120)) (bev (k.take 120))), tV (.bool (decide (bev (k.take 120) ≠ 0)))]) ::
      rT (tQ B64 960 (mkRat (bev (l.take 120)) (bev (k.take 120)))) ::
      rT (tV (.bool (decide (bev (k.take 120) ≠ 0)))) ::
      rVar 12 29 2 ::
      rB 12 29 (tQ B64 960 (mkRat (bev (l.take 120)) (bev (k.take 120)))) (some 12) 13 ::
      rT (tV (.bool (decide (bev (k.take 120) ≠ 0)))) ::
      []) hz hd (by kernel_rfl) (by kernel_rfl) ?_ ?_
  · refine ⟨?_, ?_, ?_, ?_, ?_, ?_, ?_, ?_, ?_, ?_, ?_, ?_, ?_, ?_, ?_, trivial⟩
    · exact sFA rfl rfl rfl hz rfl (Gd.none_ rfl) rfl (Src.out (t := 5) (by kernel_rfl) S5 rfl) (fun w => by simp [go_sem])
    · exact sLoadP rfl rfl rfl hz rfl (Gd.none_ rfl) rfl (Src.dep (j := 0) (t := 52) (by kernel_rfl) (by kernel_rfl) rfl) Cp1 rfl ldp_f
    · exact sCall rfl rfl rfl hz rfl (Gd.none_ rfl) rfl Try.func10 (by kernel_rfl) (by kernel_rfl) fun a γ w U => (by show Calls _ _ #[a.eval (.tmp 53)] _ _; exact l_cut (Src.at_ (Src.dep (j := 1) (t := 53) (by kernel_rfl) (by kernel_rfl) rfl) U))
    · exact sCall rfl rfl rfl hz rfl (Gd.none_ rfl) rfl Try.func12 (by kernel_rfl) (by kernel_rfl) fun a γ w U => (by show Calls _ _ #[a.eval (.tmp 54)] _ _; exact c_fb (Src.at_ (Src.dep (j := 2) (t := 54) (by kernel_rfl) (by kernel_rfl) rfl) U) (by decide))
    · exact sFA rfl rfl rfl hz rfl (Gd.none_ rfl) rfl (Src.out (t := 5) (by kernel_rfl) S5 rfl) (fun w => by simp [go_sem])
    · exact sLoadP rfl rfl rfl hz rfl (Gd.none_ rfl) rfl (Src.dep (j := 4) (t := 56) (by kernel_rfl) (by kernel_rfl) rfl) Cp1 rfl ldq_f
    · exact sCall rfl rfl rfl hz rfl (Gd.none_ rfl) rfl Try.func10 (by kernel_rfl) (by kernel_rfl) fun a γ w U => (by show Calls _ _ #[a.eval (.tmp 57)] _ _; exact l_cut (Src.at_ (Src.dep (j := 5) (t := 57) (by kernel_rfl) (by kernel_rfl) rfl) U))
    · exact sCall rfl rfl rfl hz rfl (Gd.none_ rfl) rfl Try.func12 (by kernel_rfl) (by kernel_rfl) fun a γ w U => (by show Calls _ _ #[a.eval (.tmp 58)] _ _; exact c_fb (Src.at_ (Src.dep (j := 6) (t := 58) (by kernel_rfl) (by kernel_rfl) rfl) U) (by decide))
    · exact sCall rfl rfl rfl hz rfl (Gd.none_ rfl) rfl Try.func11 (by kernel_rfl) (by kernel_rfl) fun a γ w U => (by show Calls _ _ #[a.eval (.tmp 55), a.eval (.tmp 59)] _ _; exact cq_from (l := 960) (Src.at_ (Src.dep (j := 3) (t := 55) (by kernel_rfl) (by kernel_rfl) rfl) U) (Src.at_ (Src.dep (j := 7) (t := 59) (by kernel_rfl) (by kernel_rfl) rfl) U) (by decide) (by decide) hP.out.1 hP.out.2 (by decide))
    · exact sMv rfl rfl rfl hz rfl (Gd.none_ rfl) rfl (Src.dep (j := 8) (t := 60) (by kernel_rfl) (by kernel_rfl) rfl)
    · exact sExt rfl rfl rfl hz rfl (Gd.none_ rfl) rfl (Src.dep (j := 9) (t := 51) (by kernel_rfl) (by kernel_rfl) rfl) rfl
    · exact sExt rfl rfl rfl hz rfl (Gd.none_ rfl) rfl (Src.dep (j := 9) (t := 51) (by kernel_rfl) (by kernel_rfl) rfl) rfl
    · exact sAlloc rfl rfl rfl hz rfl rfl rfl rfl nd_rat al_r64
    · exact sStore rfl rfl rfl rfl rfl (by kernel_rfl) (by kernel_rfl) rfl (Src.dep (j := 10) (t := 61) (by kernel_rfl) (by kernel_rfl) rfl) st_q64
    · exact sAs rfl rfl rfl hz rfl (Gd.none_ rfl) rfl (Src.dep (j := 11) (t := 62) (by kernel_rfl) (by kernel_rfl) rfl)
  intro a' γ' W' hz' hd' hC hk hh
  have ep1 := Cp1.lt
  have ep2 := Cp2.lt
  have ep3 := Cp3.lt
  have ep5 := Cp5.lt
  have ep6 := Cp6.lt
  replace Cp1 := Cell.aft Cp1 hC rfl
  have tp2 := Cp2.lt
  replace Cp2 := Cell.aft Cp2 hC rfl
  have tp3 := Cp3.lt
  replace Cp3 := Cell.aft Cp3 hC rfl
  have tp5 := Cp5.lt
  replace Cp5 := Cell.aft Cp5 hC rfl
  have tp6 := Cp6.lt
  replace Cp6 := Cell.aft Cp6 hC rfl
  replace S5 := hk 5 _ (by kernel_rfl) S5
  replace S6 := hk 6 _ (by kernel_rfl) S6
  replace S7 := hk 7 _ (by kernel_rfl) S7
  replace S9 := hk 9 _ (by kernel_rfl) S9
  replace S11 := hk 11 _ (by kernel_rfl) S11
  replace S12 := hk 12 _ (by kernel_rfl) S12
  obtain ⟨p7, S13, Cp7, lp7, gp7⟩ := gotB hz' 13 hC hh rfl rfl rfl rfl rfl rfl
  have S14 := gotV hz' 14 hh rfl rfl rfl rfl
  have n_p7_p2 : p7 ≠ p2 := by omega
  have n_p7_p3 : p7 ≠ p3 := by omega
  have n_p7_p5 : p7 ≠ p5 := by omega
  have n_p7_p6 : p7 ≠ p6 := by omega
  have n_p1_p7 : p1 ≠ p7 := by have := ep1; omega
  have n_p2_p7 : p2 ≠ p7 := by have := ep2; omega
  have n_p3_p7 : p3 ≠ p7 := by have := ep3; omega
  have n_p5_p7 : p5 ≠ p7 := by have := ep5; omega
  have n_p6_p7 : p6 ≠ p7 := by have := ep6; omega
  have bp7 : w.heap.size ≤ p7 := Nat.le_trans HB.size lp7
  clear lp7 gp7
  clear tp2 tp3 tp5 tp6
  clear ep1 ep2 ep3 ep5 ep6
  replace HB := aft_call HB (RelC.below_nil hC)
  clear hC hk hh; replace hz := hz'; replace hd := hd'; clear hz' hd'
  refine wp_seq ?_
  refine region_drawn (M := []) (
      rT (tV (.pointer (some ⟨p1, 0, none⟩))) ::
      rT (tBy 9223372036854775807 l) ::
      rT (tBy 120 (l.take 120)) ::
      rT (tN B32 120 (bev (l.take 120))) ::
      rT (tV (.pointer (some ⟨p1, 1, none⟩))) ::
      rT (tBy 9223372036854775807 k) ::
      rT (tBy 120 (k.take 120)) ::
      rT (tN B32 120 (bev (k.take 120))) ::
      rT (tT [tQ B32 960 (mkRat (bev (l.take 120)) (bev (k.take 120))), tV (.bool (decide (bev (k.take 120) ≠ 0)))]) ::
      rT (tT [tQ B32 960 (mkRat (bev (l.take 120)) (bev (k.take 120))), tV (.bool (decide (bev (k.take 120) ≠ 0)))]) ::
      rT (tQ B32 960 (mkRat (bev (l.take 120)) (bev (k.take 120)))) ::
      rT (tV (.bool (decide (bev (k.take 120) ≠ 0)))) ::
      rVar 12 33 2 ::
      rB 12 33 (tQ B32 960 (mkRat (bev (l.take 120)) (bev (k.take 120)))) (some 12) 13 ::
      rT (tV (.bool (decide (bev (k.take 120) ≠ 0)))) ::
      []) hz hd (by kernel_rfl) (by kernel_rfl) ?_ ?_
  · refine ⟨?_, ?_, ?_, ?_, ?_, ?_, ?_, ?_, ?_, ?_, ?_, ?_, ?_, ?_, ?_, trivial⟩
    · exact sFA rfl rfl rfl hz rfl (Gd.none_ rfl) rfl (Src.out (t := 5) (by kernel_rfl) S5 rfl) (fun w => by simp [go_sem])
    · exact sLoadP rfl rfl rfl hz rfl (Gd.none_ rfl) rfl (Src.dep (j := 0) (t := 64) (by kernel_rfl) (by kernel_rfl) rfl) Cp1 rfl ldp_f
    · exact sCall rfl rfl rfl hz rfl (Gd.none_ rfl) rfl Try.func10 (by kernel_rfl) (by kernel_rfl) fun a γ w U => (by show Calls _ _ #[a.eval (.tmp 65)] _ _; exact l_cut (Src.at_ (Src.dep (j := 1) (t := 65) (by kernel_rfl) (by kernel_rfl) rfl) U))
    · exact sCall rfl rfl rfl hz rfl (Gd.none_ rfl) rfl Try.func15 (by kernel_rfl) (by kernel_rfl) fun a γ w U => (by show Calls _ _ #[a.eval (.tmp 66)] _ _; exact d_fb (Src.at_ (Src.dep (j := 2) (t := 66) (by kernel_rfl) (by kernel_rfl) rfl) U) (by decide))
    · exact sFA rfl rfl rfl hz rfl (Gd.none_ rfl) rfl (Src.out (t := 5) (by kernel_rfl) S5 rfl) (fun w => by simp [go_sem])
    · exact sLoadP rfl rfl rfl hz rfl (Gd.none_ rfl) rfl (Src.dep (j := 4) (t := 68) (by kernel_rfl) (by kernel_rfl) rfl) Cp1 rfl ldq_f
    · exact sCall rfl rfl rfl hz rfl (Gd.none_ rfl) rfl Try.func10 (by kernel_rfl) (by kernel_rfl) fun a γ w U => (by show Calls _ _ #[a.eval (.tmp 69)] _ _; exact l_cut (Src.at_ (Src.dep (j := 5) (t := 69) (by kernel_rfl) (by kernel_rfl) rfl) U))
    · exact sCall rfl rfl rfl hz rfl (Gd.none_ rfl) rfl Try.func15 (by kernel_rfl) (by kernel_rfl) fun a γ w U => (by show Calls _ _ #[a.eval (.tmp 70)] _ _; exact d_fb (Src.at_ (Src.dep (j := 6) (t := 70) (by kernel_rfl) (by kernel_rfl) rfl) U) (by decide))
    · exact sCall rfl rfl rfl hz rfl (Gd.none_ rfl) rfl Try.func14 (by kernel_rfl) (by kernel_rfl) fun a γ w U => (by show Calls _ _ #[a.eval (.tmp 67), a.eval (.tmp 71)] _ _; exact dq_from (l := 960) (Src.at_ (Src.dep (j := 3) (t := 67) (by kernel_rfl) (by kernel_rfl) rfl) U) (Src.at_ (Src.dep (j := 7) (t := 71) (by kernel_rfl) (by kernel_rfl) rfl) U) (by decide) (by decide) hP.out.1 hP.out.2 (by decide))
    · exact sMv rfl rfl rfl hz rfl (Gd.none_ rfl) rfl (Src.dep (j := 8) (t := 72) (by kernel_rfl) (by kernel_rfl) rfl)
    · exact sExt rfl rfl rfl hz rfl (Gd.none_ rfl) rfl (Src.dep (j := 9) (t := 63) (by kernel_rfl) (by kernel_rfl) rfl) rfl
    · exact sExt rfl rfl rfl hz rfl (Gd.none_ rfl) rfl (Src.dep (j := 9) (t := 63) (by kernel_rfl) (by kernel_rfl) rfl) rfl
    · exact sAlloc rfl rfl rfl hz rfl rfl rfl rfl nd_rat al_r32
    · exact sStore rfl rfl rfl rfl rfl (by kernel_rfl) (by kernel_rfl) rfl (Src.dep (j := 10) (t := 73) (by kernel_rfl) (by kernel_rfl) rfl) st_q32
    · exact sAs rfl rfl rfl hz rfl (Gd.none_ rfl) rfl (Src.dep (j := 11) (t := 74) (by kernel_rfl) (by kernel_rfl) rfl)
  intro a' γ' W' hz' hd' hC hk hh
  have ep1 := Cp1.lt
  have ep2 := Cp2.lt
  have ep3 := Cp3.lt
  have ep5 := Cp5.lt
  have ep6 := Cp6.lt
  have ep7 := Cp7.lt
  clear Cp1
  have tp2 := Cp2.lt
  replace Cp2 := Cell.aft Cp2 hC rfl
  have tp3 := Cp3.lt
  replace Cp3 := Cell.aft Cp3 hC rfl
  have tp5 := Cp5.lt
  replace Cp5 := Cell.aft Cp5 hC rfl
  have tp6 := Cp6.lt
  replace Cp6 := Cell.aft Cp6 hC rfl
  have tp7 := Cp7.lt
  replace Cp7 := Cell.aft Cp7 hC rfl
  clear S5
  replace S6 := hk 6 _ (by kernel_rfl) S6
  replace S7 := hk 7 _ (by kernel_rfl) S7
  replace S9 := hk 9 _ (by kernel_rfl) S9
  replace S11 := hk 11 _ (by kernel_rfl) S11
  replace S12 := hk 12 _ (by kernel_rfl) S12
  replace S13 := hk 13 _ (by kernel_rfl) S13
  replace S14 := hk 14 _ (by kernel_rfl) S14
  obtain ⟨p8, S15, Cp8, lp8, gp8⟩ := gotB hz' 13 hC hh rfl rfl rfl rfl rfl rfl
  have S16 := gotV hz' 14 hh rfl rfl rfl rfl
  have n_p8_p2 : p8 ≠ p2 := by omega
  have n_p8_p3 : p8 ≠ p3 := by omega
  have n_p8_p5 : p8 ≠ p5 := by omega
  have n_p8_p6 : p8 ≠ p6 := by omega
  have n_p8_p7 : p8 ≠ p7 := by omega
  have n_p2_p8 : p2 ≠ p8 := by have := ep2; omega
  have n_p3_p8 : p3 ≠ p8 := by have := ep3; omega
  have n_p5_p8 : p5 ≠ p8 := by have := ep5; omega
  have n_p6_p8 : p6 ≠ p8 := by have := ep6; omega
  have n_p7_p8 : p7 ≠ p8 := by have := ep7; omega
  have bp8 : w.heap.size ≤ p8 := Nat.le_trans HB.size lp8
  clear lp8 gp8
  clear tp2 tp3 tp5 tp6 tp7
  clear ep1 ep2 ep3 ep5 ep6 ep7
  replace HB := aft_call HB (RelC.below_nil hC)
  clear hC hk hh; replace hz := hz'; replace hd := hd'; clear hz' hd'
  refine wp_seq ?_
  refine region_text (M := []) (
      rT (tQ B64 960 (mkF l k)) ::
      rT (tT [tV (.int .i64 (intQ (mkF l k))), tV (.bool (decide (IntQ (mkF l k))))]) ::
      rT (tT [tV (.int .i64 (intQ (mkF l k))), tV (.bool (decide (IntQ (mkF l k))))]) ::
      rT (tV (.int .i64 (intQ (mkF l k)))) ::
      rT (tV (.bool (decide (IntQ (mkF l k))))) ::
      rT (tV (.int .i64 (intQ (mkF l k)))) ::
      rT (tV (.bool (decide (IntQ (mkF l k))))) ::
      []) hz hd (by kernel_rfl) ?_ ?_
  · refine ⟨?_, ?_, ?_, ?_, ?_, ?_, ?_, trivial⟩
    · exact sLoad rfl rfl rfl hz rfl (Gd.none_ rfl) rfl (Src.out (t := 11) (by kernel_rfl) S11 rfl) Cp5 rfl ld_q64
    · exact sCall rfl rfl rfl hz rfl (Gd.none_ rfl) rfl Try.func32 (by kernel_rfl) (by kernel_rfl) fun a γ w U => (by show Calls _ _ #[a.eval (.tmp 76)] _ _; exact cq_int (Src.at_ (Src.dep (j := 0) (t := 76) (by kernel_rfl) (by kernel_rfl) rfl) U) (by decide))
    · exact sMv rfl rfl rfl hz rfl (Gd.none_ rfl) rfl (Src.dep (j := 1) (t := 77) (by kernel_rfl) (by kernel_rfl) rfl)
    · exact sExt rfl rfl rfl hz rfl (Gd.none_ rfl) rfl (Src.dep (j := 2) (t := 75) (by kernel_rfl) (by kernel_rfl) rfl) rfl
    · exact sExt rfl rfl rfl hz rfl (Gd.none_ rfl) rfl (Src.dep (j := 2) (t := 75) (by kernel_rfl) (by kernel_rfl) rfl) rfl
    · exact sAs rfl rfl rfl hz rfl (Gd.none_ rfl) rfl (Src.dep (j := 3) (t := 78) (by kernel_rfl) (by kernel_rfl) rfl)
    · exact sAs rfl rfl rfl hz rfl (Gd.none_ rfl) rfl (Src.dep (j := 4) (t := 79) (by kernel_rfl) (by kernel_rfl) rfl)
  intro a' γ' W' hz' hd' hC hk hh
  have tp2 := Cp2.lt
  replace Cp2 := Cell.aft Cp2 hC rfl
  have tp3 := Cp3.lt
  replace Cp3 := Cell.aft Cp3 hC rfl
  have tp5 := Cp5.lt
  replace Cp5 := Cell.aft Cp5 hC rfl
  have tp6 := Cp6.lt
  replace Cp6 := Cell.aft Cp6 hC rfl
  have tp7 := Cp7.lt
  replace Cp7 := Cell.aft Cp7 hC rfl
  have tp8 := Cp8.lt
  replace Cp8 := Cell.aft Cp8 hC rfl
  replace S6 := hk 6 _ (by kernel_rfl) S6
  replace S7 := hk 7 _ (by kernel_rfl) S7
  replace S9 := hk 9 _ (by kernel_rfl) S9
  replace S11 := hk 11 _ (by kernel_rfl) S11
  replace S12 := hk 12 _ (by kernel_rfl) S12
  replace S13 := hk 13 _ (by kernel_rfl) S13
  replace S14 := hk 14 _ (by kernel_rfl) S14
  replace S15 := hk 15 _ (by kernel_rfl) S15
  replace S16 := hk 16 _ (by kernel_rfl) S16
  have S17 := gotV hz' 5 hh rfl rfl rfl rfl
  have S18 := gotV hz' 6 hh rfl rfl rfl rfl
  clear tp2 tp3 tp5 tp6 tp7 tp8
  replace HB := aft_call HB (RelC.below_nil hC)
  clear hC hk hh; replace hz := hz'; replace hd := hd'; clear hz' hd'
  refine wp_seq ?_
  refine region_text (M := []) (
      rT (tQ B32 960 (mkF l k)) ::
      rT (tT [tV (.int .i64 (intQ (mkF l k))), tV (.bool (decide (IntQ (mkF l k))))]) ::
      rT (tT [tV (.int .i64 (intQ (mkF l k))), tV (.bool (decide (IntQ (mkF l k))))]) ::
      rT (tV (.int .i64 (intQ (mkF l k)))) ::
      rT (tV (.bool (decide (IntQ (mkF l k))))) ::
      rT (tV (.int .i64 (intQ (mkF l k)))) ::
      rT (tV (.bool (decide (IntQ (mkF l k))))) ::
      []) hz hd (by kernel_rfl) ?_ ?_
  · refine ⟨?_, ?_, ?_, ?_, ?_, ?_, ?_, trivial⟩
    · exact sLoad rfl rfl rfl hz rfl (Gd.none_ rfl) rfl (Src.out (t := 12) (by kernel_rfl) S12 rfl) Cp6 rfl ld_q32
    · exact sCall rfl rfl rfl hz rfl (Gd.none_ rfl) rfl Try.func33 (by kernel_rfl) (by kernel_rfl) fun a γ w U => (by show Calls _ _ #[a.eval (.tmp 81)] _ _; exact dq_int (Src.at_ (Src.dep (j := 0) (t := 81) (by kernel_rfl) (by kernel_rfl) rfl) U) (by decide))
    · exact sMv rfl rfl rfl hz rfl (Gd.none_ rfl) rfl (Src.dep (j := 1) (t := 82) (by kernel_rfl) (by kernel_rfl) rfl)
    · exact sExt rfl rfl rfl hz rfl (Gd.none_ rfl) rfl (Src.dep (j := 2) (t := 80) (by kernel_rfl) (by kernel_rfl) rfl) rfl
    · exact sExt rfl rfl rfl hz rfl (Gd.none_ rfl) rfl (Src.dep (j := 2) (t := 80) (by kernel_rfl) (by kernel_rfl) rfl) rfl
    · exact sAs rfl rfl rfl hz rfl (Gd.none_ rfl) rfl (Src.dep (j := 3) (t := 83) (by kernel_rfl) (by kernel_rfl) rfl)
    · exact sAs rfl rfl rfl hz rfl (Gd.none_ rfl) rfl (Src.dep (j := 4) (t := 84) (by kernel_rfl) (by kernel_rfl) rfl)
  intro a' γ' W' hz' hd' hC hk hh
  have tp2 := Cp2.lt
  replace Cp2 := Cell.aft Cp2 hC rfl
  have tp3 := Cp3.lt
  replace Cp3 := Cell.aft Cp3 hC rfl
  have tp5 := Cp5.lt
  replace Cp5 := Cell.aft Cp5 hC rfl
  have tp6 := Cp6.lt
  replace Cp6 := Cell.aft Cp6 hC rfl
  have tp7 := Cp7.lt
  replace Cp7 := Cell.aft Cp7 hC rfl
  have tp8 := Cp8.lt
  replace Cp8 := Cell.aft Cp8 hC rfl
  replace S6 := hk 6 _ (by kernel_rfl) S6
  replace S7 := hk 7 _ (by kernel_rfl) S7
  replace S9 := hk 9 _ (by kernel_rfl) S9
  replace S11 := hk 11 _ (by kernel_rfl) S11
  replace S12 := hk 12 _ (by kernel_rfl) S12
  replace S13 := hk 13 _ (by kernel_rfl) S13
  replace S14 := hk 14 _ (by kernel_rfl) S14
  replace S15 := hk 15 _ (by kernel_rfl) S15
  replace S16 := hk 16 _ (by kernel_rfl) S16
  replace S17 := hk 17 _ (by kernel_rfl) S17
  replace S18 := hk 18 _ (by kernel_rfl) S18
  have S19 := gotV hz' 5 hh rfl rfl rfl rfl
  have S20 := gotV hz' 6 hh rfl rfl rfl rfl
  clear tp2 tp3 tp5 tp6 tp7 tp8
  replace HB := aft_call HB (RelC.below_nil hC)
  clear hC hk hh; replace hz := hz'; replace hd := hd'; clear hz' hd'
  refine wp_seq ?_
  refine wp_seq ?_
  have hc9 : mkRat (bev (l.take 120)) (bev (k.take 120)) = mkRat (bev (l.take 120)) (bev (k.take 120)) := rfl
  have hc10 : mkF l k = mkF l k := rfl
  refine region_text (M := []) (
      rT (tV (.bool (decide (bev (k.take 120) ≠ 0)))) ::
      rT (tV (.bool (decide (bev (k.take 120) ≠ 0)))) ::
      rT (tV (.bool false)) ::
      rT (tV (.bool false)) ::
      rT (tQ B64 960 (mkRat (bev (l.take 120)) (bev (k.take 120)))) ::
      rT (tQ B32 960 (mkRat (bev (l.take 120)) (bev (k.take 120)))) ::
      rT (tV (.bool true)) ::
      rT (tV (.bool false)) ::
      rT (tV (.bool false)) ::
      rT (tV (.bool false)) ::
      rT (tQ B64 960 (mkF l k)) ::
      rT (tQ B32 960 (mkF l k)) ::
      rT (tV (.bool true)) ::
      rT (tV (.bool false)) ::
      rT (tV (.bool false)) ::
      rT (tV (.bool false)) ::
      rT (tV (.int .i64 (intQ (mkF l k)))) ::
      rT (tV (.int .i64 (intQ (mkF l k)))) ::
      rT (tV (.bool false)) ::
      rT (tV (.bool false)) ::
      rT (tV (.bool false)) ::
      rT (tV (.bool (decide (IntQ (mkF l k))))) ::
      rT (tV (.bool (decide (IntQ (mkF l k))))) ::
      rT (tV (.bool false)) ::
      rT (tV (.bool false)) ::
      []) hz hd (by kernel_rfl) ?_ ?_
  · refine ⟨?_, ?_, ?_, ?_, ?_, ?_, ?_, ?_, ?_, ?_, ?_, ?_, ?_, ?_, ?_, ?_, ?_, ?_, ?_, ?_, ?_, ?_, ?_, ?_, ?_, trivial⟩
    · exact sMv rfl rfl rfl hz rfl (Gd.none_ rfl) rfl (Src.out (t := 14) (by kernel_rfl) S14 rfl)
    · exact sMv rfl rfl rfl hz rfl (Gd.none_ rfl) rfl (Src.out (t := 16) (by kernel_rfl) S16 rfl)
    · exact sBin rfl rfl rfl hz rfl (Gd.none_ rfl) rfl (Src.dep (j := 0) (t := 85) (by kernel_rfl) (by kernel_rfl) rfl) (Src.dep (j := 1) (t := 86) (by kernel_rfl) (by kernel_rfl) rfl) (fun w => by simp [go_sem])
    · exact sMv rfl rfl rfl hz rfl (Gd.none_ rfl) rfl (Src.dep (j := 2) (t := 87) (by kernel_rfl) (by kernel_rfl) rfl)
    · exact sLoad rfl rfl rfl hz rfl (Gd.yes rfl rfl (Src.dep (j := 3) (t := 88) (by kernel_rfl) (by kernel_rfl) rfl) rfl) rfl (Src.out (t := 13) (by kernel_rfl) S13 rfl) Cp7 rfl ld_q64
    · exact sLoad rfl rfl rfl hz rfl (Gd.yes rfl rfl (Src.dep (j := 3) (t := 88) (by kernel_rfl) (by kernel_rfl) rfl) rfl) rfl (Src.out (t := 15) (by kernel_rfl) S15 rfl) Cp8 rfl ld_q32
    · exact sCall rfl rfl rfl hz rfl (Gd.yes rfl rfl (Src.dep (j := 3) (t := 88) (by kernel_rfl) (by kernel_rfl) rfl) rfl) rfl Try.func21 (by kernel_rfl) (by kernel_rfl) fun a γ w U => (by show Calls _ _ #[a.eval (.tmp 89), a.eval (.tmp 90)] _ _; have hq : Calls _ _ #[a.eval (.tmp 89), a.eval (.tmp 90)] w (Ret _ w) := l_same (Src.at_ (Src.dep (j := 4) (t := 89) (by kernel_rfl) (by kernel_rfl) rfl) U) (Src.at_ (Src.dep (j := 5) (t := 90) (by kernel_rfl) (by kernel_rfl) rfl) U) (by decide) (by decide); simp only [decide_eq_true hc9] at hq; exact hq)
    · exact sNot (b := true) rfl rfl rfl hz rfl (Gd.yes rfl rfl (Src.dep (j := 3) (t := 88) (by kernel_rfl) (by kernel_rfl) rfl) rfl) rfl (Src.dep (j := 6) (t := 91) (by kernel_rfl) (by kernel_rfl) rfl)
    · exact sPickF rfl rfl rfl hz rfl (Gd.none_ rfl) rfl (Src.dep (j := 3) (t := 88) (by kernel_rfl) (by kernel_rfl) rfl) (Src.dep (j := 7) (t := 92) (by kernel_rfl) (by kernel_rfl) rfl)
    · exact sMv rfl rfl rfl hz rfl (Gd.none_ rfl) rfl (Src.dep (j := 8) (t := 93) (by kernel_rfl) (by kernel_rfl) rfl)
    · exact sLoad rfl rfl rfl hz rfl (Gd.yes rfl rfl (Src.dep (j := 9) (t := 94) (by kernel_rfl) (by kernel_rfl) rfl) rfl) rfl (Src.out (t := 11) (by kernel_rfl) S11 rfl) Cp5 rfl ld_q64
    · exact sLoad rfl rfl rfl hz rfl (Gd.yes rfl rfl (Src.dep (j := 9) (t := 94) (by kernel_rfl) (by kernel_rfl) rfl) rfl) rfl (Src.out (t := 12) (by kernel_rfl) S12 rfl) Cp6 rfl ld_q32
    · exact sCall rfl rfl rfl hz rfl (Gd.yes rfl rfl (Src.dep (j := 9) (t := 94) (by kernel_rfl) (by kernel_rfl) rfl) rfl) rfl Try.func21 (by kernel_rfl) (by kernel_rfl) fun a γ w U => (by show Calls _ _ #[a.eval (.tmp 95), a.eval (.tmp 96)] _ _; have hq : Calls _ _ #[a.eval (.tmp 95), a.eval (.tmp 96)] w (Ret _ w) := l_same (Src.at_ (Src.dep (j := 10) (t := 95) (by kernel_rfl) (by kernel_rfl) rfl) U) (Src.at_ (Src.dep (j := 11) (t := 96) (by kernel_rfl) (by kernel_rfl) rfl) U) (by decide) (by decide); simp only [decide_eq_true hc10] at hq; exact hq)
    · exact sNot (b := true) rfl rfl rfl hz rfl (Gd.yes rfl rfl (Src.dep (j := 9) (t := 94) (by kernel_rfl) (by kernel_rfl) rfl) rfl) rfl (Src.dep (j := 12) (t := 97) (by kernel_rfl) (by kernel_rfl) rfl)
    · exact sPickF rfl rfl rfl hz rfl (Gd.none_ rfl) rfl (Src.dep (j := 9) (t := 94) (by kernel_rfl) (by kernel_rfl) rfl) (Src.dep (j := 13) (t := 98) (by kernel_rfl) (by kernel_rfl) rfl)
    · exact sMv rfl rfl rfl hz rfl (Gd.none_ rfl) rfl (Src.dep (j := 14) (t := 99) (by kernel_rfl) (by kernel_rfl) rfl)
    · exact sMv rfl rfl rfl hz rfl (Gd.yes rfl rfl (Src.dep (j := 15) (t := 100) (by kernel_rfl) (by kernel_rfl) rfl) rfl) rfl (Src.out (t := 17) (by kernel_rfl) S17 rfl)
    · exact sMv rfl rfl rfl hz rfl (Gd.yes rfl rfl (Src.dep (j := 15) (t := 100) (by kernel_rfl) (by kernel_rfl) rfl) rfl) rfl (Src.out (t := 19) (by kernel_rfl) S19 rfl)
    · exact sBin rfl rfl rfl hz rfl (Gd.yes rfl rfl (Src.dep (j := 15) (t := 100) (by kernel_rfl) (by kernel_rfl) rfl) rfl) rfl (Src.dep (j := 16) (t := 101) (by kernel_rfl) (by kernel_rfl) rfl) (Src.dep (j := 17) (t := 102) (by kernel_rfl) (by kernel_rfl) rfl) (fun w => by simp [go_sem])
    · exact sPickF rfl rfl rfl hz rfl (Gd.none_ rfl) rfl (Src.dep (j := 15) (t := 100) (by kernel_rfl) (by kernel_rfl) rfl) (Src.dep (j := 18) (t := 103) (by kernel_rfl) (by kernel_rfl) rfl)
    · exact sMv rfl rfl rfl hz rfl (Gd.none_ rfl) rfl (Src.dep (j := 19) (t := 104) (by kernel_rfl) (by kernel_rfl) rfl)
    · exact sMv rfl rfl rfl hz rfl (Gd.yes rfl rfl (Src.dep (j := 20) (t := 105) (by kernel_rfl) (by kernel_rfl) rfl) rfl) rfl (Src.out (t := 18) (by kernel_rfl) S18 rfl)
    · exact sMv rfl rfl rfl hz rfl (Gd.yes rfl rfl (Src.dep (j := 20) (t := 105) (by kernel_rfl) (by kernel_rfl) rfl) rfl) rfl (Src.out (t := 20) (by kernel_rfl) S20 rfl)
    · exact sBin rfl rfl rfl hz rfl (Gd.yes rfl rfl (Src.dep (j := 20) (t := 105) (by kernel_rfl) (by kernel_rfl) rfl) rfl) rfl (Src.dep (j := 21) (t := 106) (by kernel_rfl) (by kernel_rfl) rfl) (Src.dep (j := 22) (t := 107) (by kernel_rfl) (by kernel_rfl) rfl) (fun w => by simp [go_sem])
    · exact sPickF rfl rfl rfl hz rfl (Gd.none_ rfl) rfl (Src.dep (j := 20) (t := 105) (by kernel_rfl) (by kernel_rfl) rfl) (Src.dep (j := 23) (t := 108) (by kernel_rfl) (by kernel_rfl) rfl)
  intro a' γ' W' hz' hd' hC hk hh
  have tp2 := Cp2.lt
  replace Cp2 := Cell.aft Cp2 hC rfl
  have tp3 := Cp3.lt
  replace Cp3 := Cell.aft Cp3 hC rfl
  have tp5 := Cp5.lt
  replace Cp5 := Cell.aft Cp5 hC rfl
  have tp6 := Cp6.lt
  replace Cp6 := Cell.aft Cp6 hC rfl
  have tp7 := Cp7.lt
  clear Cp7
  have tp8 := Cp8.lt
  clear Cp8
  replace S6 := hk 6 _ (by kernel_rfl) S6
  replace S7 := hk 7 _ (by kernel_rfl) S7
  replace S9 := hk 9 _ (by kernel_rfl) S9
  replace S11 := hk 11 _ (by kernel_rfl) S11
  replace S12 := hk 12 _ (by kernel_rfl) S12
  clear S13
  clear S14
  clear S15
  clear S16
  replace S17 := hk 17 _ (by kernel_rfl) S17
  replace S18 := hk 18 _ (by kernel_rfl) S18
  replace S19 := hk 19 _ (by kernel_rfl) S19
  replace S20 := hk 20 _ (by kernel_rfl) S20
  have S109 := gotV hz' 24 hh rfl rfl rfl rfl
  clear tp2 tp3 tp5 tp6 tp7 tp8
  replace HB := aft_call HB (RelC.below_nil hC)
  clear hC hk hh; replace hz := hz'; replace hd := hd'; clear hz' hd'
  refine wp_cond_false S109.ev ?_
  refine wp_skip ?_
  refine wp_seq ?_
  refine region_text (M := []) (
      rT (tQ B64 63 (ofQ a1 a2)) ::
      rT (tT [tV (.int .i64 (intQ (ofQ a1 a2))), tV (.bool (decide (IntQ (ofQ a1 a2))))]) ::
      rT (tT [tV (.int .i64 (intQ (ofQ a1 a2))), tV (.bool (decide (IntQ (ofQ a1 a2))))]) ::
      rT (tV (.int .i64 (intQ (ofQ a1 a2)))) ::
      rT (tV (.bool (decide (IntQ (ofQ a1 a2))))) ::
      rT (tV (.int .i64 (intQ (ofQ a1 a2)))) ::
      rT (tV (.bool (decide (IntQ (ofQ a1 a2))))) ::
      []) hz hd (by kernel_rfl) ?_ ?_
  · refine ⟨?_, ?_, ?_, ?_, ?_, ?_, ?_, trivial⟩
    · exact sLoad rfl rfl rfl hz rfl (Gd.none_ rfl) rfl (Src.out (t := 7) (by kernel_rfl) S7 rfl) Cp2 rfl ld_q64
    · exact sCall rfl rfl rfl hz rfl (Gd.none_ rfl) rfl Try.func32 (by kernel_rfl) (by kernel_rfl) fun a γ w U => (by show Calls _ _ #[a.eval (.tmp 111)] _ _; exact cq_int (Src.at_ (Src.dep (j := 0) (t := 111) (by kernel_rfl) (by kernel_rfl) rfl) U) (by decide))
    · exact sMv rfl rfl rfl hz rfl (Gd.none_ rfl) rfl (Src.dep (j := 1) (t := 112) (by kernel_rfl) (by kernel_rfl) rfl)
    · exact sExt rfl rfl rfl hz rfl (Gd.none_ rfl) rfl (Src.dep (j := 2) (t := 110) (by kernel_rfl) (by kernel_rfl) rfl) rfl
    · exact sExt rfl rfl rfl hz rfl (Gd.none_ rfl) rfl (Src.dep (j := 2) (t := 110) (by kernel_rfl) (by kernel_rfl) rfl) rfl
    · exact sAs rfl rfl rfl hz rfl (Gd.none_ rfl) rfl (Src.dep (j := 3) (t := 113) (by kernel_rfl) (by kernel_rfl) rfl)
    · exact sAs rfl rfl rfl hz rfl (Gd.none_ rfl) rfl (Src.dep (j := 4) (t := 114) (by kernel_rfl) (by kernel_rfl) rfl)
  intro a' γ' W' hz' hd' hC hk hh
  have tp2 := Cp2.lt
  clear Cp2
  have tp3 := Cp3.lt
  replace Cp3 := Cell.aft Cp3 hC rfl
  have tp5 := Cp5.lt
  replace Cp5 := Cell.aft Cp5 hC rfl
  have tp6 := Cp6.lt
  replace Cp6 := Cell.aft Cp6 hC rfl
  replace S6 := hk 6 _ (by kernel_rfl) S6
  clear S7
  replace S9 := hk 9 _ (by kernel_rfl) S9
  replace S11 := hk 11 _ (by kernel_rfl) S11
  replace S12 := hk 12 _ (by kernel_rfl) S12
  clear S17
  clear S18
  replace S19 := hk 19 _ (by kernel_rfl) S19
  replace S20 := hk 20 _ (by kernel_rfl) S20
  clear S109
  have S17 := gotV hz' 5 hh rfl rfl rfl rfl
  have S18 := gotV hz' 6 hh rfl rfl rfl rfl
  clear tp2 tp3 tp5 tp6
  replace HB := aft_call HB (RelC.below_nil hC)
  clear hC hk hh; replace hz := hz'; replace hd := hd'; clear hz' hd'
  refine wp_seq ?_
  refine region_text (M := []) (
      rT (tQ B32 63 (ofQ a1 a2)) ::
      rT (tT [tV (.int .i64 (intQ (ofQ a1 a2))), tV (.bool (decide (IntQ (ofQ a1 a2))))]) ::
      rT (tT [tV (.int .i64 (intQ (ofQ a1 a2))), tV (.bool (decide (IntQ (ofQ a1 a2))))]) ::
      rT (tV (.int .i64 (intQ (ofQ a1 a2)))) ::
      rT (tV (.bool (decide (IntQ (ofQ a1 a2))))) ::
      rT (tV (.int .i64 (intQ (ofQ a1 a2)))) ::
      rT (tV (.bool (decide (IntQ (ofQ a1 a2))))) ::
      []) hz hd (by kernel_rfl) ?_ ?_
  · refine ⟨?_, ?_, ?_, ?_, ?_, ?_, ?_, trivial⟩
    · exact sLoad rfl rfl rfl hz rfl (Gd.none_ rfl) rfl (Src.out (t := 9) (by kernel_rfl) S9 rfl) Cp3 rfl ld_q32
    · exact sCall rfl rfl rfl hz rfl (Gd.none_ rfl) rfl Try.func33 (by kernel_rfl) (by kernel_rfl) fun a γ w U => (by show Calls _ _ #[a.eval (.tmp 116)] _ _; exact dq_int (Src.at_ (Src.dep (j := 0) (t := 116) (by kernel_rfl) (by kernel_rfl) rfl) U) (by decide))
    · exact sMv rfl rfl rfl hz rfl (Gd.none_ rfl) rfl (Src.dep (j := 1) (t := 117) (by kernel_rfl) (by kernel_rfl) rfl)
    · exact sExt rfl rfl rfl hz rfl (Gd.none_ rfl) rfl (Src.dep (j := 2) (t := 115) (by kernel_rfl) (by kernel_rfl) rfl) rfl
    · exact sExt rfl rfl rfl hz rfl (Gd.none_ rfl) rfl (Src.dep (j := 2) (t := 115) (by kernel_rfl) (by kernel_rfl) rfl) rfl
    · exact sAs rfl rfl rfl hz rfl (Gd.none_ rfl) rfl (Src.dep (j := 3) (t := 118) (by kernel_rfl) (by kernel_rfl) rfl)
    · exact sAs rfl rfl rfl hz rfl (Gd.none_ rfl) rfl (Src.dep (j := 4) (t := 119) (by kernel_rfl) (by kernel_rfl) rfl)
  intro a' γ' W' hz' hd' hC hk hh
  have tp3 := Cp3.lt
  clear Cp3
  have tp5 := Cp5.lt
  replace Cp5 := Cell.aft Cp5 hC rfl
  have tp6 := Cp6.lt
  replace Cp6 := Cell.aft Cp6 hC rfl
  replace S6 := hk 6 _ (by kernel_rfl) S6
  clear S9
  replace S11 := hk 11 _ (by kernel_rfl) S11
  replace S12 := hk 12 _ (by kernel_rfl) S12
  clear S19
  clear S20
  replace S17 := hk 17 _ (by kernel_rfl) S17
  replace S18 := hk 18 _ (by kernel_rfl) S18
  have S19 := gotV hz' 5 hh rfl rfl rfl rfl
  have S20 := gotV hz' 6 hh rfl rfl rfl rfl
  clear tp3 tp5 tp6
  replace HB := aft_call HB (RelC.below_nil hC)
  clear hC hk hh; replace hz := hz'; replace hd := hd'; clear hz' hd'
  refine wp_seq ?_
  have hc11 : (mkF l k).floor.toNat = (mkF l k).floor.toNat := rfl
  refine region_drawn (M := []) (
      rT (tV (.int .i64 (intQ (ofQ a1 a2)))) ::
      rT (tV (.int .i64 (intQ (ofQ a1 a2)))) ::
      rT (tV (.bool true)) ::
      rT (tV (.bool true)) ::
      rT (tV (.bool (decide (IntQ (ofQ a1 a2))))) ::
      rT (tV (.bool (decide (IntQ (ofQ a1 a2))))) ::
      rT (tV (.bool true)) ::
      rT (tV (.bool true)) ::
      rT (tV (.bool true)) ::
      rT (tQ B64 960 (mkF l k)) ::
      rT (tN B64 960 ((mkF l k).floor.toNat)) ::
      rT (tQ B32 960 (mkF l k)) ::
      rT (tN B32 960 ((mkF l k).floor.toNat)) ::
      rT (tV (.bool true)) ::
      rT (tV (.bool true)) ::
      rT (tV (.bool true)) ::
      rT (tQ B64 960 (mkF l k)) ::
      rT (tN B64 961 ((mkF l k).ceil.toNat)) ::
      rT (tQ B32 960 (mkF l k)) ::
      rT (tN B32 963 ((mkF l k).ceil.toNat)) ::
      rT (tV (.bool (decide ((mkF l k).ceil.toNat = (mkF l k).ceil.toNat)))) ::
      rT (tV (.bool (decide ((mkF l k).ceil.toNat = (mkF l k).ceil.toNat)))) ::
      rT (tV (.bool (decide ((mkF l k).ceil.toNat = (mkF l k).ceil.toNat)))) ::
      []) hz hd (by kernel_rfl) (by kernel_rfl) ?_ ?_
  · refine ⟨?_, ?_, ?_, ?_, ?_, ?_, ?_, ?_, ?_, ?_, ?_, ?_, ?_, ?_, ?_, ?_, ?_, ?_, ?_, ?_, ?_, ?_, ?_, trivial⟩
    · exact sMv rfl rfl rfl hz rfl (Gd.none_ rfl) rfl (Src.out (t := 17) (by kernel_rfl) S17 rfl)
    · exact sMv rfl rfl rfl hz rfl (Gd.none_ rfl) rfl (Src.out (t := 19) (by kernel_rfl) S19 rfl)
    · exact sBin rfl rfl rfl hz rfl (Gd.none_ rfl) rfl (Src.dep (j := 0) (t := 120) (by kernel_rfl) (by kernel_rfl) rfl) (Src.dep (j := 1) (t := 121) (by kernel_rfl) (by kernel_rfl) rfl) (fun w => by simp [go_sem])
    · exact sMv rfl rfl rfl hz rfl (Gd.none_ rfl) rfl (Src.dep (j := 2) (t := 122) (by kernel_rfl) (by kernel_rfl) rfl)
    · exact sMv rfl rfl rfl hz rfl (Gd.yes rfl rfl (Src.dep (j := 3) (t := 123) (by kernel_rfl) (by kernel_rfl) rfl) rfl) rfl (Src.out (t := 18) (by kernel_rfl) S18 rfl)
    · exact sMv rfl rfl rfl hz rfl (Gd.yes rfl rfl (Src.dep (j := 3) (t := 123) (by kernel_rfl) (by kernel_rfl) rfl) rfl) rfl (Src.out (t := 20) (by kernel_rfl) S20 rfl)
    · exact sBin rfl rfl rfl hz rfl (Gd.yes rfl rfl (Src.dep (j := 3) (t := 123) (by kernel_rfl) (by kernel_rfl) rfl) rfl) rfl (Src.dep (j := 4) (t := 124) (by kernel_rfl) (by kernel_rfl) rfl) (Src.dep (j := 5) (t := 125) (by kernel_rfl) (by kernel_rfl) rfl) (fun w => by simp [go_sem])
    · exact sPickT rfl rfl rfl hz rfl (Gd.none_ rfl) rfl (Src.dep (j := 3) (t := 123) (by kernel_rfl) (by kernel_rfl) rfl) (Src.dep (j := 6) (t := 126) (by kernel_rfl) (by kernel_rfl) rfl)
    · exact sMv rfl rfl rfl hz rfl (Gd.none_ rfl) rfl (Src.dep (j := 7) (t := 127) (by kernel_rfl) (by kernel_rfl) rfl)
    · exact sLoad rfl rfl rfl hz rfl (Gd.yes rfl rfl (Src.dep (j := 8) (t := 128) (by kernel_rfl) (by kernel_rfl) rfl) rfl) rfl (Src.out (t := 11) (by kernel_rfl) S11 rfl) Cp5 rfl ld_q64
    · exact sCall rfl rfl rfl hz rfl (Gd.yes rfl rfl (Src.dep (j := 8) (t := 128) (by kernel_rfl) (by kernel_rfl) rfl) rfl) rfl Try.func27 (by kernel_rfl) (by kernel_rfl) fun a γ w U => (by show Calls _ _ #[a.eval (.tmp 129)] _ _; exact cq_floor (Src.at_ (Src.dep (j := 9) (t := 129) (by kernel_rfl) (by kernel_rfl) rfl) U) (by decide))
    · exact sLoad rfl rfl rfl hz rfl (Gd.yes rfl rfl (Src.dep (j := 8) (t := 128) (by kernel_rfl) (by kernel_rfl) rfl) rfl) rfl (Src.out (t := 12) (by kernel_rfl) S12 rfl) Cp6 rfl ld_q32
    · exact sCall rfl rfl rfl hz rfl (Gd.yes rfl rfl (Src.dep (j := 8) (t := 128) (by kernel_rfl) (by kernel_rfl) rfl) rfl) rfl Try.func35 (by kernel_rfl) (by kernel_rfl) fun a γ w U => (by show Calls _ _ #[a.eval (.tmp 131)] _ _; exact dq_floor (Src.at_ (Src.dep (j := 11) (t := 131) (by kernel_rfl) (by kernel_rfl) rfl) U) (by decide))
    · exact sCall rfl rfl rfl hz rfl (Gd.yes rfl rfl (Src.dep (j := 8) (t := 128) (by kernel_rfl) (by kernel_rfl) rfl) rfl) rfl Try.func34 (by kernel_rfl) (by kernel_rfl) fun a γ w U => (by show Calls _ _ #[a.eval (.tmp 130), a.eval (.tmp 132)] _ _; have hq : Calls _ _ #[a.eval (.tmp 130), a.eval (.tmp 132)] w (Ret _ w) := l_samenat (Src.at_ (Src.dep (j := 10) (t := 130) (by kernel_rfl) (by kernel_rfl) rfl) U) (Src.at_ (Src.dep (j := 12) (t := 132) (by kernel_rfl) (by kernel_rfl) rfl) U) (by decide) (by decide); simp only [decide_eq_true hc11] at hq; exact hq)
    · exact sPickT rfl rfl rfl hz rfl (Gd.none_ rfl) rfl (Src.dep (j := 8) (t := 128) (by kernel_rfl) (by kernel_rfl) rfl) (Src.dep (j := 13) (t := 133) (by kernel_rfl) (by kernel_rfl) rfl)
    · exact sMv rfl rfl rfl hz rfl (Gd.none_ rfl) rfl (Src.dep (j := 14) (t := 134) (by kernel_rfl) (by kernel_rfl) rfl)
    · exact sLoad rfl rfl rfl hz rfl (Gd.yes rfl rfl (Src.dep (j := 15) (t := 135) (by kernel_rfl) (by kernel_rfl) rfl) rfl) rfl (Src.out (t := 11) (by kernel_rfl) S11 rfl) Cp5 rfl ld_q64
    · exact sCall rfl rfl rfl hz rfl (Gd.yes rfl rfl (Src.dep (j := 15) (t := 135) (by kernel_rfl) (by kernel_rfl) rfl) rfl) rfl Try.func28 (by kernel_rfl) (by kernel_rfl) fun a γ w U => (by show Calls _ _ #[a.eval (.tmp 136)] _ _; exact cq_ceil (Src.at_ (Src.dep (j := 16) (t := 136) (by kernel_rfl) (by kernel_rfl) rfl) U) (by decide))
    · exact sLoad rfl rfl rfl hz rfl (Gd.yes rfl rfl (Src.dep (j := 15) (t := 135) (by kernel_rfl) (by kernel_rfl) rfl) rfl) rfl (Src.out (t := 12) (by kernel_rfl) S12 rfl) Cp6 rfl ld_q32
    · exact sCall rfl rfl rfl hz rfl (Gd.yes rfl rfl (Src.dep (j := 15) (t := 135) (by kernel_rfl) (by kernel_rfl) rfl) rfl) rfl Try.func36 (by kernel_rfl) (by kernel_rfl) fun a γ w U => (by show Calls _ _ #[a.eval (.tmp 138)] _ _; exact dq_ceil (Src.at_ (Src.dep (j := 18) (t := 138) (by kernel_rfl) (by kernel_rfl) rfl) U) (by decide))
    · exact sCall rfl rfl rfl hz rfl (Gd.yes rfl rfl (Src.dep (j := 15) (t := 135) (by kernel_rfl) (by kernel_rfl) rfl) rfl) rfl Try.func34 (by kernel_rfl) (by kernel_rfl) fun a γ w U => (by show Calls _ _ #[a.eval (.tmp 137), a.eval (.tmp 139)] _ _; exact l_samenat (Src.at_ (Src.dep (j := 17) (t := 137) (by kernel_rfl) (by kernel_rfl) rfl) U) (Src.at_ (Src.dep (j := 19) (t := 139) (by kernel_rfl) (by kernel_rfl) rfl) U) (by decide) (by decide))
    · exact sPickT rfl rfl rfl hz rfl (Gd.none_ rfl) rfl (Src.dep (j := 15) (t := 135) (by kernel_rfl) (by kernel_rfl) rfl) (Src.dep (j := 20) (t := 140) (by kernel_rfl) (by kernel_rfl) rfl)
    · exact sAs rfl rfl rfl hz rfl (Gd.none_ rfl) rfl (Src.dep (j := 21) (t := 141) (by kernel_rfl) (by kernel_rfl) rfl)
  intro a' γ' W' hz' hd' hC hk hh
  have tp5 := Cp5.lt
  clear Cp5
  have tp6 := Cp6.lt
  clear Cp6
  clear S6
  clear S11
  clear S12
  clear S17
  clear S18
  clear S19
  clear S20
  have S6 := gotV hz' 22 hh rfl rfl rfl rfl
  clear tp5 tp6
  replace HB := aft_call HB (RelC.below_nil hC)
  clear hC hk hh; replace hz := hz'; replace hd := hd'; clear hz' hd'
  refine wp_ret ?_
  refine ret_to (T := tV (.bool (decide ((mkF l k).ceil.toNat = (mkF l k).ceil.toNat)))) (ret1 (by kernel_rfl) S6 hd ⟨_, rfl, rfl, HB⟩) ?_
  exact tV_to (by rw [decide_eq_true rfl])
end Go.Proofs.Ythanbjbcpljcoaa.Rg

namespace Go.Proofs.Ythanbjbcpljcoaa.Rg

open Go.RowKit Go.ChangeShapes Go.WideShapes Go.ChangeAt Go.Deep

theorem u8_bv {l : List Int} (h : ∀ x ∈ l, (Lit.int .u8 x).wf = true) : bv (l.map Int.toNat) = l.map (.int .u8) ∧ ∀ d ∈ l.map Int.toNat, d < 256 := by
  have hx : ∀ x ∈ l, 0 ≤ x ∧ x ≤ 255 := fun x hx => by
    have := h x hx
    simp only [Lit.wf, decide_eq_true_eq, Bool.and_eq_true] at this
    have e1 : IntKind.u8.min = 0 := by decide
    have e2 : IntKind.u8.max = 255 := by decide
    rw [e1, e2] at this
    exact this
  refine ⟨?_, fun d hd => ?_⟩
  · unfold bv
    rw [List.map_map]
    refine List.map_congr_left fun x hm => ?_
    have := hx x hm
    simp
    omega
  · obtain ⟨x, hm, rfl⟩ := List.mem_map.1 hd
    have := hx x hm
    omega
theorem ret_out {P : Program} {f : FuncId} {args : Array Value} {w : World} {v : Value} (h : Calls P f args w (Ret (tV v) w)) : Calls P f args w fun e w' => e = .returned v ∧ Below w.heap.size w w' := by
  refine h.mono ?_
  rintro e w' ⟨u, rfl, rfl, hb⟩
  exact ⟨rfl, hb⟩
section

variable {H : Type} {enc : TypeId × Value → H} {P : Program} {w : World}
theorem bytes_in {t e : TypeId} {fuel : Nat} {cs : List Value} {x : DataW H × List MemPlace} (ht : P.underlying t = some (.slice e)) (he : P.underlying e = some (.int .u8)) (hc : P.cellsOf e = 1)
    (h : DataW.trod enc P w 0 (fun _ => true) true fuel t cs = some x) : ∃ A n c l, cs = [.slice A n c] ∧ BAt w A n c l ∧ n ≤ c ∧ n ≤ 9223372036854775807 := by
  rcases open_ints ht he hc h with ⟨hcs, _⟩ | ⟨a, len, cap, zs, hcs, _, hl, hm, hz, hx, hcell, hwz⟩
  · exact ⟨none, 0, 0, [], hcs, ⟨⟨by simp [bv], fun h => absurd h (by omega)⟩, by simp⟩, Nat.le_refl _, by omega⟩
  · simp only [if_true] at hz
    obtain ⟨e1, e2⟩ := u8_bv (l := zs.take len) (fun x hx => hwz x (List.mem_of_mem_take hx))
    refine ⟨some a, len, cap, (zs.take len).map Int.toNat, hcs, ⟨?_, e2⟩, hl, by unfold maxLen at hm; omega⟩
    rw [e1]
    refine ⟨by rw [List.length_map, List.length_take, hz]; omega, fun hn => ⟨a, rfl, ?_, fun j u hu => ?_⟩⟩
    · have := World.block_lt_of_cell? w _ (hcell 0 (by omega)); rwa [block_of_add] at this
    · have hj : j < len := by
        have := (List.getElem?_eq_some_iff.1 hu).1
        simp at this; omega
      rw [hcell j (by omega), ← hu]
      simp [List.getElem?_take, hj]
      rw [List.getElem?_eq_getElem (by omega)]; rfl
theorem cells22 : Try.prog.cellsOf 22 = 1 := by kernel_rfl
set_option maxRecDepth 100000 in
theorem in_f {v : Value} {d : DataW H} {p : List MemPlace} {r : Reach} {base : Nat} (hv : Value.okWide Try.prog w r base 24 v) (h : DataW.Trod enc Try.prog w 0 (fun _ => true) true 24 v d p) : ∃ l k, (tF l k).p v w := by
  obtain ⟨cs, rfl, hsz⟩ := okWide_struct Try.underlying24 hv
  have h2 : Try.prog.cellsOf 24 = 2 := by kernel_rfl
  rw [h2] at hsz
  obtain ⟨c0, c1, rfl⟩ : ∃ c0 c1, cs = #[c0, c1] := by
    obtain ⟨l⟩ := cs
    match l, hsz with
    | [a, b], _ => exact ⟨a, b, rfl⟩
  obtain ⟨fuel, h⟩ := h
  obtain ⟨xs, n, rfl, hx, hlen, hxl, hf⟩ := DataW.trod_struct Try.underlying24 h
  have f0 : DataW.trod enc Try.prog w 0 (fun _ => true) true n 22 (List.take (Try.prog.cellsOf 22) [c0, c1]) = xs[0]? := hf 0 _ rfl
  have f1 : DataW.trod enc Try.prog w 0 (fun _ => true) true n 22 (List.take (Try.prog.cellsOf 22) [c1]) = xs[1]? := hf 1 _ rfl
  rw [cells22] at f0 f1
  have hl : xs.length = 2 := hxl
  rw [List.getElem?_eq_getElem (by omega)] at f0 f1
  obtain ⟨A, m, c, l, e0, hB, h3, h4⟩ := bytes_in Try.underlying22 Try.underlying5 (by kernel_rfl) f0
  obtain ⟨A', m', c', l', e1, hB', h3', h4'⟩ := bytes_in Try.underlying22 Try.underlying5 (by kernel_rfl) f1
  simp [Value.cells] at e0 e1
  subst e0 e1
  exact ⟨l, l', A, m, c, A', m', c', rfl, hB, h3, h4, hB', h3', h4'⟩
end
theorem wf_hi {a : Int} (h : (Lit.int .i64 a).wf = true) : a < 9223372036854775808 := by
  simp only [Lit.wf, decide_eq_true_eq, Bool.and_eq_true] at h
  have e2 : IntKind.i64.max = 9223372036854775807 := by decide
  rw [e2] at h; omega
theorem ratForm_walk (v0 : Value) (l k : List Nat) (w : World) (h0 : (tF l k).p v0 w) : Calls Try.prog 4 #[v0] w fun e w' => e = .returned (.bool true) ∧ Below w.heap.size w w' := ret_out (ratForm_ret h0)
theorem ratMakes_walk (a1 a2 : Int) (v2 : Value) (l k : List Nat) (w : World) (ha : (Lit.int .i64 a1).wf = true) (hb : (Lit.int .i64 a2).wf = true) (h2 : (tF l k).p v2 w) : Calls Try.prog 5 #[.int .i64 a1, .int .i64 a2, v2] w fun e w' => e = .returned (.bool true) ∧ Below w.heap.size w w' := ret_out (ratMakes_ret h2 (wf_hi ha) (wf_hi hb))
end Go.Proofs.Ythanbjbcpljcoaa.Rg
