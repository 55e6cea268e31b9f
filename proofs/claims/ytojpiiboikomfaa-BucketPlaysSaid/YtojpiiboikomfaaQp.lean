/-
  Walks and plain laws, put together: OP OZ.
-/
import Derived.Test.YtojpiiboikomfaaQo
import Derived.Test.YtojpiiboikomfaaQj
import Derived.Test.YtojpiiboikomfaaXBC
set_option linter.unusedVariables false
set_option linter.unusedSimpArgs false
namespace Go.Proofs.Ytojpiiboikomfaa.Rg

open Go.RowKit

theorem nd_z8 : ∀ u ∈ (Value.agg #[.int .i64 0, .slice none 0 0, .slice none 0 0, .slice none 0 0, .slice none 0 0, .int .i64 0]).cells, notDig u := by
  have h := (tO_nd (nd_c nd_int (nd_c nd_r (nd_c nd_r (nd_c nd_int nd_nil)))) _ default (z_r8 default)).2
  exact h
theorem inc_b {ox oy : Operand} {id : TypeId} {n b : Int} (e : b = n + 1) (h0 : 0 ≤ n) (h : n < 1024) (w : World) : (do eqGuard .add id ox oy (.int .i64 n) (.int .i64 1); binOp .add id (.int .i64 n) (.int .i64 1) : Sem Value).run Try.prog w = .ok (.int .i64 b) w := by
  rw [e]; exact run_inc (by omega) (by omega) w
set_option maxRecDepth 10000 in
set_option maxHeartbeats 2000000 in
theorem bucketPlays_ret {l u n1 : Nat} {bn per t other b2 : Int} {As : Option Addr} {ns cs : Nat} {F : Nat → Int} {w : World} (hl : 1100 ≤ l) (hl2 : l ≤ 9000) (hu : u < 18446744073709551616) (hbn1 : -9223372036854775808 ≤ bn) (hbn2 : bn < 9223372036854775808) (hper1 : -9223372036854775808 ≤ per) (hper2 : per < 9223372036854775808) (ht1 : -9223372036854775808 ≤ t) (ht2 : t < 9223372036854775808) (hn1 : n1 < 1024) (hn1e : bits .and .i64 other 1023 = (n1 : Int)) (hb2 : b2 = (n1 : Int) + 1) (HSc : RI 3 As ns F w.heap.size w) (hF : ∀ j, -9223372036854775808 ≤ F j ∧ F j < 9223372036854775808) :
    Calls Try.prog 5 #[.int .i64 bn, .int .u64 (u : Int), .int .i64 per, .int .i64 t, .int .i64 other, .slice As ns cs] w (Ret (tV (.bool true)) w) := by
 refine enter Try.func5 rfl Try.ntmps5 (by simp) ?_
 intro a hz hd ha
 have S0 := ha 0 _ rfl
 have S1 := ha 1 _ rfl
 have S2 := ha 2 _ rfl
 have S3 := ha 3 _ rfl
 have S4 := ha 4 _ rfl
 have S5 := ha 5 _ rfl
 clear ha
 have HB : Below w.heap.size w w := Below.refl _ _
 have hb2r : 1 ≤ b2 ∧ b2 ≤ 1099511627776 := by omega
 refine wp_seq ?_
 refine region_text (M := []) (
  rT (tV (.bool false)) ::
  []) hz hd (by kernel_rfl) ?_ ?_
 refine ⟨?_, trivial⟩
 exact zAs hz kc
 intro a' γ' W' hz' hd' hC hk hh
 replace S0 := kp hk S0
 replace S1 := kp hk S1
 replace S2 := kp hk S2
 replace S3 := kp hk S3
 replace S4 := kp hk S4
 replace S5 := kp hk S5
 replace HSc := RI.aft HSc hC (by intro m hm; simp at hm)
 have S12 := gotV hz' 0 hh rfl rfl rfl rfl
 replace HB := aft_call HB (RelC.below_nil hC)
 clear hC hk hh; replace hz := hz'; replace hd := hd'; clear hz' hd'
 refine wp_seq ?_
 refine wp_seq ?_
 refine region_text (M := []) (
  rT (tV (.bool true)) ::
  rT (tV (.bool false)) ::
  []) hz hd (by kernel_rfl) ?_ ?_
 refine ⟨?_, ?_, trivial⟩
 exact zC0 hz Try.func12 (fun _ => l_told8)
 exact zNot hz (sd 0 rfl)
 intro a' γ' W' hz' hd' hC hk hh
 replace S0 := kp hk S0
 replace S1 := kp hk S1
 replace S2 := kp hk S2
 replace S3 := kp hk S3
 replace S4 := kp hk S4
 replace S5 := kp hk S5
 replace S12 := kp hk S12
 replace HSc := RI.aft HSc hC (by intro m hm; simp at hm)
 have S36 := gotV hz' 1 hh rfl rfl rfl rfl
 replace HB := aft_call HB (RelC.below_nil hC)
 clear hC hk hh; replace hz := hz'; replace hd := hd'; clear hz' hd'
 refine wp_cond_false S36.ev ?_
 refine wp_skip ?_
 refine wp_seq ?_
 by_cases hc1 : newE bn u per t = 0
 refine region_text (M := []) (
  rT (tV (.int .i64 bn)) ::
  rT (tV (.int .u64 (u : Int))) ::
  rT (tV (.float .f64 u)) ::
  rT (tV (.int .i64 per)) ::
  rT (tV (.int .i64 t)) ::
  rN 5 80 (tO [tV (.int .i64 t), tQ B64 ((l + 1) + 64 + 41) 0, tQ B64 42 (((bn : Int) : Rat)), tQ B64 ((l + 1) + 64) (divI (flQ u) per)] [1, 2, 2, 2]) (.int .i64 0) ::
  rN 5 80 (tO [tV (.int .i64 t), tQ B64 ((l + 1) + 64 + 41) 0, tQ B64 42 (((bn : Int) : Rat)), tQ B64 ((l + 1) + 64) (divI (flQ u) per)] [1, 2, 2, 2]) (.int .i64 0) ::
  rB 5 80 (tO [tV (.int .i64 t), tQ B64 ((l + 1) + 64 + 41) 0, tQ B64 42 (((bn : Int) : Rat)), tQ B64 ((l + 1) + 64) (divI (flQ u) per)] [1, 2, 2, 2]) none 0 ::
  rT (tV (.int .i64 0)) ::
  rB 5 80 (tO [tV (.int .i64 t), tQ B64 ((l + 1) + 64 + 41) 0, tQ B64 42 (((bn : Int) : Rat)), tQ B64 ((l + 1) + 64) (divI (flQ u) per)] [1, 2, 2, 2]) none 0 ::
  rT (tV (.int .i64 0)) ::
  []) hz hd (by kernel_rfl) ?_ ?_
 refine ⟨?_, ?_, ?_, ?_, ?_, ?_, ?_, ?_, ?_, ?_, ?_, trivial⟩
 exact zMv hz (sv S0)
 exact zMv hz (sv S1)
 exact zC1 hz Try.func10 (sd 1 rfl) (k1 (fun _ => c_float))
 exact zMv hz (sv S2)
 exact zMv hz (sv S3)
 exact zCN hz rfl Try.func9 (fun a γ w U => (by show Calls _ _ #[a.eval (.tmp 38), a.eval (.tmp 40), a.eval (.tmp 41), a.eval (.tmp 42)] _ _; rw [show a.eval (.tmp 38) = .int .i64 bn from Src.at_ (sd 0 rfl) U, show a.eval (.tmp 40) = .float .f64 u from Src.at_ (sd 2 rfl) U, show a.eval (.tmp 41) = .int .i64 per from Src.at_ (sd 3 rfl) U, show a.eval (.tmp 42) = .int .i64 t from Src.at_ (sd 4 rfl) U]; exact c_new_ok (l := (l + 1)) (by omega) (by omega) hu (by omega) hc1))
 exact zMvN 5 5 rfl rfl hz rfl ⟨_, rfl, rfl⟩
 exact zExP 5 6 rfl rfl hz rfl ⟨_, rfl, rfl⟩
 exact zExU 5 6 rfl hz rfl ⟨_, rfl, rfl⟩
 exact zPP 5 7 rfl rfl hz (.inr rfl) ⟨_, rfl, rfl⟩
 exact zAs hz (sd 8 rfl)
 intro a' γ' W' hz' hd' hC hk hh
 replace S0 := kp hk S0
 replace S1 := kp hk S1
 replace S2 := kp hk S2
 replace S3 := kp hk S3
 replace S4 := kp hk S4
 replace S5 := kp hk S5
 replace S12 := kp hk S12
 clear S36
 replace HSc := RI.aft HSc hC (by intro m hm; simp at hm)
 obtain ⟨p2, S13, Cp2, lp2, gp2⟩ := gotP hz' 9 hC hh rfl rfl rfl rfl rfl
 have S14 := gotV hz' 10 hh rfl rfl rfl rfl
 have bp2 : w.heap.size ≤ p2 := Nat.le_trans HB.size lp2
 clear lp2 gp2
 replace HB := aft_call HB (RelC.below_nil hC)
 clear hC hk hh; replace hz := hz'; replace hd := hd'; clear hz' hd'
 refine wp_seq ?_
 refine region_text (M := []) (
  rT (tV (.int .i64 bn)) ::
  rT (tV (.int .u64 (u : Int))) ::
  rT (tV (.int .i64 per)) ::
  rT (tV (.int .i64 t)) ::
  rT (tT [tO [tV (.int .i64 bn), tQ B32 (l + 65) (divI (flQ u) per), tQ B32 (l + 65 + 41) 0, tV (.int .i64 t)] [1, 2, 2, 1], tV (.int .i64 0)]) ::
  rT (tT [tO [tV (.int .i64 bn), tQ B32 (l + 65) (divI (flQ u) per), tQ B32 (l + 65 + 41) 0, tV (.int .i64 t)] [1, 2, 2, 1], tV (.int .i64 0)]) ::
  rT (tO [tV (.int .i64 bn), tQ B32 (l + 65) (divI (flQ u) per), tQ B32 (l + 65 + 41) 0, tV (.int .i64 t)] [1, 2, 2, 1]) ::
  rT (tV (.int .i64 0)) ::
  rVar 8 59 6 ::
  rB 8 59 (tO [tV (.int .i64 bn), tQ B32 (l + 65) (divI (flQ u) per), tQ B32 (l + 65 + 41) 0, tV (.int .i64 t)] [1, 2, 2, 1]) (some 8) 9 ::
  rT (tV (.int .i64 0)) ::
  []) hz hd (by kernel_rfl) ?_ ?_
 refine ⟨?_, ?_, ?_, ?_, ?_, ?_, ?_, ?_, ?_, ?_, ?_, trivial⟩
 exact zMv hz (sv S0)
 exact zMv hz (sv S1)
 exact zMv hz (sv S2)
 exact zMv hz (sv S3)
 exact sCall rfl rfl rfl hz rfl (Gd.none_ rfl) rfl Try.func24 (by kernel_rfl) (by kernel_rfl) fun a γ w U => (by show Calls _ _ #[a.eval (.tmp 47), a.eval (.tmp 48), a.eval (.tmp 49), a.eval (.tmp 50)] _ _; rw [show a.eval (.tmp 47) = .int .i64 bn from Src.at_ (sd 0 rfl) U, show a.eval (.tmp 48) = .int .u64 (u : Int) from Src.at_ (sd 1 rfl) U, show a.eval (.tmp 49) = .int .i64 per from Src.at_ (sd 2 rfl) U, show a.eval (.tmp 50) = .int .i64 t from Src.at_ (sd 3 rfl) U]; exact d_new_ok (l := l) (u := u) hl (by omega) hu (by omega) hc1)
 exact zMv hz (sd 4 rfl)
 exact zExt hz (sd 5 rfl)
 exact zExt hz (sd 5 rfl)
 exact zAl hz nd_z8 al_r8
 exact zSt (sd 6 rfl) (st_of (sto_r8 p2_q p2_q))
 exact zAs hz (sd 7 rfl)
 intro a' γ' W' hz' hd' hC hk hh
 have ep2 := Cp2.lt
 have tp2 := Cp2.lt
 replace Cp2 := kC hC Cp2
 clear S0
 clear S1
 clear S2
 clear S3
 replace S4 := kp hk S4
 replace S5 := kp hk S5
 replace S12 := kp hk S12
 replace S13 := kp hk S13
 replace S14 := kp hk S14
 replace HSc := RI.aft HSc hC (by intro m hm; simp at hm)
 obtain ⟨p3, S15, Cp3, lp3, gp3⟩ := gotB hz' 9 hC hh rfl rfl rfl rfl rfl rfl
 have S16 := gotV hz' 10 hh rfl rfl rfl rfl
 have n_p3_p2 : p3 ≠ p2 := by omega
 have n_p2_p3 : p2 ≠ p3 := by have := ep2; omega
 have bp3 : w.heap.size ≤ p3 := Nat.le_trans HB.size lp3
 clear lp3 gp3
 clear tp2
 clear ep2
 replace HB := aft_call HB (RelC.below_nil hC)
 clear hC hk hh; replace hz := hz'; replace hd := hd'; clear hz' hd'
 refine wp_seq ?_
 refine wp_seq ?_
 refine region_text (M := []) (
  rT (tV (.int .i64 0)) ::
  rT (tV (.int .i64 0)) ::
  rT (tV (.bool false)) ::
  rT (tV (.bool false)) ::
  rT (tV (.pointer (some ⟨p2, 0, none⟩))) ::
  rT (tV (.bool false)) ::
  rT (tV (.int .i64 0)) ::
  rT (tV (.bool false)) ::
  rT (tV (.bool false)) ::
  rT (tV (.bool false)) ::
  []) hz hd (by kernel_rfl) ?_ ?_
 refine ⟨?_, ?_, ?_, ?_, ?_, ?_, ?_, ?_, ?_, ?_, trivial⟩
 exact zMv hz (sv S14)
 exact zMv hz (sv S16)
 exact sBin rfl rfl rfl hz rfl (Gd.none_ rfl) rfl (sd 0 rfl) (sd 1 rfl) (fun w => by simp [go_sem])
 exact zMv hz (sd 2 rfl)
 exact zMv hz (sv S13) (g := gT 3 rfl)
 exact sBin rfl rfl rfl hz rfl (gT 3 rfl) rfl (sd 4 rfl) kc (fun w => by simp [go_sem])
 exact zMv hz (sv S16) (g := gT 3 rfl)
 exact sBin rfl rfl rfl hz rfl (gT 3 rfl) rfl (sd 6 rfl) kc (fun w => by simp [go_sem])
 exact sBin rfl rfl rfl hz rfl (gT 3 rfl) rfl (sd 5 rfl) (sd 7 rfl) (fun w => by kernel_rfl)
 exact zPF hz (sd 3 rfl) (sd 8 rfl)
 intro a' γ' W' hz' hd' hC hk hh
 have tp2 := Cp2.lt
 replace Cp2 := kC hC Cp2
 have tp3 := Cp3.lt
 replace Cp3 := kC hC Cp3
 replace S4 := kp hk S4
 replace S5 := kp hk S5
 replace S12 := kp hk S12
 replace S13 := kp hk S13
 clear S14
 replace S15 := kp hk S15
 clear S16
 replace HSc := RI.aft HSc hC (by intro m hm; simp at hm)
 have S63 := gotV hz' 9 hh rfl rfl rfl rfl
 clear tp2 tp3
 replace HB := aft_call HB (RelC.below_nil hC)
 clear hC hk hh; replace hz := hz'; replace hd := hd'; clear hz' hd'
 refine wp_cond_false S63.ev ?_
 refine wp_skip ?_
 refine wp_seq ?_
 have hc4 : newE b2 4602678819172646912 2 0 = 0 := newE_0 (by omega) (by omega) told_R (by decide) (by decide) (by decide) (by decide)
 refine region_text (M := []) (
  rT (tV (.int .i64 other)) ::
  rT (tV (.int .i64 (n1 : Int))) ::
  rT (tV (.int .i64 b2)) ::
  rN 3 80 (tO [tV (.int .i64 0), tQ B64 ((l + 1) + 64 + 41) 0, tQ B64 42 (((b2 : Int) : Rat)), tQ B64 ((l + 1) + 64) (divI (flQ 4602678819172646912) 2)] [1, 2, 2, 2]) (.int .i64 0) ::
  rN 3 80 (tO [tV (.int .i64 0), tQ B64 ((l + 1) + 64 + 41) 0, tQ B64 42 (((b2 : Int) : Rat)), tQ B64 ((l + 1) + 64) (divI (flQ 4602678819172646912) 2)] [1, 2, 2, 2]) (.int .i64 0) ::
  rB 3 80 (tO [tV (.int .i64 0), tQ B64 ((l + 1) + 64 + 41) 0, tQ B64 42 (((b2 : Int) : Rat)), tQ B64 ((l + 1) + 64) (divI (flQ 4602678819172646912) 2)] [1, 2, 2, 2]) none 0 ::
  rT (tV (.int .i64 0)) ::
  rB 3 80 (tO [tV (.int .i64 0), tQ B64 ((l + 1) + 64 + 41) 0, tQ B64 42 (((b2 : Int) : Rat)), tQ B64 ((l + 1) + 64) (divI (flQ 4602678819172646912) 2)] [1, 2, 2, 2]) none 0 ::
  rT (tV (.int .i64 0)) ::
  []) hz hd (by kernel_rfl) ?_ ?_
 refine ⟨?_, ?_, ?_, ?_, ?_, ?_, ?_, ?_, ?_, trivial⟩
 exact zMv hz (sv S4)
 exact sBin rfl rfl rfl hz rfl (Gd.none_ rfl) rfl (sd 0 rfl) kc (fun w => by simp [go_sem, hn1e])
 exact sBin rfl rfl rfl hz rfl (Gd.none_ rfl) rfl (sd 1 rfl) kc (fun w => inc_b hb2 (by omega) (by omega) w)
 exact zCN hz rfl Try.func9 (fun a γ w U => (by show Calls _ _ #[a.eval (.tmp 67), .float FloatKind.f64 4602678819172646912, .int .i64 2, .int .i64 0] _ _; rw [show a.eval (.tmp 67) = .int .i64 b2 from Src.at_ (sd 2 rfl) U]; exact c_new_ok (l := (l + 1)) (by omega) (by omega) (by decide) (by decide) hc4))
 exact zMvN 3 3 rfl rfl hz rfl ⟨_, rfl, rfl⟩
 exact zExP 3 4 rfl rfl hz rfl ⟨_, rfl, rfl⟩
 exact zExU 3 4 rfl hz rfl ⟨_, rfl, rfl⟩
 exact zPP 3 5 rfl rfl hz (.inr rfl) ⟨_, rfl, rfl⟩
 exact zAs hz (sd 6 rfl)
 intro a' γ' W' hz' hd' hC hk hh
 have ep2 := Cp2.lt
 have ep3 := Cp3.lt
 have tp2 := Cp2.lt
 replace Cp2 := kC hC Cp2
 have tp3 := Cp3.lt
 replace Cp3 := kC hC Cp3
 replace S4 := kp hk S4
 replace S5 := kp hk S5
 replace S12 := kp hk S12
 replace S13 := kp hk S13
 replace S15 := kp hk S15
 clear S63
 replace HSc := RI.aft HSc hC (by intro m hm; simp at hm)
 obtain ⟨p5, S17, Cp5, lp5, gp5⟩ := gotP hz' 7 hC hh rfl rfl rfl rfl rfl
 have n_p5_p2 : p5 ≠ p2 := by omega
 have n_p5_p3 : p5 ≠ p3 := by omega
 have n_p2_p5 : p2 ≠ p5 := by have := ep2; omega
 have n_p3_p5 : p3 ≠ p5 := by have := ep3; omega
 have bp5 : w.heap.size ≤ p5 := Nat.le_trans HB.size lp5
 clear lp5 gp5
 clear tp2 tp3
 clear ep2 ep3
 replace HB := aft_call HB (RelC.below_nil hC)
 clear hC hk hh; replace hz := hz'; replace hd := hd'; clear hz' hd'
 refine wp_seq ?_
 have hbn : 1 ≤ bn ∧ bn ≤ 1099511627776 := by have := newE_inv hc1; omega
 refine region_text (M := []) (
  rT (tV (.int .i64 other)) ::
  rT (tV (.int .i64 (n1 : Int))) ::
  rT (tV (.int .i64 b2)) ::
  rT (tV (.int .u64 (4602678819172646912 : Int))) ::
  rT (tT [tO [tV (.int .i64 b2), tQ B32 (l + 65) (divI (flQ 4602678819172646912) 2), tQ B32 (l + 65 + 41) 0, tV (.int .i64 0)] [1, 2, 2, 1], tV (.int .i64 0)]) ::
  rT (tT [tO [tV (.int .i64 b2), tQ B32 (l + 65) (divI (flQ 4602678819172646912) 2), tQ B32 (l + 65 + 41) 0, tV (.int .i64 0)] [1, 2, 2, 1], tV (.int .i64 0)]) ::
  rT (tO [tV (.int .i64 b2), tQ B32 (l + 65) (divI (flQ 4602678819172646912) 2), tQ B32 (l + 65 + 41) 0, tV (.int .i64 0)] [1, 2, 2, 1]) ::
  rT (tV (.int .i64 0)) ::
  rVar 8 59 6 ::
  rB 8 59 (tO [tV (.int .i64 b2), tQ B32 (l + 65) (divI (flQ 4602678819172646912) 2), tQ B32 (l + 65 + 41) 0, tV (.int .i64 0)] [1, 2, 2, 1]) (some 8) 9 ::
  rT (tV (.int .i64 0)) ::
  []) hz hd (by kernel_rfl) ?_ ?_
 refine ⟨?_, ?_, ?_, ?_, ?_, ?_, ?_, ?_, ?_, ?_, ?_, trivial⟩
 exact zMv hz (sv S4)
 exact sBin rfl rfl rfl hz rfl (Gd.none_ rfl) rfl (sd 0 rfl) kc (fun w => by simp [go_sem, hn1e])
 exact sBin rfl rfl rfl hz rfl (Gd.none_ rfl) rfl (sd 1 rfl) kc (fun w => inc_b hb2 (by omega) (by omega) w)
 exact zC1 hz Try.func25 (kc (v := .float FloatKind.f64 4602678819172646912)) (k1 (fun _ => c_bits))
 exact sCall rfl rfl rfl hz rfl (Gd.none_ rfl) rfl Try.func24 (by kernel_rfl) (by kernel_rfl) fun a γ w U => (by show Calls _ _ #[a.eval (.tmp 74), a.eval (.tmp 75), .int .i64 2, .int .i64 0] _ _; rw [show a.eval (.tmp 74) = .int .i64 b2 from Src.at_ (sd 2 rfl) U, show a.eval (.tmp 75) = .int .u64 (4602678819172646912 : Int) from Src.at_ (sd 3 rfl) U]; exact d_new_ok (l := l) (u := 4602678819172646912) hl (by omega) (by decide) (by decide) hc4)
 exact zMv hz (sd 4 rfl)
 exact zExt hz (sd 5 rfl)
 exact zExt hz (sd 5 rfl)
 exact zAl hz nd_z8 al_r8
 exact zSt (sd 6 rfl) (st_of (sto_r8 p2_q p2_q))
 exact zAs hz (sd 7 rfl)
 intro a' γ' W' hz' hd' hC hk hh
 have ep2 := Cp2.lt
 have ep3 := Cp3.lt
 have ep5 := Cp5.lt
 have tp2 := Cp2.lt
 replace Cp2 := kC hC Cp2
 have tp3 := Cp3.lt
 replace Cp3 := kC hC Cp3
 have tp5 := Cp5.lt
 replace Cp5 := kC hC Cp5
 clear S4
 replace S5 := kp hk S5
 replace S12 := kp hk S12
 replace S13 := kp hk S13
 replace S15 := kp hk S15
 replace S17 := kp hk S17
 replace HSc := RI.aft HSc hC (by intro m hm; simp at hm)
 obtain ⟨p6, S19, Cp6, lp6, gp6⟩ := gotB hz' 9 hC hh rfl rfl rfl rfl rfl rfl
 have n_p6_p2 : p6 ≠ p2 := by omega
 have n_p6_p3 : p6 ≠ p3 := by omega
 have n_p6_p5 : p6 ≠ p5 := by omega
 have n_p2_p6 : p2 ≠ p6 := by have := ep2; omega
 have n_p3_p6 : p3 ≠ p6 := by have := ep3; omega
 have n_p5_p6 : p5 ≠ p6 := by have := ep5; omega
 have bp6 : w.heap.size ≤ p6 := Nat.le_trans HB.size lp6
 clear lp6 gp6
 clear tp2 tp3 tp5
 clear ep2 ep3 ep5
 replace HB := aft_call HB (RelC.below_nil hC)
 clear hC hk hh; replace hz := hz'; replace hd := hd'; clear hz' hd'
 refine wp_seq ?_
 refine wp_seq ?_
 refine region_text (M := []) (
  rT (tV (.pointer (some ⟨p5, 0, none⟩))) ::
  rT (tV (.bool false)) ::
  []) hz hd (by kernel_rfl) ?_ ?_
 refine ⟨?_, ?_, trivial⟩
 exact zMv hz (sv S17)
 exact sBin rfl rfl rfl hz rfl (Gd.none_ rfl) rfl (sd 0 rfl) kc (fun w => by simp [go_sem])
 intro a' γ' W' hz' hd' hC hk hh
 have tp2 := Cp2.lt
 replace Cp2 := kC hC Cp2
 have tp3 := Cp3.lt
 replace Cp3 := kC hC Cp3
 have tp5 := Cp5.lt
 replace Cp5 := kC hC Cp5
 have tp6 := Cp6.lt
 replace Cp6 := kC hC Cp6
 replace S5 := kp hk S5
 replace S12 := kp hk S12
 replace S13 := kp hk S13
 replace S15 := kp hk S15
 replace S17 := kp hk S17
 replace S19 := kp hk S19
 replace HSc := RI.aft HSc hC (by intro m hm; simp at hm)
 have S80 := gotV hz' 1 hh rfl rfl rfl rfl
 clear tp2 tp3 tp5 tp6
 replace HB := aft_call HB (RelC.below_nil hC)
 clear hC hk hh; replace hz := hz'; replace hd := hd'; clear hz' hd'
 refine wp_cond_false S80.ev ?_
 refine wp_skip ?_
 refine wp_seq ?_
 refine wp_seq ?_
 refine region_text (M := []) (
  rT (tV (.int .i64 0)) ::
  []) hz hd (by kernel_rfl) ?_ ?_
 refine ⟨?_, trivial⟩
 exact zAs hz kc
 intro a' γ' W' hz' hd' hC hk hh
 have tp2 := Cp2.lt
 replace Cp2 := kC hC Cp2
 have tp3 := Cp3.lt
 replace Cp3 := kC hC Cp3
 have tp5 := Cp5.lt
 replace Cp5 := kC hC Cp5
 have tp6 := Cp6.lt
 replace Cp6 := kC hC Cp6
 replace S5 := kp hk S5
 replace S12 := kp hk S12
 replace S13 := kp hk S13
 replace S15 := kp hk S15
 replace S17 := kp hk S17
 replace S19 := kp hk S19
 clear S80
 replace HSc := RI.aft HSc hC (by intro m hm; simp at hm)
 have S21 := gotV hz' 0 hh rfl rfl rfl rfl
 clear tp2 tp3 tp5 tp6
 replace HB := aft_call HB (RelC.below_nil hC)
 clear hC hk hh; replace hz := hz'; replace hd := hd'; clear hz' hd'
 refine wp_block ?_
 refine wp_loop_ghost (fun k a W => ∃ (i : Nat) (t1 : Int) (h1 : Rat) (t2 : Int) (h2 : Rat), k = 200 - i ∧ a.tmps.size = 181 ∧ a.defers = [] ∧ Below w.heap.size w W ∧ Sl a 5 (.slice As ns cs) ∧ Sl a 12 (.bool false) ∧ Sl a 13 (.pointer (some ⟨p2, 0, none⟩)) ∧ Sl a 15 (.pointer (some ⟨p3, 0, none⟩)) ∧ Sl a 17 (.pointer (some ⟨p5, 0, none⟩)) ∧ Sl a 19 (.pointer (some ⟨p6, 0, none⟩)) ∧ Sl a 21 (.int .i64 (i : Int)) ∧ RI 3 As ns F w.heap.size W ∧ Cell 80 (tO [tV (.int .i64 t1), tQ B64 ((l + 1) + 64 + 41) h1, tQ B64 42 (((bn : Int) : Rat)), tQ B64 ((l + 1) + 64) (divI (flQ u) per)] [1, 2, 2, 2]) p2 W ∧ Cell 59 (tO [tV (.int .i64 bn), tQ B32 (l + 65) (divI (flQ u) per), tQ B32 (l + 65 + 41) h1, tV (.int .i64 t1)] [1, 2, 2, 1]) p3 W ∧ Cell 80 (tO [tV (.int .i64 t2), tQ B64 ((l + 1) + 64 + 41) h2, tQ B64 42 (((b2 : Int) : Rat)), tQ B64 ((l + 1) + 64) (divI (flQ 4602678819172646912) 2)] [1, 2, 2, 2]) p5 W ∧ Cell 59 (tO [tV (.int .i64 b2), tQ B32 (l + 65) (divI (flQ 4602678819172646912) 2), tQ B32 (l + 65 + 41) h2, tV (.int .i64 t2)] [1, 2, 2, 1]) p6 W ∧ BInv (l + 1 + 64) t1 h1 ((bn : Int) : Rat) (divI (flQ u) per) ∧ BInv (l + 1 + 64) t2 h2 ((b2 : Int) : Rat) (divI (flQ 4602678819172646912) 2) ∧ i ≤ 200) _ ⟨0, t, 0, 0, 0, rfl, hz, hd, HB, S5, S12, S13, S15, S17, S19, S21, HSc, Cp2, Cp3, Cp5, Cp6, (BInv.new (l := (l + 1)) (by omega) hc1), (BInv.new (l := (l + 1)) (by omega) hc4), (by omega)⟩ ?_
 clear S5 S12 S13 S15 S17 S19 S21 Cp2 Cp3 Cp5 Cp6 HSc hz hd HB
 rintro k a W ⟨i, t1, h1, t2, h2, rfl, hz, hd, HB, S5, S12, S13, S15, S17, S19, S21, HSc, Ca, Cw, Cc, Cv, I1, I2, hlt⟩
 refine wp_seq ?_
 refine wp_seq ?_
 by_cases hc7 : (i : Int) < (ns : Int)
 by_cases hc8 : (i : Int) < 200
 refine region_text (M := []) (
  rT (tV (.int .i64 (i : Int))) ::
  rT (tV (.slice As ns cs)) ::
  rT (tV (.int .i64 (ns : Int))) ::
  rT (tV (.bool true)) ::
  rT (tV (.bool true)) ::
  rT (tV (.int .i64 (i : Int))) ::
  rT (tV (.bool true)) ::
  rT (tV (.bool true)) ::
  rT (tV (.bool true)) ::
  rT (tV (.pointer (some ⟨p2, 0, none⟩))) ::
  rT (tV (.bool true)) ::
  rT (tV (.bool true)) ::
  []) hz hd (by kernel_rfl) ?_ ?_
 refine ⟨?_, ?_, ?_, ?_, ?_, ?_, ?_, ?_, ?_, ?_, ?_, ?_, trivial⟩
 exact zMv hz (sv S21)
 exact zMv hz (sv S5)
 exact sLenK hz rfl (sd 1 rfl) (fun w => by simp [go_sem])
 exact sBin rfl rfl rfl hz rfl (Gd.none_ rfl) rfl (sd 0 rfl) (sd 2 rfl) (fun w => run_t (P := (i : Int) < (ns : Int)) ((fun w => run_lss) w) hc7)
 exact zMv hz (sd 3 rfl)
 exact zMv hz (sv S21) (g := gT 4 rfl)
 exact sBin rfl rfl rfl hz rfl (gT 4 rfl) rfl (sd 5 rfl) kc (fun w => run_t (P := (i : Int) < 200) ((fun w => run_lss) w) hc8)
 exact zPT hz (sd 4 rfl) (sd 6 rfl)
 exact zMv hz (sd 7 rfl)
 exact zMv hz (sv S13) (g := gT 8 rfl)
 exact sBin rfl rfl rfl hz rfl (gT 8 rfl) rfl (sd 9 rfl) kc (fun w => by simp [go_sem])
 exact zPT hz (sd 8 rfl) (sd 10 rfl)
 intro a' γ' W' hz' hd' hC hk hh
 have tp2 := Ca.lt
 replace Ca := kC hC Ca
 have tp3 := Cw.lt
 replace Cw := kC hC Cw
 have tp5 := Cc.lt
 replace Cc := kC hC Cc
 have tp6 := Cv.lt
 replace Cv := kC hC Cv
 replace S5 := kp hk S5
 replace S12 := kp hk S12
 replace S13 := kp hk S13
 replace S15 := kp hk S15
 replace S17 := kp hk S17
 replace S19 := kp hk S19
 replace S21 := kp hk S21
 replace HSc := RI.aft HSc hC (by intro m hm; simp at hm)
 have S92 := gotV hz' 11 hh rfl rfl rfl rfl
 clear tp2 tp3 tp5 tp6
 replace HB := aft_call HB (RelC.below_nil hC)
 clear hC hk hh; replace hz := hz'; replace hd := hd'; clear hz' hd'
 refine wp_cond_true S92.ev ?_
 refine wp_skip ?_
 refine wp_seq ?_
 refine wp_block ?_
 refine wp_seq ?_
 obtain ⟨gs, os, hA, hgs, hcs⟩ := HSc i (by omega)
 have hF0 := hF (i * 3)
 have hF1 := hF (i * 3 + 1)
 have hF2 := hF (i * 3 + 2)
 refine region_text (M := []) (
  rT (tV (.slice As ns cs)) ::
  rT (tV (.int .i64 (i : Int))) ::
  rT (tV (.pointer (some ⟨gs, os + i * 3, none⟩))) ::
  rT (tO [tV (.int .i64 (F (i * 3))), tV (.int .i64 (F (i * 3 + 1))), tV (.int .i64 (F (i * 3 + 2)))] [1, 1, 1]) ::
  rVar 4 42 3 ::
  rB 4 42 (tO [tV (.int .i64 (F (i * 3))), tV (.int .i64 (F (i * 3 + 1))), tV (.int .i64 (F (i * 3 + 2)))] [1, 1, 1]) (some 4) 5 ::
  []) hz hd (by kernel_rfl) ?_ ?_
 refine ⟨?_, ?_, ?_, ?_, ?_, ?_, trivial⟩
 exact zMv hz (sv S5)
 exact zMv hz (sv S21)
 exact zIxV hz rfl (sd 0 rfl) (sd 1 rfl) (ix_st hA (by omega))
 exact zLdV hz rfl (sd 2 rfl) (fun γ w hC => ld_s3 (fun f hf => cell_oaft (hcs f hf) hC hgs (by intro m hm; simp at hm)))
 exact zAl hz nd_s3 al_s3
 exact zSt (sd 3 rfl) sto_s3
 intro a' γ' W' hz' hd' hC hk hh
 have tp2 := Ca.lt
 replace Ca := kC hC Ca
 have tp3 := Cw.lt
 replace Cw := kC hC Cw
 have tp5 := Cc.lt
 replace Cc := kC hC Cc
 have tp6 := Cv.lt
 replace Cv := kC hC Cv
 replace S5 := kp hk S5
 replace S12 := kp hk S12
 replace S13 := kp hk S13
 replace S15 := kp hk S15
 replace S17 := kp hk S17
 replace S19 := kp hk S19
 replace S21 := kp hk S21
 replace S92 := kp hk S92
 replace HSc := RI.aft HSc hC (by intro m hm; simp at hm)
 obtain ⟨p9, S22, Cp9, lp9, gp9⟩ := gotB hz' 5 hC hh rfl rfl rfl rfl rfl rfl
 have n_p9_p2 : p9 ≠ p2 := by omega
 have n_p9_p3 : p9 ≠ p3 := by omega
 have n_p9_p5 : p9 ≠ p5 := by omega
 have n_p9_p6 : p9 ≠ p6 := by omega
 clear lp9 gp9
 clear tp2 tp3 tp5 tp6
 replace HB := aft_call HB (RelC.below_nil hC)
 clear hC hk hh; replace hz := hz'; replace hd := hd'; clear hz' hd'
 refine wp_seq ?_
 refine region_text (M := []) (
  rT (tV (.bool true)) ::
  []) hz hd (by kernel_rfl) ?_ ?_
 refine ⟨?_, trivial⟩
 exact zAs hz kc
 intro a' γ' W' hz' hd' hC hk hh
 have tp2 := Ca.lt
 replace Ca := kC hC Ca
 have tp3 := Cw.lt
 replace Cw := kC hC Cw
 have tp5 := Cc.lt
 replace Cc := kC hC Cc
 have tp6 := Cv.lt
 replace Cv := kC hC Cv
 replace Cp9 := kC hC Cp9
 replace S5 := kp hk S5
 replace S12 := kp hk S12
 replace S13 := kp hk S13
 replace S15 := kp hk S15
 replace S17 := kp hk S17
 replace S19 := kp hk S19
 replace S21 := kp hk S21
 replace S92 := kp hk S92
 replace S22 := kp hk S22
 replace HSc := RI.aft HSc hC (by intro m hm; simp at hm)
 have S23 := gotV hz' 0 hh rfl rfl rfl rfl
 clear tp2 tp3 tp5 tp6
 replace HB := aft_call HB (RelC.below_nil hC)
 clear hC hk hh; replace hz := hz'; replace hd := hd'; clear hz' hd'
 refine wp_seq ?_
 refine wp_seq ?_
 refine region_text (M := []) (
  rT (tV (.pointer (some ⟨p9, 0, none⟩))) ::
  rT (tV (.int .i64 (F (i * 3)))) ::
  []) hz hd (by kernel_rfl) ?_ ?_
 refine ⟨?_, ?_, trivial⟩
 exact zFAo hz rfl rfl (sv S22) (fun w => by simp [go_sem])
 exact zLdO 0 hz (sd 0 rfl) (cl0 Cp9) ldo_int
 intro a' γ' W' hz' hd' hC hk hh
 have tp2 := Ca.lt
 replace Ca := kC hC Ca
 have tp3 := Cw.lt
 replace Cw := kC hC Cw
 have tp5 := Cc.lt
 replace Cc := kC hC Cc
 have tp6 := Cv.lt
 replace Cv := kC hC Cv
 replace Cp9 := kC hC Cp9
 replace S5 := kp hk S5
 replace S12 := kp hk S12
 replace S13 := kp hk S13
 replace S15 := kp hk S15
 replace S17 := kp hk S17
 replace S19 := kp hk S19
 replace S21 := kp hk S21
 replace S92 := kp hk S92
 replace S22 := kp hk S22
 replace S23 := kp hk S23
 replace HSc := RI.aft HSc hC (by intro m hm; simp at hm)
 have S100 := gotV hz' 1 hh rfl rfl rfl rfl
 clear tp2 tp3 tp5 tp6
 replace HB := aft_call HB (RelC.below_nil hC)
 clear hC hk hh; replace hz := hz'; replace hd := hd'; clear hz' hd'
 refine wp_block ?_
 refine wp_seq ?_
 refine region_text (M := []) (
  rT (tV (.bool (decide (F (i * 3) = 0)))) ::
  rT (tV (.bool (decide (F (i * 3) = 0)))) ::
  []) hz hd (by kernel_rfl) ?_ ?_
 refine ⟨?_, ?_, trivial⟩
 exact sBin rfl rfl rfl hz rfl (Gd.none_ rfl) rfl (sv S100) kc (fun w => run_eql)
 exact zAs hz (sd 0 rfl)
 intro a' γ' W' hz' hd' hC hk hh
 have tp2 := Ca.lt
 replace Ca := kC hC Ca
 have tp3 := Cw.lt
 replace Cw := kC hC Cw
 have tp5 := Cc.lt
 replace Cc := kC hC Cc
 have tp6 := Cv.lt
 replace Cv := kC hC Cv
 replace Cp9 := kC hC Cp9
 replace S5 := kp hk S5
 replace S12 := kp hk S12
 replace S13 := kp hk S13
 replace S15 := kp hk S15
 replace S17 := kp hk S17
 replace S19 := kp hk S19
 replace S21 := kp hk S21
 replace S92 := kp hk S92
 replace S22 := kp hk S22
 replace S23 := kp hk S23
 replace S100 := kp hk S100
 replace HSc := RI.aft HSc hC (by intro m hm; simp at hm)
 have S120 := gotV hz' 1 hh rfl rfl rfl rfl
 clear tp2 tp3 tp5 tp6
 replace HB := aft_call HB (RelC.below_nil hC)
 clear hC hk hh; replace hz := hz'; replace hd := hd'; clear hz' hd'
 by_cases hc10 : F (i * 3) = 0
 rw [decide_eq_true hc10] at S120
 refine wp_cond_true S120.ev ?_
 refine wp_seq ?_
 refine region_text (M := [p2]) (
  rT (tV (.pointer (some ⟨p2, 0, none⟩))) ::
  rT (tV (.pointer (some ⟨p9, 1, none⟩))) ::
  rT (tV (.int .i64 (F (i * 3 + 1)))) ::
  rCM 0 (tQ B64 ((l + 1) + 64 + 41) (atH t1 h1 (((bn : Int) : Rat)) (divI (flQ u) per) (F (i * 3 + 1)))) 80 (tO [tV (.int .i64 (TT t1 (F (i * 3 + 1)))), tQ B64 ((l + 1) + 64 + 41) (atH t1 h1 (((bn : Int) : Rat)) (divI (flQ u) per) (F (i * 3 + 1))), tQ B64 42 (((bn : Int) : Rat)), tQ B64 ((l + 1) + 64) (divI (flQ u) per)] [1, 2, 2, 2]) p2 ::
  rVar 4 55 2 ::
  rB 4 55 (tQ B64 ((l + 1) + 64 + 41) (atH t1 h1 (((bn : Int) : Rat)) (divI (flQ u) per) (F (i * 3 + 1)))) (some 4) 5 ::
  []) hz hd (by kernel_rfl) ?_ ?_
 refine ⟨?_, ?_, ?_, ?_, ?_, ?_, trivial⟩
 exact zMv hz (sv S13)
 exact zFAo hz rfl rfl (sv S22) (fun w => by simp [go_sem])
 exact zLdO 1 hz (sd 1 rfl) (cl0 Cp9 (by simp [tagOf, n_p9_p2])) ldo_int
 exact zCM (k := 0) (p := p2) (sid := 80) (T1 := tO [tV (.int .i64 t1), tQ B64 ((l + 1) + 64 + 41) h1, tQ B64 42 (((bn : Int) : Rat)), tQ B64 ((l + 1) + 64) (divI (flQ u) per)] [1, 2, 2, 2]) (T := tO [tV (.int .i64 (TT t1 (F (i * 3 + 1)))), tQ B64 ((l + 1) + 64 + 41) (atH t1 h1 (((bn : Int) : Rat)) (divI (flQ u) per) (F (i * 3 + 1))), tQ B64 42 (((bn : Int) : Rat)), tQ B64 ((l + 1) + 64) (divI (flQ u) per)] [1, 2, 2, 2]) (T0 := tQ B64 ((l + 1) + 64 + 41) (atH t1 h1 (((bn : Int) : Rat)) (divI (flQ u) per) (F (i * 3 + 1)))) hz rfl Try.func23 (by simp [tagOf]) Ca.lt (clM (k := 0) Ca (by simp [tagOf])) (tO_nd (nd_c nd_int (nd_c nd_q (nd_c nd_q (nd_c nd_q nd_nil))))) (tO_nd (nd_c nd_int (nd_c nd_q (nd_c nd_q (nd_c nd_q nd_nil))))) (fun a γ w U hcell => (by show Calls _ _ #[a.eval (.tmp 122), a.eval (.tmp 124)] _ _; rw [show a.eval (.tmp 122) = .pointer (some ⟨p2, 0, none⟩) from Src.at_ (sd 0 rfl) U, show a.eval (.tmp 124) = .int .i64 (F (i * 3 + 1)) from Src.at_ (sd 2 rfl) U]; exact c_at (n := (F (i * 3 + 1))) hcell I1 (by omega)))
 exact zAl hz nd_rat al_r64
 exact zSt (sdM 3 rfl) st_q64
 intro a' γ' W' hz' hd' hC hk hh
 have tp2 := Ca.lt
 replace Ca := gotM (T := tO [tV (.int .i64 (TT t1 (F (i * 3 + 1)))), tQ B64 ((l + 1) + 64 + 41) (atH t1 h1 (((bn : Int) : Rat)) (divI (flQ u) per) (F (i * 3 + 1))), tQ B64 42 (((bn : Int) : Rat)), tQ B64 ((l + 1) + 64) (divI (flQ u) per)] [1, 2, 2, 2]) (T0 := tQ B64 ((l + 1) + 64 + 41) (atH t1 h1 (((bn : Int) : Rat)) (divI (flQ u) per) (F (i * 3 + 1)))) (sid := 80) (k := 0) (p := p2) hz' 3 hh rfl rfl
 have tp3 := Cw.lt
 replace Cw := kC hC Cw (by simp [tagOf, n_p3_p2])
 have tp5 := Cc.lt
 replace Cc := kC hC Cc (by simp [tagOf, n_p5_p2])
 have tp6 := Cv.lt
 replace Cv := kC hC Cv (by simp [tagOf, n_p6_p2])
 replace Cp9 := kC hC Cp9 (by simp [tagOf, n_p9_p2])
 replace S5 := kp hk S5
 replace S12 := kp hk S12
 replace S13 := kp hk S13
 replace S15 := kp hk S15
 replace S17 := kp hk S17
 replace S19 := kp hk S19
 replace S21 := kp hk S21
 replace S92 := kp hk S92
 replace S22 := kp hk S22
 replace S23 := kp hk S23
 replace S100 := kp hk S100
 replace S120 := kp hk S120
 replace HSc := RI.aft HSc hC (by intro m hm; simp at hm; rcases hm with rfl <;> assumption)
 obtain ⟨p11, S24, Cp11, lp11, gp11⟩ := gotB hz' 5 hC hh rfl rfl rfl rfl rfl rfl
 have n_p11_p2 : p11 ≠ p2 := by omega
 have n_p11_p3 : p11 ≠ p3 := by omega
 have n_p11_p5 : p11 ≠ p5 := by omega
 have n_p11_p6 : p11 ≠ p6 := by omega
 clear lp11 gp11
 clear tp2 tp3 tp5 tp6
 replace HB := RelC.aftM HB hC (by intro m hm; simp at hm; rcases hm with rfl <;> assumption)
 clear hC hk hh; replace hz := hz'; replace hd := hd'; clear hz' hd'
 refine wp_seq ?_
 refine region_text (M := [p3]) (
  rT (tO [tV (.int .i64 bn), tQ B32 (l + 65) (divI (flQ u) per), tQ B32 (l + 65 + 41) h1, tV (.int .i64 t1)] [1, 2, 2, 1]) ::
  rT (tV (.pointer (some ⟨p9, 1, none⟩))) ::
  rT (tV (.int .i64 (F (i * 3 + 1)))) ::
  rT (tO [tV (.int .i64 bn), tQ B32 (l + 65) (divI (flQ u) per), tQ B32 (l + 65 + 41) (atH t1 h1 (((bn : Int) : Rat)) (divI (flQ u) per) (F (i * 3 + 1))), tV (.int .i64 (TT t1 (F (i * 3 + 1))))] [1, 2, 2, 1]) ::
  rE 0 59 (tO [tV (.int .i64 bn), tQ B32 (l + 65) (divI (flQ u) per), tQ B32 (l + 65 + 41) (atH t1 h1 (((bn : Int) : Rat)) (divI (flQ u) per) (F (i * 3 + 1))), tV (.int .i64 (TT t1 (F (i * 3 + 1))))] [1, 2, 2, 1]) p3 ::
  []) hz hd (by kernel_rfl) ?_ ?_
 refine ⟨?_, ?_, ?_, ?_, ?_, trivial⟩
 exact zLdW hz (sv S15) (clM (k := 0) Cw (by simp [tagOf])) (ldo_r8 p2_q p2_q)
 exact zFAo hz rfl rfl (sv S22) (fun w => by simp [go_sem])
 exact zLdO 1 hz (sd 1 rfl) (cl0 Cp9 (by simp [tagOf, n_p9_p3])) ldo_int
 exact zC2 hz Try.func26 (sd 0 rfl) (sd 2 rfl) (k01 (fun _ _ h0 => d_at (l := l + 65) (bn := bn) (n := (F (i * 3 + 1))) h0 I1 (by omega) hbn (by omega)))
 exact zSE rfl (sv S15) (by simp [tagOf]) (Cw.var (tO_nd (nd_c nd_int (nd_c nd_q (nd_c nd_q (nd_c nd_int nd_nil)))))) (sd 3 rfl) (st_of (sto_r8 p2_q p2_q))
 intro a' γ' W' hz' hd' hC hk hh
 have tp2 := Ca.lt
 replace Ca := kC hC Ca (by simp [tagOf, n_p2_p3])
 replace Cw := gotE (T := tO [tV (.int .i64 bn), tQ B32 (l + 65) (divI (flQ u) per), tQ B32 (l + 65 + 41) (atH t1 h1 (((bn : Int) : Rat)) (divI (flQ u) per) (F (i * 3 + 1))), tV (.int .i64 (TT t1 (F (i * 3 + 1))))] [1, 2, 2, 1]) (id := 59) (p := p3) 4 hh rfl rfl
 have tp5 := Cc.lt
 replace Cc := kC hC Cc (by simp [tagOf, n_p5_p3])
 have tp6 := Cv.lt
 replace Cv := kC hC Cv (by simp [tagOf, n_p6_p3])
 replace Cp9 := kC hC Cp9 (by simp [tagOf, n_p9_p3])
 replace Cp11 := kC hC Cp11 (by simp [tagOf, n_p11_p3])
 replace S5 := kp hk S5
 replace S12 := kp hk S12
 replace S13 := kp hk S13
 replace S15 := kp hk S15
 replace S17 := kp hk S17
 replace S19 := kp hk S19
 replace S21 := kp hk S21
 replace S92 := kp hk S92
 replace S22 := kp hk S22
 replace S23 := kp hk S23
 replace S100 := kp hk S100
 replace S120 := kp hk S120
 replace S24 := kp hk S24
 replace HSc := RI.aft HSc hC (by intro m hm; simp at hm; rcases hm with rfl <;> assumption)
 clear tp2 tp5 tp6
 replace HB := RelC.aftM HB hC (by intro m hm; simp at hm; rcases hm with rfl <;> assumption)
 clear hC hk hh; replace hz := hz'; replace hd := hd'; clear hz' hd'
 refine region_text (M := []) (
  rT (tQ B64 ((l + 1) + 64 + 41) (atH t1 h1 (((bn : Int) : Rat)) (divI (flQ u) per) (F (i * 3 + 1)))) ::
  rT (tV (.pointer (some ⟨p3, 3, none⟩))) ::
  rT (tQ B32 (l + 65 + 41) (atH t1 h1 (((bn : Int) : Rat)) (divI (flQ u) per) (F (i * 3 + 1)))) ::
  rT (tV (.bool (decide (atH t1 h1 (((bn : Int) : Rat)) (divI (flQ u) per) (F (i * 3 + 1)) = atH t1 h1 (((bn : Int) : Rat)) (divI (flQ u) per) (F (i * 3 + 1)))))) ::
  rT (tV (.bool (decide (atH t1 h1 (((bn : Int) : Rat)) (divI (flQ u) per) (F (i * 3 + 1)) = atH t1 h1 (((bn : Int) : Rat)) (divI (flQ u) per) (F (i * 3 + 1)))))) ::
  []) hz hd (by kernel_rfl) ?_ ?_
 refine ⟨?_, ?_, ?_, ?_, ?_, trivial⟩
 exact zLd hz (sv S24) Cp11 ld_q64
 exact zFAo hz rfl rfl (sv S15) (fun w => by simp [go_sem])
 exact zLdO 2 hz (sd 1 rfl) (cl0 Cw) ldo_q32
 exact zC2 hz Try.func22 (sd 0 rfl) (sd 2 rfl) (fun _ _ _ h0 h1 => l_same h0 h1 (by omega) (by omega))
 exact zAs hz (sd 3 rfl)
 intro a' γ' W' hz' hd' hC hk hh
 have tp2 := Ca.lt
 replace Ca := kC hC Ca
 have tp3 := Cw.lt
 replace Cw := kC hC Cw
 have tp5 := Cc.lt
 replace Cc := kC hC Cc
 have tp6 := Cv.lt
 replace Cv := kC hC Cv
 replace Cp9 := kC hC Cp9
 replace Cp11 := kC hC Cp11
 replace S5 := kp hk S5
 replace S12 := kp hk S12
 replace S13 := kp hk S13
 replace S15 := kp hk S15
 replace S17 := kp hk S17
 replace S19 := kp hk S19
 replace S21 := kp hk S21
 replace S92 := kp hk S92
 replace S22 := kp hk S22
 clear S23
 replace S100 := kp hk S100
 replace S120 := kp hk S120
 replace S24 := kp hk S24
 replace HSc := RI.aft HSc hC (by intro m hm; simp at hm)
 have S23 := gotV hz' 4 hh rfl rfl rfl rfl
 clear tp2 tp3 tp5 tp6
 replace HB := aft_call HB (RelC.below_nil hC)
 clear hC hk hh; replace hz := hz'; replace hd := hd'; clear hz' hd'
 refine wp_seq ?_
 have hc12 : atH t1 h1 (((bn : Int) : Rat)) (divI (flQ u) per) (F (i * 3 + 1)) = atH t1 h1 (((bn : Int) : Rat)) (divI (flQ u) per) (F (i * 3 + 1)) := rfl
 rw [decide_eq_true hc12] at S23
 refine region_text (M := []) (
  rT (tV (.bool true)) ::
  rT (tV (.bool false)) ::
  []) hz hd (by kernel_rfl) ?_ ?_
 refine ⟨?_, ?_, trivial⟩
 exact zMv hz (sv S23)
 exact zNot hz (sd 0 rfl)
 intro a' γ' W' hz' hd' hC hk hh
 have tp2 := Ca.lt
 replace Ca := kC hC Ca
 have tp3 := Cw.lt
 replace Cw := kC hC Cw
 have tp5 := Cc.lt
 replace Cc := kC hC Cc
 have tp6 := Cv.lt
 replace Cv := kC hC Cv
 replace Cp9 := kC hC Cp9
 replace Cp11 := kC hC Cp11
 replace S5 := kp hk S5
 replace S12 := kp hk S12
 replace S13 := kp hk S13
 replace S15 := kp hk S15
 replace S17 := kp hk S17
 replace S19 := kp hk S19
 replace S21 := kp hk S21
 replace S92 := kp hk S92
 replace S22 := kp hk S22
 replace S100 := kp hk S100
 replace S120 := kp hk S120
 replace S24 := kp hk S24
 replace S23 := kp hk S23
 replace HSc := RI.aft HSc hC (by intro m hm; simp at hm)
 have S180 := gotV hz' 1 hh rfl rfl rfl rfl
 clear tp2 tp3 tp5 tp6
 replace HB := aft_call HB (RelC.below_nil hC)
 clear hC hk hh; replace hz := hz'; replace hd := hd'; clear hz' hd'
 refine wp_cond_false S180.ev ?_
 refine wp_skip ?_
 refine region_text (M := []) (
  rT (tV (.int .i64 (i : Int))) ::
  rT (tV (.int .i64 ((i + 1 : Nat) : Int))) ::
  rT (tV (.int .i64 ((i + 1 : Nat) : Int))) ::
  []) hz hd (by kernel_rfl) ?_ ?_
 refine ⟨?_, ?_, ?_, trivial⟩
 exact zMv hz (sv S21)
 exact sBin rfl rfl rfl hz rfl (Gd.none_ rfl) rfl (sd 0 rfl) kc (fun w => by simp [go_sem, IntKind.wrap_i64]; omega)
 exact zAs hz (sd 1 rfl)
 intro a' γ' W' hz' hd' hC hk hh
 have tp2 := Ca.lt
 replace Ca := kC hC Ca
 have tp3 := Cw.lt
 replace Cw := kC hC Cw
 have tp5 := Cc.lt
 replace Cc := kC hC Cc
 have tp6 := Cv.lt
 replace Cv := kC hC Cv
 replace Cp9 := kC hC Cp9
 replace Cp11 := kC hC Cp11
 replace S5 := kp hk S5
 replace S12 := kp hk S12
 replace S13 := kp hk S13
 replace S15 := kp hk S15
 replace S17 := kp hk S17
 replace S19 := kp hk S19
 clear S21
 replace S92 := kp hk S92
 replace S22 := kp hk S22
 replace S100 := kp hk S100
 replace S120 := kp hk S120
 replace S24 := kp hk S24
 replace S23 := kp hk S23
 replace S180 := kp hk S180
 replace HSc := RI.aft HSc hC (by intro m hm; simp at hm)
 have S21 := gotV hz' 2 hh rfl rfl rfl rfl
 clear tp2 tp3 tp5 tp6
 replace HB := aft_call HB (RelC.below_nil hC)
 clear hC hk hh; replace hz := hz'; replace hd := hd'; clear hz' hd'
 show ∃ n', n' < _ ∧ _
 refine ⟨_, ?_, i + 1, (TT t1 (F (i * 3 + 1))), atH t1 h1 (((bn : Int) : Rat)) (divI (flQ u) per) (F (i * 3 + 1)), t2, h2, rfl, hz, hd, HB, S5, S12, S13, S15, S17, S19, S21, HSc, Ca, Cw, Cc, Cv, (BInv.at_ I1 (F (i * 3 + 1))), I2, (by omega)⟩
 omega
 rw [decide_eq_false hc10] at S120
 refine wp_cond_false S120.ev ?_
 refine wp_seq ?_
 refine region_text (M := []) (
  rT (tV (.bool (decide (F (i * 3) = 1)))) ::
  rT (tV (.bool (decide (F (i * 3) = 1)))) ::
  []) hz hd (by kernel_rfl) ?_ ?_
 refine ⟨?_, ?_, trivial⟩
 exact sBin rfl rfl rfl hz rfl (Gd.none_ rfl) rfl (sv S100) kc (fun w => run_eql)
 exact zAs hz (sd 0 rfl)
 intro a' γ' W' hz' hd' hC hk hh
 have tp2 := Ca.lt
 replace Ca := kC hC Ca
 have tp3 := Cw.lt
 replace Cw := kC hC Cw
 have tp5 := Cc.lt
 replace Cc := kC hC Cc
 have tp6 := Cv.lt
 replace Cv := kC hC Cv
 replace Cp9 := kC hC Cp9
 replace S5 := kp hk S5
 replace S12 := kp hk S12
 replace S13 := kp hk S13
 replace S15 := kp hk S15
 replace S17 := kp hk S17
 replace S19 := kp hk S19
 replace S21 := kp hk S21
 replace S92 := kp hk S92
 replace S22 := kp hk S22
 replace S23 := kp hk S23
 replace S100 := kp hk S100
 replace S120 := kp hk S120
 replace HSc := RI.aft HSc hC (by intro m hm; simp at hm)
 have S134 := gotV hz' 1 hh rfl rfl rfl rfl
 clear tp2 tp3 tp5 tp6
 replace HB := aft_call HB (RelC.below_nil hC)
 clear hC hk hh; replace hz := hz'; replace hd := hd'; clear hz' hd'
 by_cases hc13 : F (i * 3) = 1
 rw [decide_eq_true hc13] at S134
 refine wp_cond_true S134.ev ?_
 refine wp_seq ?_
 refine region_text (M := [p2]) (
  rT (tV (.pointer (some ⟨p2, 0, none⟩))) ::
  rT (tV (.pointer (some ⟨p9, 1, none⟩))) ::
  rT (tV (.int .i64 (F (i * 3 + 1)))) ::
  rT (tV (.pointer (some ⟨p9, 2, none⟩))) ::
  rT (tV (.int .i64 (F (i * 3 + 2)))) ::
  rCM 0 (tV (.int .i64 (tkE (atH t1 h1 (((bn : Int) : Rat)) (divI (flQ u) per) (F (i * 3 + 1))) (F (i * 3 + 2))))) 80 (tO [tV (.int .i64 (TT t1 (F (i * 3 + 1)))), tQ B64 ((l + 1) + 64 + 41) (tkH (atH t1 h1 (((bn : Int) : Rat)) (divI (flQ u) per) (F (i * 3 + 1))) (F (i * 3 + 2))), tQ B64 42 (((bn : Int) : Rat)), tQ B64 ((l + 1) + 64) (divI (flQ u) per)] [1, 2, 2, 2]) p2 ::
  rT (tV (.int .i64 (tkE (atH t1 h1 (((bn : Int) : Rat)) (divI (flQ u) per) (F (i * 3 + 1))) (F (i * 3 + 2))))) ::
  []) hz hd (by kernel_rfl) ?_ ?_
 refine ⟨?_, ?_, ?_, ?_, ?_, ?_, ?_, trivial⟩
 exact zMv hz (sv S13)
 exact zFAo hz rfl rfl (sv S22) (fun w => by simp [go_sem])
 exact zLdO 1 hz (sd 1 rfl) (cl0 Cp9 (by simp [tagOf, n_p9_p2])) ldo_int
 exact zFAo hz rfl rfl (sv S22) (fun w => by simp [go_sem])
 exact zLdO 2 hz (sd 3 rfl) (cl0 Cp9 (by simp [tagOf, n_p9_p2])) ldo_int
 exact zCM (k := 0) (p := p2) (sid := 80) (T1 := tO [tV (.int .i64 t1), tQ B64 ((l + 1) + 64 + 41) h1, tQ B64 42 (((bn : Int) : Rat)), tQ B64 ((l + 1) + 64) (divI (flQ u) per)] [1, 2, 2, 2]) (T := tO [tV (.int .i64 (TT t1 (F (i * 3 + 1)))), tQ B64 ((l + 1) + 64 + 41) (tkH (atH t1 h1 (((bn : Int) : Rat)) (divI (flQ u) per) (F (i * 3 + 1))) (F (i * 3 + 2))), tQ B64 42 (((bn : Int) : Rat)), tQ B64 ((l + 1) + 64) (divI (flQ u) per)] [1, 2, 2, 2]) (T0 := tV (.int .i64 (tkE (atH t1 h1 (((bn : Int) : Rat)) (divI (flQ u) per) (F (i * 3 + 1))) (F (i * 3 + 2))))) hz rfl Try.func14 (by simp [tagOf]) Ca.lt (clM (k := 0) Ca (by simp [tagOf])) (tO_nd (nd_c nd_int (nd_c nd_q (nd_c nd_q (nd_c nd_q nd_nil))))) (tO_nd (nd_c nd_int (nd_c nd_q (nd_c nd_q (nd_c nd_q nd_nil))))) (fun a γ w U hcell => (by show Calls _ _ #[a.eval (.tmp 136), a.eval (.tmp 138), a.eval (.tmp 140)] _ _; rw [show a.eval (.tmp 136) = .pointer (some ⟨p2, 0, none⟩) from Src.at_ (sd 0 rfl) U, show a.eval (.tmp 138) = .int .i64 (F (i * 3 + 1)) from Src.at_ (sd 2 rfl) U, show a.eval (.tmp 140) = .int .i64 (F (i * 3 + 2)) from Src.at_ (sd 4 rfl) U]; exact c_take (n := (F (i * 3 + 1))) (m := (F (i * 3 + 2))) hcell I1 (by omega) (by omega)))
 exact zAs hz (sdM 5 rfl)
 intro a' γ' W' hz' hd' hC hk hh
 replace Ca := gotM (T := tO [tV (.int .i64 (TT t1 (F (i * 3 + 1)))), tQ B64 ((l + 1) + 64 + 41) (tkH (atH t1 h1 (((bn : Int) : Rat)) (divI (flQ u) per) (F (i * 3 + 1))) (F (i * 3 + 2))), tQ B64 42 (((bn : Int) : Rat)), tQ B64 ((l + 1) + 64) (divI (flQ u) per)] [1, 2, 2, 2]) (T0 := tV (.int .i64 (tkE (atH t1 h1 (((bn : Int) : Rat)) (divI (flQ u) per) (F (i * 3 + 1))) (F (i * 3 + 2))))) (sid := 80) (k := 0) (p := p2) hz' 5 hh rfl rfl
 have tp3 := Cw.lt
 replace Cw := kC hC Cw (by simp [tagOf, n_p3_p2])
 have tp5 := Cc.lt
 replace Cc := kC hC Cc (by simp [tagOf, n_p5_p2])
 have tp6 := Cv.lt
 replace Cv := kC hC Cv (by simp [tagOf, n_p6_p2])
 replace Cp9 := kC hC Cp9 (by simp [tagOf, n_p9_p2])
 replace S5 := kp hk S5
 replace S12 := kp hk S12
 replace S13 := kp hk S13
 replace S15 := kp hk S15
 replace S17 := kp hk S17
 replace S19 := kp hk S19
 replace S21 := kp hk S21
 replace S92 := kp hk S92
 replace S22 := kp hk S22
 replace S23 := kp hk S23
 replace S100 := kp hk S100
 replace S120 := kp hk S120
 replace S134 := kp hk S134
 replace HSc := RI.aft HSc hC (by intro m hm; simp at hm; rcases hm with rfl <;> assumption)
 have S25 := gotV hz' 6 hh rfl rfl rfl rfl
 clear tp3 tp5 tp6
 replace HB := RelC.aftM HB hC (by intro m hm; simp at hm; rcases hm with rfl <;> assumption)
 clear hC hk hh; replace hz := hz'; replace hd := hd'; clear hz' hd'
 refine wp_seq ?_
 refine region_text (M := []) (
  rT (tO [tV (.int .i64 bn), tQ B32 (l + 65) (divI (flQ u) per), tQ B32 (l + 65 + 41) h1, tV (.int .i64 t1)] [1, 2, 2, 1]) ::
  rT (tV (.pointer (some ⟨p9, 1, none⟩))) ::
  rT (tV (.int .i64 (F (i * 3 + 1)))) ::
  rT (tV (.pointer (some ⟨p9, 2, none⟩))) ::
  rT (tV (.int .i64 (F (i * 3 + 2)))) ::
  rT (tT [tO [tV (.int .i64 bn), tQ B32 (l + 65) (divI (flQ u) per), tQ B32 (l + 65 + 41) (tkH (atH t1 h1 (((bn : Int) : Rat)) (divI (flQ u) per) (F (i * 3 + 1))) (F (i * 3 + 2))), tV (.int .i64 (TT t1 (F (i * 3 + 1))))] [1, 2, 2, 1], tV (.int .i64 (tkE (atH t1 h1 (((bn : Int) : Rat)) (divI (flQ u) per) (F (i * 3 + 1))) (F (i * 3 + 2))))]) ::
  rT (tT [tO [tV (.int .i64 bn), tQ B32 (l + 65) (divI (flQ u) per), tQ B32 (l + 65 + 41) (tkH (atH t1 h1 (((bn : Int) : Rat)) (divI (flQ u) per) (F (i * 3 + 1))) (F (i * 3 + 2))), tV (.int .i64 (TT t1 (F (i * 3 + 1))))] [1, 2, 2, 1], tV (.int .i64 (tkE (atH t1 h1 (((bn : Int) : Rat)) (divI (flQ u) per) (F (i * 3 + 1))) (F (i * 3 + 2))))]) ::
  rT (tO [tV (.int .i64 bn), tQ B32 (l + 65) (divI (flQ u) per), tQ B32 (l + 65 + 41) (tkH (atH t1 h1 (((bn : Int) : Rat)) (divI (flQ u) per) (F (i * 3 + 1))) (F (i * 3 + 2))), tV (.int .i64 (TT t1 (F (i * 3 + 1))))] [1, 2, 2, 1]) ::
  rT (tV (.int .i64 (tkE (atH t1 h1 (((bn : Int) : Rat)) (divI (flQ u) per) (F (i * 3 + 1))) (F (i * 3 + 2))))) ::
  rVar 9 59 6 ::
  rB 9 59 (tO [tV (.int .i64 bn), tQ B32 (l + 65) (divI (flQ u) per), tQ B32 (l + 65 + 41) (tkH (atH t1 h1 (((bn : Int) : Rat)) (divI (flQ u) per) (F (i * 3 + 1))) (F (i * 3 + 2))), tV (.int .i64 (TT t1 (F (i * 3 + 1))))] [1, 2, 2, 1]) (some 9) 10 ::
  rT (tV (.int .i64 (tkE (atH t1 h1 (((bn : Int) : Rat)) (divI (flQ u) per) (F (i * 3 + 1))) (F (i * 3 + 2))))) ::
  []) hz hd (by kernel_rfl) ?_ ?_
 refine ⟨?_, ?_, ?_, ?_, ?_, ?_, ?_, ?_, ?_, ?_, ?_, ?_, trivial⟩
 exact zLdW hz (sv S15) (cl0 Cw) (ldo_r8 p2_q p2_q)
 exact zFAo hz rfl rfl (sv S22) (fun w => by simp [go_sem])
 exact zLdO 1 hz (sd 1 rfl) (cl0 Cp9) ldo_int
 exact zFAo hz rfl rfl (sv S22) (fun w => by simp [go_sem])
 exact zLdO 2 hz (sd 3 rfl) (cl0 Cp9) ldo_int
 exact zC3 hz Try.func27 (sd 0 rfl) (sd 2 rfl) (sd 4 rfl) (k011 (fun _ _ h0 => d_take (l := l + 65) (bn := bn) (n := (F (i * 3 + 1))) (m := (F (i * 3 + 2))) h0 I1 (by omega) hbn (by omega) (by omega)))
 exact zMv hz (sd 5 rfl)
 exact zExt hz (sd 6 rfl)
 exact zExt hz (sd 6 rfl)
 exact zAl hz nd_z8 al_r8
 exact zSt (sd 7 rfl) (st_of (sto_r8 p2_q p2_q))
 exact zAs hz (sd 8 rfl)
 intro a' γ' W' hz' hd' hC hk hh
 have tp2 := Ca.lt
 replace Ca := kC hC Ca
 have tp3 := Cw.lt
 replace Cw := kC hC Cw
 have tp5 := Cc.lt
 replace Cc := kC hC Cc
 have tp6 := Cv.lt
 replace Cv := kC hC Cv
 replace Cp9 := kC hC Cp9
 replace S5 := kp hk S5
 replace S12 := kp hk S12
 replace S13 := kp hk S13
 replace S15 := kp hk S15
 replace S17 := kp hk S17
 replace S19 := kp hk S19
 replace S21 := kp hk S21
 replace S92 := kp hk S92
 replace S22 := kp hk S22
 replace S23 := kp hk S23
 replace S100 := kp hk S100
 replace S120 := kp hk S120
 replace S134 := kp hk S134
 replace S25 := kp hk S25
 replace HSc := RI.aft HSc hC (by intro m hm; simp at hm)
 obtain ⟨p14, S26, Cp14, lp14, gp14⟩ := gotB hz' 10 hC hh rfl rfl rfl rfl rfl rfl
 have S27 := gotV hz' 11 hh rfl rfl rfl rfl
 have n_p14_p2 : p14 ≠ p2 := by omega
 have n_p14_p3 : p14 ≠ p3 := by omega
 have n_p14_p5 : p14 ≠ p5 := by omega
 have n_p14_p6 : p14 ≠ p6 := by omega
 clear lp14 gp14
 clear tp2 tp3 tp5 tp6
 replace HB := aft_call HB (RelC.below_nil hC)
 clear hC hk hh; replace hz := hz'; replace hd := hd'; clear hz' hd'
 refine wp_seq ?_
 refine region_text (M := [p3]) (
  rT (tO [tV (.int .i64 bn), tQ B32 (l + 65) (divI (flQ u) per), tQ B32 (l + 65 + 41) (tkH (atH t1 h1 (((bn : Int) : Rat)) (divI (flQ u) per) (F (i * 3 + 1))) (F (i * 3 + 2))), tV (.int .i64 (TT t1 (F (i * 3 + 1))))] [1, 2, 2, 1]) ::
  rE 0 59 (tO [tV (.int .i64 bn), tQ B32 (l + 65) (divI (flQ u) per), tQ B32 (l + 65 + 41) (tkH (atH t1 h1 (((bn : Int) : Rat)) (divI (flQ u) per) (F (i * 3 + 1))) (F (i * 3 + 2))), tV (.int .i64 (TT t1 (F (i * 3 + 1))))] [1, 2, 2, 1]) p3 ::
  []) hz hd (by kernel_rfl) ?_ ?_
 refine ⟨?_, ?_, trivial⟩
 exact zLdW hz (sv S26) (cl0 Cp14 (by simp [tagOf, n_p14_p3])) (ldo_r8 p2_q p2_q)
 exact zSE rfl (sv S15) (by simp [tagOf]) (Cw.var (tO_nd (nd_c nd_int (nd_c nd_q (nd_c nd_q (nd_c nd_int nd_nil)))))) (sd 0 rfl) (st_of (sto_r8 p2_q p2_q))
 intro a' γ' W' hz' hd' hC hk hh
 have tp2 := Ca.lt
 replace Ca := kC hC Ca (by simp [tagOf, n_p2_p3])
 replace Cw := gotE (T := tO [tV (.int .i64 bn), tQ B32 (l + 65) (divI (flQ u) per), tQ B32 (l + 65 + 41) (tkH (atH t1 h1 (((bn : Int) : Rat)) (divI (flQ u) per) (F (i * 3 + 1))) (F (i * 3 + 2))), tV (.int .i64 (TT t1 (F (i * 3 + 1))))] [1, 2, 2, 1]) (id := 59) (p := p3) 1 hh rfl rfl
 have tp5 := Cc.lt
 replace Cc := kC hC Cc (by simp [tagOf, n_p5_p3])
 have tp6 := Cv.lt
 replace Cv := kC hC Cv (by simp [tagOf, n_p6_p3])
 replace Cp9 := kC hC Cp9 (by simp [tagOf, n_p9_p3])
 replace Cp14 := kC hC Cp14 (by simp [tagOf, n_p14_p3])
 replace S5 := kp hk S5
 replace S12 := kp hk S12
 replace S13 := kp hk S13
 replace S15 := kp hk S15
 replace S17 := kp hk S17
 replace S19 := kp hk S19
 replace S21 := kp hk S21
 replace S92 := kp hk S92
 replace S22 := kp hk S22
 replace S23 := kp hk S23
 replace S100 := kp hk S100
 replace S120 := kp hk S120
 replace S134 := kp hk S134
 replace S25 := kp hk S25
 replace S26 := kp hk S26
 replace S27 := kp hk S27
 replace HSc := RI.aft HSc hC (by intro m hm; simp at hm; rcases hm with rfl <;> assumption)
 clear tp2 tp5 tp6
 replace HB := RelC.aftM HB hC (by intro m hm; simp at hm; rcases hm with rfl <;> assumption)
 clear hC hk hh; replace hz := hz'; replace hd := hd'; clear hz' hd'
 refine region_text (M := []) (
  rT (tV (.int .i64 (tkE (atH t1 h1 (((bn : Int) : Rat)) (divI (flQ u) per) (F (i * 3 + 1))) (F (i * 3 + 2))))) ::
  rT (tV (.int .i64 (tkE (atH t1 h1 (((bn : Int) : Rat)) (divI (flQ u) per) (F (i * 3 + 1))) (F (i * 3 + 2))))) ::
  rT (tV (.bool true)) ::
  rT (tV (.bool true)) ::
  []) hz hd (by kernel_rfl) ?_ ?_
 refine ⟨?_, ?_, ?_, ?_, trivial⟩
 exact zMv hz (sv S25)
 exact zMv hz (sv S27)
 exact sBin rfl rfl rfl hz rfl (Gd.none_ rfl) rfl (sd 0 rfl) (sd 1 rfl) (fun w => by simp [go_sem])
 exact zAs hz (sd 2 rfl)
 intro a' γ' W' hz' hd' hC hk hh
 have tp2 := Ca.lt
 replace Ca := kC hC Ca
 have tp3 := Cw.lt
 replace Cw := kC hC Cw
 have tp5 := Cc.lt
 replace Cc := kC hC Cc
 have tp6 := Cv.lt
 replace Cv := kC hC Cv
 replace Cp9 := kC hC Cp9
 replace Cp14 := kC hC Cp14
 replace S5 := kp hk S5
 replace S12 := kp hk S12
 replace S13 := kp hk S13
 replace S15 := kp hk S15
 replace S17 := kp hk S17
 replace S19 := kp hk S19
 replace S21 := kp hk S21
 replace S92 := kp hk S92
 replace S22 := kp hk S22
 clear S23
 replace S100 := kp hk S100
 replace S120 := kp hk S120
 replace S134 := kp hk S134
 replace S25 := kp hk S25
 replace S26 := kp hk S26
 replace S27 := kp hk S27
 replace HSc := RI.aft HSc hC (by intro m hm; simp at hm)
 have S23 := gotV hz' 3 hh rfl rfl rfl rfl
 clear tp2 tp3 tp5 tp6
 replace HB := aft_call HB (RelC.below_nil hC)
 clear hC hk hh; replace hz := hz'; replace hd := hd'; clear hz' hd'
 refine wp_seq ?_
 refine region_text (M := []) (
  rT (tV (.bool true)) ::
  rT (tV (.bool false)) ::
  []) hz hd (by kernel_rfl) ?_ ?_
 refine ⟨?_, ?_, trivial⟩
 exact zMv hz (sv S23)
 exact zNot hz (sd 0 rfl)
 intro a' γ' W' hz' hd' hC hk hh
 have tp2 := Ca.lt
 replace Ca := kC hC Ca
 have tp3 := Cw.lt
 replace Cw := kC hC Cw
 have tp5 := Cc.lt
 replace Cc := kC hC Cc
 have tp6 := Cv.lt
 replace Cv := kC hC Cv
 replace Cp9 := kC hC Cp9
 replace Cp14 := kC hC Cp14
 replace S5 := kp hk S5
 replace S12 := kp hk S12
 replace S13 := kp hk S13
 replace S15 := kp hk S15
 replace S17 := kp hk S17
 replace S19 := kp hk S19
 replace S21 := kp hk S21
 replace S92 := kp hk S92
 replace S22 := kp hk S22
 replace S100 := kp hk S100
 replace S120 := kp hk S120
 replace S134 := kp hk S134
 replace S25 := kp hk S25
 replace S26 := kp hk S26
 replace S27 := kp hk S27
 replace S23 := kp hk S23
 replace HSc := RI.aft HSc hC (by intro m hm; simp at hm)
 have S180 := gotV hz' 1 hh rfl rfl rfl rfl
 clear tp2 tp3 tp5 tp6
 replace HB := aft_call HB (RelC.below_nil hC)
 clear hC hk hh; replace hz := hz'; replace hd := hd'; clear hz' hd'
 refine wp_cond_false S180.ev ?_
 refine wp_skip ?_
 refine region_text (M := []) (
  rT (tV (.int .i64 (i : Int))) ::
  rT (tV (.int .i64 ((i + 1 : Nat) : Int))) ::
  rT (tV (.int .i64 ((i + 1 : Nat) : Int))) ::
  []) hz hd (by kernel_rfl) ?_ ?_
 refine ⟨?_, ?_, ?_, trivial⟩
 exact zMv hz (sv S21)
 exact sBin rfl rfl rfl hz rfl (Gd.none_ rfl) rfl (sd 0 rfl) kc (fun w => by simp [go_sem, IntKind.wrap_i64]; omega)
 exact zAs hz (sd 1 rfl)
 intro a' γ' W' hz' hd' hC hk hh
 have tp2 := Ca.lt
 replace Ca := kC hC Ca
 have tp3 := Cw.lt
 replace Cw := kC hC Cw
 have tp5 := Cc.lt
 replace Cc := kC hC Cc
 have tp6 := Cv.lt
 replace Cv := kC hC Cv
 replace Cp9 := kC hC Cp9
 replace Cp14 := kC hC Cp14
 replace S5 := kp hk S5
 replace S12 := kp hk S12
 replace S13 := kp hk S13
 replace S15 := kp hk S15
 replace S17 := kp hk S17
 replace S19 := kp hk S19
 clear S21
 replace S92 := kp hk S92
 replace S22 := kp hk S22
 replace S100 := kp hk S100
 replace S120 := kp hk S120
 replace S134 := kp hk S134
 replace S25 := kp hk S25
 replace S26 := kp hk S26
 replace S27 := kp hk S27
 replace S23 := kp hk S23
 replace S180 := kp hk S180
 replace HSc := RI.aft HSc hC (by intro m hm; simp at hm)
 have S21 := gotV hz' 2 hh rfl rfl rfl rfl
 clear tp2 tp3 tp5 tp6
 replace HB := aft_call HB (RelC.below_nil hC)
 clear hC hk hh; replace hz := hz'; replace hd := hd'; clear hz' hd'
 show ∃ n', n' < _ ∧ _
 refine ⟨_, ?_, i + 1, (TT t1 (F (i * 3 + 1))), tkH (atH t1 h1 (((bn : Int) : Rat)) (divI (flQ u) per) (F (i * 3 + 1))) (F (i * 3 + 2)), t2, h2, rfl, hz, hd, HB, S5, S12, S13, S15, S17, S19, S21, HSc, Ca, Cw, Cc, Cv, (BInv.take (BInv.at_ I1 (F (i * 3 + 1))) (F (i * 3 + 2))), I2, (by omega)⟩
 omega
 rw [decide_eq_false hc13] at S134
 refine wp_cond_false S134.ev ?_
 refine wp_seq ?_
 refine region_text (M := []) (
  rT (tV (.bool (decide (F (i * 3) = 2)))) ::
  rT (tV (.bool (decide (F (i * 3) = 2)))) ::
  []) hz hd (by kernel_rfl) ?_ ?_
 refine ⟨?_, ?_, trivial⟩
 exact sBin rfl rfl rfl hz rfl (Gd.none_ rfl) rfl (sv S100) kc (fun w => run_eql)
 exact zAs hz (sd 0 rfl)
 intro a' γ' W' hz' hd' hC hk hh
 have tp2 := Ca.lt
 replace Ca := kC hC Ca
 have tp3 := Cw.lt
 replace Cw := kC hC Cw
 have tp5 := Cc.lt
 replace Cc := kC hC Cc
 have tp6 := Cv.lt
 replace Cv := kC hC Cv
 replace Cp9 := kC hC Cp9
 replace S5 := kp hk S5
 replace S12 := kp hk S12
 replace S13 := kp hk S13
 replace S15 := kp hk S15
 replace S17 := kp hk S17
 replace S19 := kp hk S19
 replace S21 := kp hk S21
 replace S92 := kp hk S92
 replace S22 := kp hk S22
 replace S23 := kp hk S23
 replace S100 := kp hk S100
 replace S120 := kp hk S120
 replace S134 := kp hk S134
 replace HSc := RI.aft HSc hC (by intro m hm; simp at hm)
 have S155 := gotV hz' 1 hh rfl rfl rfl rfl
 clear tp2 tp3 tp5 tp6
 replace HB := aft_call HB (RelC.below_nil hC)
 clear hC hk hh; replace hz := hz'; replace hd := hd'; clear hz' hd'
 by_cases hc15 : F (i * 3) = 2
 rw [decide_eq_true hc15] at S155
 refine wp_cond_true S155.ev ?_
 refine wp_seq ?_
 refine region_text (M := [p2]) (
  rT (tV (.pointer (some ⟨p2, 0, none⟩))) ::
  rT (tV (.pointer (some ⟨p9, 2, none⟩))) ::
  rT (tV (.int .i64 (F (i * 3 + 2)))) ::
  rCM 0 (tT [tV (.int .i64 (wait t1 h1 (((bn : Int) : Rat)) (divI (flQ u) per) (F (i * 3 + 2))).1), tV (.int .i64 (wait t1 h1 (((bn : Int) : Rat)) (divI (flQ u) per) (F (i * 3 + 2))).2)]) 80 (tO [tV (.int .i64 t1), tQ B64 ((l + 1) + 64 + 41) h1, tQ B64 42 (((bn : Int) : Rat)), tQ B64 ((l + 1) + 64) (divI (flQ u) per)] [1, 2, 2, 2]) p2 ::
  rT (tT [tV (.int .i64 (wait t1 h1 (((bn : Int) : Rat)) (divI (flQ u) per) (F (i * 3 + 2))).1), tV (.int .i64 (wait t1 h1 (((bn : Int) : Rat)) (divI (flQ u) per) (F (i * 3 + 2))).2)]) ::
  rT (tV (.int .i64 (wait t1 h1 (((bn : Int) : Rat)) (divI (flQ u) per) (F (i * 3 + 2))).1)) ::
  rT (tV (.int .i64 (wait t1 h1 (((bn : Int) : Rat)) (divI (flQ u) per) (F (i * 3 + 2))).2)) ::
  rT (tV (.int .i64 (wait t1 h1 (((bn : Int) : Rat)) (divI (flQ u) per) (F (i * 3 + 2))).1)) ::
  rT (tV (.int .i64 (wait t1 h1 (((bn : Int) : Rat)) (divI (flQ u) per) (F (i * 3 + 2))).2)) ::
  []) hz hd (by kernel_rfl) ?_ ?_
 refine ⟨?_, ?_, ?_, ?_, ?_, ?_, ?_, ?_, ?_, trivial⟩
 exact zMv hz (sv S13)
 exact zFAo hz rfl rfl (sv S22) (fun w => by simp [go_sem])
 exact zLdO 2 hz (sd 1 rfl) (cl0 Cp9 (by simp [tagOf, n_p9_p2])) ldo_int
 exact zCM (k := 0) (p := p2) (sid := 80) (T1 := tO [tV (.int .i64 t1), tQ B64 ((l + 1) + 64 + 41) h1, tQ B64 42 (((bn : Int) : Rat)), tQ B64 ((l + 1) + 64) (divI (flQ u) per)] [1, 2, 2, 2]) (T := tO [tV (.int .i64 t1), tQ B64 ((l + 1) + 64 + 41) h1, tQ B64 42 (((bn : Int) : Rat)), tQ B64 ((l + 1) + 64) (divI (flQ u) per)] [1, 2, 2, 2]) (T0 := tT [tV (.int .i64 (wait t1 h1 (((bn : Int) : Rat)) (divI (flQ u) per) (F (i * 3 + 2))).1), tV (.int .i64 (wait t1 h1 (((bn : Int) : Rat)) (divI (flQ u) per) (F (i * 3 + 2))).2)]) hz rfl Try.func28 (by simp [tagOf]) Ca.lt (clM (k := 0) Ca (by simp [tagOf])) (tO_nd (nd_c nd_int (nd_c nd_q (nd_c nd_q (nd_c nd_q nd_nil))))) (tO_nd (nd_c nd_int (nd_c nd_q (nd_c nd_q (nd_c nd_q nd_nil))))) (fun a γ w U hcell => (by show Calls _ _ #[a.eval (.tmp 158), a.eval (.tmp 160)] _ _; rw [show a.eval (.tmp 158) = .pointer (some ⟨p2, 0, none⟩) from Src.at_ (sd 0 rfl) U, show a.eval (.tmp 160) = .int .i64 (F (i * 3 + 2)) from Src.at_ (sd 2 rfl) U]; exact c_wait (n := (F (i * 3 + 2))) hcell I1 (by omega) (by omega)))
 exact zMv hz (sdM 3 rfl)
 exact zExt hz (sd 4 rfl)
 exact zExt hz (sd 4 rfl)
 exact zAs hz (sd 5 rfl)
 exact zAs hz (sd 6 rfl)
 intro a' γ' W' hz' hd' hC hk hh
 replace Ca := gotM (T := tO [tV (.int .i64 t1), tQ B64 ((l + 1) + 64 + 41) h1, tQ B64 42 (((bn : Int) : Rat)), tQ B64 ((l + 1) + 64) (divI (flQ u) per)] [1, 2, 2, 2]) (T0 := tT [tV (.int .i64 (wait t1 h1 (((bn : Int) : Rat)) (divI (flQ u) per) (F (i * 3 + 2))).1), tV (.int .i64 (wait t1 h1 (((bn : Int) : Rat)) (divI (flQ u) per) (F (i * 3 + 2))).2)]) (sid := 80) (k := 0) (p := p2) hz' 3 hh rfl rfl
 have tp3 := Cw.lt
 replace Cw := kC hC Cw (by simp [tagOf, n_p3_p2])
 have tp5 := Cc.lt
 replace Cc := kC hC Cc (by simp [tagOf, n_p5_p2])
 have tp6 := Cv.lt
 replace Cv := kC hC Cv (by simp [tagOf, n_p6_p2])
 replace Cp9 := kC hC Cp9 (by simp [tagOf, n_p9_p2])
 replace S5 := kp hk S5
 replace S12 := kp hk S12
 replace S13 := kp hk S13
 replace S15 := kp hk S15
 replace S17 := kp hk S17
 replace S19 := kp hk S19
 replace S21 := kp hk S21
 replace S92 := kp hk S92
 replace S22 := kp hk S22
 replace S23 := kp hk S23
 replace S100 := kp hk S100
 replace S120 := kp hk S120
 replace S134 := kp hk S134
 replace S155 := kp hk S155
 replace HSc := RI.aft HSc hC (by intro m hm; simp at hm; rcases hm with rfl <;> assumption)
 have S28 := gotV hz' 7 hh rfl rfl rfl rfl
 have S29 := gotV hz' 8 hh rfl rfl rfl rfl
 clear tp3 tp5 tp6
 replace HB := RelC.aftM HB hC (by intro m hm; simp at hm; rcases hm with rfl <;> assumption)
 clear hC hk hh; replace hz := hz'; replace hd := hd'; clear hz' hd'
 refine wp_seq ?_
 refine region_text (M := []) (
  rT (tO [tV (.int .i64 bn), tQ B32 (l + 65) (divI (flQ u) per), tQ B32 (l + 65 + 41) h1, tV (.int .i64 t1)] [1, 2, 2, 1]) ::
  rT (tV (.pointer (some ⟨p9, 2, none⟩))) ::
  rT (tV (.int .i64 (F (i * 3 + 2)))) ::
  rT (tT [tV (.int .i64 (wait t1 h1 (((bn : Int) : Rat)) (divI (flQ u) per) (F (i * 3 + 2))).1), tV (.int .i64 (wait t1 h1 (((bn : Int) : Rat)) (divI (flQ u) per) (F (i * 3 + 2))).2)]) ::
  rT (tT [tV (.int .i64 (wait t1 h1 (((bn : Int) : Rat)) (divI (flQ u) per) (F (i * 3 + 2))).1), tV (.int .i64 (wait t1 h1 (((bn : Int) : Rat)) (divI (flQ u) per) (F (i * 3 + 2))).2)]) ::
  rT (tV (.int .i64 (wait t1 h1 (((bn : Int) : Rat)) (divI (flQ u) per) (F (i * 3 + 2))).1)) ::
  rT (tV (.int .i64 (wait t1 h1 (((bn : Int) : Rat)) (divI (flQ u) per) (F (i * 3 + 2))).2)) ::
  rT (tV (.int .i64 (wait t1 h1 (((bn : Int) : Rat)) (divI (flQ u) per) (F (i * 3 + 2))).1)) ::
  rT (tV (.int .i64 (wait t1 h1 (((bn : Int) : Rat)) (divI (flQ u) per) (F (i * 3 + 2))).2)) ::
  []) hz hd (by kernel_rfl) ?_ ?_
 refine ⟨?_, ?_, ?_, ?_, ?_, ?_, ?_, ?_, ?_, trivial⟩
 exact zLdW hz (sv S15) (cl0 Cw) (ldo_r8 p2_q p2_q)
 exact zFAo hz rfl rfl (sv S22) (fun w => by simp [go_sem])
 exact zLdO 2 hz (sd 1 rfl) (cl0 Cp9) ldo_int
 exact zC2 hz Try.func29 (sd 0 rfl) (sd 2 rfl) (k01 (fun _ _ h0 => d_wait (l := l + 65) (bn := bn) (n := (F (i * 3 + 2))) h0 I1 (by omega) hbn (by omega)))
 exact zMv hz (sd 3 rfl)
 exact zExt hz (sd 4 rfl)
 exact zExt hz (sd 4 rfl)
 exact zAs hz (sd 5 rfl)
 exact zAs hz (sd 6 rfl)
 intro a' γ' W' hz' hd' hC hk hh
 have tp2 := Ca.lt
 replace Ca := kC hC Ca
 have tp3 := Cw.lt
 replace Cw := kC hC Cw
 have tp5 := Cc.lt
 replace Cc := kC hC Cc
 have tp6 := Cv.lt
 replace Cv := kC hC Cv
 replace Cp9 := kC hC Cp9
 replace S5 := kp hk S5
 replace S12 := kp hk S12
 replace S13 := kp hk S13
 replace S15 := kp hk S15
 replace S17 := kp hk S17
 replace S19 := kp hk S19
 replace S21 := kp hk S21
 replace S92 := kp hk S92
 replace S22 := kp hk S22
 replace S23 := kp hk S23
 replace S100 := kp hk S100
 replace S120 := kp hk S120
 replace S134 := kp hk S134
 replace S155 := kp hk S155
 replace S28 := kp hk S28
 replace S29 := kp hk S29
 replace HSc := RI.aft HSc hC (by intro m hm; simp at hm)
 have S30 := gotV hz' 7 hh rfl rfl rfl rfl
 have S31 := gotV hz' 8 hh rfl rfl rfl rfl
 clear tp2 tp3 tp5 tp6
 replace HB := aft_call HB (RelC.below_nil hC)
 clear hC hk hh; replace hz := hz'; replace hd := hd'; clear hz' hd'
 refine region_text (M := []) (
  rT (tV (.int .i64 (wait t1 h1 (((bn : Int) : Rat)) (divI (flQ u) per) (F (i * 3 + 2))).1)) ::
  rT (tV (.int .i64 (wait t1 h1 (((bn : Int) : Rat)) (divI (flQ u) per) (F (i * 3 + 2))).1)) ::
  rT (tV (.bool true)) ::
  rT (tV (.bool true)) ::
  rT (tV (.int .i64 (wait t1 h1 (((bn : Int) : Rat)) (divI (flQ u) per) (F (i * 3 + 2))).2)) ::
  rT (tV (.int .i64 (wait t1 h1 (((bn : Int) : Rat)) (divI (flQ u) per) (F (i * 3 + 2))).2)) ::
  rT (tV (.bool true)) ::
  rT (tV (.bool true)) ::
  rT (tV (.bool true)) ::
  []) hz hd (by kernel_rfl) ?_ ?_
 refine ⟨?_, ?_, ?_, ?_, ?_, ?_, ?_, ?_, ?_, trivial⟩
 exact zMv hz (sv S28)
 exact zMv hz (sv S30)
 exact sBin rfl rfl rfl hz rfl (Gd.none_ rfl) rfl (sd 0 rfl) (sd 1 rfl) (fun w => by simp [go_sem])
 exact zMv hz (sd 2 rfl)
 exact zMv hz (sv S29) (g := gT 3 rfl)
 exact zMv hz (sv S31) (g := gT 3 rfl)
 exact sBin rfl rfl rfl hz rfl (gT 3 rfl) rfl (sd 4 rfl) (sd 5 rfl) (fun w => by simp [go_sem])
 exact zPT hz (sd 3 rfl) (sd 6 rfl)
 exact zAs hz (sd 7 rfl)
 intro a' γ' W' hz' hd' hC hk hh
 have tp2 := Ca.lt
 replace Ca := kC hC Ca
 have tp3 := Cw.lt
 replace Cw := kC hC Cw
 have tp5 := Cc.lt
 replace Cc := kC hC Cc
 have tp6 := Cv.lt
 replace Cv := kC hC Cv
 replace Cp9 := kC hC Cp9
 replace S5 := kp hk S5
 replace S12 := kp hk S12
 replace S13 := kp hk S13
 replace S15 := kp hk S15
 replace S17 := kp hk S17
 replace S19 := kp hk S19
 replace S21 := kp hk S21
 replace S92 := kp hk S92
 replace S22 := kp hk S22
 clear S23
 replace S100 := kp hk S100
 replace S120 := kp hk S120
 replace S134 := kp hk S134
 replace S155 := kp hk S155
 replace S28 := kp hk S28
 replace S29 := kp hk S29
 replace S30 := kp hk S30
 replace S31 := kp hk S31
 replace HSc := RI.aft HSc hC (by intro m hm; simp at hm)
 have S23 := gotV hz' 8 hh rfl rfl rfl rfl
 clear tp2 tp3 tp5 tp6
 replace HB := aft_call HB (RelC.below_nil hC)
 clear hC hk hh; replace hz := hz'; replace hd := hd'; clear hz' hd'
 refine wp_seq ?_
 refine region_text (M := []) (
  rT (tV (.bool true)) ::
  rT (tV (.bool false)) ::
  []) hz hd (by kernel_rfl) ?_ ?_
 refine ⟨?_, ?_, trivial⟩
 exact zMv hz (sv S23)
 exact zNot hz (sd 0 rfl)
 intro a' γ' W' hz' hd' hC hk hh
 have tp2 := Ca.lt
 replace Ca := kC hC Ca
 have tp3 := Cw.lt
 replace Cw := kC hC Cw
 have tp5 := Cc.lt
 replace Cc := kC hC Cc
 have tp6 := Cv.lt
 replace Cv := kC hC Cv
 replace Cp9 := kC hC Cp9
 replace S5 := kp hk S5
 replace S12 := kp hk S12
 replace S13 := kp hk S13
 replace S15 := kp hk S15
 replace S17 := kp hk S17
 replace S19 := kp hk S19
 replace S21 := kp hk S21
 replace S92 := kp hk S92
 replace S22 := kp hk S22
 replace S100 := kp hk S100
 replace S120 := kp hk S120
 replace S134 := kp hk S134
 replace S155 := kp hk S155
 replace S28 := kp hk S28
 replace S29 := kp hk S29
 replace S30 := kp hk S30
 replace S31 := kp hk S31
 replace S23 := kp hk S23
 replace HSc := RI.aft HSc hC (by intro m hm; simp at hm)
 have S180 := gotV hz' 1 hh rfl rfl rfl rfl
 clear tp2 tp3 tp5 tp6
 replace HB := aft_call HB (RelC.below_nil hC)
 clear hC hk hh; replace hz := hz'; replace hd := hd'; clear hz' hd'
 refine wp_cond_false S180.ev ?_
 refine wp_skip ?_
 refine region_text (M := []) (
  rT (tV (.int .i64 (i : Int))) ::
  rT (tV (.int .i64 ((i + 1 : Nat) : Int))) ::
  rT (tV (.int .i64 ((i + 1 : Nat) : Int))) ::
  []) hz hd (by kernel_rfl) ?_ ?_
 refine ⟨?_, ?_, ?_, trivial⟩
 exact zMv hz (sv S21)
 exact sBin rfl rfl rfl hz rfl (Gd.none_ rfl) rfl (sd 0 rfl) kc (fun w => by simp [go_sem, IntKind.wrap_i64]; omega)
 exact zAs hz (sd 1 rfl)
 intro a' γ' W' hz' hd' hC hk hh
 have tp2 := Ca.lt
 replace Ca := kC hC Ca
 have tp3 := Cw.lt
 replace Cw := kC hC Cw
 have tp5 := Cc.lt
 replace Cc := kC hC Cc
 have tp6 := Cv.lt
 replace Cv := kC hC Cv
 replace Cp9 := kC hC Cp9
 replace S5 := kp hk S5
 replace S12 := kp hk S12
 replace S13 := kp hk S13
 replace S15 := kp hk S15
 replace S17 := kp hk S17
 replace S19 := kp hk S19
 clear S21
 replace S92 := kp hk S92
 replace S22 := kp hk S22
 replace S100 := kp hk S100
 replace S120 := kp hk S120
 replace S134 := kp hk S134
 replace S155 := kp hk S155
 replace S28 := kp hk S28
 replace S29 := kp hk S29
 replace S30 := kp hk S30
 replace S31 := kp hk S31
 replace S23 := kp hk S23
 replace S180 := kp hk S180
 replace HSc := RI.aft HSc hC (by intro m hm; simp at hm)
 have S21 := gotV hz' 2 hh rfl rfl rfl rfl
 clear tp2 tp3 tp5 tp6
 replace HB := aft_call HB (RelC.below_nil hC)
 clear hC hk hh; replace hz := hz'; replace hd := hd'; clear hz' hd'
 show ∃ n', n' < _ ∧ _
 refine ⟨_, ?_, i + 1, t1, h1, t2, h2, rfl, hz, hd, HB, S5, S12, S13, S15, S17, S19, S21, HSc, Ca, Cw, Cc, Cv, I1, I2, (by omega)⟩
 omega
 rw [decide_eq_false hc15] at S155
 refine wp_cond_false S155.ev ?_
 refine wp_seq ?_
 refine region_text (M := [p5]) (
  rT (tV (.pointer (some ⟨p5, 0, none⟩))) ::
  rT (tV (.pointer (some ⟨p9, 1, none⟩))) ::
  rT (tV (.int .i64 (F (i * 3 + 1)))) ::
  rT (tV (.pointer (some ⟨p9, 2, none⟩))) ::
  rT (tV (.int .i64 (F (i * 3 + 2)))) ::
  rCM 0 (tV (.int .i64 (tkE (atH t2 h2 (((b2 : Int) : Rat)) (divI (flQ 4602678819172646912) 2) (F (i * 3 + 1))) (F (i * 3 + 2))))) 80 (tO [tV (.int .i64 (TT t2 (F (i * 3 + 1)))), tQ B64 ((l + 1) + 64 + 41) (tkH (atH t2 h2 (((b2 : Int) : Rat)) (divI (flQ 4602678819172646912) 2) (F (i * 3 + 1))) (F (i * 3 + 2))), tQ B64 42 (((b2 : Int) : Rat)), tQ B64 ((l + 1) + 64) (divI (flQ 4602678819172646912) 2)] [1, 2, 2, 2]) p5 ::
  rT (tV (.int .i64 (tkE (atH t2 h2 (((b2 : Int) : Rat)) (divI (flQ 4602678819172646912) 2) (F (i * 3 + 1))) (F (i * 3 + 2))))) ::
  []) hz hd (by kernel_rfl) ?_ ?_
 refine ⟨?_, ?_, ?_, ?_, ?_, ?_, ?_, trivial⟩
 exact zMv hz (sv S17)
 exact zFAo hz rfl rfl (sv S22) (fun w => by simp [go_sem])
 exact zLdO 1 hz (sd 1 rfl) (cl0 Cp9 (by simp [tagOf, n_p9_p5])) ldo_int
 exact zFAo hz rfl rfl (sv S22) (fun w => by simp [go_sem])
 exact zLdO 2 hz (sd 3 rfl) (cl0 Cp9 (by simp [tagOf, n_p9_p5])) ldo_int
 exact zCM (k := 0) (p := p5) (sid := 80) (T1 := tO [tV (.int .i64 t2), tQ B64 ((l + 1) + 64 + 41) h2, tQ B64 42 (((b2 : Int) : Rat)), tQ B64 ((l + 1) + 64) (divI (flQ 4602678819172646912) 2)] [1, 2, 2, 2]) (T := tO [tV (.int .i64 (TT t2 (F (i * 3 + 1)))), tQ B64 ((l + 1) + 64 + 41) (tkH (atH t2 h2 (((b2 : Int) : Rat)) (divI (flQ 4602678819172646912) 2) (F (i * 3 + 1))) (F (i * 3 + 2))), tQ B64 42 (((b2 : Int) : Rat)), tQ B64 ((l + 1) + 64) (divI (flQ 4602678819172646912) 2)] [1, 2, 2, 2]) (T0 := tV (.int .i64 (tkE (atH t2 h2 (((b2 : Int) : Rat)) (divI (flQ 4602678819172646912) 2) (F (i * 3 + 1))) (F (i * 3 + 2))))) hz rfl Try.func14 (by simp [tagOf]) Cc.lt (clM (k := 0) Cc (by simp [tagOf])) (tO_nd (nd_c nd_int (nd_c nd_q (nd_c nd_q (nd_c nd_q nd_nil))))) (tO_nd (nd_c nd_int (nd_c nd_q (nd_c nd_q (nd_c nd_q nd_nil))))) (fun a γ w U hcell => (by show Calls _ _ #[a.eval (.tmp 101), a.eval (.tmp 103), a.eval (.tmp 105)] _ _; rw [show a.eval (.tmp 101) = .pointer (some ⟨p5, 0, none⟩) from Src.at_ (sd 0 rfl) U, show a.eval (.tmp 103) = .int .i64 (F (i * 3 + 1)) from Src.at_ (sd 2 rfl) U, show a.eval (.tmp 105) = .int .i64 (F (i * 3 + 2)) from Src.at_ (sd 4 rfl) U]; exact c_take (n := (F (i * 3 + 1))) (m := (F (i * 3 + 2))) hcell I2 (by omega) (by omega)))
 exact zAs hz (sdM 5 rfl)
 intro a' γ' W' hz' hd' hC hk hh
 have tp2 := Ca.lt
 replace Ca := kC hC Ca (by simp [tagOf, n_p2_p5])
 have tp3 := Cw.lt
 replace Cw := kC hC Cw (by simp [tagOf, n_p3_p5])
 replace Cc := gotM (T := tO [tV (.int .i64 (TT t2 (F (i * 3 + 1)))), tQ B64 ((l + 1) + 64 + 41) (tkH (atH t2 h2 (((b2 : Int) : Rat)) (divI (flQ 4602678819172646912) 2) (F (i * 3 + 1))) (F (i * 3 + 2))), tQ B64 42 (((b2 : Int) : Rat)), tQ B64 ((l + 1) + 64) (divI (flQ 4602678819172646912) 2)] [1, 2, 2, 2]) (T0 := tV (.int .i64 (tkE (atH t2 h2 (((b2 : Int) : Rat)) (divI (flQ 4602678819172646912) 2) (F (i * 3 + 1))) (F (i * 3 + 2))))) (sid := 80) (k := 0) (p := p5) hz' 5 hh rfl rfl
 have tp6 := Cv.lt
 replace Cv := kC hC Cv (by simp [tagOf, n_p6_p5])
 replace Cp9 := kC hC Cp9 (by simp [tagOf, n_p9_p5])
 replace S5 := kp hk S5
 replace S12 := kp hk S12
 replace S13 := kp hk S13
 replace S15 := kp hk S15
 replace S17 := kp hk S17
 replace S19 := kp hk S19
 replace S21 := kp hk S21
 replace S92 := kp hk S92
 replace S22 := kp hk S22
 replace S23 := kp hk S23
 replace S100 := kp hk S100
 replace S120 := kp hk S120
 replace S134 := kp hk S134
 replace S155 := kp hk S155
 replace HSc := RI.aft HSc hC (by intro m hm; simp at hm; rcases hm with rfl <;> assumption)
 have S32 := gotV hz' 6 hh rfl rfl rfl rfl
 clear tp2 tp3 tp6
 replace HB := RelC.aftM HB hC (by intro m hm; simp at hm; rcases hm with rfl <;> assumption)
 clear hC hk hh; replace hz := hz'; replace hd := hd'; clear hz' hd'
 refine wp_seq ?_
 refine region_text (M := []) (
  rT (tO [tV (.int .i64 b2), tQ B32 (l + 65) (divI (flQ 4602678819172646912) 2), tQ B32 (l + 65 + 41) h2, tV (.int .i64 t2)] [1, 2, 2, 1]) ::
  rT (tV (.pointer (some ⟨p9, 1, none⟩))) ::
  rT (tV (.int .i64 (F (i * 3 + 1)))) ::
  rT (tV (.pointer (some ⟨p9, 2, none⟩))) ::
  rT (tV (.int .i64 (F (i * 3 + 2)))) ::
  rT (tT [tO [tV (.int .i64 b2), tQ B32 (l + 65) (divI (flQ 4602678819172646912) 2), tQ B32 (l + 65 + 41) (tkH (atH t2 h2 (((b2 : Int) : Rat)) (divI (flQ 4602678819172646912) 2) (F (i * 3 + 1))) (F (i * 3 + 2))), tV (.int .i64 (TT t2 (F (i * 3 + 1))))] [1, 2, 2, 1], tV (.int .i64 (tkE (atH t2 h2 (((b2 : Int) : Rat)) (divI (flQ 4602678819172646912) 2) (F (i * 3 + 1))) (F (i * 3 + 2))))]) ::
  rT (tT [tO [tV (.int .i64 b2), tQ B32 (l + 65) (divI (flQ 4602678819172646912) 2), tQ B32 (l + 65 + 41) (tkH (atH t2 h2 (((b2 : Int) : Rat)) (divI (flQ 4602678819172646912) 2) (F (i * 3 + 1))) (F (i * 3 + 2))), tV (.int .i64 (TT t2 (F (i * 3 + 1))))] [1, 2, 2, 1], tV (.int .i64 (tkE (atH t2 h2 (((b2 : Int) : Rat)) (divI (flQ 4602678819172646912) 2) (F (i * 3 + 1))) (F (i * 3 + 2))))]) ::
  rT (tO [tV (.int .i64 b2), tQ B32 (l + 65) (divI (flQ 4602678819172646912) 2), tQ B32 (l + 65 + 41) (tkH (atH t2 h2 (((b2 : Int) : Rat)) (divI (flQ 4602678819172646912) 2) (F (i * 3 + 1))) (F (i * 3 + 2))), tV (.int .i64 (TT t2 (F (i * 3 + 1))))] [1, 2, 2, 1]) ::
  rT (tV (.int .i64 (tkE (atH t2 h2 (((b2 : Int) : Rat)) (divI (flQ 4602678819172646912) 2) (F (i * 3 + 1))) (F (i * 3 + 2))))) ::
  rVar 9 59 6 ::
  rB 9 59 (tO [tV (.int .i64 b2), tQ B32 (l + 65) (divI (flQ 4602678819172646912) 2), tQ B32 (l + 65 + 41) (tkH (atH t2 h2 (((b2 : Int) : Rat)) (divI (flQ 4602678819172646912) 2) (F (i * 3 + 1))) (F (i * 3 + 2))), tV (.int .i64 (TT t2 (F (i * 3 + 1))))] [1, 2, 2, 1]) (some 9) 10 ::
  rT (tV (.int .i64 (tkE (atH t2 h2 (((b2 : Int) : Rat)) (divI (flQ 4602678819172646912) 2) (F (i * 3 + 1))) (F (i * 3 + 2))))) ::
  []) hz hd (by kernel_rfl) ?_ ?_
 refine ⟨?_, ?_, ?_, ?_, ?_, ?_, ?_, ?_, ?_, ?_, ?_, ?_, trivial⟩
 exact zLdW hz (sv S19) (cl0 Cv) (ldo_r8 p2_q p2_q)
 exact zFAo hz rfl rfl (sv S22) (fun w => by simp [go_sem])
 exact zLdO 1 hz (sd 1 rfl) (cl0 Cp9) ldo_int
 exact zFAo hz rfl rfl (sv S22) (fun w => by simp [go_sem])
 exact zLdO 2 hz (sd 3 rfl) (cl0 Cp9) ldo_int
 exact zC3 hz Try.func27 (sd 0 rfl) (sd 2 rfl) (sd 4 rfl) (k011 (fun _ _ h0 => d_take (l := l + 65) (bn := b2) (n := (F (i * 3 + 1))) (m := (F (i * 3 + 2))) h0 I2 (by omega) hb2r (by omega) (by omega)))
 exact zMv hz (sd 5 rfl)
 exact zExt hz (sd 6 rfl)
 exact zExt hz (sd 6 rfl)
 exact zAl hz nd_z8 al_r8
 exact zSt (sd 7 rfl) (st_of (sto_r8 p2_q p2_q))
 exact zAs hz (sd 8 rfl)
 intro a' γ' W' hz' hd' hC hk hh
 have tp2 := Ca.lt
 replace Ca := kC hC Ca
 have tp3 := Cw.lt
 replace Cw := kC hC Cw
 have tp5 := Cc.lt
 replace Cc := kC hC Cc
 have tp6 := Cv.lt
 replace Cv := kC hC Cv
 replace Cp9 := kC hC Cp9
 replace S5 := kp hk S5
 replace S12 := kp hk S12
 replace S13 := kp hk S13
 replace S15 := kp hk S15
 replace S17 := kp hk S17
 replace S19 := kp hk S19
 replace S21 := kp hk S21
 replace S92 := kp hk S92
 replace S22 := kp hk S22
 replace S23 := kp hk S23
 replace S100 := kp hk S100
 replace S120 := kp hk S120
 replace S134 := kp hk S134
 replace S155 := kp hk S155
 replace S32 := kp hk S32
 replace HSc := RI.aft HSc hC (by intro m hm; simp at hm)
 obtain ⟨p16, S33, Cp16, lp16, gp16⟩ := gotB hz' 10 hC hh rfl rfl rfl rfl rfl rfl
 have S34 := gotV hz' 11 hh rfl rfl rfl rfl
 have n_p16_p2 : p16 ≠ p2 := by omega
 have n_p16_p3 : p16 ≠ p3 := by omega
 have n_p16_p5 : p16 ≠ p5 := by omega
 have n_p16_p6 : p16 ≠ p6 := by omega
 clear lp16 gp16
 clear tp2 tp3 tp5 tp6
 replace HB := aft_call HB (RelC.below_nil hC)
 clear hC hk hh; replace hz := hz'; replace hd := hd'; clear hz' hd'
 refine wp_seq ?_
 refine region_text (M := [p6]) (
  rT (tO [tV (.int .i64 b2), tQ B32 (l + 65) (divI (flQ 4602678819172646912) 2), tQ B32 (l + 65 + 41) (tkH (atH t2 h2 (((b2 : Int) : Rat)) (divI (flQ 4602678819172646912) 2) (F (i * 3 + 1))) (F (i * 3 + 2))), tV (.int .i64 (TT t2 (F (i * 3 + 1))))] [1, 2, 2, 1]) ::
  rE 0 59 (tO [tV (.int .i64 b2), tQ B32 (l + 65) (divI (flQ 4602678819172646912) 2), tQ B32 (l + 65 + 41) (tkH (atH t2 h2 (((b2 : Int) : Rat)) (divI (flQ 4602678819172646912) 2) (F (i * 3 + 1))) (F (i * 3 + 2))), tV (.int .i64 (TT t2 (F (i * 3 + 1))))] [1, 2, 2, 1]) p6 ::
  []) hz hd (by kernel_rfl) ?_ ?_
 refine ⟨?_, ?_, trivial⟩
 exact zLdW hz (sv S33) (cl0 Cp16 (by simp [tagOf, n_p16_p6])) (ldo_r8 p2_q p2_q)
 exact zSE rfl (sv S19) (by simp [tagOf]) (Cv.var (tO_nd (nd_c nd_int (nd_c nd_q (nd_c nd_q (nd_c nd_int nd_nil)))))) (sd 0 rfl) (st_of (sto_r8 p2_q p2_q))
 intro a' γ' W' hz' hd' hC hk hh
 have tp2 := Ca.lt
 replace Ca := kC hC Ca (by simp [tagOf, n_p2_p6])
 have tp3 := Cw.lt
 replace Cw := kC hC Cw (by simp [tagOf, n_p3_p6])
 have tp5 := Cc.lt
 replace Cc := kC hC Cc (by simp [tagOf, n_p5_p6])
 replace Cv := gotE (T := tO [tV (.int .i64 b2), tQ B32 (l + 65) (divI (flQ 4602678819172646912) 2), tQ B32 (l + 65 + 41) (tkH (atH t2 h2 (((b2 : Int) : Rat)) (divI (flQ 4602678819172646912) 2) (F (i * 3 + 1))) (F (i * 3 + 2))), tV (.int .i64 (TT t2 (F (i * 3 + 1))))] [1, 2, 2, 1]) (id := 59) (p := p6) 1 hh rfl rfl
 replace Cp9 := kC hC Cp9 (by simp [tagOf, n_p9_p6])
 replace Cp16 := kC hC Cp16 (by simp [tagOf, n_p16_p6])
 replace S5 := kp hk S5
 replace S12 := kp hk S12
 replace S13 := kp hk S13
 replace S15 := kp hk S15
 replace S17 := kp hk S17
 replace S19 := kp hk S19
 replace S21 := kp hk S21
 replace S92 := kp hk S92
 replace S22 := kp hk S22
 replace S23 := kp hk S23
 replace S100 := kp hk S100
 replace S120 := kp hk S120
 replace S134 := kp hk S134
 replace S155 := kp hk S155
 replace S32 := kp hk S32
 replace S33 := kp hk S33
 replace S34 := kp hk S34
 replace HSc := RI.aft HSc hC (by intro m hm; simp at hm; rcases hm with rfl <;> assumption)
 clear tp2 tp3 tp5
 replace HB := RelC.aftM HB hC (by intro m hm; simp at hm; rcases hm with rfl <;> assumption)
 clear hC hk hh; replace hz := hz'; replace hd := hd'; clear hz' hd'
 refine region_text (M := []) (
  rT (tV (.int .i64 (tkE (atH t2 h2 (((b2 : Int) : Rat)) (divI (flQ 4602678819172646912) 2) (F (i * 3 + 1))) (F (i * 3 + 2))))) ::
  rT (tV (.int .i64 (tkE (atH t2 h2 (((b2 : Int) : Rat)) (divI (flQ 4602678819172646912) 2) (F (i * 3 + 1))) (F (i * 3 + 2))))) ::
  rT (tV (.bool true)) ::
  rT (tV (.bool true)) ::
  []) hz hd (by kernel_rfl) ?_ ?_
 refine ⟨?_, ?_, ?_, ?_, trivial⟩
 exact zMv hz (sv S32)
 exact zMv hz (sv S34)
 exact sBin rfl rfl rfl hz rfl (Gd.none_ rfl) rfl (sd 0 rfl) (sd 1 rfl) (fun w => by simp [go_sem])
 exact zAs hz (sd 2 rfl)
 intro a' γ' W' hz' hd' hC hk hh
 have tp2 := Ca.lt
 replace Ca := kC hC Ca
 have tp3 := Cw.lt
 replace Cw := kC hC Cw
 have tp5 := Cc.lt
 replace Cc := kC hC Cc
 have tp6 := Cv.lt
 replace Cv := kC hC Cv
 replace Cp9 := kC hC Cp9
 replace Cp16 := kC hC Cp16
 replace S5 := kp hk S5
 replace S12 := kp hk S12
 replace S13 := kp hk S13
 replace S15 := kp hk S15
 replace S17 := kp hk S17
 replace S19 := kp hk S19
 replace S21 := kp hk S21
 replace S92 := kp hk S92
 replace S22 := kp hk S22
 clear S23
 replace S100 := kp hk S100
 replace S120 := kp hk S120
 replace S134 := kp hk S134
 replace S155 := kp hk S155
 replace S32 := kp hk S32
 replace S33 := kp hk S33
 replace S34 := kp hk S34
 replace HSc := RI.aft HSc hC (by intro m hm; simp at hm)
 have S23 := gotV hz' 3 hh rfl rfl rfl rfl
 clear tp2 tp3 tp5 tp6
 replace HB := aft_call HB (RelC.below_nil hC)
 clear hC hk hh; replace hz := hz'; replace hd := hd'; clear hz' hd'
 refine wp_seq ?_
 refine region_text (M := []) (
  rT (tV (.bool true)) ::
  rT (tV (.bool false)) ::
  []) hz hd (by kernel_rfl) ?_ ?_
 refine ⟨?_, ?_, trivial⟩
 exact zMv hz (sv S23)
 exact zNot hz (sd 0 rfl)
 intro a' γ' W' hz' hd' hC hk hh
 have tp2 := Ca.lt
 replace Ca := kC hC Ca
 have tp3 := Cw.lt
 replace Cw := kC hC Cw
 have tp5 := Cc.lt
 replace Cc := kC hC Cc
 have tp6 := Cv.lt
 replace Cv := kC hC Cv
 replace Cp9 := kC hC Cp9
 replace Cp16 := kC hC Cp16
 replace S5 := kp hk S5
 replace S12 := kp hk S12
 replace S13 := kp hk S13
 replace S15 := kp hk S15
 replace S17 := kp hk S17
 replace S19 := kp hk S19
 replace S21 := kp hk S21
 replace S92 := kp hk S92
 replace S22 := kp hk S22
 replace S100 := kp hk S100
 replace S120 := kp hk S120
 replace S134 := kp hk S134
 replace S155 := kp hk S155
 replace S32 := kp hk S32
 replace S33 := kp hk S33
 replace S34 := kp hk S34
 replace S23 := kp hk S23
 replace HSc := RI.aft HSc hC (by intro m hm; simp at hm)
 have S180 := gotV hz' 1 hh rfl rfl rfl rfl
 clear tp2 tp3 tp5 tp6
 replace HB := aft_call HB (RelC.below_nil hC)
 clear hC hk hh; replace hz := hz'; replace hd := hd'; clear hz' hd'
 refine wp_cond_false S180.ev ?_
 refine wp_skip ?_
 refine region_text (M := []) (
  rT (tV (.int .i64 (i : Int))) ::
  rT (tV (.int .i64 ((i + 1 : Nat) : Int))) ::
  rT (tV (.int .i64 ((i + 1 : Nat) : Int))) ::
  []) hz hd (by kernel_rfl) ?_ ?_
 refine ⟨?_, ?_, ?_, trivial⟩
 exact zMv hz (sv S21)
 exact sBin rfl rfl rfl hz rfl (Gd.none_ rfl) rfl (sd 0 rfl) kc (fun w => by simp [go_sem, IntKind.wrap_i64]; omega)
 exact zAs hz (sd 1 rfl)
 intro a' γ' W' hz' hd' hC hk hh
 have tp2 := Ca.lt
 replace Ca := kC hC Ca
 have tp3 := Cw.lt
 replace Cw := kC hC Cw
 have tp5 := Cc.lt
 replace Cc := kC hC Cc
 have tp6 := Cv.lt
 replace Cv := kC hC Cv
 replace Cp9 := kC hC Cp9
 replace Cp16 := kC hC Cp16
 replace S5 := kp hk S5
 replace S12 := kp hk S12
 replace S13 := kp hk S13
 replace S15 := kp hk S15
 replace S17 := kp hk S17
 replace S19 := kp hk S19
 clear S21
 replace S92 := kp hk S92
 replace S22 := kp hk S22
 replace S100 := kp hk S100
 replace S120 := kp hk S120
 replace S134 := kp hk S134
 replace S155 := kp hk S155
 replace S32 := kp hk S32
 replace S33 := kp hk S33
 replace S34 := kp hk S34
 replace S23 := kp hk S23
 replace S180 := kp hk S180
 replace HSc := RI.aft HSc hC (by intro m hm; simp at hm)
 have S21 := gotV hz' 2 hh rfl rfl rfl rfl
 clear tp2 tp3 tp5 tp6
 replace HB := aft_call HB (RelC.below_nil hC)
 clear hC hk hh; replace hz := hz'; replace hd := hd'; clear hz' hd'
 show ∃ n', n' < _ ∧ _
 refine ⟨_, ?_, i + 1, t1, h1, (TT t2 (F (i * 3 + 1))), tkH (atH t2 h2 (((b2 : Int) : Rat)) (divI (flQ 4602678819172646912) 2) (F (i * 3 + 1))) (F (i * 3 + 2)), rfl, hz, hd, HB, S5, S12, S13, S15, S17, S19, S21, HSc, Ca, Cw, Cc, Cv, I1, (BInv.take (BInv.at_ I2 (F (i * 3 + 1))) (F (i * 3 + 2))), (by omega)⟩
 omega
 refine region_text (M := []) (
  rT (tV (.int .i64 (i : Int))) ::
  rT (tV (.slice As ns cs)) ::
  rT (tV (.int .i64 (ns : Int))) ::
  rT (tV (.bool true)) ::
  rT (tV (.bool true)) ::
  rT (tV (.int .i64 (i : Int))) ::
  rT (tV (.bool false)) ::
  rT (tV (.bool false)) ::
  rT (tV (.bool false)) ::
  rT (tV undef) ::
  rT (tV undef) ::
  rT (tV (.bool false)) ::
  []) hz hd (by kernel_rfl) ?_ ?_
 refine ⟨?_, ?_, ?_, ?_, ?_, ?_, ?_, ?_, ?_, ?_, ?_, ?_, trivial⟩
 exact zMv hz (sv S21)
 exact zMv hz (sv S5)
 exact sLenK hz rfl (sd 1 rfl) (fun w => by simp [go_sem])
 exact sBin rfl rfl rfl hz rfl (Gd.none_ rfl) rfl (sd 0 rfl) (sd 2 rfl) (fun w => run_t (P := (i : Int) < (ns : Int)) ((fun w => run_lss) w) hc7)
 exact zMv hz (sd 3 rfl)
 exact zMv hz (sv S21) (g := gT 4 rfl)
 exact sBin rfl rfl rfl hz rfl (gT 4 rfl) rfl (sd 5 rfl) kc (fun w => run_f (P := (i : Int) < 200) ((fun w => run_lss) w) hc8)
 exact zPT hz (sd 4 rfl) (sd 6 rfl)
 exact zMv hz (sd 7 rfl)
 exact zSkU hz (gN 8 rfl)
 exact zSkU hz (gN 8 rfl)
 exact zPF hz (sd 8 rfl) kc
 intro a' γ' W' hz' hd' hC hk hh
 have tp2 := Ca.lt
 replace Ca := kC hC Ca
 have tp3 := Cw.lt
 replace Cw := kC hC Cw
 have tp5 := Cc.lt
 replace Cc := kC hC Cc
 have tp6 := Cv.lt
 replace Cv := kC hC Cv
 replace S5 := kp hk S5
 replace S12 := kp hk S12
 replace S13 := kp hk S13
 replace S15 := kp hk S15
 replace S17 := kp hk S17
 replace S19 := kp hk S19
 replace S21 := kp hk S21
 replace HSc := RI.aft HSc hC (by intro m hm; simp at hm)
 have S92 := gotV hz' 11 hh rfl rfl rfl rfl
 clear tp2 tp3 tp5 tp6
 replace HB := aft_call HB (RelC.below_nil hC)
 clear hC hk hh; replace hz := hz'; replace hd := hd'; clear hz' hd'
 refine wp_cond_false S92.ev ?_
 refine wp_exit ?_
 refine wp_seq ?_
 refine region_text (M := []) (
  rT (tV (.bool true)) ::
  []) hz hd (by kernel_rfl) ?_ ?_
 refine ⟨?_, trivial⟩
 exact zAs hz kc
 intro a' γ' W' hz' hd' hC hk hh
 have tp2 := Ca.lt
 clear Ca
 have tp3 := Cw.lt
 clear Cw
 have tp5 := Cc.lt
 clear Cc
 have tp6 := Cv.lt
 clear Cv
 clear S5
 clear S12
 clear S13
 clear S15
 clear S17
 clear S19
 clear S21
 clear S92
 replace HSc := RI.aft HSc hC (by intro m hm; simp at hm)
 have S12 := gotV hz' 0 hh rfl rfl rfl rfl
 clear tp2 tp3 tp5 tp6
 replace HB := aft_call HB (RelC.below_nil hC)
 clear hC hk hh; replace hz := hz'; replace hd := hd'; clear hz' hd'
 refine wp_ret ?_
 exact ret1 (by kernel_rfl) S12 hd ⟨_, rfl, rfl, HB⟩
 refine region_text (M := []) (
  rT (tV (.int .i64 (i : Int))) ::
  rT (tV (.slice As ns cs)) ::
  rT (tV (.int .i64 (ns : Int))) ::
  rT (tV (.bool false)) ::
  rT (tV (.bool false)) ::
  rT (tV undef) ::
  rT (tV undef) ::
  rT (tV (.bool false)) ::
  rT (tV (.bool false)) ::
  rT (tV undef) ::
  rT (tV undef) ::
  rT (tV (.bool false)) ::
  []) hz hd (by kernel_rfl) ?_ ?_
 refine ⟨?_, ?_, ?_, ?_, ?_, ?_, ?_, ?_, ?_, ?_, ?_, ?_, trivial⟩
 exact zMv hz (sv S21)
 exact zMv hz (sv S5)
 exact sLenK hz rfl (sd 1 rfl) (fun w => by simp [go_sem])
 exact sBin rfl rfl rfl hz rfl (Gd.none_ rfl) rfl (sd 0 rfl) (sd 2 rfl) (fun w => run_f (P := (i : Int) < (ns : Int)) ((fun w => run_lss) w) hc7)
 exact zMv hz (sd 3 rfl)
 exact zSkU hz (gN 4 rfl)
 exact zSkU hz (gN 4 rfl)
 exact zPF hz (sd 4 rfl) kc
 exact zMv hz (sd 7 rfl)
 exact zSkU hz (gN 8 rfl)
 exact zSkU hz (gN 8 rfl)
 exact zPF hz (sd 8 rfl) kc
 intro a' γ' W' hz' hd' hC hk hh
 have tp2 := Ca.lt
 replace Ca := kC hC Ca
 have tp3 := Cw.lt
 replace Cw := kC hC Cw
 have tp5 := Cc.lt
 replace Cc := kC hC Cc
 have tp6 := Cv.lt
 replace Cv := kC hC Cv
 replace S5 := kp hk S5
 replace S12 := kp hk S12
 replace S13 := kp hk S13
 replace S15 := kp hk S15
 replace S17 := kp hk S17
 replace S19 := kp hk S19
 replace S21 := kp hk S21
 replace HSc := RI.aft HSc hC (by intro m hm; simp at hm)
 have S92 := gotV hz' 11 hh rfl rfl rfl rfl
 clear tp2 tp3 tp5 tp6
 replace HB := aft_call HB (RelC.below_nil hC)
 clear hC hk hh; replace hz := hz'; replace hd := hd'; clear hz' hd'
 refine wp_cond_false S92.ev ?_
 refine wp_exit ?_
 refine wp_seq ?_
 refine region_text (M := []) (
  rT (tV (.bool true)) ::
  []) hz hd (by kernel_rfl) ?_ ?_
 refine ⟨?_, trivial⟩
 exact zAs hz kc
 intro a' γ' W' hz' hd' hC hk hh
 have tp2 := Ca.lt
 clear Ca
 have tp3 := Cw.lt
 clear Cw
 have tp5 := Cc.lt
 clear Cc
 have tp6 := Cv.lt
 clear Cv
 clear S5
 clear S12
 clear S13
 clear S15
 clear S17
 clear S19
 clear S21
 clear S92
 replace HSc := RI.aft HSc hC (by intro m hm; simp at hm)
 have S12 := gotV hz' 0 hh rfl rfl rfl rfl
 clear tp2 tp3 tp5 tp6
 replace HB := aft_call HB (RelC.below_nil hC)
 clear hC hk hh; replace hz := hz'; replace hd := hd'; clear hz' hd'
 refine wp_ret ?_
 exact ret1 (by kernel_rfl) S12 hd ⟨_, rfl, rfl, HB⟩
 refine region_text (M := []) (
  rT (tV (.int .i64 bn)) ::
  rT (tV (.int .u64 (u : Int))) ::
  rT (tV (.float .f64 u)) ::
  rT (tV (.int .i64 per)) ::
  rT (tV (.int .i64 t)) ::
  rT (tT [tV (.pointer none), tV (.int .i64 (newE bn u per t))]) ::
  rT (tT [tV (.pointer none), tV (.int .i64 (newE bn u per t))]) ::
  rT (tV (.pointer none)) ::
  rT (tV (.int .i64 (newE bn u per t))) ::
  rT (tV (.pointer none)) ::
  rT (tV (.int .i64 (newE bn u per t))) ::
  []) hz hd (by kernel_rfl) ?_ ?_
 refine ⟨?_, ?_, ?_, ?_, ?_, ?_, ?_, ?_, ?_, ?_, ?_, trivial⟩
 exact zMv hz (sv S0)
 exact zMv hz (sv S1)
 exact zC1 hz Try.func10 (sd 1 rfl) (k1 (fun _ => c_float))
 exact zMv hz (sv S2)
 exact zMv hz (sv S3)
 exact sCall rfl rfl rfl hz rfl (Gd.none_ rfl) rfl Try.func9 (by kernel_rfl) (by kernel_rfl) fun a γ w U => (by show Calls _ _ #[a.eval (.tmp 38), a.eval (.tmp 40), a.eval (.tmp 41), a.eval (.tmp 42)] _ _; rw [show a.eval (.tmp 38) = .int .i64 bn from Src.at_ (sd 0 rfl) U, show a.eval (.tmp 40) = .float .f64 u from Src.at_ (sd 2 rfl) U, show a.eval (.tmp 41) = .int .i64 per from Src.at_ (sd 3 rfl) U, show a.eval (.tmp 42) = .int .i64 t from Src.at_ (sd 4 rfl) U]; exact c_new_no (l := (l + 1)) (by omega) (by omega) hu (by omega) hc1)
 exact zMv hz (sd 5 rfl)
 exact zExt hz (sd 6 rfl)
 exact zExt hz (sd 6 rfl)
 exact zAs hz (sd 7 rfl)
 exact zAs hz (sd 8 rfl)
 intro a' γ' W' hz' hd' hC hk hh
 replace S0 := kp hk S0
 replace S1 := kp hk S1
 replace S2 := kp hk S2
 replace S3 := kp hk S3
 replace S4 := kp hk S4
 replace S5 := kp hk S5
 replace S12 := kp hk S12
 clear S36
 replace HSc := RI.aft HSc hC (by intro m hm; simp at hm)
 have S13 := gotV hz' 9 hh rfl rfl rfl rfl
 have S14 := gotV hz' 10 hh rfl rfl rfl rfl
 replace HB := aft_call HB (RelC.below_nil hC)
 clear hC hk hh; replace hz := hz'; replace hd := hd'; clear hz' hd'
 refine wp_seq ?_
 refine region_text (M := []) (
  rT (tV (.int .i64 bn)) ::
  rT (tV (.int .u64 (u : Int))) ::
  rT (tV (.int .i64 per)) ::
  rT (tV (.int .i64 t)) ::
  rT (tT [tO [tV (.int .i64 0), tR B32 0 0 0 0, tR B32 0 0 0 0, tV (.int .i64 0)] [1, 2, 2, 1], tV (.int .i64 (newE bn u per t))]) ::
  rT (tT [tO [tV (.int .i64 0), tR B32 0 0 0 0, tR B32 0 0 0 0, tV (.int .i64 0)] [1, 2, 2, 1], tV (.int .i64 (newE bn u per t))]) ::
  rT (tO [tV (.int .i64 0), tR B32 0 0 0 0, tR B32 0 0 0 0, tV (.int .i64 0)] [1, 2, 2, 1]) ::
  rT (tV (.int .i64 (newE bn u per t))) ::
  rVar 8 59 6 ::
  rB 8 59 (tO [tV (.int .i64 0), tR B32 0 0 0 0, tR B32 0 0 0 0, tV (.int .i64 0)] [1, 2, 2, 1]) (some 8) 9 ::
  rT (tV (.int .i64 (newE bn u per t))) ::
  []) hz hd (by kernel_rfl) ?_ ?_
 refine ⟨?_, ?_, ?_, ?_, ?_, ?_, ?_, ?_, ?_, ?_, ?_, trivial⟩
 exact zMv hz (sv S0)
 exact zMv hz (sv S1)
 exact zMv hz (sv S2)
 exact zMv hz (sv S3)
 exact sCall rfl rfl rfl hz rfl (Gd.none_ rfl) rfl Try.func24 (by kernel_rfl) (by kernel_rfl) fun a γ w U => (by show Calls _ _ #[a.eval (.tmp 47), a.eval (.tmp 48), a.eval (.tmp 49), a.eval (.tmp 50)] _ _; rw [show a.eval (.tmp 47) = .int .i64 bn from Src.at_ (sd 0 rfl) U, show a.eval (.tmp 48) = .int .u64 (u : Int) from Src.at_ (sd 1 rfl) U, show a.eval (.tmp 49) = .int .i64 per from Src.at_ (sd 2 rfl) U, show a.eval (.tmp 50) = .int .i64 t from Src.at_ (sd 3 rfl) U]; exact d_new_no (l := l) (u := u) hl (by omega) hu (by omega) hc1)
 exact zMv hz (sd 4 rfl)
 exact zExt hz (sd 5 rfl)
 exact zExt hz (sd 5 rfl)
 exact zAl hz nd_z8 al_r8
 exact zSt (sd 6 rfl) (st_of (sto_r8 p2_r p2_r))
 exact zAs hz (sd 7 rfl)
 intro a' γ' W' hz' hd' hC hk hh
 clear S0
 clear S1
 clear S2
 clear S3
 replace S4 := kp hk S4
 replace S5 := kp hk S5
 replace S12 := kp hk S12
 replace S13 := kp hk S13
 replace S14 := kp hk S14
 replace HSc := RI.aft HSc hC (by intro m hm; simp at hm)
 obtain ⟨p17, S15, Cp17, lp17, gp17⟩ := gotB hz' 9 hC hh rfl rfl rfl rfl rfl rfl
 have S16 := gotV hz' 10 hh rfl rfl rfl rfl
 have bp17 : w.heap.size ≤ p17 := Nat.le_trans HB.size lp17
 clear lp17 gp17
 replace HB := aft_call HB (RelC.below_nil hC)
 clear hC hk hh; replace hz := hz'; replace hd := hd'; clear hz' hd'
 refine wp_seq ?_
 refine wp_seq ?_
 have hc18 : newE bn u per t ≠ 0 := hc1
 refine region_text (M := []) (
  rT (tV (.int .i64 (newE bn u per t))) ::
  rT (tV (.int .i64 (newE bn u per t))) ::
  rT (tV (.bool false)) ::
  rT (tV (.bool false)) ::
  rT (tV (.pointer none)) ::
  rT (tV (.bool true)) ::
  rT (tV (.int .i64 (newE bn u per t))) ::
  rT (tV (.bool true)) ::
  rT (tV (.bool false)) ::
  rT (tV (.bool false)) ::
  []) hz hd (by kernel_rfl) ?_ ?_
 refine ⟨?_, ?_, ?_, ?_, ?_, ?_, ?_, ?_, ?_, ?_, trivial⟩
 exact zMv hz (sv S14)
 exact zMv hz (sv S16)
 exact sBin rfl rfl rfl hz rfl (Gd.none_ rfl) rfl (sd 0 rfl) (sd 1 rfl) (fun w => by simp [go_sem])
 exact zMv hz (sd 2 rfl)
 exact zMv hz (sv S13) (g := gT 3 rfl)
 exact sBin rfl rfl rfl hz rfl (gT 3 rfl) rfl (sd 4 rfl) kc (fun w => by simp [go_sem])
 exact zMv hz (sv S16) (g := gT 3 rfl)
 exact sBin rfl rfl rfl hz rfl (gT 3 rfl) rfl (sd 6 rfl) kc (fun w => run_t (P := newE bn u per t ≠ 0) ((fun w => run_neq) w) hc18)
 exact sBin rfl rfl rfl hz rfl (gT 3 rfl) rfl (sd 5 rfl) (sd 7 rfl) (fun w => by kernel_rfl)
 exact zPF hz (sd 3 rfl) (sd 8 rfl)
 intro a' γ' W' hz' hd' hC hk hh
 have tp17 := Cp17.lt
 replace Cp17 := kC hC Cp17
 replace S4 := kp hk S4
 replace S5 := kp hk S5
 replace S12 := kp hk S12
 replace S13 := kp hk S13
 clear S14
 replace S15 := kp hk S15
 clear S16
 replace HSc := RI.aft HSc hC (by intro m hm; simp at hm)
 have S63 := gotV hz' 9 hh rfl rfl rfl rfl
 clear tp17
 replace HB := aft_call HB (RelC.below_nil hC)
 clear hC hk hh; replace hz := hz'; replace hd := hd'; clear hz' hd'
 refine wp_cond_false S63.ev ?_
 refine wp_skip ?_
 refine wp_seq ?_
 have hc19 : newE b2 4602678819172646912 2 0 = 0 := newE_0 (by omega) (by omega) told_R (by decide) (by decide) (by decide) (by decide)
 refine region_text (M := []) (
  rT (tV (.int .i64 other)) ::
  rT (tV (.int .i64 (n1 : Int))) ::
  rT (tV (.int .i64 b2)) ::
  rN 3 80 (tO [tV (.int .i64 0), tQ B64 ((l + 1) + 64 + 41) 0, tQ B64 42 (((b2 : Int) : Rat)), tQ B64 ((l + 1) + 64) (divI (flQ 4602678819172646912) 2)] [1, 2, 2, 2]) (.int .i64 0) ::
  rN 3 80 (tO [tV (.int .i64 0), tQ B64 ((l + 1) + 64 + 41) 0, tQ B64 42 (((b2 : Int) : Rat)), tQ B64 ((l + 1) + 64) (divI (flQ 4602678819172646912) 2)] [1, 2, 2, 2]) (.int .i64 0) ::
  rB 3 80 (tO [tV (.int .i64 0), tQ B64 ((l + 1) + 64 + 41) 0, tQ B64 42 (((b2 : Int) : Rat)), tQ B64 ((l + 1) + 64) (divI (flQ 4602678819172646912) 2)] [1, 2, 2, 2]) none 0 ::
  rT (tV (.int .i64 0)) ::
  rB 3 80 (tO [tV (.int .i64 0), tQ B64 ((l + 1) + 64 + 41) 0, tQ B64 42 (((b2 : Int) : Rat)), tQ B64 ((l + 1) + 64) (divI (flQ 4602678819172646912) 2)] [1, 2, 2, 2]) none 0 ::
  rT (tV (.int .i64 0)) ::
  []) hz hd (by kernel_rfl) ?_ ?_
 refine ⟨?_, ?_, ?_, ?_, ?_, ?_, ?_, ?_, ?_, trivial⟩
 exact zMv hz (sv S4)
 exact sBin rfl rfl rfl hz rfl (Gd.none_ rfl) rfl (sd 0 rfl) kc (fun w => by simp [go_sem, hn1e])
 exact sBin rfl rfl rfl hz rfl (Gd.none_ rfl) rfl (sd 1 rfl) kc (fun w => inc_b hb2 (by omega) (by omega) w)
 exact zCN hz rfl Try.func9 (fun a γ w U => (by show Calls _ _ #[a.eval (.tmp 67), .float FloatKind.f64 4602678819172646912, .int .i64 2, .int .i64 0] _ _; rw [show a.eval (.tmp 67) = .int .i64 b2 from Src.at_ (sd 2 rfl) U]; exact c_new_ok (l := (l + 1)) (by omega) (by omega) (by decide) (by decide) hc19))
 exact zMvN 3 3 rfl rfl hz rfl ⟨_, rfl, rfl⟩
 exact zExP 3 4 rfl rfl hz rfl ⟨_, rfl, rfl⟩
 exact zExU 3 4 rfl hz rfl ⟨_, rfl, rfl⟩
 exact zPP 3 5 rfl rfl hz (.inr rfl) ⟨_, rfl, rfl⟩
 exact zAs hz (sd 6 rfl)
 intro a' γ' W' hz' hd' hC hk hh
 have ep17 := Cp17.lt
 have tp17 := Cp17.lt
 replace Cp17 := kC hC Cp17
 replace S4 := kp hk S4
 replace S5 := kp hk S5
 replace S12 := kp hk S12
 replace S13 := kp hk S13
 replace S15 := kp hk S15
 clear S63
 replace HSc := RI.aft HSc hC (by intro m hm; simp at hm)
 obtain ⟨p20, S17, Cp20, lp20, gp20⟩ := gotP hz' 7 hC hh rfl rfl rfl rfl rfl
 have n_p20_p17 : p20 ≠ p17 := by omega
 have n_p17_p20 : p17 ≠ p20 := by have := ep17; omega
 have bp20 : w.heap.size ≤ p20 := Nat.le_trans HB.size lp20
 clear lp20 gp20
 clear tp17
 clear ep17
 replace HB := aft_call HB (RelC.below_nil hC)
 clear hC hk hh; replace hz := hz'; replace hd := hd'; clear hz' hd'
 refine wp_seq ?_
 refine region_text (M := []) (
  rT (tV (.int .i64 other)) ::
  rT (tV (.int .i64 (n1 : Int))) ::
  rT (tV (.int .i64 b2)) ::
  rT (tV (.int .u64 (4602678819172646912 : Int))) ::
  rT (tT [tO [tV (.int .i64 b2), tQ B32 (l + 65) (divI (flQ 4602678819172646912) 2), tQ B32 (l + 65 + 41) 0, tV (.int .i64 0)] [1, 2, 2, 1], tV (.int .i64 0)]) ::
  rT (tT [tO [tV (.int .i64 b2), tQ B32 (l + 65) (divI (flQ 4602678819172646912) 2), tQ B32 (l + 65 + 41) 0, tV (.int .i64 0)] [1, 2, 2, 1], tV (.int .i64 0)]) ::
  rT (tO [tV (.int .i64 b2), tQ B32 (l + 65) (divI (flQ 4602678819172646912) 2), tQ B32 (l + 65 + 41) 0, tV (.int .i64 0)] [1, 2, 2, 1]) ::
  rT (tV (.int .i64 0)) ::
  rVar 8 59 6 ::
  rB 8 59 (tO [tV (.int .i64 b2), tQ B32 (l + 65) (divI (flQ 4602678819172646912) 2), tQ B32 (l + 65 + 41) 0, tV (.int .i64 0)] [1, 2, 2, 1]) (some 8) 9 ::
  rT (tV (.int .i64 0)) ::
  []) hz hd (by kernel_rfl) ?_ ?_
 refine ⟨?_, ?_, ?_, ?_, ?_, ?_, ?_, ?_, ?_, ?_, ?_, trivial⟩
 exact zMv hz (sv S4)
 exact sBin rfl rfl rfl hz rfl (Gd.none_ rfl) rfl (sd 0 rfl) kc (fun w => by simp [go_sem, hn1e])
 exact sBin rfl rfl rfl hz rfl (Gd.none_ rfl) rfl (sd 1 rfl) kc (fun w => inc_b hb2 (by omega) (by omega) w)
 exact zC1 hz Try.func25 (kc (v := .float FloatKind.f64 4602678819172646912)) (k1 (fun _ => c_bits))
 exact sCall rfl rfl rfl hz rfl (Gd.none_ rfl) rfl Try.func24 (by kernel_rfl) (by kernel_rfl) fun a γ w U => (by show Calls _ _ #[a.eval (.tmp 74), a.eval (.tmp 75), .int .i64 2, .int .i64 0] _ _; rw [show a.eval (.tmp 74) = .int .i64 b2 from Src.at_ (sd 2 rfl) U, show a.eval (.tmp 75) = .int .u64 (4602678819172646912 : Int) from Src.at_ (sd 3 rfl) U]; exact d_new_ok (l := l) (u := 4602678819172646912) hl (by omega) (by decide) (by decide) hc19)
 exact zMv hz (sd 4 rfl)
 exact zExt hz (sd 5 rfl)
 exact zExt hz (sd 5 rfl)
 exact zAl hz nd_z8 al_r8
 exact zSt (sd 6 rfl) (st_of (sto_r8 p2_q p2_q))
 exact zAs hz (sd 7 rfl)
 intro a' γ' W' hz' hd' hC hk hh
 have ep17 := Cp17.lt
 have ep20 := Cp20.lt
 have tp17 := Cp17.lt
 replace Cp17 := kC hC Cp17
 have tp20 := Cp20.lt
 replace Cp20 := kC hC Cp20
 clear S4
 replace S5 := kp hk S5
 replace S12 := kp hk S12
 replace S13 := kp hk S13
 replace S15 := kp hk S15
 replace S17 := kp hk S17
 replace HSc := RI.aft HSc hC (by intro m hm; simp at hm)
 obtain ⟨p21, S19, Cp21, lp21, gp21⟩ := gotB hz' 9 hC hh rfl rfl rfl rfl rfl rfl
 have n_p21_p17 : p21 ≠ p17 := by omega
 have n_p21_p20 : p21 ≠ p20 := by omega
 have n_p17_p21 : p17 ≠ p21 := by have := ep17; omega
 have n_p20_p21 : p20 ≠ p21 := by have := ep20; omega
 have bp21 : w.heap.size ≤ p21 := Nat.le_trans HB.size lp21
 clear lp21 gp21
 clear tp17 tp20
 clear ep17 ep20
 replace HB := aft_call HB (RelC.below_nil hC)
 clear hC hk hh; replace hz := hz'; replace hd := hd'; clear hz' hd'
 refine wp_seq ?_
 refine wp_seq ?_
 refine region_text (M := []) (
  rT (tV (.pointer (some ⟨p20, 0, none⟩))) ::
  rT (tV (.bool false)) ::
  []) hz hd (by kernel_rfl) ?_ ?_
 refine ⟨?_, ?_, trivial⟩
 exact zMv hz (sv S17)
 exact sBin rfl rfl rfl hz rfl (Gd.none_ rfl) rfl (sd 0 rfl) kc (fun w => by simp [go_sem])
 intro a' γ' W' hz' hd' hC hk hh
 have tp17 := Cp17.lt
 replace Cp17 := kC hC Cp17
 have tp20 := Cp20.lt
 replace Cp20 := kC hC Cp20
 have tp21 := Cp21.lt
 replace Cp21 := kC hC Cp21
 replace S5 := kp hk S5
 replace S12 := kp hk S12
 replace S13 := kp hk S13
 replace S15 := kp hk S15
 replace S17 := kp hk S17
 replace S19 := kp hk S19
 replace HSc := RI.aft HSc hC (by intro m hm; simp at hm)
 have S80 := gotV hz' 1 hh rfl rfl rfl rfl
 clear tp17 tp20 tp21
 replace HB := aft_call HB (RelC.below_nil hC)
 clear hC hk hh; replace hz := hz'; replace hd := hd'; clear hz' hd'
 refine wp_cond_false S80.ev ?_
 refine wp_skip ?_
 refine wp_seq ?_
 refine wp_seq ?_
 refine region_text (M := []) (
  rT (tV (.int .i64 0)) ::
  []) hz hd (by kernel_rfl) ?_ ?_
 refine ⟨?_, trivial⟩
 exact zAs hz kc
 intro a' γ' W' hz' hd' hC hk hh
 have tp17 := Cp17.lt
 replace Cp17 := kC hC Cp17
 have tp20 := Cp20.lt
 replace Cp20 := kC hC Cp20
 have tp21 := Cp21.lt
 replace Cp21 := kC hC Cp21
 replace S5 := kp hk S5
 replace S12 := kp hk S12
 replace S13 := kp hk S13
 replace S15 := kp hk S15
 replace S17 := kp hk S17
 replace S19 := kp hk S19
 clear S80
 replace HSc := RI.aft HSc hC (by intro m hm; simp at hm)
 have S21 := gotV hz' 0 hh rfl rfl rfl rfl
 clear tp17 tp20 tp21
 replace HB := aft_call HB (RelC.below_nil hC)
 clear hC hk hh; replace hz := hz'; replace hd := hd'; clear hz' hd'
 refine wp_block ?_
 refine wp_loop_rounds 4 ?_
 show Code.wp _ _ _ _ _
 refine wp_seq ?_
 refine wp_seq ?_
 by_cases hc22 : 0 < (ns : Int)
 refine region_text (M := []) (
  rT (tV (.int .i64 0)) ::
  rT (tV (.slice As ns cs)) ::
  rT (tV (.int .i64 (ns : Int))) ::
  rT (tV (.bool true)) ::
  rT (tV (.bool true)) ::
  rT (tV (.int .i64 0)) ::
  rT (tV (.bool true)) ::
  rT (tV (.bool true)) ::
  rT (tV (.bool true)) ::
  rT (tV (.pointer none)) ::
  rT (tV (.bool false)) ::
  rT (tV (.bool false)) ::
  []) hz hd (by kernel_rfl) ?_ ?_
 refine ⟨?_, ?_, ?_, ?_, ?_, ?_, ?_, ?_, ?_, ?_, ?_, ?_, trivial⟩
 exact zMv hz (sv S21)
 exact zMv hz (sv S5)
 exact sLenK hz rfl (sd 1 rfl) (fun w => by simp [go_sem])
 exact sBin rfl rfl rfl hz rfl (Gd.none_ rfl) rfl (sd 0 rfl) (sd 2 rfl) (fun w => run_t (P := 0 < (ns : Int)) ((fun w => run_lss) w) hc22)
 exact zMv hz (sd 3 rfl)
 exact zMv hz (sv S21) (g := gT 4 rfl)
 exact sBin rfl rfl rfl hz rfl (gT 4 rfl) rfl (sd 5 rfl) kc (fun w => by simp [go_sem])
 exact zPT hz (sd 4 rfl) (sd 6 rfl)
 exact zMv hz (sd 7 rfl)
 exact zMv hz (sv S13) (g := gT 8 rfl)
 exact sBin rfl rfl rfl hz rfl (gT 8 rfl) rfl (sd 9 rfl) kc (fun w => by simp [go_sem])
 exact zPT hz (sd 8 rfl) (sd 10 rfl)
 intro a' γ' W' hz' hd' hC hk hh
 have tp17 := Cp17.lt
 replace Cp17 := kC hC Cp17
 have tp20 := Cp20.lt
 replace Cp20 := kC hC Cp20
 have tp21 := Cp21.lt
 replace Cp21 := kC hC Cp21
 replace S5 := kp hk S5
 replace S12 := kp hk S12
 replace S13 := kp hk S13
 replace S15 := kp hk S15
 replace S17 := kp hk S17
 replace S19 := kp hk S19
 replace S21 := kp hk S21
 replace HSc := RI.aft HSc hC (by intro m hm; simp at hm)
 have S92 := gotV hz' 11 hh rfl rfl rfl rfl
 clear tp17 tp20 tp21
 replace HB := aft_call HB (RelC.below_nil hC)
 clear hC hk hh; replace hz := hz'; replace hd := hd'; clear hz' hd'
 refine wp_cond_false S92.ev ?_
 refine wp_exit ?_
 refine wp_seq ?_
 refine region_text (M := []) (
  rT (tV (.bool true)) ::
  []) hz hd (by kernel_rfl) ?_ ?_
 refine ⟨?_, trivial⟩
 exact zAs hz kc
 intro a' γ' W' hz' hd' hC hk hh
 have tp17 := Cp17.lt
 clear Cp17
 have tp20 := Cp20.lt
 clear Cp20
 have tp21 := Cp21.lt
 clear Cp21
 clear S5
 clear S12
 clear S13
 clear S15
 clear S17
 clear S19
 clear S21
 clear S92
 replace HSc := RI.aft HSc hC (by intro m hm; simp at hm)
 have S12 := gotV hz' 0 hh rfl rfl rfl rfl
 clear tp17 tp20 tp21
 replace HB := aft_call HB (RelC.below_nil hC)
 clear hC hk hh; replace hz := hz'; replace hd := hd'; clear hz' hd'
 refine wp_ret ?_
 exact ret1 (by kernel_rfl) S12 hd ⟨_, rfl, rfl, HB⟩
 refine region_text (M := []) (
  rT (tV (.int .i64 0)) ::
  rT (tV (.slice As ns cs)) ::
  rT (tV (.int .i64 (ns : Int))) ::
  rT (tV (.bool false)) ::
  rT (tV (.bool false)) ::
  rT (tV undef) ::
  rT (tV undef) ::
  rT (tV (.bool false)) ::
  rT (tV (.bool false)) ::
  rT (tV undef) ::
  rT (tV undef) ::
  rT (tV (.bool false)) ::
  []) hz hd (by kernel_rfl) ?_ ?_
 refine ⟨?_, ?_, ?_, ?_, ?_, ?_, ?_, ?_, ?_, ?_, ?_, ?_, trivial⟩
 exact zMv hz (sv S21)
 exact zMv hz (sv S5)
 exact sLenK hz rfl (sd 1 rfl) (fun w => by simp [go_sem])
 exact sBin rfl rfl rfl hz rfl (Gd.none_ rfl) rfl (sd 0 rfl) (sd 2 rfl) (fun w => run_f (P := 0 < (ns : Int)) ((fun w => run_lss) w) hc22)
 exact zMv hz (sd 3 rfl)
 exact zSkU hz (gN 4 rfl)
 exact zSkU hz (gN 4 rfl)
 exact zPF hz (sd 4 rfl) kc
 exact zMv hz (sd 7 rfl)
 exact zSkU hz (gN 8 rfl)
 exact zSkU hz (gN 8 rfl)
 exact zPF hz (sd 8 rfl) kc
 intro a' γ' W' hz' hd' hC hk hh
 have tp17 := Cp17.lt
 replace Cp17 := kC hC Cp17
 have tp20 := Cp20.lt
 replace Cp20 := kC hC Cp20
 have tp21 := Cp21.lt
 replace Cp21 := kC hC Cp21
 replace S5 := kp hk S5
 replace S12 := kp hk S12
 replace S13 := kp hk S13
 replace S15 := kp hk S15
 replace S17 := kp hk S17
 replace S19 := kp hk S19
 replace S21 := kp hk S21
 replace HSc := RI.aft HSc hC (by intro m hm; simp at hm)
 have S92 := gotV hz' 11 hh rfl rfl rfl rfl
 clear tp17 tp20 tp21
 replace HB := aft_call HB (RelC.below_nil hC)
 clear hC hk hh; replace hz := hz'; replace hd := hd'; clear hz' hd'
 refine wp_cond_false S92.ev ?_
 refine wp_exit ?_
 refine wp_seq ?_
 refine region_text (M := []) (
  rT (tV (.bool true)) ::
  []) hz hd (by kernel_rfl) ?_ ?_
 refine ⟨?_, trivial⟩
 exact zAs hz kc
 intro a' γ' W' hz' hd' hC hk hh
 have tp17 := Cp17.lt
 clear Cp17
 have tp20 := Cp20.lt
 clear Cp20
 have tp21 := Cp21.lt
 clear Cp21
 clear S5
 clear S12
 clear S13
 clear S15
 clear S17
 clear S19
 clear S21
 clear S92
 replace HSc := RI.aft HSc hC (by intro m hm; simp at hm)
 have S12 := gotV hz' 0 hh rfl rfl rfl rfl
 clear tp17 tp20 tp21
 replace HB := aft_call HB (RelC.below_nil hC)
 clear hC hk hh; replace hz := hz'; replace hd := hd'; clear hz' hd'
 refine wp_ret ?_
 exact ret1 (by kernel_rfl) S12 hd ⟨_, rfl, rfl, HB⟩

end Go.Proofs.Ytojpiiboikomfaa.Rg

namespace Go.Proofs.Ytojpiiboikomfaa.Rg

open Go.RowKit Go.ChangeShapes Go.WideShapes Go.ChangeAt Go.Deep

theorem in_range2 {k bytes : Nat} {w : World} {A : Option Addr} {n c : Nat} {l : List Int} (h : InI .i64 bytes k w A n c l) (j : Nat) : -9223372036854775808 ≤ l.getD j 0 ∧ l.getD j 0 < 9223372036854775808 := by
  rw [List.getD_eq_getElem?_getD]
  cases hj : l[j]? with
  | none => simp
  | some x => exact i64_r (h.wf x (List.mem_of_getElem? hj))
theorem bucketPlays_walk (bn u per t other : Int) (A0 : Option Addr) (n0 c0 : Nat) (l0 : List Int) (w : World) (hb : (Lit.int .i64 bn).wf = true) (hu : (Lit.int .u64 u).wf = true) (hp : (Lit.int .i64 per).wf = true) (ht : (Lit.int .i64 t).wf = true) (ho : (Lit.int .i64 other).wf = true) (h0 : InI .i64 24 3 w A0 n0 c0 l0) :
    Calls Try.prog 5 #[.int .i64 bn, .int .u64 u, .int .i64 per, .int .i64 t, .int .i64 other, .slice A0 n0 c0] w fun e w' => e = .returned (.bool true) ∧ Below w.heap.size w w' := by
  obtain ⟨u, rfl, hu2⟩ := u64_r hu
  obtain ⟨hb1, hb2⟩ := i64_r hb
  obtain ⟨hp1, hp2⟩ := i64_r hp
  obtain ⟨ht1, ht2⟩ := i64_r ht
  obtain ⟨m, hm2, hm⟩ := and_i64 other 10 (by omega)
  exact ret_out8 (bucketPlays_ret (l := 1100) (by omega) (by omega) hu2 hb1 hb2 hp1 hp2 ht1 ht2 hm2 hm rfl (ri_in (by decide) h0) (in_range2 h0))
end Go.Proofs.Ytojpiiboikomfaa.Rg
