/-
  Walks and plain laws, put together: UB UC.
-/
import Derived.Test.YtojpiiboikomfaaQr
import Derived.Test.YtojpiiboikomfaaQg
import Derived.Test.YtojpiiboikomfaaQj
set_option linter.unusedVariables false
set_option linter.unusedSimpArgs false
namespace Go.Proofs.Ytojpiiboikomfaa.Rg

open Go.RowKit

section

variable {ox oy : Operand} {id : TypeId} {x y : Int} {S T : Nat}
theorem cp_addi (h0 : -9223372036854775808 ≤ x + y) (h : x + y < 9223372036854775808) (w : World) : (do eqGuard .add id ox oy (.int .i64 x) (.int .i64 y); binOp .add id (.int .i64 x) (.int .i64 y) : Sem Value).run Try.prog w = .ok (.int .i64 (x + y)) w := by
  have e : IntKind.i64.wrap (x + y) = x + y := by rw [IntKind.wrap_i64]; omega
  simp [go_sem, e]
theorem cp_subi (h0 : -9223372036854775808 ≤ x - y) (h : x - y < 9223372036854775808) (w : World) : (do eqGuard .sub id ox oy (.int .i64 x) (.int .i64 y); binOp .sub id (.int .i64 x) (.int .i64 y) : Sem Value).run Try.prog w = .ok (.int .i64 (x - y)) w := by
  have e : IntKind.i64.wrap (x - y) = x - y := by rw [IntKind.wrap_i64]; omega
  simp [go_sem, e]
theorem cp_addu (h : S + T < 18446744073709551616) (w : World) : (do eqGuard .add id ox oy (.int .u64 (S : Int)) (.int .u64 (T : Int)); binOp .add id (.int .u64 (S : Int)) (.int .u64 (T : Int)) : Sem Value).run Try.prog w = .ok (.int .u64 ((S + T : Nat) : Int)) w := by
  have e : IntKind.u64.wrap ((S : Int) + (T : Int)) = ((S + T : Nat) : Int) := by rw [IntKind.wrap_u64]; omega
  simp only [Int.natCast_add] at e
  simp [go_sem, e]
theorem cp_last (h : 0 < S) (h2 : S ≤ 40) (w : World) : (do eqGuard .sub id ox oy (.int .i64 (S : Int)) (.int .i64 1); binOp .sub id (.int .i64 (S : Int)) (.int .i64 1) : Sem Value).run Try.prog w = .ok (.int .i64 ((S - 1 : Nat) : Int)) w := by
  have e : IntKind.i64.wrap ((S : Int) - 1) = ((S - 1 : Nat) : Int) := by rw [IntKind.wrap_i64]; omega
  simp [go_sem, e]
end

section

variable {g o n i : Nat} {F : Nat → Int} {w : World}
theorem ld_s31 (h : ∀ f, f < 3 → w.cell? ⟨g, o + (i * 3 + f), none⟩ = some (.int .i64 (F (i * 3 + f)))) : ∃ v, (Instr.loadAt 3 (.pointer (some ⟨g, o + i * 3 + 1, none⟩))).run Try.prog w = .ok v w ∧ (tV (.int .i64 (F (i * 3 + 1)))).p v w := by
  have h1 := h 1 (by decide)
  rw [← Nat.add_assoc] at h1
  exact ⟨_, by simp [go_sem, h1], rfl⟩
theorem ld_s32 (h : ∀ f, f < 3 → w.cell? ⟨g, o + (i * 3 + f), none⟩ = some (.int .i64 (F (i * 3 + f)))) : ∃ v, (Instr.loadAt 3 (.pointer (some ⟨g, o + i * 3 + 2, none⟩))).run Try.prog w = .ok v w ∧ (tV (.int .i64 (F (i * 3 + 2)))).p v w := by
  have h1 := h 2 (by decide)
  rw [← Nat.add_assoc] at h1
  exact ⟨_, by simp [go_sem, h1], rfl⟩
end

theorem rt_of8 {u : Nat} {b per t : Int} (h : newE b u per t = 0) : RtOk u := by obtain ⟨_, _, h3, h4, _⟩ := newE_inv h; exact ⟨h3, h4⟩
set_option maxRecDepth 10000 in
set_option maxHeartbeats 2000000 in
theorem bucketCaps_ret {l u : Nat} {b per : Int} {As : Option Addr} {ns0 cs : Nat} {F : Nat → Int} {w : World} (hl : 1100 ≤ l) (hl2 : l ≤ 9000) (hu : u < 18446744073709551616) (hb1 : -9223372036854775808 ≤ b) (hb2 : b < 9223372036854775808) (hper1 : -9223372036854775808 ≤ per) (hper2 : per < 9223372036854775808) (HSc : RI 3 As ns0 F w.heap.size w) (hF : ∀ j, -9223372036854775808 ≤ F j ∧ F j < 9223372036854775808) :
    Calls Try.prog 3 #[.int .i64 b, .int .u64 (u : Int), .int .i64 per, .slice As ns0 cs] w (Ret (tV (.bool true)) w) := by
 obtain ⟨i0, ii⟩ := parts_ofO info_int
 refine enter Try.func3 rfl Try.ntmps3 (by simp) ?_
 intro a hz hd ha
 have S0 := ha 0 _ rfl
 have S1 := ha 1 _ rfl
 have S2 := ha 2 _ rfl
 have S3 := ha 3 _ rfl
 clear ha
 have HB : Below w.heap.size w w := Below.refl _ _
 have hfb0 := few0 b (m := 1099511627775) (by decide)
 have hfb1 := few1 b (m := 1099511627775) (by decide)
 have hfp0 := few0 per (m := 1073741823) (by decide)
 have hfp1 := few1 per (m := 1073741823) (by decide)
 refine wp_seq ?_
 refine region_text (M := []) (
  rT (tV (.bool false)) ::
  []) hz hd (by kernel_rfl) ?_ ?_
 refine ⟨?_, trivial⟩
 exact zAs hz kc
 intro a' γ' W' hz' hd' hC hk hh
 replace S0 := kp hk S0
 replace S1 := kp hk S1
 replace S2 := kp hk S2
 replace S3 := kp hk S3
 replace HSc := RI.aft HSc hC (by intro m hm; simp at hm)
 have S8 := gotV hz' 0 hh rfl rfl rfl rfl
 replace HB := aft_call HB (RelC.below_nil hC)
 clear hC hk hh; replace hz := hz'; replace hd := hd'; clear hz' hd'
 refine wp_seq ?_
 refine region_text (M := []) (
  rT (tV (.int .i64 b)) ::
  rT (tV (.int .i64 (fewV b 1099511627775))) ::
  rT (tV (.int .i64 (fewV b 1099511627775 + 1))) ::
  rT (tV (.int .i64 (fewV b 1099511627775 + 1))) ::
  []) hz hd (by kernel_rfl) ?_ ?_
 refine ⟨?_, ?_, ?_, ?_, trivial⟩
 exact zMv hz (sv S0)
 exact zC2 hz Try.func8 (sd 0 rfl) (kc (v := .int .i64 1099511627775)) (k11 (fun _ => l_few (n := b) (m := 1099511627775) (by omega) (by omega) (by decide) (by omega)))
 exact sBin rfl rfl rfl hz rfl (Gd.none_ rfl) rfl (sd 1 rfl) kc (fun w => run_inc (by omega) (by omega) w)
 exact zAs hz (sd 2 rfl)
 intro a' γ' W' hz' hd' hC hk hh
 clear S0
 replace S1 := kp hk S1
 replace S2 := kp hk S2
 replace S3 := kp hk S3
 replace S8 := kp hk S8
 replace HSc := RI.aft HSc hC (by intro m hm; simp at hm)
 have S0 := gotV hz' 3 hh rfl rfl rfl rfl
 replace HB := aft_call HB (RelC.below_nil hC)
 clear hC hk hh; replace hz := hz'; replace hd := hd'; clear hz' hd'
 refine wp_seq ?_
 obtain ⟨bn, e_bn⟩ : ∃ x : Int, x = fewV b 1099511627775 + 1 := ⟨_, rfl⟩
 rw [← e_bn] at S0
 have hb : 1 ≤ bn ∧ bn ≤ 1099511627776 := by omega
 refine region_text (M := []) (
  rT (tV (.int .i64 per)) ::
  rT (tV (.int .i64 (fewV per 1073741823))) ::
  rT (tV (.int .i64 (fewV per 1073741823 + 1))) ::
  rT (tV (.int .i64 (fewV per 1073741823 + 1))) ::
  []) hz hd (by kernel_rfl) ?_ ?_
 refine ⟨?_, ?_, ?_, ?_, trivial⟩
 exact zMv hz (sv S2)
 exact zC2 hz Try.func8 (sd 0 rfl) (kc (v := .int .i64 1073741823)) (k11 (fun _ => l_few (n := per) (m := 1073741823) (by omega) (by omega) (by decide) (by omega)))
 exact sBin rfl rfl rfl hz rfl (Gd.none_ rfl) rfl (sd 1 rfl) kc (fun w => run_inc (by omega) (by omega) w)
 exact zAs hz (sd 2 rfl)
 intro a' γ' W' hz' hd' hC hk hh
 replace S1 := kp hk S1
 clear S2
 replace S3 := kp hk S3
 replace S8 := kp hk S8
 replace S0 := kp hk S0
 replace HSc := RI.aft HSc hC (by intro m hm; simp at hm)
 have S2 := gotV hz' 3 hh rfl rfl rfl rfl
 replace HB := aft_call HB (RelC.below_nil hC)
 clear hC hk hh; replace hz := hz'; replace hd := hd'; clear hz' hd'
 refine wp_seq ?_
 obtain ⟨per1, e_per1⟩ : ∃ x : Int, x = fewV per 1073741823 + 1 := ⟨_, rfl⟩
 rw [← e_per1] at S2
 have hpp : 1 ≤ per1 ∧ per1 ≤ 1073741824 := by omega
 by_cases hc1 : newE bn u per1 0 = 0
 refine region_text (M := []) (
  rT (tV (.int .i64 bn)) ::
  rT (tV (.int .u64 (u : Int))) ::
  rT (tV (.float .f64 u)) ::
  rT (tV (.int .i64 per1)) ::
  rN 4 80 (tO [tV (.int .i64 0), tQ B64 (l + 64 + 41) 0, tQ B64 42 (((bn : Int) : Rat)), tQ B64 (l + 64) (divI (flQ u) per1)] [1, 2, 2, 2]) (.int .i64 0) ::
  rN 4 80 (tO [tV (.int .i64 0), tQ B64 (l + 64 + 41) 0, tQ B64 42 (((bn : Int) : Rat)), tQ B64 (l + 64) (divI (flQ u) per1)] [1, 2, 2, 2]) (.int .i64 0) ::
  rB 4 80 (tO [tV (.int .i64 0), tQ B64 (l + 64 + 41) 0, tQ B64 42 (((bn : Int) : Rat)), tQ B64 (l + 64) (divI (flQ u) per1)] [1, 2, 2, 2]) none 0 ::
  rT (tV (.int .i64 0)) ::
  rB 4 80 (tO [tV (.int .i64 0), tQ B64 (l + 64 + 41) 0, tQ B64 42 (((bn : Int) : Rat)), tQ B64 (l + 64) (divI (flQ u) per1)] [1, 2, 2, 2]) none 0 ::
  rT (tV (.int .i64 0)) ::
  []) hz hd (by kernel_rfl) ?_ ?_
 refine ⟨?_, ?_, ?_, ?_, ?_, ?_, ?_, ?_, ?_, ?_, trivial⟩
 exact zMv hz (sv S0)
 exact zMv hz (sv S1)
 exact zC1 hz Try.func10 (sd 1 rfl) (k1 (fun _ => c_float))
 exact zMv hz (sv S2)
 exact zCN hz rfl Try.func9 (fun a γ w U => (by show Calls _ _ #[a.eval (.tmp 34), a.eval (.tmp 36), a.eval (.tmp 37), .int .i64 0] _ _; rw [show a.eval (.tmp 34) = .int .i64 bn from Src.at_ (sd 0 rfl) U, show a.eval (.tmp 36) = .float .f64 u from Src.at_ (sd 2 rfl) U, show a.eval (.tmp 37) = .int .i64 per1 from Src.at_ (sd 3 rfl) U]; exact c_new_ok (l := l) hl (by omega) hu (by omega) hc1))
 exact zMvN 4 4 rfl rfl hz rfl ⟨_, rfl, rfl⟩
 exact zExP 4 5 rfl rfl hz rfl ⟨_, rfl, rfl⟩
 exact zExU 4 5 rfl hz rfl ⟨_, rfl, rfl⟩
 exact zPP 4 6 rfl rfl hz (.inr rfl) ⟨_, rfl, rfl⟩
 exact zAs hz (sd 7 rfl)
 intro a' γ' W' hz' hd' hC hk hh
 replace S1 := kp hk S1
 replace S3 := kp hk S3
 replace S8 := kp hk S8
 replace S0 := kp hk S0
 replace S2 := kp hk S2
 replace HSc := RI.aft HSc hC (by intro m hm; simp at hm)
 obtain ⟨p2, S9, Cp2, lp2, gp2⟩ := gotP hz' 8 hC hh rfl rfl rfl rfl rfl
 have S10 := gotV hz' 9 hh rfl rfl rfl rfl
 have bp2 : w.heap.size ≤ p2 := Nat.le_trans HB.size lp2
 clear lp2 gp2
 replace HB := aft_call HB (RelC.below_nil hC)
 clear hC hk hh; replace hz := hz'; replace hd := hd'; clear hz' hd'
 refine wp_seq ?_
 refine region_text (M := []) (
  rT (tV (.int .u64 (u : Int))) ::
  rT (tT [tQ B32 l (rtQ u), tV (.bool (decide (RtOk u)))]) ::
  rT (tT [tQ B32 l (rtQ u), tV (.bool (decide (RtOk u)))]) ::
  rT (tQ B32 l (rtQ u)) ::
  rT (tV (.bool (decide (RtOk u)))) ::
  rVar 5 35 2 ::
  rB 5 35 (tQ B32 l (rtQ u)) (some 5) 6 ::
  rT (tV (.bool (decide (RtOk u)))) ::
  []) hz hd (by kernel_rfl) ?_ ?_
 refine ⟨?_, ?_, ?_, ?_, ?_, ?_, ?_, ?_, trivial⟩
 exact zMv hz (sv S1)
 exact zC1 hz Try.func11 (sd 0 rfl) (k1 (fun _ => d_rate (l := l) (u := u) hu hl))
 exact zMv hz (sd 1 rfl)
 exact zExt hz (sd 2 rfl)
 exact zExt hz (sd 2 rfl)
 exact zAl hz nd_rat al_r32
 exact zSt (sd 3 rfl) st_q32
 exact zAs hz (sd 4 rfl)
 intro a' γ' W' hz' hd' hC hk hh
 have ep2 := Cp2.lt
 have tp2 := Cp2.lt
 replace Cp2 := kC hC Cp2
 clear S1
 replace S3 := kp hk S3
 replace S8 := kp hk S8
 replace S0 := kp hk S0
 replace S2 := kp hk S2
 replace S9 := kp hk S9
 replace S10 := kp hk S10
 replace HSc := RI.aft HSc hC (by intro m hm; simp at hm)
 obtain ⟨p3, S11, Cp3, lp3, gp3⟩ := gotB hz' 6 hC hh rfl rfl rfl rfl rfl rfl
 have S12 := gotV hz' 7 hh rfl rfl rfl rfl
 have n_p3_p2 : p3 ≠ p2 := by omega
 have n_p2_p3 : p2 ≠ p3 := by have := ep2; omega
 have bp3 : w.heap.size ≤ p3 := Nat.le_trans HB.size lp3
 clear lp3 gp3
 clear tp2
 clear ep2
 replace HB := aft_call HB (RelC.below_nil hC)
 clear hC hk hh; replace hz := hz'; replace hd := hd'; clear hz' hd'
 refine wp_seq ?_
 refine wp_seq ?_
 have hc4 : RtOk u := rt_of8 hc1
 rw [decide_eq_true hc4] at S12
 refine region_text (M := []) (
  rT (tV (.bool true)) ::
  rT (tV (.bool false)) ::
  rT (tV (.bool false)) ::
  rT (tV (.int .i64 0)) ::
  rT (tV (.bool true)) ::
  rT (tV (.bool true)) ::
  rT (tV (.bool false)) ::
  rT (tV (.bool false)) ::
  []) hz hd (by kernel_rfl) ?_ ?_
 refine ⟨?_, ?_, ?_, ?_, ?_, ?_, ?_, ?_, trivial⟩
 exact zC0 hz Try.func12 (fun _ => l_told8)
 exact zNot hz (sd 0 rfl)
 exact zMv hz (sd 1 rfl)
 exact zMv hz (sv S10) (g := gT 2 rfl)
 exact sBin rfl rfl rfl hz rfl (gT 2 rfl) rfl (sd 3 rfl) kc (fun w => by simp [go_sem])
 exact zMv hz (sv S12) (g := gT 2 rfl)
 exact sBin rfl rfl rfl hz rfl (gT 2 rfl) rfl (sd 4 rfl) (sd 5 rfl) (fun w => by kernel_rfl)
 exact zPF hz (sd 2 rfl) (sd 6 rfl)
 intro a' γ' W' hz' hd' hC hk hh
 have tp2 := Cp2.lt
 replace Cp2 := kC hC Cp2
 have tp3 := Cp3.lt
 replace Cp3 := kC hC Cp3
 replace S3 := kp hk S3
 replace S8 := kp hk S8
 replace S0 := kp hk S0
 replace S2 := kp hk S2
 replace S9 := kp hk S9
 clear S10
 replace S11 := kp hk S11
 replace S12 := kp hk S12
 replace HSc := RI.aft HSc hC (by intro m hm; simp at hm)
 have S53 := gotV hz' 7 hh rfl rfl rfl rfl
 clear tp2 tp3
 replace HB := aft_call HB (RelC.below_nil hC)
 clear hC hk hh; replace hz := hz'; replace hd := hd'; clear hz' hd'
 refine wp_cond_false S53.ev ?_
 refine wp_skip ?_
 refine wp_seq ?_
 refine wp_seq ?_
 refine region_text (M := []) (
  rT (tV (.bool true)) ::
  rT (tV (.bool false)) ::
  []) hz hd (by kernel_rfl) ?_ ?_
 refine ⟨?_, ?_, trivial⟩
 exact zMv hz (sv S12)
 exact zNot hz (sd 0 rfl)
 intro a' γ' W' hz' hd' hC hk hh
 have tp2 := Cp2.lt
 replace Cp2 := kC hC Cp2
 have tp3 := Cp3.lt
 replace Cp3 := kC hC Cp3
 replace S3 := kp hk S3
 replace S8 := kp hk S8
 replace S0 := kp hk S0
 replace S2 := kp hk S2
 replace S9 := kp hk S9
 replace S11 := kp hk S11
 clear S12
 clear S53
 replace HSc := RI.aft HSc hC (by intro m hm; simp at hm)
 have S55 := gotV hz' 1 hh rfl rfl rfl rfl
 clear tp2 tp3
 replace HB := aft_call HB (RelC.below_nil hC)
 clear hC hk hh; replace hz := hz'; replace hd := hd'; clear hz' hd'
 refine wp_cond_false S55.ev ?_
 refine wp_skip ?_
 refine wp_seq ?_
 refine region_text (M := [p3]) (
  rT (tQ B32 l (rtQ u)) ::
  rT (tV (.int .i64 per1)) ::
  rT (tT [tQ B32 (l + 65) (divI (rtQ u) per1), tV (.bool (decide (1 ≤ per1)))]) ::
  rT (tT [tQ B32 (l + 65) (divI (rtQ u) per1), tV (.bool (decide (1 ≤ per1)))]) ::
  rT (tQ B32 (l + 65) (divI (rtQ u) per1)) ::
  rT (tV (.bool (decide (1 ≤ per1)))) ::
  rE 0 35 (tQ B32 (l + 65) (divI (rtQ u) per1)) p3 ::
  []) hz hd (by kernel_rfl) ?_ ?_
 refine ⟨?_, ?_, ?_, ?_, ?_, ?_, ?_, trivial⟩
 exact sLoadM rfl rfl rfl hz rfl (Gd.none_ rfl) rfl (sv S11) Cp3 (k := 0) (by simp [tagOf]) (by kernel_rfl) ld_q32
 exact zMv hz (sv S2)
 exact zC2 hz Try.func13 (sd 0 rfl) (sd 1 rfl) (k01 (fun _ _ h0 => dq_divint (n := per1) h0 (by omega) (by omega)))
 exact zMv hz (sd 2 rfl)
 exact zExt hz (sd 3 rfl)
 exact zExt hz (sd 3 rfl)
 exact zSE rfl (sv S11) (by simp [tagOf]) (Cp3.var tQ_nd) (sd 4 rfl) st_q32
 intro a' γ' W' hz' hd' hC hk hh
 have tp2 := Cp2.lt
 replace Cp2 := kC hC Cp2 (by simp [tagOf, n_p2_p3])
 replace Cp3 := gotE (T := tQ B32 (l + 65) (divI (rtQ u) per1)) (id := 35) (p := p3) 6 hh rfl rfl
 replace S3 := kp hk S3
 replace S8 := kp hk S8
 replace S0 := kp hk S0
 clear S2
 replace S9 := kp hk S9
 replace S11 := kp hk S11
 clear S55
 replace HSc := RI.aft HSc hC (by intro m hm; simp at hm; rcases hm with rfl <;> assumption)
 clear tp2
 replace HB := RelC.aftM HB hC (by intro m hm; simp at hm; rcases hm with rfl <;> assumption)
 clear hC hk hh; replace hz := hz'; replace hd := hd'; clear hz' hd'
 refine wp_seq ?_
 refine region_text (M := []) (
  rT (tV (.slice none 0 0)) ::
  rT (tV (.slice none 0 0)) ::
  []) hz hd (by kernel_rfl) ?_ ?_
 refine ⟨?_, ?_, trivial⟩
 exact zAs hz kc
 exact zAs hz kc
 intro a' γ' W' hz' hd' hC hk hh
 have tp2 := Cp2.lt
 replace Cp2 := kC hC Cp2
 have tp3 := Cp3.lt
 replace Cp3 := kC hC Cp3
 replace S3 := kp hk S3
 replace S8 := kp hk S8
 replace S0 := kp hk S0
 replace S9 := kp hk S9
 replace S11 := kp hk S11
 replace HSc := RI.aft HSc hC (by intro m hm; simp at hm)
 have S13 := gotV hz' 0 hh rfl rfl rfl rfl
 have S14 := gotV hz' 1 hh rfl rfl rfl rfl
 clear tp2 tp3
 replace HB := aft_call HB (RelC.below_nil hC)
 clear hC hk hh; replace hz := hz'; replace hd := hd'; clear hz' hd'
 refine wp_seq ?_
 have O13 : OwT 3 1 w.heap.size (LI ([])) none 0 W' := OwT.nil _ _ _ _
 have ap13p2 : apart none p2 := apart.none _
 have ap13p3 : apart none p3 := apart.none _
 have O14 : OwT 3 1 w.heap.size (LI ([])) none 0 W' := OwT.nil _ _ _ _
 have ap14p2 : apart none p2 := apart.none _
 have ap14p3 : apart none p3 := apart.none _
 have ap1314 : apart2 none none := fun a ha => by cases ha
 have ap1413 : apart2 none none := fun a ha => by cases ha
 refine region_text (M := []) (
  rT (tV (.int .i64 0)) ::
  []) hz hd (by kernel_rfl) ?_ ?_
 refine ⟨?_, trivial⟩
 exact zAs hz kc
 intro a' γ' W' hz' hd' hC hk hh
 have tp2 := Cp2.lt
 replace Cp2 := kC hC Cp2
 have tp3 := Cp3.lt
 replace Cp3 := kC hC Cp3
 replace S3 := kp hk S3
 replace S8 := kp hk S8
 replace S0 := kp hk S0
 replace S9 := kp hk S9
 replace S11 := kp hk S11
 replace S13 := kp hk S13
 replace S14 := kp hk S14
 replace HSc := RI.aft HSc hC (by intro m hm; simp at hm)
 replace O13 := OwT.aft O13 hC (fun _ _ => rfl)
 replace O14 := OwT.aft O14 hC (fun _ _ => rfl)
 have S15 := gotV hz' 0 hh rfl rfl rfl rfl
 clear tp2 tp3
 replace HB := aft_call HB (RelC.below_nil hC)
 clear hC hk hh; replace hz := hz'; replace hd := hd'; clear hz' hd'
 refine wp_seq ?_
 refine wp_seq ?_
 refine region_text (M := []) (
  rT (tV (.int .i64 0)) ::
  []) hz hd (by kernel_rfl) ?_ ?_
 refine ⟨?_, trivial⟩
 exact zAs hz kc
 intro a' γ' W' hz' hd' hC hk hh
 have tp2 := Cp2.lt
 replace Cp2 := kC hC Cp2
 have tp3 := Cp3.lt
 replace Cp3 := kC hC Cp3
 replace S3 := kp hk S3
 replace S8 := kp hk S8
 replace S0 := kp hk S0
 replace S9 := kp hk S9
 replace S11 := kp hk S11
 replace S13 := kp hk S13
 replace S14 := kp hk S14
 replace S15 := kp hk S15
 replace HSc := RI.aft HSc hC (by intro m hm; simp at hm)
 replace O13 := OwT.aft O13 hC (fun _ _ => rfl)
 replace O14 := OwT.aft O14 hC (fun _ _ => rfl)
 have S16 := gotV hz' 0 hh rfl rfl rfl rfl
 clear tp2 tp3
 replace HB := aft_call HB (RelC.below_nil hC)
 clear hC hk hh; replace hz := hz'; replace hd := hd'; clear hz' hd'
 refine wp_block ?_
 refine wp_loop_ghost (fun k a W => ∃ (i : Nat) (tt : Int) (H : Rat) (ts : List Int) (ns : List Int) (A3 : Option Addr) (c3 : Nat) (A4 : Option Addr) (c4 : Nat), k = 40 - i ∧ a.tmps.size = 174 ∧ a.defers = [] ∧ Below w.heap.size w W ∧ Sl a 0 (.int .i64 bn) ∧ Sl a 3 (.slice As ns0 cs) ∧ Sl a 8 (.bool false) ∧ Sl a 9 (.pointer (some ⟨p2, 0, none⟩)) ∧ Sl a 11 (.pointer (some ⟨p3, 0, none⟩)) ∧ Sl a 13 (.slice A3 (LI ts).length c3) ∧ Sl a 14 (.slice A4 (LI ns).length c4) ∧ Sl a 15 (.int .i64 tt) ∧ Sl a 16 (.int .i64 (i : Int)) ∧ Cell 35 (tQ B32 (l + 65) (divI (rtQ u) per1)) p3 W ∧ RI 3 As ns0 F w.heap.size W ∧ Cell 80 (tO [tV (.int .i64 tt), tQ B64 (l + 64 + 41) H, tQ B64 42 (((bn : Int) : Rat)), tQ B64 (l + 64) (divI (flQ u) per1)] [1, 2, 2, 2]) p2 W ∧ BInv (l + 64) tt H ((bn : Int) : Rat) (divI (flQ u) per1) ∧ CapI ((bn : Int) : Rat) (divI (flQ u) per1) tt H ts ns ∧ OwT 3 1 w.heap.size (LI ts) A3 c3 W ∧ OwT 3 1 w.heap.size (LI ns) A4 c4 W ∧ apart A3 p2 ∧ apart A3 p3 ∧ apart A4 p2 ∧ apart A4 p3 ∧ apart2 A3 A4 ∧ ts.length ≤ i ∧ i ≤ 40) _ ⟨0, 0, 0, [], [], none, 0, none, 0, rfl, hz, hd, HB, S0, S3, S8, S9, S11, S13, S14, S15, S16, Cp3, HSc, Cp2, (BInv.new (l := l) hl hc1), (CapI.nil _ _), O13, O14, ap13p2, ap13p3, ap14p2, ap14p3, ap1314, (by decide), (by decide)⟩ ?_
 clear S3 S8 S0 S9 S11 S13 S14 S15 S16 Cp2 Cp3 HSc O13 O14 hz hd HB
 rintro k a W ⟨i, tt, H, ts, ns, A3, c3, A4, c4, rfl, hz, hd, HB, S0, S3, S8, S9, S11, S13, S14, S15, S16, Cp3, HSc, Ca, I1, C1, O13, O14, ap13p2, ap13p3, ap14p2, ap14p3, ap1314, hle, hlt⟩
 have ap1413 := ap1314.symm
 have hLt := LI_len ts
 have hLn := LI_len ns
 have hcl := C1.len
 refine wp_seq ?_
 refine wp_seq ?_
 by_cases hc5 : (i : Int) < (ns0 : Int)
 refine region_text (M := []) (
  rT (tV (.int .i64 (i : Int))) ::
  rT (tV (.slice As ns0 cs)) ::
  rT (tV (.int .i64 (ns0 : Int))) ::
  rT (tV (.bool true)) ::
  rT (tV (.bool true)) ::
  rT (tV (.int .i64 (i : Int))) ::
  rT (tV (.bool (decide ((i : Int) < 40)))) ::
  rT (tV (.bool (decide ((i : Int) < 40)))) ::
  []) hz hd (by kernel_rfl) ?_ ?_
 refine ⟨?_, ?_, ?_, ?_, ?_, ?_, ?_, ?_, trivial⟩
 exact zMv hz (sv S16)
 exact zMv hz (sv S3)
 exact sLenK hz rfl (sd 1 rfl) (fun w => by simp [go_sem])
 exact sBin rfl rfl rfl hz rfl (Gd.none_ rfl) rfl (sd 0 rfl) (sd 2 rfl) (fun w => run_t (P := (i : Int) < (ns0 : Int)) ((fun w => run_lss) w) hc5)
 exact zMv hz (sd 3 rfl)
 exact zMv hz (sv S16) (g := gT 4 rfl)
 exact sBin rfl rfl rfl hz rfl (gT 4 rfl) rfl (sd 5 rfl) kc (fun w => run_lss)
 exact zPT hz (sd 4 rfl) (sd 6 rfl)
 intro a' γ' W' hz' hd' hC hk hh
 have tp2 := Ca.lt
 replace Ca := kC hC Ca
 have tp3 := Cp3.lt
 replace Cp3 := kC hC Cp3
 replace S3 := kp hk S3
 replace S8 := kp hk S8
 replace S0 := kp hk S0
 replace S9 := kp hk S9
 replace S11 := kp hk S11
 replace S13 := kp hk S13
 replace S14 := kp hk S14
 replace S15 := kp hk S15
 replace S16 := kp hk S16
 replace HSc := RI.aft HSc hC (by intro m hm; simp at hm)
 replace O13 := OwT.aft O13 hC (fun _ _ => rfl)
 replace O14 := OwT.aft O14 hC (fun _ _ => rfl)
 have S69 := gotV hz' 7 hh rfl rfl rfl rfl
 clear tp2 tp3
 replace HB := aft_call HB (RelC.below_nil hC)
 clear hC hk hh; replace hz := hz'; replace hd := hd'; clear hz' hd'
 by_cases hc6 : (i : Int) < 40
 rw [decide_eq_true hc6] at S69
 refine wp_cond_true S69.ev ?_
 refine wp_skip ?_
 refine wp_seq ?_
 refine wp_block ?_
 refine wp_seq ?_
 obtain ⟨gs, os, hA, hgs, hcs⟩ := HSc i (by omega)
 have hF1 := hF (i * 3 + 1)
 have hf10 := few0 (F (i * 3 + 1)) (m := 288230376151711744) (by decide)
 have hf11 := few1 (F (i * 3 + 1)) (m := 288230376151711744) (by decide)
 have htt0 := I1.t0
 have htt1 := I1.t1
 have hmn := mnT_le (tt + fewV (F (i * 3 + 1)) 288230376151711744)
 refine region_text (M := []) (
  rT (tV (.int .i64 tt)) ::
  rT (tV (.slice As ns0 cs)) ::
  rT (tV (.int .i64 (i : Int))) ::
  rT (tV (.pointer (some ⟨gs, os + i * 3, none⟩))) ::
  rT (tV (.pointer (some ⟨gs, os + i * 3 + 1, none⟩))) ::
  rT (tV (.int .i64 (F (i * 3 + 1)))) ::
  rT (tV (.int .i64 (fewV (F (i * 3 + 1)) 288230376151711744))) ::
  rT (tV (.int .i64 (tt + (fewV (F (i * 3 + 1)) 288230376151711744)))) ::
  rT (tV (.int .i64 (mnT (tt + (fewV (F (i * 3 + 1)) 288230376151711744))))) ::
  rT (tV (.int .i64 (mnT (tt + (fewV (F (i * 3 + 1)) 288230376151711744))))) ::
  []) hz hd (by kernel_rfl) ?_ ?_
 refine ⟨?_, ?_, ?_, ?_, ?_, ?_, ?_, ?_, ?_, ?_, trivial⟩
 exact zMv hz (sv S15)
 exact zMv hz (sv S3)
 exact zMv hz (sv S16)
 exact zIxV hz rfl (sd 1 rfl) (sd 2 rfl) (ix_st hA (by omega))
 exact zFAo hz rfl rfl (sd 3 rfl) (fun w => by simp [go_sem])
 exact zLdV hz rfl (sd 4 rfl) (fun γ w hC => ld_s31 (fun f hf => cell_oaft (hcs f hf) hC hgs (by intro m hm; simp at hm)))
 exact zC2 hz Try.func8 (sd 5 rfl) (kc (v := .int .i64 288230376151711744)) (k11 (fun _ => l_few (n := (F (i * 3 + 1))) (m := 288230376151711744) (by omega) (by omega) (by decide) (by omega)))
 exact sBin rfl rfl rfl hz rfl (Gd.none_ rfl) rfl (sd 0 rfl) (sd 6 rfl) (fun w => cp_addi (by omega) (by omega) w)
 exact zB2min hz rfl (sd 7 rfl) (kc (v := .int .i64 4611686018427387904)) (fun w => run_min62 (tt + (fewV (F (i * 3 + 1)) 288230376151711744)) w)
 exact zAs hz (sd 8 rfl)
 intro a' γ' W' hz' hd' hC hk hh
 have tp2 := Ca.lt
 replace Ca := kC hC Ca
 have tp3 := Cp3.lt
 replace Cp3 := kC hC Cp3
 replace S3 := kp hk S3
 replace S8 := kp hk S8
 replace S0 := kp hk S0
 replace S9 := kp hk S9
 replace S11 := kp hk S11
 replace S13 := kp hk S13
 replace S14 := kp hk S14
 clear S15
 replace S16 := kp hk S16
 replace S69 := kp hk S69
 replace HSc := RI.aft HSc hC (by intro m hm; simp at hm)
 replace O13 := OwT.aft O13 hC (fun _ _ => rfl)
 replace O14 := OwT.aft O14 hC (fun _ _ => rfl)
 have S15 := gotV hz' 9 hh rfl rfl rfl rfl
 clear tp2 tp3
 replace HB := aft_call HB (RelC.below_nil hC)
 clear hC hk hh; replace hz := hz'; replace hd := hd'; clear hz' hd'
 refine wp_seq ?_
 obtain ⟨to, e_to⟩ : ∃ x : Int, x = mnT (tt + (fewV (F (i * 3 + 1)) 288230376151711744)) := ⟨_, rfl⟩
 rw [← e_to] at S15
 have hto : tt ≤ to ∧ to ≤ 4611686018427387904 := by rw [e_to]; unfold mnT; split <;> omega
 obtain ⟨gs, os, hA, hgs, hcs⟩ := HSc i (by omega)
 have hF2 := hF (i * 3 + 2)
 have hf20 := few0 (F (i * 3 + 2)) (m := 2199023255552) (by decide)
 have hf21 := few1 (F (i * 3 + 2)) (m := 2199023255552) (by decide)
 refine region_text (M := []) (
  rT (tV (.slice As ns0 cs)) ::
  rT (tV (.int .i64 (i : Int))) ::
  rT (tV (.pointer (some ⟨gs, os + i * 3, none⟩))) ::
  rT (tV (.pointer (some ⟨gs, os + i * 3 + 2, none⟩))) ::
  rT (tV (.int .i64 (F (i * 3 + 2)))) ::
  rT (tV (.int .i64 (fewV (F (i * 3 + 2)) 2199023255552))) ::
  rT (tV (.int .i64 (fewV (F (i * 3 + 2)) 2199023255552 + 1))) ::
  rT (tV (.int .i64 (fewV (F (i * 3 + 2)) 2199023255552 + 1))) ::
  []) hz hd (by kernel_rfl) ?_ ?_
 refine ⟨?_, ?_, ?_, ?_, ?_, ?_, ?_, ?_, trivial⟩
 exact zMv hz (sv S3)
 exact zMv hz (sv S16)
 exact zIxV hz rfl (sd 0 rfl) (sd 1 rfl) (ix_st hA (by omega))
 exact zFAo hz rfl rfl (sd 2 rfl) (fun w => by simp [go_sem])
 exact zLdV hz rfl (sd 3 rfl) (fun γ w hC => ld_s32 (fun f hf => cell_oaft (hcs f hf) hC hgs (by intro m hm; simp at hm)))
 exact zC2 hz Try.func8 (sd 4 rfl) (kc (v := .int .i64 2199023255552)) (k11 (fun _ => l_few (n := (F (i * 3 + 2))) (m := 2199023255552) (by omega) (by omega) (by decide) (by omega)))
 exact sBin rfl rfl rfl hz rfl (Gd.none_ rfl) rfl (sd 5 rfl) kc (fun w => run_inc (by omega) (by omega) w)
 exact zAs hz (sd 6 rfl)
 intro a' γ' W' hz' hd' hC hk hh
 have tp2 := Ca.lt
 replace Ca := kC hC Ca
 have tp3 := Cp3.lt
 replace Cp3 := kC hC Cp3
 replace S3 := kp hk S3
 replace S8 := kp hk S8
 replace S0 := kp hk S0
 replace S9 := kp hk S9
 replace S11 := kp hk S11
 replace S13 := kp hk S13
 replace S14 := kp hk S14
 replace S16 := kp hk S16
 replace S69 := kp hk S69
 replace S15 := kp hk S15
 replace HSc := RI.aft HSc hC (by intro m hm; simp at hm)
 replace O13 := OwT.aft O13 hC (fun _ _ => rfl)
 replace O14 := OwT.aft O14 hC (fun _ _ => rfl)
 have S17 := gotV hz' 7 hh rfl rfl rfl rfl
 clear tp2 tp3
 replace HB := aft_call HB (RelC.below_nil hC)
 clear hC hk hh; replace hz := hz'; replace hd := hd'; clear hz' hd'
 refine wp_seq ?_
 obtain ⟨nn, e_nn⟩ : ∃ x : Int, x = fewV (F (i * 3 + 2)) 2199023255552 + 1 := ⟨_, rfl⟩
 rw [← e_nn] at S17
 have hnn : 1 ≤ nn ∧ nn ≤ 2199023255553 := by omega
 have eTa := TT_of (t := tt) (y := to) (by omega) (by omega)
 refine region_text (M := [p2]) (
  rT (tV (.pointer (some ⟨p2, 0, none⟩))) ::
  rT (tV (.int .i64 to)) ::
  rT (tV (.int .i64 nn)) ::
  rCM 0 (tV (.int .i64 (tkE (atH tt H (((bn : Int) : Rat)) (divI (flQ u) per1) to) nn))) 80 (tO [tV (.int .i64 (TT tt to)), tQ B64 (l + 64 + 41) (tkH (atH tt H (((bn : Int) : Rat)) (divI (flQ u) per1) to) nn), tQ B64 42 (((bn : Int) : Rat)), tQ B64 (l + 64) (divI (flQ u) per1)] [1, 2, 2, 2]) p2 ::
  rT (tV (.bool (decide (tkE (atH tt H (((bn : Int) : Rat)) (divI (flQ u) per1) to) nn = 0)))) ::
  []) hz hd (by kernel_rfl) ?_ ?_
 refine ⟨?_, ?_, ?_, ?_, ?_, trivial⟩
 exact zMv hz (sv S9)
 exact zMv hz (sv S15)
 exact zMv hz (sv S17)
 exact zCM (k := 0) (p := p2) (sid := 80) (T1 := tO [tV (.int .i64 tt), tQ B64 (l + 64 + 41) H, tQ B64 42 (((bn : Int) : Rat)), tQ B64 (l + 64) (divI (flQ u) per1)] [1, 2, 2, 2]) (T := tO [tV (.int .i64 (TT tt to)), tQ B64 (l + 64 + 41) (tkH (atH tt H (((bn : Int) : Rat)) (divI (flQ u) per1) to) nn), tQ B64 42 (((bn : Int) : Rat)), tQ B64 (l + 64) (divI (flQ u) per1)] [1, 2, 2, 2]) (T0 := tV (.int .i64 (tkE (atH tt H (((bn : Int) : Rat)) (divI (flQ u) per1) to) nn))) hz rfl Try.func14 (by simp [tagOf]) Ca.lt (clM (k := 0) Ca (by simp [tagOf])) (tO_nd (nd_c nd_int (nd_c nd_q (nd_c nd_q (nd_c nd_q nd_nil))))) (tO_nd (nd_c nd_int (nd_c nd_q (nd_c nd_q (nd_c nd_q nd_nil))))) (fun a γ w U hcell => (by show Calls _ _ #[a.eval (.tmp 88), a.eval (.tmp 89), a.eval (.tmp 90)] _ _; rw [show a.eval (.tmp 88) = .pointer (some ⟨p2, 0, none⟩) from Src.at_ (sd 0 rfl) U, show a.eval (.tmp 89) = .int .i64 to from Src.at_ (sd 1 rfl) U, show a.eval (.tmp 90) = .int .i64 nn from Src.at_ (sd 2 rfl) U]; exact c_take (n := to) (m := nn) hcell I1 (by omega) (by omega)))
 exact sBin rfl rfl rfl hz rfl (Gd.none_ rfl) rfl (sdM 3 rfl) kc (fun w => run_eqlE)
 intro a' γ' W' hz' hd' hC hk hh
 replace Ca := gotM (T := tO [tV (.int .i64 (TT tt to)), tQ B64 (l + 64 + 41) (tkH (atH tt H (((bn : Int) : Rat)) (divI (flQ u) per1) to) nn), tQ B64 42 (((bn : Int) : Rat)), tQ B64 (l + 64) (divI (flQ u) per1)] [1, 2, 2, 2]) (T0 := tV (.int .i64 (tkE (atH tt H (((bn : Int) : Rat)) (divI (flQ u) per1) to) nn))) (sid := 80) (k := 0) (p := p2) hz' 3 hh rfl rfl
 have tp3 := Cp3.lt
 replace Cp3 := kC hC Cp3 (by simp [tagOf, n_p3_p2])
 replace S3 := kp hk S3
 replace S8 := kp hk S8
 replace S0 := kp hk S0
 replace S9 := kp hk S9
 replace S11 := kp hk S11
 replace S13 := kp hk S13
 replace S14 := kp hk S14
 replace S16 := kp hk S16
 replace S69 := kp hk S69
 replace S15 := kp hk S15
 replace S17 := kp hk S17
 replace HSc := RI.aft HSc hC (by intro m hm; simp at hm; rcases hm with rfl <;> assumption)
 replace O13 := OwT.aft O13 hC (apart.oneM ap13p2)
 replace O14 := OwT.aft O14 hC (apart.oneM ap14p2)
 have S92 := gotV hz' 4 hh rfl rfl rfl rfl
 clear tp3
 replace HB := RelC.aftM HB hC (by intro m hm; simp at hm; rcases hm with rfl <;> assumption)
 clear hC hk hh; replace hz := hz'; replace hd := hd'; clear hz' hd'
 by_cases hc7 : tkE (atH tt H (((bn : Int) : Rat)) (divI (flQ u) per1) to) nn = 0
 obtain ⟨H1, e_H1⟩ : ∃ x : Rat, x = atH tt H ((bn : Int) : Rat) (divI (flQ u) per1) to := ⟨_, rfl⟩
 have C0 : CapI ((bn : Int) : Rat) (divI (flQ u) per1) to H1 ts ns := C1.at_ hto.1 (by rw [e_H1]; exact at_le I1 hto.1 hto.2)
 have I0 : BInv (l + 64) to H1 ((bn : Int) : Rat) (divI (flQ u) per1) := by have := I1.at_ to; rw [eTa, ← e_H1] at this; exact this
 obtain ⟨hn1, e_H2⟩ := tkE_ok hc7 hnn.1
 rw [← e_H1] at hn1
 rw [← e_H1] at e_H2
 obtain ⟨H2, e_H⟩ : ∃ x : Rat, x = tkH H1 nn := ⟨_, rfl⟩
 have C2 : CapI ((bn : Int) : Rat) (divI (flQ u) per1) to H2 (ts ++ [to]) (ns ++ [nn]) := by rw [e_H, e_H2]; exact C0.put I0.t0 I0.hb hnn.1 hnn.2 hn1
 have I2 : BInv (l + 64) to H2 ((bn : Int) : Rat) (divI (flQ u) per1) := by rw [e_H]; exact I0.take nn
 replace Ca : Cell 80 (tO [tV (.int .i64 to), tQ B64 (l + 64 + 41) H2, tQ B64 42 (((bn : Int) : Rat)), tQ B64 (l + 64) (divI (flQ u) per1)] [1, 2, 2, 2]) p2 _ := Cell.to Ca (tO_to ⟨tV_to (by rw [eTa]), tQ_eq (by rw [e_H, e_H1]), idT, idT, trivial⟩)
 rw [decide_eq_true hc7] at S92
 refine wp_cond_true S92.ev ?_
 refine wp_seq ?_
 have u14 := O14.lt
 have kB13 := blkM_base O13
 have u_p2 := Ca.lt
 have u_p3 := Cp3.lt
 refine region_text (M := blkM A3) (
  rT (tV (.slice A3 (LI ts).length c3)) ::
  rT (tV (.int .i64 to)) ::
  rL1 2 3 (tI to) ::
  rOw 0 3 1 w.heap.size (LI ts ++ [tI to]) 1000 ::
  rOw 0 3 1 w.heap.size (LI ts ++ [tI to]) 0 ::
  []) hz hd (by kernel_rfl) ?_ ?_
 refine ⟨?_, ?_, ?_, ?_, ?_, trivial⟩
 exact zMv hz (sv S13)
 exact zMv hz (sv S15)
 exact zLit hz (sd 1 rfl) bl_int
 exact zApp (j := 2) (kk := 0) (bytes := 8) (A := A3) (c := c3) hz rfl rfl (sd 0 rfl) (by kernel_rfl) (by kernel_rfl) rfl O13 blkM_tag HB.size (by kernel_rfl) Try.underlying40 ii.1 ii.2.1 ii.2.2.1 ii.2.2.2 rfl nd_z1 rfl tI_cells (by rw [LI_len]; unfold maxLen; omega) (by rw [LI_len]; omega)
 exact zHandO (j := 3) hz rfl (by kernel_rfl) (by kernel_rfl) rfl (.inl rfl)
 intro a' γ' W' hz' hd' hC hk hh
 have tp2 := Ca.lt
 replace Ca := kC hC Ca (apart.tag ap13p2)
 have tp3 := Cp3.lt
 replace Cp3 := kC hC Cp3 (apart.tag ap13p3)
 replace S3 := kp hk S3
 replace S8 := kp hk S8
 replace S0 := kp hk S0
 replace S9 := kp hk S9
 replace S11 := kp hk S11
 clear S13
 replace S14 := kp hk S14
 replace S16 := kp hk S16
 replace S69 := kp hk S69
 replace S15 := kp hk S15
 replace S17 := kp hk S17
 replace S92 := kp hk S92
 replace HSc := RI.aft HSc hC kB13
 replace O14 := OwT.aft O14 hC (apart2.M ap1314)
 obtain ⟨A3', c3', S13, O13, hap⟩ := gotO hz' 4 hC hh rfl rfl rfl rfl
 rw [LI_app] at S13 O13
 have ap13p2 : apart A3' p2 := hap p2 u_p2 (by rw [apart.tag ap13p2]; decide)
 have ap13p3 : apart A3' p3 := hap p3 u_p3 (by rw [apart.tag ap13p3]; decide)
 have ap1314 : apart2 A3' A4 := fun a ha => hap _ (u14 a ha).1 (by rw [apart2.M ap1314 a ha]; decide)
 have ap1413 := ap1314.symm
 clear hap u_p2 u_p3 u14
 clear tp2 tp3
 replace HB := RelC.aftM HB hC kB13
 clear hC hk hh; replace hz := hz'; replace hd := hd'; clear hz' hd'
 have u13 := O13.lt
 have kB14 := blkM_base O14
 have u_p2 := Ca.lt
 have u_p3 := Cp3.lt
 refine region_text (M := blkM A4) (
  rT (tV (.slice A4 (LI ns).length c4)) ::
  rT (tV (.int .i64 nn)) ::
  rL1 2 3 (tI nn) ::
  rOw 0 3 1 w.heap.size (LI ns ++ [tI nn]) 1000 ::
  rOw 0 3 1 w.heap.size (LI ns ++ [tI nn]) 0 ::
  []) hz hd (by kernel_rfl) ?_ ?_
 refine ⟨?_, ?_, ?_, ?_, ?_, trivial⟩
 exact zMv hz (sv S14)
 exact zMv hz (sv S17)
 exact zLit hz (sd 1 rfl) bl_int
 exact zApp (j := 2) (kk := 0) (bytes := 8) (A := A4) (c := c4) hz rfl rfl (sd 0 rfl) (by kernel_rfl) (by kernel_rfl) rfl O14 blkM_tag HB.size (by kernel_rfl) Try.underlying40 ii.1 ii.2.1 ii.2.2.1 ii.2.2.2 rfl nd_z1 rfl tI_cells (by rw [LI_len]; unfold maxLen; omega) (by rw [LI_len]; omega)
 exact zHandO (j := 3) hz rfl (by kernel_rfl) (by kernel_rfl) rfl (.inl rfl)
 intro a' γ' W' hz' hd' hC hk hh
 have tp2 := Ca.lt
 replace Ca := kC hC Ca (apart.tag ap14p2)
 have tp3 := Cp3.lt
 replace Cp3 := kC hC Cp3 (apart.tag ap14p3)
 replace S3 := kp hk S3
 replace S8 := kp hk S8
 replace S0 := kp hk S0
 replace S9 := kp hk S9
 replace S11 := kp hk S11
 clear S14
 replace S16 := kp hk S16
 replace S69 := kp hk S69
 replace S15 := kp hk S15
 replace S17 := kp hk S17
 replace S92 := kp hk S92
 replace S13 := kp hk S13
 replace HSc := RI.aft HSc hC kB14
 replace O13 := OwT.aft O13 hC (apart2.M ap1413)
 obtain ⟨A4', c4', S14, O14, hap⟩ := gotO hz' 4 hC hh rfl rfl rfl rfl
 rw [LI_app] at S14 O14
 have ap14p2 : apart A4' p2 := hap p2 u_p2 (by rw [apart.tag ap14p2]; decide)
 have ap14p3 : apart A4' p3 := hap p3 u_p3 (by rw [apart.tag ap14p3]; decide)
 have ap1413 : apart2 A4' A3' := fun a ha => hap _ (u13 a ha).1 (by rw [apart2.M ap1413 a ha]; decide)
 have ap1314 := ap1413.symm
 clear hap u_p2 u_p3 u13
 clear tp2 tp3
 replace HB := RelC.aftM HB hC kB14
 clear hC hk hh; replace hz := hz'; replace hd := hd'; clear hz' hd'
 refine region_text (M := []) (
  rT (tV (.int .i64 (i : Int))) ::
  rT (tV (.int .i64 ((i + 1 : Nat) : Int))) ::
  rT (tV (.int .i64 ((i + 1 : Nat) : Int))) ::
  []) hz hd (by kernel_rfl) ?_ ?_
 refine ⟨?_, ?_, ?_, trivial⟩
 exact zMv hz (sv S16)
 exact sBin rfl rfl rfl hz rfl (Gd.none_ rfl) rfl (sd 0 rfl) kc (fun w => by simp [go_sem, IntKind.wrap_i64]; omega)
 exact zAs hz (sd 1 rfl)
 intro a' γ' W' hz' hd' hC hk hh
 have tp2 := Ca.lt
 replace Ca := kC hC Ca
 have tp3 := Cp3.lt
 replace Cp3 := kC hC Cp3
 replace S3 := kp hk S3
 replace S8 := kp hk S8
 replace S0 := kp hk S0
 replace S9 := kp hk S9
 replace S11 := kp hk S11
 clear S16
 replace S69 := kp hk S69
 replace S15 := kp hk S15
 replace S17 := kp hk S17
 replace S92 := kp hk S92
 replace S13 := kp hk S13
 replace S14 := kp hk S14
 replace HSc := RI.aft HSc hC (by intro m hm; simp at hm)
 replace O13 := OwT.aft O13 hC (fun _ _ => rfl)
 replace O14 := OwT.aft O14 hC (fun _ _ => rfl)
 have S16 := gotV hz' 2 hh rfl rfl rfl rfl
 clear tp2 tp3
 replace HB := aft_call HB (RelC.below_nil hC)
 clear hC hk hh; replace hz := hz'; replace hd := hd'; clear hz' hd'
 have ap1314_ := ap1314
 show ∃ n', n' < _ ∧ _
 refine ⟨_, ?_, i + 1, to, H2, (ts ++ [to]), (ns ++ [nn]), A3', c3', A4', c4', rfl, hz, hd, HB, S0, S3, S8, S9, S11, S13, S14, S15, S16, Cp3, HSc, Ca, I2, C2, O13, O14, ap13p2, ap13p3, ap14p2, ap14p3, ap1314, (by rw [List.length_append, List.length_singleton]; omega), (by omega)⟩
 omega
 obtain ⟨H1, e_H1⟩ : ∃ x : Rat, x = atH tt H ((bn : Int) : Rat) (divI (flQ u) per1) to := ⟨_, rfl⟩
 have C0 : CapI ((bn : Int) : Rat) (divI (flQ u) per1) to H1 ts ns := C1.at_ hto.1 (by rw [e_H1]; exact at_le I1 hto.1 hto.2)
 have I0 : BInv (l + 64) to H1 ((bn : Int) : Rat) (divI (flQ u) per1) := by have := I1.at_ to; rw [eTa, ← e_H1] at this; exact this
 have e_H2 := tkE_no hc7 hnn.1
 rw [← e_H1] at e_H2
 obtain ⟨H2, e_H⟩ : ∃ x : Rat, x = tkH H1 nn := ⟨_, rfl⟩
 have C2 : CapI ((bn : Int) : Rat) (divI (flQ u) per1) to H2 ts ns := by rw [e_H, e_H2]; exact C0
 have I2 : BInv (l + 64) to H2 ((bn : Int) : Rat) (divI (flQ u) per1) := by rw [e_H]; exact I0.take nn
 replace Ca : Cell 80 (tO [tV (.int .i64 to), tQ B64 (l + 64 + 41) H2, tQ B64 42 (((bn : Int) : Rat)), tQ B64 (l + 64) (divI (flQ u) per1)] [1, 2, 2, 2]) p2 _ := Cell.to Ca (tO_to ⟨tV_to (by rw [eTa]), tQ_eq (by rw [e_H, e_H1]), idT, idT, trivial⟩)
 rw [decide_eq_false hc7] at S92
 refine wp_cond_false S92.ev ?_
 refine wp_skip ?_
 refine region_text (M := []) (
  rT (tV (.int .i64 (i : Int))) ::
  rT (tV (.int .i64 ((i + 1 : Nat) : Int))) ::
  rT (tV (.int .i64 ((i + 1 : Nat) : Int))) ::
  []) hz hd (by kernel_rfl) ?_ ?_
 refine ⟨?_, ?_, ?_, trivial⟩
 exact zMv hz (sv S16)
 exact sBin rfl rfl rfl hz rfl (Gd.none_ rfl) rfl (sd 0 rfl) kc (fun w => by simp [go_sem, IntKind.wrap_i64]; omega)
 exact zAs hz (sd 1 rfl)
 intro a' γ' W' hz' hd' hC hk hh
 have tp2 := Ca.lt
 replace Ca := kC hC Ca
 have tp3 := Cp3.lt
 replace Cp3 := kC hC Cp3
 replace S3 := kp hk S3
 replace S8 := kp hk S8
 replace S0 := kp hk S0
 replace S9 := kp hk S9
 replace S11 := kp hk S11
 replace S13 := kp hk S13
 replace S14 := kp hk S14
 clear S16
 replace S69 := kp hk S69
 replace S15 := kp hk S15
 replace S17 := kp hk S17
 replace S92 := kp hk S92
 replace HSc := RI.aft HSc hC (by intro m hm; simp at hm)
 replace O13 := OwT.aft O13 hC (fun _ _ => rfl)
 replace O14 := OwT.aft O14 hC (fun _ _ => rfl)
 have S16 := gotV hz' 2 hh rfl rfl rfl rfl
 clear tp2 tp3
 replace HB := aft_call HB (RelC.below_nil hC)
 clear hC hk hh; replace hz := hz'; replace hd := hd'; clear hz' hd'
 have ap1314_ := ap1314
 show ∃ n', n' < _ ∧ _
 refine ⟨_, ?_, i + 1, to, H2, ts, ns, A3, c3, A4, c4, rfl, hz, hd, HB, S0, S3, S8, S9, S11, S13, S14, S15, S16, Cp3, HSc, Ca, I2, C2, O13, O14, ap13p2, ap13p3, ap14p2, ap14p3, ap1314, (by omega), (by omega)⟩
 omega
 rw [decide_eq_false hc6] at S69
 refine wp_cond_false S69.ev ?_
 refine wp_exit ?_
 refine wp_seq ?_
 refine wp_seq ?_
 have hl40 : ts.length ≤ 40 := by omega
 refine region_text (M := []) (
  rT (tV (.int .i64 0)) ::
  []) hz hd (by kernel_rfl) ?_ ?_
 refine ⟨?_, trivial⟩
 exact zAs hz kc
 intro a' γ' W' hz' hd' hC hk hh
 have tp2 := Ca.lt
 clear Ca
 have tp3 := Cp3.lt
 replace Cp3 := kC hC Cp3
 clear S3
 replace S8 := kp hk S8
 replace S0 := kp hk S0
 clear S9
 replace S11 := kp hk S11
 replace S13 := kp hk S13
 replace S14 := kp hk S14
 clear S15
 clear S16
 clear S69
 replace HSc := RI.aft HSc hC (by intro m hm; simp at hm)
 replace O13 := OwT.aft O13 hC (fun _ _ => rfl)
 replace O14 := OwT.aft O14 hC (fun _ _ => rfl)
 have S18 := gotV hz' 0 hh rfl rfl rfl rfl
 clear tp2 tp3
 replace HB := aft_call HB (RelC.below_nil hC)
 clear hC hk hh; replace hz := hz'; replace hd := hd'; clear hz' hd'
 refine wp_block ?_
 refine wp_loop_ghost (fun k a W => ∃ (i : Nat), k = ts.length - i ∧ a.tmps.size = 174 ∧ a.defers = [] ∧ Below w.heap.size w W ∧ Sl a 0 (.int .i64 bn) ∧ Sl a 8 (.bool false) ∧ Sl a 11 (.pointer (some ⟨p3, 0, none⟩)) ∧ Sl a 13 (.slice A3 (LI ts).length c3) ∧ Sl a 14 (.slice A4 (LI ns).length c4) ∧ Sl a 18 (.int .i64 (i : Int)) ∧ Cell 35 (tQ B32 (l + 65) (divI (rtQ u) per1)) p3 W ∧ RI 3 As ns0 F w.heap.size W ∧ OwT 3 1 w.heap.size (LI ts) A3 c3 W ∧ OwT 3 1 w.heap.size (LI ns) A4 c4 W ∧ i ≤ ts.length) _ ⟨0, rfl, hz, hd, HB, S0, S8, S11, S13, S14, S18, Cp3, HSc, O13, O14, (by omega)⟩ ?_
 clear S8 S0 S11 S13 S14 S18 Cp3 HSc O13 O14 hz hd HB
 rintro k a W ⟨i, rfl, hz, hd, HB, S0, S8, S11, S13, S14, S18, Cp3, HSc, O13, O14, hi⟩
 refine wp_seq ?_
 refine wp_seq ?_
 refine region_text (M := []) (
  rT (tV (.int .i64 (i : Int))) ::
  rT (tV (.slice A3 (LI ts).length c3)) ::
  rT (tV (.int .i64 ((LI ts).length : Int))) ::
  rT (tV (.bool (decide (i < ts.length)))) ::
  []) hz hd (by kernel_rfl) ?_ ?_
 refine ⟨?_, ?_, ?_, ?_, trivial⟩
 exact zMv hz (sv S18)
 exact zMv hz (sv S13)
 exact sLenK hz rfl (sd 1 rfl) (fun w => by simp [go_sem])
 exact sBin rfl rfl rfl hz rfl (Gd.none_ rfl) rfl (sd 0 rfl) (sd 2 rfl) (fun w => by rw [hLt]; simp [go_sem])
 intro a' γ' W' hz' hd' hC hk hh
 have tp3 := Cp3.lt
 replace Cp3 := kC hC Cp3
 replace S8 := kp hk S8
 replace S0 := kp hk S0
 replace S11 := kp hk S11
 replace S13 := kp hk S13
 replace S14 := kp hk S14
 replace S18 := kp hk S18
 replace HSc := RI.aft HSc hC (by intro m hm; simp at hm)
 replace O13 := OwT.aft O13 hC (fun _ _ => rfl)
 replace O14 := OwT.aft O14 hC (fun _ _ => rfl)
 have S104 := gotV hz' 3 hh rfl rfl rfl rfl
 clear tp3
 replace HB := aft_call HB (RelC.below_nil hC)
 clear hC hk hh; replace hz := hz'; replace hd := hd'; clear hz' hd'
 by_cases hc8 : i < ts.length
 rw [decide_eq_true hc8] at S104
 refine wp_cond_true S104.ev ?_
 refine wp_skip ?_
 refine wp_seq ?_
 refine wp_block ?_
 refine wp_seq ?_
 refine region_text (M := []) (
  rT (tV (.int .u64 0)) ::
  []) hz hd (by kernel_rfl) ?_ ?_
 refine ⟨?_, trivial⟩
 exact zAs hz kc
 intro a' γ' W' hz' hd' hC hk hh
 have tp3 := Cp3.lt
 replace Cp3 := kC hC Cp3
 replace S8 := kp hk S8
 replace S0 := kp hk S0
 replace S11 := kp hk S11
 replace S13 := kp hk S13
 replace S14 := kp hk S14
 replace S18 := kp hk S18
 replace S104 := kp hk S104
 replace HSc := RI.aft HSc hC (by intro m hm; simp at hm)
 replace O13 := OwT.aft O13 hC (fun _ _ => rfl)
 replace O14 := OwT.aft O14 hC (fun _ _ => rfl)
 have S19 := gotV hz' 0 hh rfl rfl rfl rfl
 clear tp3
 replace HB := aft_call HB (RelC.below_nil hC)
 clear hC hk hh; replace hz := hz'; replace hd := hd'; clear hz' hd'
 refine wp_seq ?_
 obtain ⟨g3, hA3, hc3⟩ := O13.ints (by omega)
 obtain ⟨g4, hA4, hc4⟩ := O14.ints (by omega)
 have u13 := O13.lt
 have u14 := O14.lt
 have htl := C1.t0 (ts.length - 1) (by omega)
 have htt1 := I1.t1
 refine region_drawn (M := []) (
  rT (tQ B32 (l + 65) (divI (rtQ u) per1)) ::
  rT (tV (.slice A3 (LI ts).length c3)) ::
  rT (tV (.slice A3 (LI ts).length c3)) ::
  rT (tV (.int .i64 ((LI ts).length : Int))) ::
  rT (tV (.int .i64 ((ts.length - 1 : Nat) : Int))) ::
  rT (tV (.pointer (some ⟨g3, ts.length - 1, none⟩))) ::
  rT (tV (.int .i64 (ts.getD (ts.length - 1) 0))) ::
  rT (tT [tQ B32 ((l + 65) + 64) (mulI (divI (rtQ u) per1) (ts.getD (ts.length - 1) 0)), tV (.bool (decide (0 ≤ ts.getD (ts.length - 1) 0)))]) ::
  rT (tT [tQ B32 ((l + 65) + 64) (mulI (divI (rtQ u) per1) (ts.getD (ts.length - 1) 0)), tV (.bool (decide (0 ≤ ts.getD (ts.length - 1) 0)))]) ::
  rT (tQ B32 ((l + 65) + 64) (mulI (divI (rtQ u) per1) (ts.getD (ts.length - 1) 0))) ::
  rT (tV (.bool (decide (0 ≤ ts.getD (ts.length - 1) 0)))) ::
  rVar 11 35 2 ::
  rB 11 35 (tQ B32 ((l + 65) + 64) (mulI (divI (rtQ u) per1) (ts.getD (ts.length - 1) 0))) (some 11) 12 ::
  rT (tV (.bool (decide (0 ≤ ts.getD (ts.length - 1) 0)))) ::
  []) hz hd (by kernel_rfl) (by kernel_rfl) ?_ ?_
 refine ⟨?_, ?_, ?_, ?_, ?_, ?_, ?_, ?_, ?_, ?_, ?_, ?_, ?_, ?_, trivial⟩
 exact zLd hz (sv S11) Cp3 ld_q32
 exact zMv hz (sv S13)
 exact zMv hz (sv S13)
 exact sLenK hz rfl (sd 2 rfl) (fun w => by simp [go_sem])
 exact sBin rfl rfl rfl hz rfl (Gd.none_ rfl) rfl (sd 3 rfl) kc (fun w => by rw [hLt]; exact cp_last (by omega) (by omega) w)
 exact zIxV hz rfl (sd 1 rfl) (sd 4 rfl) (ix_o hA3 (by omega))
 exact zLdV hz rfl (sd 5 rfl) (fun γ w hC => ld_o hc3 (by omega) hC)
 exact zC2 hz Try.func15 (sd 0 rfl) (sd 6 rfl) (k01 (fun _ _ h0 => dq_mulint (n := (ts.getD (ts.length - 1) 0)) h0 (by omega) (by omega)))
 exact zMv hz (sd 7 rfl)
 exact zExt hz (sd 8 rfl)
 exact zExt hz (sd 8 rfl)
 exact zAl hz nd_rat al_r32
 exact zSt (sd 9 rfl) st_q32
 exact zAs hz (sd 10 rfl)
 intro a' γ' W' hz' hd' hC hk hh
 have tp3 := Cp3.lt
 replace Cp3 := kC hC Cp3
 replace S8 := kp hk S8
 replace S0 := kp hk S0
 replace S11 := kp hk S11
 replace S13 := kp hk S13
 replace S14 := kp hk S14
 replace S18 := kp hk S18
 replace S104 := kp hk S104
 replace S19 := kp hk S19
 replace HSc := RI.aft HSc hC (by intro m hm; simp at hm)
 replace O13 := OwT.aft O13 hC (fun _ _ => rfl)
 replace O14 := OwT.aft O14 hC (fun _ _ => rfl)
 obtain ⟨p9, S20, Cp9, lp9, gp9⟩ := gotB hz' 12 hC hh rfl rfl rfl rfl rfl rfl
 have ap13p9 : apart A3 p9 := fun a ha e => by have := (u13 a ha).1; omega
 have ap14p9 : apart A4 p9 := fun a ha e => by have := (u14 a ha).1; omega
 have n_p9_p3 : p9 ≠ p3 := by omega
 clear lp9 gp9
 clear tp3
 replace HB := aft_call HB (RelC.below_nil hC)
 clear hC hk hh; replace hz := hz'; replace hd := hd'; clear hz' hd'
 refine wp_seq ?_
 refine region_text (M := []) (
  rT (tV (.int .u64 0)) ::
  []) hz hd (by kernel_rfl) ?_ ?_
 refine ⟨?_, trivial⟩
 exact zAs hz kc
 intro a' γ' W' hz' hd' hC hk hh
 have tp3 := Cp3.lt
 replace Cp3 := kC hC Cp3
 replace Cp9 := kC hC Cp9
 replace S8 := kp hk S8
 replace S0 := kp hk S0
 replace S11 := kp hk S11
 replace S13 := kp hk S13
 replace S14 := kp hk S14
 replace S18 := kp hk S18
 replace S104 := kp hk S104
 replace S19 := kp hk S19
 replace S20 := kp hk S20
 replace HSc := RI.aft HSc hC (by intro m hm; simp at hm)
 replace O13 := OwT.aft O13 hC (fun _ _ => rfl)
 replace O14 := OwT.aft O14 hC (fun _ _ => rfl)
 have S22 := gotV hz' 0 hh rfl rfl rfl rfl
 clear tp3
 replace HB := aft_call HB (RelC.below_nil hC)
 clear hC hk hh; replace hz := hz'; replace hd := hd'; clear hz' hd'
 refine wp_seq ?_
 refine wp_seq ?_
 refine region_text (M := []) (
  rT (tV (.int .i64 (i : Int))) ::
  rT (tV (.int .i64 (i : Int))) ::
  []) hz hd (by kernel_rfl) ?_ ?_
 refine ⟨?_, ?_, trivial⟩
 exact zMv hz (sv S18)
 exact zAs hz (sd 0 rfl)
 intro a' γ' W' hz' hd' hC hk hh
 have tp3 := Cp3.lt
 replace Cp3 := kC hC Cp3
 replace Cp9 := kC hC Cp9
 replace S8 := kp hk S8
 replace S0 := kp hk S0
 replace S11 := kp hk S11
 replace S13 := kp hk S13
 replace S14 := kp hk S14
 replace S18 := kp hk S18
 replace S104 := kp hk S104
 replace S19 := kp hk S19
 replace S20 := kp hk S20
 replace S22 := kp hk S22
 replace HSc := RI.aft HSc hC (by intro m hm; simp at hm)
 replace O13 := OwT.aft O13 hC (fun _ _ => rfl)
 replace O14 := OwT.aft O14 hC (fun _ _ => rfl)
 have S23 := gotV hz' 1 hh rfl rfl rfl rfl
 clear tp3
 replace HB := aft_call HB (RelC.below_nil hC)
 clear hC hk hh; replace hz := hz'; replace hd := hd'; clear hz' hd'
 refine wp_block ?_
 refine wp_loop_ghost (fun k a W => ∃ (kk : Nat) (Sm : Nat), k = ts.length - kk ∧ a.tmps.size = 174 ∧ a.defers = [] ∧ Below w.heap.size w W ∧ Sl a 0 (.int .i64 bn) ∧ Sl a 8 (.bool false) ∧ Sl a 11 (.pointer (some ⟨p3, 0, none⟩)) ∧ Sl a 13 (.slice A3 (LI ts).length c3) ∧ Sl a 14 (.slice A4 (LI ns).length c4) ∧ Sl a 18 (.int .i64 (i : Int)) ∧ Sl a 19 (.int .u64 (Sm : Int)) ∧ Sl a 20 (.pointer (some ⟨p9, 0, none⟩)) ∧ Sl a 22 (.int .u64 0) ∧ Sl a 23 (.int .i64 (kk : Int)) ∧ Sl a 104 (.bool true) ∧ Cell 35 (tQ B32 (l + 65) (divI (rtQ u) per1)) p3 W ∧ Cell 35 (tQ B32 ((l + 65) + 64) (mulI (divI (rtQ u) per1) (ts.getD (ts.length - 1) 0))) p9 W ∧ RI 3 As ns0 F w.heap.size W ∧ OwT 3 1 w.heap.size (LI ts) A3 c3 W ∧ OwT 3 1 w.heap.size (LI ns) A4 c4 W ∧ i ≤ kk ∧ kk ≤ ts.length ∧ Sm + psum ns i = psum ns kk) _ ⟨i, 0, rfl, hz, hd, HB, S0, S8, S11, S13, S14, S18, S19, S20, S22, S23, S104, Cp3, Cp9, HSc, O13, O14, (by omega), (by omega), (by omega)⟩ ?_
 clear S8 S0 S11 S13 S14 S18 S104 S19 S20 S22 S23 Cp3 Cp9 HSc O13 O14 hz hd HB
 rintro k a W ⟨kk, Sm, rfl, hz, hd, HB, S0, S8, S11, S13, S14, S18, S19, S20, S22, S23, S104, Cp3, Cp9, HSc, O13, O14, hk1, hk2, hS⟩
 refine wp_seq ?_
 refine wp_seq ?_
 refine region_text (M := []) (
  rT (tV (.int .i64 (kk : Int))) ::
  rT (tV (.slice A3 (LI ts).length c3)) ::
  rT (tV (.int .i64 ((LI ts).length : Int))) ::
  rT (tV (.bool (decide (kk < ts.length)))) ::
  []) hz hd (by kernel_rfl) ?_ ?_
 refine ⟨?_, ?_, ?_, ?_, trivial⟩
 exact zMv hz (sv S23)
 exact zMv hz (sv S13)
 exact sLenK hz rfl (sd 1 rfl) (fun w => by simp [go_sem])
 exact sBin rfl rfl rfl hz rfl (Gd.none_ rfl) rfl (sd 0 rfl) (sd 2 rfl) (fun w => by rw [hLt]; simp [go_sem])
 intro a' γ' W' hz' hd' hC hk hh
 have tp3 := Cp3.lt
 replace Cp3 := kC hC Cp3
 replace Cp9 := kC hC Cp9
 replace S8 := kp hk S8
 replace S0 := kp hk S0
 replace S11 := kp hk S11
 replace S13 := kp hk S13
 replace S14 := kp hk S14
 replace S18 := kp hk S18
 replace S104 := kp hk S104
 replace S19 := kp hk S19
 replace S20 := kp hk S20
 replace S22 := kp hk S22
 replace S23 := kp hk S23
 replace HSc := RI.aft HSc hC (by intro m hm; simp at hm)
 replace O13 := OwT.aft O13 hC (fun _ _ => rfl)
 replace O14 := OwT.aft O14 hC (fun _ _ => rfl)
 have S122 := gotV hz' 3 hh rfl rfl rfl rfl
 clear tp3
 replace HB := aft_call HB (RelC.below_nil hC)
 clear hC hk hh; replace hz := hz'; replace hd := hd'; clear hz' hd'
 by_cases hc10 : kk < ts.length
 rw [decide_eq_true hc10] at S122
 refine wp_cond_true S122.ev ?_
 refine wp_skip ?_
 refine wp_seq ?_
 refine wp_block ?_
 refine wp_seq ?_
 obtain ⟨g3, hA3, hc3⟩ := O13.ints (by omega)
 obtain ⟨g4, hA4, hc4⟩ := O14.ints (by omega)
 have u13 := O13.lt
 have u14 := O14.lt
 have hn1 := C1.n41 kk (by omega)
 have hsm := C1.sum_le kk (by omega) (by omega)
 refine region_text (M := []) (
  rT (tV (.int .u64 (Sm : Int))) ::
  rT (tV (.slice A4 (LI ns).length c4)) ::
  rT (tV (.int .i64 (kk : Int))) ::
  rT (tV (.pointer (some ⟨g4, kk, none⟩))) ::
  rT (tV (.int .i64 (ns.getD kk 0))) ::
  rT (tV (.int .u64 (((ns.getD kk 0).toNat : Nat) : Int))) ::
  rT (tV (.int .u64 ((Sm + (ns.getD kk 0).toNat : Nat) : Int))) ::
  rT (tV (.int .u64 ((Sm + (ns.getD kk 0).toNat : Nat) : Int))) ::
  []) hz hd (by kernel_rfl) ?_ ?_
 refine ⟨?_, ?_, ?_, ?_, ?_, ?_, ?_, ?_, trivial⟩
 exact zMv hz (sv S19)
 exact zMv hz (sv S14)
 exact zMv hz (sv S23)
 exact zIxV hz rfl (sd 1 rfl) (sd 2 rfl) (ix_o hA4 (by omega))
 exact zLdV hz rfl (sd 3 rfl) (fun γ w hC => ld_o hc4 (by omega) hC)
 exact sConv (T' := tV (.int .i64 (ns.getD kk 0))) rfl rfl rfl hz rfl (Gd.none_ rfl) rfl (sd 4 rfl) (fun v_ w_ h_ => by have h_ : v_ = .int .i64 (ns.getD kk 0) := h_; subst h_; exact ⟨_, by have hz_ := hn1; generalize ns.getD kk 0 = z_ at hz_ ⊢; simp [go_sem, IntKind.wrap_u64]; omega, rfl⟩)
 exact sBin rfl rfl rfl hz rfl (Gd.none_ rfl) rfl (sd 0 rfl) (sd 5 rfl) (fun w => cp_addu (by omega) w)
 exact zAs hz (sd 6 rfl)
 intro a' γ' W' hz' hd' hC hk hh
 have tp3 := Cp3.lt
 replace Cp3 := kC hC Cp3
 replace Cp9 := kC hC Cp9
 replace S8 := kp hk S8
 replace S0 := kp hk S0
 replace S11 := kp hk S11
 replace S13 := kp hk S13
 replace S14 := kp hk S14
 replace S18 := kp hk S18
 replace S104 := kp hk S104
 clear S19
 replace S20 := kp hk S20
 replace S22 := kp hk S22
 replace S23 := kp hk S23
 replace S122 := kp hk S122
 replace HSc := RI.aft HSc hC (by intro m hm; simp at hm)
 replace O13 := OwT.aft O13 hC (fun _ _ => rfl)
 replace O14 := OwT.aft O14 hC (fun _ _ => rfl)
 have S19 := gotV hz' 7 hh rfl rfl rfl rfl
 clear tp3
 replace HB := aft_call HB (RelC.below_nil hC)
 clear hC hk hh; replace hz := hz'; replace hd := hd'; clear hz' hd'
 refine wp_seq ?_
 obtain ⟨g3, hA3, hc3⟩ := O13.ints (by omega)
 obtain ⟨g4, hA4, hc4⟩ := O14.ints (by omega)
 have u13 := O13.lt
 have u14 := O14.lt
 have ht1 := C1.t0 kk (by omega)
 have ht2 := C1.t0 i (by omega)
 have ht3 := C1.mono i kk (by omega) (by omega)
 have htt1 := I1.t1
 refine region_drawn (M := []) (
  rT (tQ B32 (l + 65) (divI (rtQ u) per1)) ::
  rT (tV (.slice A3 (LI ts).length c3)) ::
  rT (tV (.int .i64 (kk : Int))) ::
  rT (tV (.pointer (some ⟨g3, kk, none⟩))) ::
  rT (tV (.int .i64 (ts.getD kk 0))) ::
  rT (tV (.slice A3 (LI ts).length c3)) ::
  rT (tV (.int .i64 (i : Int))) ::
  rT (tV (.pointer (some ⟨g3, i, none⟩))) ::
  rT (tV (.int .i64 (ts.getD i 0))) ::
  rT (tV (.int .i64 (ts.getD kk 0 - (ts.getD i 0)))) ::
  rT (tT [tQ B32 ((l + 65) + 64) (mulI (divI (rtQ u) per1) (ts.getD kk 0 - (ts.getD i 0))), tV (.bool (decide (0 ≤ ts.getD kk 0 - (ts.getD i 0))))]) ::
  rT (tT [tQ B32 ((l + 65) + 64) (mulI (divI (rtQ u) per1) (ts.getD kk 0 - (ts.getD i 0))), tV (.bool (decide (0 ≤ ts.getD kk 0 - (ts.getD i 0))))]) ::
  rT (tQ B32 ((l + 65) + 64) (mulI (divI (rtQ u) per1) (ts.getD kk 0 - (ts.getD i 0)))) ::
  rT (tV (.bool (decide (0 ≤ ts.getD kk 0 - (ts.getD i 0))))) ::
  rVar 14 35 2 ::
  rB 14 35 (tQ B32 ((l + 65) + 64) (mulI (divI (rtQ u) per1) (ts.getD kk 0 - (ts.getD i 0)))) (some 14) 15 ::
  rT (tV (.bool (decide (0 ≤ ts.getD kk 0 - (ts.getD i 0))))) ::
  []) hz hd (by kernel_rfl) (by kernel_rfl) ?_ ?_
 refine ⟨?_, ?_, ?_, ?_, ?_, ?_, ?_, ?_, ?_, ?_, ?_, ?_, ?_, ?_, ?_, ?_, ?_, trivial⟩
 exact zLd hz (sv S11) Cp3 ld_q32
 exact zMv hz (sv S13)
 exact zMv hz (sv S23)
 exact zIxV hz rfl (sd 1 rfl) (sd 2 rfl) (ix_o hA3 (by omega))
 exact zLdV hz rfl (sd 3 rfl) (fun γ w hC => ld_o hc3 (by omega) hC)
 exact zMv hz (sv S13)
 exact zMv hz (sv S18)
 exact zIxV hz rfl (sd 5 rfl) (sd 6 rfl) (ix_o hA3 (by omega))
 exact zLdV hz rfl (sd 7 rfl) (fun γ w hC => ld_o hc3 (by omega) hC)
 exact sBin rfl rfl rfl hz rfl (Gd.none_ rfl) rfl (sd 4 rfl) (sd 8 rfl) (fun w => cp_subi (by omega) (by omega) w)
 exact zC2 hz Try.func15 (sd 0 rfl) (sd 9 rfl) (k01 (fun _ _ h0 => dq_mulint (n := (ts.getD kk 0 - (ts.getD i 0))) h0 (by omega) (by omega)))
 exact zMv hz (sd 10 rfl)
 exact zExt hz (sd 11 rfl)
 exact zExt hz (sd 11 rfl)
 exact zAl hz nd_rat al_r32
 exact zSt (sd 12 rfl) st_q32
 exact zAs hz (sd 13 rfl)
 intro a' γ' W' hz' hd' hC hk hh
 have ep3 := Cp3.lt
 have ep9 := Cp9.lt
 have tp3 := Cp3.lt
 replace Cp3 := kC hC Cp3
 replace Cp9 := kC hC Cp9
 replace S8 := kp hk S8
 replace S0 := kp hk S0
 replace S11 := kp hk S11
 replace S13 := kp hk S13
 replace S14 := kp hk S14
 replace S18 := kp hk S18
 replace S104 := kp hk S104
 replace S20 := kp hk S20
 replace S22 := kp hk S22
 replace S23 := kp hk S23
 replace S122 := kp hk S122
 replace S19 := kp hk S19
 replace HSc := RI.aft HSc hC (by intro m hm; simp at hm)
 replace O13 := OwT.aft O13 hC (fun _ _ => rfl)
 replace O14 := OwT.aft O14 hC (fun _ _ => rfl)
 obtain ⟨p11, S24, Cp11, lp11, gp11⟩ := gotB hz' 15 hC hh rfl rfl rfl rfl rfl rfl
 have ap13p11 : apart A3 p11 := fun a ha e => by have := (u13 a ha).1; omega
 have ap14p11 : apart A4 p11 := fun a ha e => by have := (u14 a ha).1; omega
 have n_p11_p3 : p11 ≠ p3 := by omega
 have n_p3_p11 : p3 ≠ p11 := by have := ep3; omega
 have n_p9_p11 : p9 ≠ p11 := by have := ep9; omega
 have bp11 : w.heap.size ≤ p11 := Nat.le_trans HB.size lp11
 clear lp11 gp11
 clear tp3
 clear ep3 ep9
 replace HB := aft_call HB (RelC.below_nil hC)
 clear hC hk hh; replace hz := hz'; replace hd := hd'; clear hz' hd'
 refine wp_seq ?_
 refine region_drawn (M := [p11]) (
  rT (tQ B32 ((l + 65) + 64) (mulI (divI (rtQ u) per1) (ts.getD kk 0 - (ts.getD i 0)))) ::
  rT (tV (.int .i64 bn)) ::
  rT (tV (.int .u64 ((bn.toNat : Nat) : Int))) ::
  rT (tQ B32 64 (((bn.toNat : Nat) : Rat))) ::
  rT (tQ B32 (((l + 65) + 64) + 64 + 1) ((mulI (divI (rtQ u) per1) (ts.getD kk 0 - (ts.getD i 0))) + (((bn.toNat : Nat) : Rat)))) ::
  rE 0 35 (tQ B32 (((l + 65) + 64) + 64 + 1) ((mulI (divI (rtQ u) per1) (ts.getD kk 0 - (ts.getD i 0))) + (((bn.toNat : Nat) : Rat)))) p11 ::
  []) hz hd (by kernel_rfl) (by kernel_rfl) ?_ ?_
 refine ⟨?_, ?_, ?_, ?_, ?_, ?_, trivial⟩
 exact sLoadM rfl rfl rfl hz rfl (Gd.none_ rfl) rfl (sv S24) Cp11 (k := 0) (by simp [tagOf]) (by kernel_rfl) ld_q32
 exact zMv hz (sv S0)
 exact sConv (T' := tV (.int .i64 bn)) rfl rfl rfl hz rfl (Gd.none_ rfl) rfl (sd 1 rfl) (fun v_ w_ h_ => by have h_ : v_ = .int .i64 bn := h_; subst h_; exact ⟨_, by simp [go_sem, IntKind.wrap_u64]; omega, rfl⟩)
 exact zC1 hz Try.func17 (sd 2 rfl) (k1 (fun _ => dq_whole (l := 63) (p := bn.toNat) (by omega) (by decide)))
 exact zC2 hz Try.func16 (sd 0 rfl) (sd 3 rfl) (fun _ _ _ h0 h1 => dq_add h0 h1 (by omega) (by decide))
 exact zSE rfl (sv S24) (by simp [tagOf]) (Cp11.var tQ_nd) (sd 4 rfl) st_q32
 intro a' γ' W' hz' hd' hC hk hh
 have tp3 := Cp3.lt
 replace Cp3 := kC hC Cp3 (by simp [tagOf, n_p3_p11])
 replace Cp9 := kC hC Cp9 (by simp [tagOf, n_p9_p11])
 replace Cp11 := gotE (T := tQ B32 (((l + 65) + 64) + 64 + 1) ((mulI (divI (rtQ u) per1) (ts.getD kk 0 - (ts.getD i 0))) + (((bn.toNat : Nat) : Rat)))) (id := 35) (p := p11) 5 hh rfl rfl
 replace S8 := kp hk S8
 replace S0 := kp hk S0
 replace S11 := kp hk S11
 replace S13 := kp hk S13
 replace S14 := kp hk S14
 replace S18 := kp hk S18
 replace S104 := kp hk S104
 replace S20 := kp hk S20
 replace S22 := kp hk S22
 replace S23 := kp hk S23
 replace S122 := kp hk S122
 replace S19 := kp hk S19
 replace S24 := kp hk S24
 replace HSc := RI.aft HSc hC (by intro m hm; simp at hm; rcases hm with rfl <;> assumption)
 replace O13 := OwT.aft O13 hC (apart.oneM ap13p11)
 replace O14 := OwT.aft O14 hC (apart.oneM ap14p11)
 clear tp3
 replace HB := RelC.aftM HB hC (by intro m hm; simp at hm; rcases hm with rfl <;> assumption)
 clear hC hk hh; replace hz := hz'; replace hd := hd'; clear hz' hd'
 refine wp_seq ?_
 refine region_drawn (M := []) (
  rT (tV (.int .u64 ((Sm + (ns.getD kk 0).toNat : Nat) : Int))) ::
  rT (tQ B32 64 (((Sm + (ns.getD kk 0).toNat : Nat) : Rat))) ::
  rT (tQ B32 (((l + 65) + 64) + 64 + 1) ((mulI (divI (rtQ u) per1) (ts.getD kk 0 - (ts.getD i 0))) + (((bn.toNat : Nat) : Rat)))) ::
  rT (tV (.int .i64 (cmpQ (((Sm + (ns.getD kk 0).toNat : Nat) : Rat)) ((mulI (divI (rtQ u) per1) (ts.getD kk 0 - (ts.getD i 0))) + (((bn.toNat : Nat) : Rat)))))) ::
  rT (tV (.bool (decide ((mulI (divI (rtQ u) per1) (ts.getD kk 0 - (ts.getD i 0))) + (((bn.toNat : Nat) : Rat)) < ((Sm + (ns.getD kk 0).toNat : Nat) : Rat))))) ::
  []) hz hd (by kernel_rfl) (by kernel_rfl) ?_ ?_
 refine ⟨?_, ?_, ?_, ?_, ?_, trivial⟩
 exact zMv hz (sv S19)
 exact zC1 hz Try.func17 (sd 0 rfl) (k1 (fun _ => dq_whole (l := 63) (p := Sm + (ns.getD kk 0).toNat) (by omega) (by decide)))
 exact zLd hz (sv S24) Cp11 ld_q32
 exact zC2 hz Try.func18 (sd 1 rfl) (sd 2 rfl) (fun _ _ _ h0 h1 => dq_cmp h0 h1 (by decide) (by omega))
 exact sBin rfl rfl rfl hz rfl (Gd.none_ rfl) rfl (sd 3 rfl) kc (fun w => run_cQ_gtr (((Sm + (ns.getD kk 0).toNat : Nat) : Rat)) ((mulI (divI (rtQ u) per1) (ts.getD kk 0 - (ts.getD i 0))) + (((bn.toNat : Nat) : Rat))) w)
 intro a' γ' W' hz' hd' hC hk hh
 have tp3 := Cp3.lt
 replace Cp3 := kC hC Cp3
 replace Cp9 := kC hC Cp9
 have tp11 := Cp11.lt
 replace Cp11 := kC hC Cp11
 replace S8 := kp hk S8
 replace S0 := kp hk S0
 replace S11 := kp hk S11
 replace S13 := kp hk S13
 replace S14 := kp hk S14
 replace S18 := kp hk S18
 replace S104 := kp hk S104
 replace S20 := kp hk S20
 replace S22 := kp hk S22
 replace S23 := kp hk S23
 replace S122 := kp hk S122
 replace S19 := kp hk S19
 replace S24 := kp hk S24
 replace HSc := RI.aft HSc hC (by intro m hm; simp at hm)
 replace O13 := OwT.aft O13 hC (fun _ _ => rfl)
 replace O14 := OwT.aft O14 hC (fun _ _ => rfl)
 have S155 := gotV hz' 4 hh rfl rfl rfl rfl
 clear tp3 tp11
 replace HB := aft_call HB (RelC.below_nil hC)
 clear hC hk hh; replace hz := hz'; replace hd := hd'; clear hz' hd'
 have hc12 : ¬ ((mulI (divI (rtQ u) per1) (ts.getD kk 0 - (ts.getD i 0))) + (((bn.toNat : Nat) : Rat)) < ((Sm + (ns.getD kk 0).toNat : Nat) : Rat)) := caps_1 C1 (by omega) (rt_of8 hc1) (by omega) (by omega) hS
 rw [decide_eq_false hc12] at S155
 refine wp_cond_false S155.ev ?_
 refine wp_skip ?_
 refine region_text (M := []) (
  rT (tV (.int .i64 (kk : Int))) ::
  rT (tV (.int .i64 ((kk + 1 : Nat) : Int))) ::
  rT (tV (.int .i64 ((kk + 1 : Nat) : Int))) ::
  []) hz hd (by kernel_rfl) ?_ ?_
 refine ⟨?_, ?_, ?_, trivial⟩
 exact zMv hz (sv S23)
 exact sBin rfl rfl rfl hz rfl (Gd.none_ rfl) rfl (sd 0 rfl) kc (fun w => by simp [go_sem, IntKind.wrap_i64]; omega)
 exact zAs hz (sd 1 rfl)
 intro a' γ' W' hz' hd' hC hk hh
 have tp3 := Cp3.lt
 replace Cp3 := kC hC Cp3
 replace Cp9 := kC hC Cp9
 have tp11 := Cp11.lt
 replace Cp11 := kC hC Cp11
 replace S8 := kp hk S8
 replace S0 := kp hk S0
 replace S11 := kp hk S11
 replace S13 := kp hk S13
 replace S14 := kp hk S14
 replace S18 := kp hk S18
 replace S104 := kp hk S104
 replace S20 := kp hk S20
 replace S22 := kp hk S22
 clear S23
 replace S122 := kp hk S122
 replace S19 := kp hk S19
 replace S24 := kp hk S24
 replace S155 := kp hk S155
 replace HSc := RI.aft HSc hC (by intro m hm; simp at hm)
 replace O13 := OwT.aft O13 hC (fun _ _ => rfl)
 replace O14 := OwT.aft O14 hC (fun _ _ => rfl)
 have S23 := gotV hz' 2 hh rfl rfl rfl rfl
 clear tp3 tp11
 replace HB := aft_call HB (RelC.below_nil hC)
 clear hC hk hh; replace hz := hz'; replace hd := hd'; clear hz' hd'
 show ∃ n', n' < _ ∧ _
 refine ⟨_, ?_, kk + 1, Sm + (ns.getD kk 0).toNat, rfl, hz, hd, HB, S0, S8, S11, S13, S14, S18, S19, S20, S22, S23, S104, Cp3, Cp9, HSc, O13, O14, (by omega), (by omega), (by rw [psum_succ (by omega)]; omega)⟩
 omega
 rw [decide_eq_false hc10] at S122
 refine wp_cond_false S122.ev ?_
 refine wp_exit ?_
 refine wp_seq ?_
 refine wp_seq ?_
 refine region_text (M := []) (
  rT (tV (.int .i64 0)) ::
  []) hz hd (by kernel_rfl) ?_ ?_
 refine ⟨?_, trivial⟩
 exact zAs hz kc
 intro a' γ' W' hz' hd' hC hk hh
 have tp3 := Cp3.lt
 replace Cp3 := kC hC Cp3
 replace Cp9 := kC hC Cp9
 replace S8 := kp hk S8
 replace S0 := kp hk S0
 replace S11 := kp hk S11
 replace S13 := kp hk S13
 replace S14 := kp hk S14
 replace S18 := kp hk S18
 replace S104 := kp hk S104
 replace S19 := kp hk S19
 replace S20 := kp hk S20
 replace S22 := kp hk S22
 replace S23 := kp hk S23
 replace S122 := kp hk S122
 replace HSc := RI.aft HSc hC (by intro m hm; simp at hm)
 replace O13 := OwT.aft O13 hC (fun _ _ => rfl)
 replace O14 := OwT.aft O14 hC (fun _ _ => rfl)
 have S26 := gotV hz' 0 hh rfl rfl rfl rfl
 clear tp3
 replace HB := aft_call HB (RelC.below_nil hC)
 clear hC hk hh; replace hz := hz'; replace hd := hd'; clear hz' hd'
 refine wp_block ?_
 refine wp_loop_ghost (fun k a W => ∃ (k2 : Nat) (S2 : Nat), k = ts.length - k2 ∧ a.tmps.size = 174 ∧ a.defers = [] ∧ Below w.heap.size w W ∧ Sl a 0 (.int .i64 bn) ∧ Sl a 8 (.bool false) ∧ Sl a 11 (.pointer (some ⟨p3, 0, none⟩)) ∧ Sl a 13 (.slice A3 (LI ts).length c3) ∧ Sl a 14 (.slice A4 (LI ns).length c4) ∧ Sl a 18 (.int .i64 (i : Int)) ∧ Sl a 19 (.int .u64 (Sm : Int)) ∧ Sl a 20 (.pointer (some ⟨p9, 0, none⟩)) ∧ Sl a 22 (.int .u64 (S2 : Int)) ∧ Sl a 23 (.int .i64 (kk : Int)) ∧ Sl a 26 (.int .i64 (k2 : Int)) ∧ Sl a 104 (.bool true) ∧ Sl a 122 (.bool false) ∧ Cell 35 (tQ B32 (l + 65) (divI (rtQ u) per1)) p3 W ∧ Cell 35 (tQ B32 ((l + 65) + 64) (mulI (divI (rtQ u) per1) (ts.getD (ts.length - 1) 0))) p9 W ∧ RI 3 As ns0 F w.heap.size W ∧ OwT 3 1 w.heap.size (LI ts) A3 c3 W ∧ OwT 3 1 w.heap.size (LI ns) A4 c4 W ∧ k2 ≤ ts.length ∧ S2 = psum ns k2) _ ⟨0, 0, rfl, hz, hd, HB, S0, S8, S11, S13, S14, S18, S19, S20, S22, S23, S26, S104, S122, Cp3, Cp9, HSc, O13, O14, (by omega), (psum_0 ns).symm⟩ ?_
 clear S8 S0 S11 S13 S14 S18 S104 S19 S20 S22 S23 S122 S26 Cp3 Cp9 HSc O13 O14 hz hd HB
 rintro k a W ⟨k2, S2, rfl, hz, hd, HB, S0, S8, S11, S13, S14, S18, S19, S20, S22, S23, S26, S104, S122, Cp3, Cp9, HSc, O13, O14, hk, hS⟩
 refine wp_seq ?_
 refine wp_seq ?_
 refine region_text (M := []) (
  rT (tV (.int .i64 (k2 : Int))) ::
  rT (tV (.slice A3 (LI ts).length c3)) ::
  rT (tV (.int .i64 ((LI ts).length : Int))) ::
  rT (tV (.bool (decide (k2 < ts.length)))) ::
  []) hz hd (by kernel_rfl) ?_ ?_
 refine ⟨?_, ?_, ?_, ?_, trivial⟩
 exact zMv hz (sv S26)
 exact zMv hz (sv S13)
 exact sLenK hz rfl (sd 1 rfl) (fun w => by simp [go_sem])
 exact sBin rfl rfl rfl hz rfl (Gd.none_ rfl) rfl (sd 0 rfl) (sd 2 rfl) (fun w => by rw [hLt]; simp [go_sem])
 intro a' γ' W' hz' hd' hC hk hh
 have tp3 := Cp3.lt
 replace Cp3 := kC hC Cp3
 replace Cp9 := kC hC Cp9
 replace S8 := kp hk S8
 replace S0 := kp hk S0
 replace S11 := kp hk S11
 replace S13 := kp hk S13
 replace S14 := kp hk S14
 replace S18 := kp hk S18
 replace S104 := kp hk S104
 replace S19 := kp hk S19
 replace S20 := kp hk S20
 replace S22 := kp hk S22
 replace S23 := kp hk S23
 replace S122 := kp hk S122
 replace S26 := kp hk S26
 replace HSc := RI.aft HSc hC (by intro m hm; simp at hm)
 replace O13 := OwT.aft O13 hC (fun _ _ => rfl)
 replace O14 := OwT.aft O14 hC (fun _ _ => rfl)
 have S159 := gotV hz' 3 hh rfl rfl rfl rfl
 clear tp3
 replace HB := aft_call HB (RelC.below_nil hC)
 clear hC hk hh; replace hz := hz'; replace hd := hd'; clear hz' hd'
 by_cases hc13 : k2 < ts.length
 rw [decide_eq_true hc13] at S159
 refine wp_cond_true S159.ev ?_
 refine wp_skip ?_
 refine wp_seq ?_
 refine wp_block ?_
 obtain ⟨g3, hA3, hc3⟩ := O13.ints (by omega)
 obtain ⟨g4, hA4, hc4⟩ := O14.ints (by omega)
 have u13 := O13.lt
 have u14 := O14.lt
 have hn1 := C1.n41 k2 (by omega)
 have hsm := C1.sum_le k2 (by omega) (by omega)
 refine region_text (M := []) (
  rT (tV (.int .u64 (S2 : Int))) ::
  rT (tV (.slice A4 (LI ns).length c4)) ::
  rT (tV (.int .i64 (k2 : Int))) ::
  rT (tV (.pointer (some ⟨g4, k2, none⟩))) ::
  rT (tV (.int .i64 (ns.getD k2 0))) ::
  rT (tV (.int .u64 (((ns.getD k2 0).toNat : Nat) : Int))) ::
  rT (tV (.int .u64 ((S2 + (ns.getD k2 0).toNat : Nat) : Int))) ::
  rT (tV (.int .u64 ((S2 + (ns.getD k2 0).toNat : Nat) : Int))) ::
  []) hz hd (by kernel_rfl) ?_ ?_
 refine ⟨?_, ?_, ?_, ?_, ?_, ?_, ?_, ?_, trivial⟩
 exact zMv hz (sv S22)
 exact zMv hz (sv S14)
 exact zMv hz (sv S26)
 exact zIxV hz rfl (sd 1 rfl) (sd 2 rfl) (ix_o hA4 (by omega))
 exact zLdV hz rfl (sd 3 rfl) (fun γ w hC => ld_o hc4 (by omega) hC)
 exact sConv (T' := tV (.int .i64 (ns.getD k2 0))) rfl rfl rfl hz rfl (Gd.none_ rfl) rfl (sd 4 rfl) (fun v_ w_ h_ => by have h_ : v_ = .int .i64 (ns.getD k2 0) := h_; subst h_; exact ⟨_, by have hz_ := hn1; generalize ns.getD k2 0 = z_ at hz_ ⊢; simp [go_sem, IntKind.wrap_u64]; omega, rfl⟩)
 exact sBin rfl rfl rfl hz rfl (Gd.none_ rfl) rfl (sd 0 rfl) (sd 5 rfl) (fun w => cp_addu (by omega) w)
 exact zAs hz (sd 6 rfl)
 intro a' γ' W' hz' hd' hC hk hh
 have tp3 := Cp3.lt
 replace Cp3 := kC hC Cp3
 replace Cp9 := kC hC Cp9
 replace S8 := kp hk S8
 replace S0 := kp hk S0
 replace S11 := kp hk S11
 replace S13 := kp hk S13
 replace S14 := kp hk S14
 replace S18 := kp hk S18
 replace S104 := kp hk S104
 replace S19 := kp hk S19
 replace S20 := kp hk S20
 clear S22
 replace S23 := kp hk S23
 replace S122 := kp hk S122
 replace S26 := kp hk S26
 replace S159 := kp hk S159
 replace HSc := RI.aft HSc hC (by intro m hm; simp at hm)
 replace O13 := OwT.aft O13 hC (fun _ _ => rfl)
 replace O14 := OwT.aft O14 hC (fun _ _ => rfl)
 have S22 := gotV hz' 7 hh rfl rfl rfl rfl
 clear tp3
 replace HB := aft_call HB (RelC.below_nil hC)
 clear hC hk hh; replace hz := hz'; replace hd := hd'; clear hz' hd'
 refine region_text (M := []) (
  rT (tV (.int .i64 (k2 : Int))) ::
  rT (tV (.int .i64 ((k2 + 1 : Nat) : Int))) ::
  rT (tV (.int .i64 ((k2 + 1 : Nat) : Int))) ::
  []) hz hd (by kernel_rfl) ?_ ?_
 refine ⟨?_, ?_, ?_, trivial⟩
 exact zMv hz (sv S26)
 exact sBin rfl rfl rfl hz rfl (Gd.none_ rfl) rfl (sd 0 rfl) kc (fun w => by simp [go_sem, IntKind.wrap_i64]; omega)
 exact zAs hz (sd 1 rfl)
 intro a' γ' W' hz' hd' hC hk hh
 have tp3 := Cp3.lt
 replace Cp3 := kC hC Cp3
 replace Cp9 := kC hC Cp9
 replace S8 := kp hk S8
 replace S0 := kp hk S0
 replace S11 := kp hk S11
 replace S13 := kp hk S13
 replace S14 := kp hk S14
 replace S18 := kp hk S18
 replace S104 := kp hk S104
 replace S19 := kp hk S19
 replace S20 := kp hk S20
 replace S23 := kp hk S23
 replace S122 := kp hk S122
 clear S26
 replace S159 := kp hk S159
 replace S22 := kp hk S22
 replace HSc := RI.aft HSc hC (by intro m hm; simp at hm)
 replace O13 := OwT.aft O13 hC (fun _ _ => rfl)
 replace O14 := OwT.aft O14 hC (fun _ _ => rfl)
 have S26 := gotV hz' 2 hh rfl rfl rfl rfl
 clear tp3
 replace HB := aft_call HB (RelC.below_nil hC)
 clear hC hk hh; replace hz := hz'; replace hd := hd'; clear hz' hd'
 show ∃ n', n' < _ ∧ _
 refine ⟨_, ?_, k2 + 1, S2 + (ns.getD k2 0).toNat, rfl, hz, hd, HB, S0, S8, S11, S13, S14, S18, S19, S20, S22, S23, S26, S104, S122, Cp3, Cp9, HSc, O13, O14, (by omega), (by rw [psum_succ (by omega)]; omega)⟩
 omega
 rw [decide_eq_false hc13] at S159
 refine wp_cond_false S159.ev ?_
 refine wp_exit ?_
 refine wp_seq ?_
 have hsm := C1.sum_le k2 (by omega) (by omega)
 refine region_drawn (M := []) (
  rT (tV (.int .u64 (S2 : Int))) ::
  rT (tQ B32 64 (((S2 : Nat) : Rat))) ::
  rT (tQ B32 ((l + 65) + 64) (mulI (divI (rtQ u) per1) (ts.getD (ts.length - 1) 0))) ::
  rT (tV (.int .i64 (cmpQ (((S2 : Nat) : Rat)) (mulI (divI (rtQ u) per1) (ts.getD (ts.length - 1) 0))))) ::
  rT (tV (.bool (decide (mulI (divI (rtQ u) per1) (ts.getD (ts.length - 1) 0) < ((S2 : Nat) : Rat))))) ::
  []) hz hd (by kernel_rfl) (by kernel_rfl) ?_ ?_
 refine ⟨?_, ?_, ?_, ?_, ?_, trivial⟩
 exact zMv hz (sv S22)
 exact zC1 hz Try.func17 (sd 0 rfl) (k1 (fun _ => dq_whole (l := 63) (p := S2) (by omega) (by decide)))
 exact zLd hz (sv S20) Cp9 ld_q32
 exact zC2 hz Try.func18 (sd 1 rfl) (sd 2 rfl) (fun _ _ _ h0 h1 => dq_cmp h0 h1 (by decide) (by omega))
 exact sBin rfl rfl rfl hz rfl (Gd.none_ rfl) rfl (sd 3 rfl) kc (fun w => run_cQ_gtr (((S2 : Nat) : Rat)) (mulI (divI (rtQ u) per1) (ts.getD (ts.length - 1) 0)) w)
 intro a' γ' W' hz' hd' hC hk hh
 have tp3 := Cp3.lt
 replace Cp3 := kC hC Cp3
 replace Cp9 := kC hC Cp9
 replace S8 := kp hk S8
 replace S0 := kp hk S0
 replace S11 := kp hk S11
 replace S13 := kp hk S13
 replace S14 := kp hk S14
 replace S18 := kp hk S18
 replace S104 := kp hk S104
 replace S19 := kp hk S19
 replace S20 := kp hk S20
 replace S22 := kp hk S22
 replace S23 := kp hk S23
 replace S122 := kp hk S122
 replace S26 := kp hk S26
 replace S159 := kp hk S159
 replace HSc := RI.aft HSc hC (by intro m hm; simp at hm)
 replace O13 := OwT.aft O13 hC (fun _ _ => rfl)
 replace O14 := OwT.aft O14 hC (fun _ _ => rfl)
 have S173 := gotV hz' 4 hh rfl rfl rfl rfl
 clear tp3
 replace HB := aft_call HB (RelC.below_nil hC)
 clear hC hk hh; replace hz := hz'; replace hd := hd'; clear hz' hd'
 have hc14 : ¬ (mulI (divI (rtQ u) per1) (ts.getD (ts.length - 1) 0) < ((S2 : Nat) : Rat)) := caps_2 C1 (rt_of8 hc1) (by omega) (by rw [hS]; congr 1; omega)
 rw [decide_eq_false hc14] at S173
 refine wp_cond_false S173.ev ?_
 refine wp_skip ?_
 refine region_text (M := []) (
  rT (tV (.int .i64 (i : Int))) ::
  rT (tV (.int .i64 ((i + 1 : Nat) : Int))) ::
  rT (tV (.int .i64 ((i + 1 : Nat) : Int))) ::
  []) hz hd (by kernel_rfl) ?_ ?_
 refine ⟨?_, ?_, ?_, trivial⟩
 exact zMv hz (sv S18)
 exact sBin rfl rfl rfl hz rfl (Gd.none_ rfl) rfl (sd 0 rfl) kc (fun w => by simp [go_sem, IntKind.wrap_i64]; omega)
 exact zAs hz (sd 1 rfl)
 intro a' γ' W' hz' hd' hC hk hh
 have tp3 := Cp3.lt
 replace Cp3 := kC hC Cp3
 replace Cp9 := kC hC Cp9
 replace S8 := kp hk S8
 replace S0 := kp hk S0
 replace S11 := kp hk S11
 replace S13 := kp hk S13
 replace S14 := kp hk S14
 clear S18
 replace S104 := kp hk S104
 replace S19 := kp hk S19
 replace S20 := kp hk S20
 replace S22 := kp hk S22
 replace S23 := kp hk S23
 replace S122 := kp hk S122
 replace S26 := kp hk S26
 replace S159 := kp hk S159
 replace S173 := kp hk S173
 replace HSc := RI.aft HSc hC (by intro m hm; simp at hm)
 replace O13 := OwT.aft O13 hC (fun _ _ => rfl)
 replace O14 := OwT.aft O14 hC (fun _ _ => rfl)
 have S18 := gotV hz' 2 hh rfl rfl rfl rfl
 clear tp3
 replace HB := aft_call HB (RelC.below_nil hC)
 clear hC hk hh; replace hz := hz'; replace hd := hd'; clear hz' hd'
 show ∃ n', n' < _ ∧ _
 refine ⟨_, ?_, i + 1, rfl, hz, hd, HB, S0, S8, S11, S13, S14, S18, Cp3, HSc, O13, O14, (by omega)⟩
 omega
 rw [decide_eq_false hc8] at S104
 refine wp_cond_false S104.ev ?_
 refine wp_exit ?_
 refine wp_seq ?_
 refine region_text (M := []) (
  rT (tV (.bool true)) ::
  []) hz hd (by kernel_rfl) ?_ ?_
 refine ⟨?_, trivial⟩
 exact zAs hz kc
 intro a' γ' W' hz' hd' hC hk hh
 have tp3 := Cp3.lt
 clear Cp3
 clear S8
 clear S0
 clear S11
 clear S13
 clear S14
 clear S18
 clear S104
 replace HSc := RI.aft HSc hC (by intro m hm; simp at hm)
 replace O13 := OwT.aft O13 hC (fun _ _ => rfl)
 replace O14 := OwT.aft O14 hC (fun _ _ => rfl)
 have S8 := gotV hz' 0 hh rfl rfl rfl rfl
 clear tp3
 replace HB := aft_call HB (RelC.below_nil hC)
 clear hC hk hh; replace hz := hz'; replace hd := hd'; clear hz' hd'
 refine wp_ret ?_
 exact ret1 (by kernel_rfl) S8 hd ⟨_, rfl, rfl, HB⟩
 refine region_text (M := []) (
  rT (tV (.int .i64 (i : Int))) ::
  rT (tV (.slice As ns0 cs)) ::
  rT (tV (.int .i64 (ns0 : Int))) ::
  rT (tV (.bool false)) ::
  rT (tV (.bool false)) ::
  rT (tV undef) ::
  rT (tV undef) ::
  rT (tV (.bool false)) ::
  []) hz hd (by kernel_rfl) ?_ ?_
 refine ⟨?_, ?_, ?_, ?_, ?_, ?_, ?_, ?_, trivial⟩
 exact zMv hz (sv S16)
 exact zMv hz (sv S3)
 exact sLenK hz rfl (sd 1 rfl) (fun w => by simp [go_sem])
 exact sBin rfl rfl rfl hz rfl (Gd.none_ rfl) rfl (sd 0 rfl) (sd 2 rfl) (fun w => run_f (P := (i : Int) < (ns0 : Int)) ((fun w => run_lss) w) hc5)
 exact zMv hz (sd 3 rfl)
 exact zSkU hz (gN 4 rfl)
 exact zSkU hz (gN 4 rfl)
 exact zPF hz (sd 4 rfl) kc
 intro a' γ' W' hz' hd' hC hk hh
 have tp2 := Ca.lt
 replace Ca := kC hC Ca
 have tp3 := Cp3.lt
 replace Cp3 := kC hC Cp3
 replace S3 := kp hk S3
 replace S8 := kp hk S8
 replace S0 := kp hk S0
 replace S9 := kp hk S9
 replace S11 := kp hk S11
 replace S13 := kp hk S13
 replace S14 := kp hk S14
 replace S15 := kp hk S15
 replace S16 := kp hk S16
 replace HSc := RI.aft HSc hC (by intro m hm; simp at hm)
 replace O13 := OwT.aft O13 hC (fun _ _ => rfl)
 replace O14 := OwT.aft O14 hC (fun _ _ => rfl)
 have S69 := gotV hz' 7 hh rfl rfl rfl rfl
 clear tp2 tp3
 replace HB := aft_call HB (RelC.below_nil hC)
 clear hC hk hh; replace hz := hz'; replace hd := hd'; clear hz' hd'
 refine wp_cond_false S69.ev ?_
 refine wp_exit ?_
 refine wp_seq ?_
 refine wp_seq ?_
 have hl40 : ts.length ≤ 40 := by omega
 refine region_text (M := []) (
  rT (tV (.int .i64 0)) ::
  []) hz hd (by kernel_rfl) ?_ ?_
 refine ⟨?_, trivial⟩
 exact zAs hz kc
 intro a' γ' W' hz' hd' hC hk hh
 have tp2 := Ca.lt
 clear Ca
 have tp3 := Cp3.lt
 replace Cp3 := kC hC Cp3
 clear S3
 replace S8 := kp hk S8
 replace S0 := kp hk S0
 clear S9
 replace S11 := kp hk S11
 replace S13 := kp hk S13
 replace S14 := kp hk S14
 clear S15
 clear S16
 clear S69
 replace HSc := RI.aft HSc hC (by intro m hm; simp at hm)
 replace O13 := OwT.aft O13 hC (fun _ _ => rfl)
 replace O14 := OwT.aft O14 hC (fun _ _ => rfl)
 have S18 := gotV hz' 0 hh rfl rfl rfl rfl
 clear tp2 tp3
 replace HB := aft_call HB (RelC.below_nil hC)
 clear hC hk hh; replace hz := hz'; replace hd := hd'; clear hz' hd'
 refine wp_block ?_
 refine wp_loop_ghost (fun k a W => ∃ (i : Nat), k = ts.length - i ∧ a.tmps.size = 174 ∧ a.defers = [] ∧ Below w.heap.size w W ∧ Sl a 0 (.int .i64 bn) ∧ Sl a 8 (.bool false) ∧ Sl a 11 (.pointer (some ⟨p3, 0, none⟩)) ∧ Sl a 13 (.slice A3 (LI ts).length c3) ∧ Sl a 14 (.slice A4 (LI ns).length c4) ∧ Sl a 18 (.int .i64 (i : Int)) ∧ Cell 35 (tQ B32 (l + 65) (divI (rtQ u) per1)) p3 W ∧ RI 3 As ns0 F w.heap.size W ∧ OwT 3 1 w.heap.size (LI ts) A3 c3 W ∧ OwT 3 1 w.heap.size (LI ns) A4 c4 W ∧ i ≤ ts.length) _ ⟨0, rfl, hz, hd, HB, S0, S8, S11, S13, S14, S18, Cp3, HSc, O13, O14, (by omega)⟩ ?_
 clear S8 S0 S11 S13 S14 S18 Cp3 HSc O13 O14 hz hd HB
 rintro k a W ⟨i, rfl, hz, hd, HB, S0, S8, S11, S13, S14, S18, Cp3, HSc, O13, O14, hi⟩
 refine wp_seq ?_
 refine wp_seq ?_
 refine region_text (M := []) (
  rT (tV (.int .i64 (i : Int))) ::
  rT (tV (.slice A3 (LI ts).length c3)) ::
  rT (tV (.int .i64 ((LI ts).length : Int))) ::
  rT (tV (.bool (decide (i < ts.length)))) ::
  []) hz hd (by kernel_rfl) ?_ ?_
 refine ⟨?_, ?_, ?_, ?_, trivial⟩
 exact zMv hz (sv S18)
 exact zMv hz (sv S13)
 exact sLenK hz rfl (sd 1 rfl) (fun w => by simp [go_sem])
 exact sBin rfl rfl rfl hz rfl (Gd.none_ rfl) rfl (sd 0 rfl) (sd 2 rfl) (fun w => by rw [hLt]; simp [go_sem])
 intro a' γ' W' hz' hd' hC hk hh
 have tp3 := Cp3.lt
 replace Cp3 := kC hC Cp3
 replace S8 := kp hk S8
 replace S0 := kp hk S0
 replace S11 := kp hk S11
 replace S13 := kp hk S13
 replace S14 := kp hk S14
 replace S18 := kp hk S18
 replace HSc := RI.aft HSc hC (by intro m hm; simp at hm)
 replace O13 := OwT.aft O13 hC (fun _ _ => rfl)
 replace O14 := OwT.aft O14 hC (fun _ _ => rfl)
 have S104 := gotV hz' 3 hh rfl rfl rfl rfl
 clear tp3
 replace HB := aft_call HB (RelC.below_nil hC)
 clear hC hk hh; replace hz := hz'; replace hd := hd'; clear hz' hd'
 by_cases hc15 : i < ts.length
 rw [decide_eq_true hc15] at S104
 refine wp_cond_true S104.ev ?_
 refine wp_skip ?_
 refine wp_seq ?_
 refine wp_block ?_
 refine wp_seq ?_
 refine region_text (M := []) (
  rT (tV (.int .u64 0)) ::
  []) hz hd (by kernel_rfl) ?_ ?_
 refine ⟨?_, trivial⟩
 exact zAs hz kc
 intro a' γ' W' hz' hd' hC hk hh
 have tp3 := Cp3.lt
 replace Cp3 := kC hC Cp3
 replace S8 := kp hk S8
 replace S0 := kp hk S0
 replace S11 := kp hk S11
 replace S13 := kp hk S13
 replace S14 := kp hk S14
 replace S18 := kp hk S18
 replace S104 := kp hk S104
 replace HSc := RI.aft HSc hC (by intro m hm; simp at hm)
 replace O13 := OwT.aft O13 hC (fun _ _ => rfl)
 replace O14 := OwT.aft O14 hC (fun _ _ => rfl)
 have S19 := gotV hz' 0 hh rfl rfl rfl rfl
 clear tp3
 replace HB := aft_call HB (RelC.below_nil hC)
 clear hC hk hh; replace hz := hz'; replace hd := hd'; clear hz' hd'
 refine wp_seq ?_
 obtain ⟨g3, hA3, hc3⟩ := O13.ints (by omega)
 obtain ⟨g4, hA4, hc4⟩ := O14.ints (by omega)
 have u13 := O13.lt
 have u14 := O14.lt
 have htl := C1.t0 (ts.length - 1) (by omega)
 have htt1 := I1.t1
 refine region_drawn (M := []) (
  rT (tQ B32 (l + 65) (divI (rtQ u) per1)) ::
  rT (tV (.slice A3 (LI ts).length c3)) ::
  rT (tV (.slice A3 (LI ts).length c3)) ::
  rT (tV (.int .i64 ((LI ts).length : Int))) ::
  rT (tV (.int .i64 ((ts.length - 1 : Nat) : Int))) ::
  rT (tV (.pointer (some ⟨g3, ts.length - 1, none⟩))) ::
  rT (tV (.int .i64 (ts.getD (ts.length - 1) 0))) ::
  rT (tT [tQ B32 ((l + 65) + 64) (mulI (divI (rtQ u) per1) (ts.getD (ts.length - 1) 0)), tV (.bool (decide (0 ≤ ts.getD (ts.length - 1) 0)))]) ::
  rT (tT [tQ B32 ((l + 65) + 64) (mulI (divI (rtQ u) per1) (ts.getD (ts.length - 1) 0)), tV (.bool (decide (0 ≤ ts.getD (ts.length - 1) 0)))]) ::
  rT (tQ B32 ((l + 65) + 64) (mulI (divI (rtQ u) per1) (ts.getD (ts.length - 1) 0))) ::
  rT (tV (.bool (decide (0 ≤ ts.getD (ts.length - 1) 0)))) ::
  rVar 11 35 2 ::
  rB 11 35 (tQ B32 ((l + 65) + 64) (mulI (divI (rtQ u) per1) (ts.getD (ts.length - 1) 0))) (some 11) 12 ::
  rT (tV (.bool (decide (0 ≤ ts.getD (ts.length - 1) 0)))) ::
  []) hz hd (by kernel_rfl) (by kernel_rfl) ?_ ?_
 refine ⟨?_, ?_, ?_, ?_, ?_, ?_, ?_, ?_, ?_, ?_, ?_, ?_, ?_, ?_, trivial⟩
 exact zLd hz (sv S11) Cp3 ld_q32
 exact zMv hz (sv S13)
 exact zMv hz (sv S13)
 exact sLenK hz rfl (sd 2 rfl) (fun w => by simp [go_sem])
 exact sBin rfl rfl rfl hz rfl (Gd.none_ rfl) rfl (sd 3 rfl) kc (fun w => by rw [hLt]; exact cp_last (by omega) (by omega) w)
 exact zIxV hz rfl (sd 1 rfl) (sd 4 rfl) (ix_o hA3 (by omega))
 exact zLdV hz rfl (sd 5 rfl) (fun γ w hC => ld_o hc3 (by omega) hC)
 exact zC2 hz Try.func15 (sd 0 rfl) (sd 6 rfl) (k01 (fun _ _ h0 => dq_mulint (n := (ts.getD (ts.length - 1) 0)) h0 (by omega) (by omega)))
 exact zMv hz (sd 7 rfl)
 exact zExt hz (sd 8 rfl)
 exact zExt hz (sd 8 rfl)
 exact zAl hz nd_rat al_r32
 exact zSt (sd 9 rfl) st_q32
 exact zAs hz (sd 10 rfl)
 intro a' γ' W' hz' hd' hC hk hh
 have tp3 := Cp3.lt
 replace Cp3 := kC hC Cp3
 replace S8 := kp hk S8
 replace S0 := kp hk S0
 replace S11 := kp hk S11
 replace S13 := kp hk S13
 replace S14 := kp hk S14
 replace S18 := kp hk S18
 replace S104 := kp hk S104
 replace S19 := kp hk S19
 replace HSc := RI.aft HSc hC (by intro m hm; simp at hm)
 replace O13 := OwT.aft O13 hC (fun _ _ => rfl)
 replace O14 := OwT.aft O14 hC (fun _ _ => rfl)
 obtain ⟨p16, S20, Cp16, lp16, gp16⟩ := gotB hz' 12 hC hh rfl rfl rfl rfl rfl rfl
 have ap13p16 : apart A3 p16 := fun a ha e => by have := (u13 a ha).1; omega
 have ap14p16 : apart A4 p16 := fun a ha e => by have := (u14 a ha).1; omega
 have n_p16_p3 : p16 ≠ p3 := by omega
 clear lp16 gp16
 clear tp3
 replace HB := aft_call HB (RelC.below_nil hC)
 clear hC hk hh; replace hz := hz'; replace hd := hd'; clear hz' hd'
 refine wp_seq ?_
 refine region_text (M := []) (
  rT (tV (.int .u64 0)) ::
  []) hz hd (by kernel_rfl) ?_ ?_
 refine ⟨?_, trivial⟩
 exact zAs hz kc
 intro a' γ' W' hz' hd' hC hk hh
 have tp3 := Cp3.lt
 replace Cp3 := kC hC Cp3
 replace Cp16 := kC hC Cp16
 replace S8 := kp hk S8
 replace S0 := kp hk S0
 replace S11 := kp hk S11
 replace S13 := kp hk S13
 replace S14 := kp hk S14
 replace S18 := kp hk S18
 replace S104 := kp hk S104
 replace S19 := kp hk S19
 replace S20 := kp hk S20
 replace HSc := RI.aft HSc hC (by intro m hm; simp at hm)
 replace O13 := OwT.aft O13 hC (fun _ _ => rfl)
 replace O14 := OwT.aft O14 hC (fun _ _ => rfl)
 have S22 := gotV hz' 0 hh rfl rfl rfl rfl
 clear tp3
 replace HB := aft_call HB (RelC.below_nil hC)
 clear hC hk hh; replace hz := hz'; replace hd := hd'; clear hz' hd'
 refine wp_seq ?_
 refine wp_seq ?_
 refine region_text (M := []) (
  rT (tV (.int .i64 (i : Int))) ::
  rT (tV (.int .i64 (i : Int))) ::
  []) hz hd (by kernel_rfl) ?_ ?_
 refine ⟨?_, ?_, trivial⟩
 exact zMv hz (sv S18)
 exact zAs hz (sd 0 rfl)
 intro a' γ' W' hz' hd' hC hk hh
 have tp3 := Cp3.lt
 replace Cp3 := kC hC Cp3
 replace Cp16 := kC hC Cp16
 replace S8 := kp hk S8
 replace S0 := kp hk S0
 replace S11 := kp hk S11
 replace S13 := kp hk S13
 replace S14 := kp hk S14
 replace S18 := kp hk S18
 replace S104 := kp hk S104
 replace S19 := kp hk S19
 replace S20 := kp hk S20
 replace S22 := kp hk S22
 replace HSc := RI.aft HSc hC (by intro m hm; simp at hm)
 replace O13 := OwT.aft O13 hC (fun _ _ => rfl)
 replace O14 := OwT.aft O14 hC (fun _ _ => rfl)
 have S23 := gotV hz' 1 hh rfl rfl rfl rfl
 clear tp3
 replace HB := aft_call HB (RelC.below_nil hC)
 clear hC hk hh; replace hz := hz'; replace hd := hd'; clear hz' hd'
 refine wp_block ?_
 refine wp_loop_ghost (fun k a W => ∃ (kk : Nat) (Sm : Nat), k = ts.length - kk ∧ a.tmps.size = 174 ∧ a.defers = [] ∧ Below w.heap.size w W ∧ Sl a 0 (.int .i64 bn) ∧ Sl a 8 (.bool false) ∧ Sl a 11 (.pointer (some ⟨p3, 0, none⟩)) ∧ Sl a 13 (.slice A3 (LI ts).length c3) ∧ Sl a 14 (.slice A4 (LI ns).length c4) ∧ Sl a 18 (.int .i64 (i : Int)) ∧ Sl a 19 (.int .u64 (Sm : Int)) ∧ Sl a 20 (.pointer (some ⟨p16, 0, none⟩)) ∧ Sl a 22 (.int .u64 0) ∧ Sl a 23 (.int .i64 (kk : Int)) ∧ Sl a 104 (.bool true) ∧ Cell 35 (tQ B32 (l + 65) (divI (rtQ u) per1)) p3 W ∧ Cell 35 (tQ B32 ((l + 65) + 64) (mulI (divI (rtQ u) per1) (ts.getD (ts.length - 1) 0))) p16 W ∧ RI 3 As ns0 F w.heap.size W ∧ OwT 3 1 w.heap.size (LI ts) A3 c3 W ∧ OwT 3 1 w.heap.size (LI ns) A4 c4 W ∧ i ≤ kk ∧ kk ≤ ts.length ∧ Sm + psum ns i = psum ns kk) _ ⟨i, 0, rfl, hz, hd, HB, S0, S8, S11, S13, S14, S18, S19, S20, S22, S23, S104, Cp3, Cp16, HSc, O13, O14, (by omega), (by omega), (by omega)⟩ ?_
 clear S8 S0 S11 S13 S14 S18 S104 S19 S20 S22 S23 Cp3 Cp16 HSc O13 O14 hz hd HB
 rintro k a W ⟨kk, Sm, rfl, hz, hd, HB, S0, S8, S11, S13, S14, S18, S19, S20, S22, S23, S104, Cp3, Cp16, HSc, O13, O14, hk1, hk2, hS⟩
 refine wp_seq ?_
 refine wp_seq ?_
 refine region_text (M := []) (
  rT (tV (.int .i64 (kk : Int))) ::
  rT (tV (.slice A3 (LI ts).length c3)) ::
  rT (tV (.int .i64 ((LI ts).length : Int))) ::
  rT (tV (.bool (decide (kk < ts.length)))) ::
  []) hz hd (by kernel_rfl) ?_ ?_
 refine ⟨?_, ?_, ?_, ?_, trivial⟩
 exact zMv hz (sv S23)
 exact zMv hz (sv S13)
 exact sLenK hz rfl (sd 1 rfl) (fun w => by simp [go_sem])
 exact sBin rfl rfl rfl hz rfl (Gd.none_ rfl) rfl (sd 0 rfl) (sd 2 rfl) (fun w => by rw [hLt]; simp [go_sem])
 intro a' γ' W' hz' hd' hC hk hh
 have tp3 := Cp3.lt
 replace Cp3 := kC hC Cp3
 replace Cp16 := kC hC Cp16
 replace S8 := kp hk S8
 replace S0 := kp hk S0
 replace S11 := kp hk S11
 replace S13 := kp hk S13
 replace S14 := kp hk S14
 replace S18 := kp hk S18
 replace S104 := kp hk S104
 replace S19 := kp hk S19
 replace S20 := kp hk S20
 replace S22 := kp hk S22
 replace S23 := kp hk S23
 replace HSc := RI.aft HSc hC (by intro m hm; simp at hm)
 replace O13 := OwT.aft O13 hC (fun _ _ => rfl)
 replace O14 := OwT.aft O14 hC (fun _ _ => rfl)
 have S122 := gotV hz' 3 hh rfl rfl rfl rfl
 clear tp3
 replace HB := aft_call HB (RelC.below_nil hC)
 clear hC hk hh; replace hz := hz'; replace hd := hd'; clear hz' hd'
 by_cases hc17 : kk < ts.length
 rw [decide_eq_true hc17] at S122
 refine wp_cond_true S122.ev ?_
 refine wp_skip ?_
 refine wp_seq ?_
 refine wp_block ?_
 refine wp_seq ?_
 obtain ⟨g3, hA3, hc3⟩ := O13.ints (by omega)
 obtain ⟨g4, hA4, hc4⟩ := O14.ints (by omega)
 have u13 := O13.lt
 have u14 := O14.lt
 have hn1 := C1.n41 kk (by omega)
 have hsm := C1.sum_le kk (by omega) (by omega)
 refine region_text (M := []) (
  rT (tV (.int .u64 (Sm : Int))) ::
  rT (tV (.slice A4 (LI ns).length c4)) ::
  rT (tV (.int .i64 (kk : Int))) ::
  rT (tV (.pointer (some ⟨g4, kk, none⟩))) ::
  rT (tV (.int .i64 (ns.getD kk 0))) ::
  rT (tV (.int .u64 (((ns.getD kk 0).toNat : Nat) : Int))) ::
  rT (tV (.int .u64 ((Sm + (ns.getD kk 0).toNat : Nat) : Int))) ::
  rT (tV (.int .u64 ((Sm + (ns.getD kk 0).toNat : Nat) : Int))) ::
  []) hz hd (by kernel_rfl) ?_ ?_
 refine ⟨?_, ?_, ?_, ?_, ?_, ?_, ?_, ?_, trivial⟩
 exact zMv hz (sv S19)
 exact zMv hz (sv S14)
 exact zMv hz (sv S23)
 exact zIxV hz rfl (sd 1 rfl) (sd 2 rfl) (ix_o hA4 (by omega))
 exact zLdV hz rfl (sd 3 rfl) (fun γ w hC => ld_o hc4 (by omega) hC)
 exact sConv (T' := tV (.int .i64 (ns.getD kk 0))) rfl rfl rfl hz rfl (Gd.none_ rfl) rfl (sd 4 rfl) (fun v_ w_ h_ => by have h_ : v_ = .int .i64 (ns.getD kk 0) := h_; subst h_; exact ⟨_, by have hz_ := hn1; generalize ns.getD kk 0 = z_ at hz_ ⊢; simp [go_sem, IntKind.wrap_u64]; omega, rfl⟩)
 exact sBin rfl rfl rfl hz rfl (Gd.none_ rfl) rfl (sd 0 rfl) (sd 5 rfl) (fun w => cp_addu (by omega) w)
 exact zAs hz (sd 6 rfl)
 intro a' γ' W' hz' hd' hC hk hh
 have tp3 := Cp3.lt
 replace Cp3 := kC hC Cp3
 replace Cp16 := kC hC Cp16
 replace S8 := kp hk S8
 replace S0 := kp hk S0
 replace S11 := kp hk S11
 replace S13 := kp hk S13
 replace S14 := kp hk S14
 replace S18 := kp hk S18
 replace S104 := kp hk S104
 clear S19
 replace S20 := kp hk S20
 replace S22 := kp hk S22
 replace S23 := kp hk S23
 replace S122 := kp hk S122
 replace HSc := RI.aft HSc hC (by intro m hm; simp at hm)
 replace O13 := OwT.aft O13 hC (fun _ _ => rfl)
 replace O14 := OwT.aft O14 hC (fun _ _ => rfl)
 have S19 := gotV hz' 7 hh rfl rfl rfl rfl
 clear tp3
 replace HB := aft_call HB (RelC.below_nil hC)
 clear hC hk hh; replace hz := hz'; replace hd := hd'; clear hz' hd'
 refine wp_seq ?_
 obtain ⟨g3, hA3, hc3⟩ := O13.ints (by omega)
 obtain ⟨g4, hA4, hc4⟩ := O14.ints (by omega)
 have u13 := O13.lt
 have u14 := O14.lt
 have ht1 := C1.t0 kk (by omega)
 have ht2 := C1.t0 i (by omega)
 have ht3 := C1.mono i kk (by omega) (by omega)
 have htt1 := I1.t1
 refine region_drawn (M := []) (
  rT (tQ B32 (l + 65) (divI (rtQ u) per1)) ::
  rT (tV (.slice A3 (LI ts).length c3)) ::
  rT (tV (.int .i64 (kk : Int))) ::
  rT (tV (.pointer (some ⟨g3, kk, none⟩))) ::
  rT (tV (.int .i64 (ts.getD kk 0))) ::
  rT (tV (.slice A3 (LI ts).length c3)) ::
  rT (tV (.int .i64 (i : Int))) ::
  rT (tV (.pointer (some ⟨g3, i, none⟩))) ::
  rT (tV (.int .i64 (ts.getD i 0))) ::
  rT (tV (.int .i64 (ts.getD kk 0 - (ts.getD i 0)))) ::
  rT (tT [tQ B32 ((l + 65) + 64) (mulI (divI (rtQ u) per1) (ts.getD kk 0 - (ts.getD i 0))), tV (.bool (decide (0 ≤ ts.getD kk 0 - (ts.getD i 0))))]) ::
  rT (tT [tQ B32 ((l + 65) + 64) (mulI (divI (rtQ u) per1) (ts.getD kk 0 - (ts.getD i 0))), tV (.bool (decide (0 ≤ ts.getD kk 0 - (ts.getD i 0))))]) ::
  rT (tQ B32 ((l + 65) + 64) (mulI (divI (rtQ u) per1) (ts.getD kk 0 - (ts.getD i 0)))) ::
  rT (tV (.bool (decide (0 ≤ ts.getD kk 0 - (ts.getD i 0))))) ::
  rVar 14 35 2 ::
  rB 14 35 (tQ B32 ((l + 65) + 64) (mulI (divI (rtQ u) per1) (ts.getD kk 0 - (ts.getD i 0)))) (some 14) 15 ::
  rT (tV (.bool (decide (0 ≤ ts.getD kk 0 - (ts.getD i 0))))) ::
  []) hz hd (by kernel_rfl) (by kernel_rfl) ?_ ?_
 refine ⟨?_, ?_, ?_, ?_, ?_, ?_, ?_, ?_, ?_, ?_, ?_, ?_, ?_, ?_, ?_, ?_, ?_, trivial⟩
 exact zLd hz (sv S11) Cp3 ld_q32
 exact zMv hz (sv S13)
 exact zMv hz (sv S23)
 exact zIxV hz rfl (sd 1 rfl) (sd 2 rfl) (ix_o hA3 (by omega))
 exact zLdV hz rfl (sd 3 rfl) (fun γ w hC => ld_o hc3 (by omega) hC)
 exact zMv hz (sv S13)
 exact zMv hz (sv S18)
 exact zIxV hz rfl (sd 5 rfl) (sd 6 rfl) (ix_o hA3 (by omega))
 exact zLdV hz rfl (sd 7 rfl) (fun γ w hC => ld_o hc3 (by omega) hC)
 exact sBin rfl rfl rfl hz rfl (Gd.none_ rfl) rfl (sd 4 rfl) (sd 8 rfl) (fun w => cp_subi (by omega) (by omega) w)
 exact zC2 hz Try.func15 (sd 0 rfl) (sd 9 rfl) (k01 (fun _ _ h0 => dq_mulint (n := (ts.getD kk 0 - (ts.getD i 0))) h0 (by omega) (by omega)))
 exact zMv hz (sd 10 rfl)
 exact zExt hz (sd 11 rfl)
 exact zExt hz (sd 11 rfl)
 exact zAl hz nd_rat al_r32
 exact zSt (sd 12 rfl) st_q32
 exact zAs hz (sd 13 rfl)
 intro a' γ' W' hz' hd' hC hk hh
 have ep3 := Cp3.lt
 have ep16 := Cp16.lt
 have tp3 := Cp3.lt
 replace Cp3 := kC hC Cp3
 replace Cp16 := kC hC Cp16
 replace S8 := kp hk S8
 replace S0 := kp hk S0
 replace S11 := kp hk S11
 replace S13 := kp hk S13
 replace S14 := kp hk S14
 replace S18 := kp hk S18
 replace S104 := kp hk S104
 replace S20 := kp hk S20
 replace S22 := kp hk S22
 replace S23 := kp hk S23
 replace S122 := kp hk S122
 replace S19 := kp hk S19
 replace HSc := RI.aft HSc hC (by intro m hm; simp at hm)
 replace O13 := OwT.aft O13 hC (fun _ _ => rfl)
 replace O14 := OwT.aft O14 hC (fun _ _ => rfl)
 obtain ⟨p18, S24, Cp18, lp18, gp18⟩ := gotB hz' 15 hC hh rfl rfl rfl rfl rfl rfl
 have ap13p18 : apart A3 p18 := fun a ha e => by have := (u13 a ha).1; omega
 have ap14p18 : apart A4 p18 := fun a ha e => by have := (u14 a ha).1; omega
 have n_p18_p3 : p18 ≠ p3 := by omega
 have n_p3_p18 : p3 ≠ p18 := by have := ep3; omega
 have n_p16_p18 : p16 ≠ p18 := by have := ep16; omega
 have bp18 : w.heap.size ≤ p18 := Nat.le_trans HB.size lp18
 clear lp18 gp18
 clear tp3
 clear ep3 ep16
 replace HB := aft_call HB (RelC.below_nil hC)
 clear hC hk hh; replace hz := hz'; replace hd := hd'; clear hz' hd'
 refine wp_seq ?_
 refine region_drawn (M := [p18]) (
  rT (tQ B32 ((l + 65) + 64) (mulI (divI (rtQ u) per1) (ts.getD kk 0 - (ts.getD i 0)))) ::
  rT (tV (.int .i64 bn)) ::
  rT (tV (.int .u64 ((bn.toNat : Nat) : Int))) ::
  rT (tQ B32 64 (((bn.toNat : Nat) : Rat))) ::
  rT (tQ B32 (((l + 65) + 64) + 64 + 1) ((mulI (divI (rtQ u) per1) (ts.getD kk 0 - (ts.getD i 0))) + (((bn.toNat : Nat) : Rat)))) ::
  rE 0 35 (tQ B32 (((l + 65) + 64) + 64 + 1) ((mulI (divI (rtQ u) per1) (ts.getD kk 0 - (ts.getD i 0))) + (((bn.toNat : Nat) : Rat)))) p18 ::
  []) hz hd (by kernel_rfl) (by kernel_rfl) ?_ ?_
 refine ⟨?_, ?_, ?_, ?_, ?_, ?_, trivial⟩
 exact sLoadM rfl rfl rfl hz rfl (Gd.none_ rfl) rfl (sv S24) Cp18 (k := 0) (by simp [tagOf]) (by kernel_rfl) ld_q32
 exact zMv hz (sv S0)
 exact sConv (T' := tV (.int .i64 bn)) rfl rfl rfl hz rfl (Gd.none_ rfl) rfl (sd 1 rfl) (fun v_ w_ h_ => by have h_ : v_ = .int .i64 bn := h_; subst h_; exact ⟨_, by simp [go_sem, IntKind.wrap_u64]; omega, rfl⟩)
 exact zC1 hz Try.func17 (sd 2 rfl) (k1 (fun _ => dq_whole (l := 63) (p := bn.toNat) (by omega) (by decide)))
 exact zC2 hz Try.func16 (sd 0 rfl) (sd 3 rfl) (fun _ _ _ h0 h1 => dq_add h0 h1 (by omega) (by decide))
 exact zSE rfl (sv S24) (by simp [tagOf]) (Cp18.var tQ_nd) (sd 4 rfl) st_q32
 intro a' γ' W' hz' hd' hC hk hh
 have tp3 := Cp3.lt
 replace Cp3 := kC hC Cp3 (by simp [tagOf, n_p3_p18])
 replace Cp16 := kC hC Cp16 (by simp [tagOf, n_p16_p18])
 replace Cp18 := gotE (T := tQ B32 (((l + 65) + 64) + 64 + 1) ((mulI (divI (rtQ u) per1) (ts.getD kk 0 - (ts.getD i 0))) + (((bn.toNat : Nat) : Rat)))) (id := 35) (p := p18) 5 hh rfl rfl
 replace S8 := kp hk S8
 replace S0 := kp hk S0
 replace S11 := kp hk S11
 replace S13 := kp hk S13
 replace S14 := kp hk S14
 replace S18 := kp hk S18
 replace S104 := kp hk S104
 replace S20 := kp hk S20
 replace S22 := kp hk S22
 replace S23 := kp hk S23
 replace S122 := kp hk S122
 replace S19 := kp hk S19
 replace S24 := kp hk S24
 replace HSc := RI.aft HSc hC (by intro m hm; simp at hm; rcases hm with rfl <;> assumption)
 replace O13 := OwT.aft O13 hC (apart.oneM ap13p18)
 replace O14 := OwT.aft O14 hC (apart.oneM ap14p18)
 clear tp3
 replace HB := RelC.aftM HB hC (by intro m hm; simp at hm; rcases hm with rfl <;> assumption)
 clear hC hk hh; replace hz := hz'; replace hd := hd'; clear hz' hd'
 refine wp_seq ?_
 refine region_drawn (M := []) (
  rT (tV (.int .u64 ((Sm + (ns.getD kk 0).toNat : Nat) : Int))) ::
  rT (tQ B32 64 (((Sm + (ns.getD kk 0).toNat : Nat) : Rat))) ::
  rT (tQ B32 (((l + 65) + 64) + 64 + 1) ((mulI (divI (rtQ u) per1) (ts.getD kk 0 - (ts.getD i 0))) + (((bn.toNat : Nat) : Rat)))) ::
  rT (tV (.int .i64 (cmpQ (((Sm + (ns.getD kk 0).toNat : Nat) : Rat)) ((mulI (divI (rtQ u) per1) (ts.getD kk 0 - (ts.getD i 0))) + (((bn.toNat : Nat) : Rat)))))) ::
  rT (tV (.bool (decide ((mulI (divI (rtQ u) per1) (ts.getD kk 0 - (ts.getD i 0))) + (((bn.toNat : Nat) : Rat)) < ((Sm + (ns.getD kk 0).toNat : Nat) : Rat))))) ::
  []) hz hd (by kernel_rfl) (by kernel_rfl) ?_ ?_
 refine ⟨?_, ?_, ?_, ?_, ?_, trivial⟩
 exact zMv hz (sv S19)
 exact zC1 hz Try.func17 (sd 0 rfl) (k1 (fun _ => dq_whole (l := 63) (p := Sm + (ns.getD kk 0).toNat) (by omega) (by decide)))
 exact zLd hz (sv S24) Cp18 ld_q32
 exact zC2 hz Try.func18 (sd 1 rfl) (sd 2 rfl) (fun _ _ _ h0 h1 => dq_cmp h0 h1 (by decide) (by omega))
 exact sBin rfl rfl rfl hz rfl (Gd.none_ rfl) rfl (sd 3 rfl) kc (fun w => run_cQ_gtr (((Sm + (ns.getD kk 0).toNat : Nat) : Rat)) ((mulI (divI (rtQ u) per1) (ts.getD kk 0 - (ts.getD i 0))) + (((bn.toNat : Nat) : Rat))) w)
 intro a' γ' W' hz' hd' hC hk hh
 have tp3 := Cp3.lt
 replace Cp3 := kC hC Cp3
 replace Cp16 := kC hC Cp16
 have tp18 := Cp18.lt
 replace Cp18 := kC hC Cp18
 replace S8 := kp hk S8
 replace S0 := kp hk S0
 replace S11 := kp hk S11
 replace S13 := kp hk S13
 replace S14 := kp hk S14
 replace S18 := kp hk S18
 replace S104 := kp hk S104
 replace S20 := kp hk S20
 replace S22 := kp hk S22
 replace S23 := kp hk S23
 replace S122 := kp hk S122
 replace S19 := kp hk S19
 replace S24 := kp hk S24
 replace HSc := RI.aft HSc hC (by intro m hm; simp at hm)
 replace O13 := OwT.aft O13 hC (fun _ _ => rfl)
 replace O14 := OwT.aft O14 hC (fun _ _ => rfl)
 have S155 := gotV hz' 4 hh rfl rfl rfl rfl
 clear tp3 tp18
 replace HB := aft_call HB (RelC.below_nil hC)
 clear hC hk hh; replace hz := hz'; replace hd := hd'; clear hz' hd'
 have hc19 : ¬ ((mulI (divI (rtQ u) per1) (ts.getD kk 0 - (ts.getD i 0))) + (((bn.toNat : Nat) : Rat)) < ((Sm + (ns.getD kk 0).toNat : Nat) : Rat)) := caps_1 C1 (by omega) (rt_of8 hc1) (by omega) (by omega) hS
 rw [decide_eq_false hc19] at S155
 refine wp_cond_false S155.ev ?_
 refine wp_skip ?_
 refine region_text (M := []) (
  rT (tV (.int .i64 (kk : Int))) ::
  rT (tV (.int .i64 ((kk + 1 : Nat) : Int))) ::
  rT (tV (.int .i64 ((kk + 1 : Nat) : Int))) ::
  []) hz hd (by kernel_rfl) ?_ ?_
 refine ⟨?_, ?_, ?_, trivial⟩
 exact zMv hz (sv S23)
 exact sBin rfl rfl rfl hz rfl (Gd.none_ rfl) rfl (sd 0 rfl) kc (fun w => by simp [go_sem, IntKind.wrap_i64]; omega)
 exact zAs hz (sd 1 rfl)
 intro a' γ' W' hz' hd' hC hk hh
 have tp3 := Cp3.lt
 replace Cp3 := kC hC Cp3
 replace Cp16 := kC hC Cp16
 have tp18 := Cp18.lt
 replace Cp18 := kC hC Cp18
 replace S8 := kp hk S8
 replace S0 := kp hk S0
 replace S11 := kp hk S11
 replace S13 := kp hk S13
 replace S14 := kp hk S14
 replace S18 := kp hk S18
 replace S104 := kp hk S104
 replace S20 := kp hk S20
 replace S22 := kp hk S22
 clear S23
 replace S122 := kp hk S122
 replace S19 := kp hk S19
 replace S24 := kp hk S24
 replace S155 := kp hk S155
 replace HSc := RI.aft HSc hC (by intro m hm; simp at hm)
 replace O13 := OwT.aft O13 hC (fun _ _ => rfl)
 replace O14 := OwT.aft O14 hC (fun _ _ => rfl)
 have S23 := gotV hz' 2 hh rfl rfl rfl rfl
 clear tp3 tp18
 replace HB := aft_call HB (RelC.below_nil hC)
 clear hC hk hh; replace hz := hz'; replace hd := hd'; clear hz' hd'
 show ∃ n', n' < _ ∧ _
 refine ⟨_, ?_, kk + 1, Sm + (ns.getD kk 0).toNat, rfl, hz, hd, HB, S0, S8, S11, S13, S14, S18, S19, S20, S22, S23, S104, Cp3, Cp16, HSc, O13, O14, (by omega), (by omega), (by rw [psum_succ (by omega)]; omega)⟩
 omega
 rw [decide_eq_false hc17] at S122
 refine wp_cond_false S122.ev ?_
 refine wp_exit ?_
 refine wp_seq ?_
 refine wp_seq ?_
 refine region_text (M := []) (
  rT (tV (.int .i64 0)) ::
  []) hz hd (by kernel_rfl) ?_ ?_
 refine ⟨?_, trivial⟩
 exact zAs hz kc
 intro a' γ' W' hz' hd' hC hk hh
 have tp3 := Cp3.lt
 replace Cp3 := kC hC Cp3
 replace Cp16 := kC hC Cp16
 replace S8 := kp hk S8
 replace S0 := kp hk S0
 replace S11 := kp hk S11
 replace S13 := kp hk S13
 replace S14 := kp hk S14
 replace S18 := kp hk S18
 replace S104 := kp hk S104
 replace S19 := kp hk S19
 replace S20 := kp hk S20
 replace S22 := kp hk S22
 replace S23 := kp hk S23
 replace S122 := kp hk S122
 replace HSc := RI.aft HSc hC (by intro m hm; simp at hm)
 replace O13 := OwT.aft O13 hC (fun _ _ => rfl)
 replace O14 := OwT.aft O14 hC (fun _ _ => rfl)
 have S26 := gotV hz' 0 hh rfl rfl rfl rfl
 clear tp3
 replace HB := aft_call HB (RelC.below_nil hC)
 clear hC hk hh; replace hz := hz'; replace hd := hd'; clear hz' hd'
 refine wp_block ?_
 refine wp_loop_ghost (fun k a W => ∃ (k2 : Nat) (S2 : Nat), k = ts.length - k2 ∧ a.tmps.size = 174 ∧ a.defers = [] ∧ Below w.heap.size w W ∧ Sl a 0 (.int .i64 bn) ∧ Sl a 8 (.bool false) ∧ Sl a 11 (.pointer (some ⟨p3, 0, none⟩)) ∧ Sl a 13 (.slice A3 (LI ts).length c3) ∧ Sl a 14 (.slice A4 (LI ns).length c4) ∧ Sl a 18 (.int .i64 (i : Int)) ∧ Sl a 19 (.int .u64 (Sm : Int)) ∧ Sl a 20 (.pointer (some ⟨p16, 0, none⟩)) ∧ Sl a 22 (.int .u64 (S2 : Int)) ∧ Sl a 23 (.int .i64 (kk : Int)) ∧ Sl a 26 (.int .i64 (k2 : Int)) ∧ Sl a 104 (.bool true) ∧ Sl a 122 (.bool false) ∧ Cell 35 (tQ B32 (l + 65) (divI (rtQ u) per1)) p3 W ∧ Cell 35 (tQ B32 ((l + 65) + 64) (mulI (divI (rtQ u) per1) (ts.getD (ts.length - 1) 0))) p16 W ∧ RI 3 As ns0 F w.heap.size W ∧ OwT 3 1 w.heap.size (LI ts) A3 c3 W ∧ OwT 3 1 w.heap.size (LI ns) A4 c4 W ∧ k2 ≤ ts.length ∧ S2 = psum ns k2) _ ⟨0, 0, rfl, hz, hd, HB, S0, S8, S11, S13, S14, S18, S19, S20, S22, S23, S26, S104, S122, Cp3, Cp16, HSc, O13, O14, (by omega), (psum_0 ns).symm⟩ ?_
 clear S8 S0 S11 S13 S14 S18 S104 S19 S20 S22 S23 S122 S26 Cp3 Cp16 HSc O13 O14 hz hd HB
 rintro k a W ⟨k2, S2, rfl, hz, hd, HB, S0, S8, S11, S13, S14, S18, S19, S20, S22, S23, S26, S104, S122, Cp3, Cp16, HSc, O13, O14, hk, hS⟩
 refine wp_seq ?_
 refine wp_seq ?_
 refine region_text (M := []) (
  rT (tV (.int .i64 (k2 : Int))) ::
  rT (tV (.slice A3 (LI ts).length c3)) ::
  rT (tV (.int .i64 ((LI ts).length : Int))) ::
  rT (tV (.bool (decide (k2 < ts.length)))) ::
  []) hz hd (by kernel_rfl) ?_ ?_
 refine ⟨?_, ?_, ?_, ?_, trivial⟩
 exact zMv hz (sv S26)
 exact zMv hz (sv S13)
 exact sLenK hz rfl (sd 1 rfl) (fun w => by simp [go_sem])
 exact sBin rfl rfl rfl hz rfl (Gd.none_ rfl) rfl (sd 0 rfl) (sd 2 rfl) (fun w => by rw [hLt]; simp [go_sem])
 intro a' γ' W' hz' hd' hC hk hh
 have tp3 := Cp3.lt
 replace Cp3 := kC hC Cp3
 replace Cp16 := kC hC Cp16
 replace S8 := kp hk S8
 replace S0 := kp hk S0
 replace S11 := kp hk S11
 replace S13 := kp hk S13
 replace S14 := kp hk S14
 replace S18 := kp hk S18
 replace S104 := kp hk S104
 replace S19 := kp hk S19
 replace S20 := kp hk S20
 replace S22 := kp hk S22
 replace S23 := kp hk S23
 replace S122 := kp hk S122
 replace S26 := kp hk S26
 replace HSc := RI.aft HSc hC (by intro m hm; simp at hm)
 replace O13 := OwT.aft O13 hC (fun _ _ => rfl)
 replace O14 := OwT.aft O14 hC (fun _ _ => rfl)
 have S159 := gotV hz' 3 hh rfl rfl rfl rfl
 clear tp3
 replace HB := aft_call HB (RelC.below_nil hC)
 clear hC hk hh; replace hz := hz'; replace hd := hd'; clear hz' hd'
 by_cases hc20 : k2 < ts.length
 rw [decide_eq_true hc20] at S159
 refine wp_cond_true S159.ev ?_
 refine wp_skip ?_
 refine wp_seq ?_
 refine wp_block ?_
 obtain ⟨g3, hA3, hc3⟩ := O13.ints (by omega)
 obtain ⟨g4, hA4, hc4⟩ := O14.ints (by omega)
 have u13 := O13.lt
 have u14 := O14.lt
 have hn1 := C1.n41 k2 (by omega)
 have hsm := C1.sum_le k2 (by omega) (by omega)
 refine region_text (M := []) (
  rT (tV (.int .u64 (S2 : Int))) ::
  rT (tV (.slice A4 (LI ns).length c4)) ::
  rT (tV (.int .i64 (k2 : Int))) ::
  rT (tV (.pointer (some ⟨g4, k2, none⟩))) ::
  rT (tV (.int .i64 (ns.getD k2 0))) ::
  rT (tV (.int .u64 (((ns.getD k2 0).toNat : Nat) : Int))) ::
  rT (tV (.int .u64 ((S2 + (ns.getD k2 0).toNat : Nat) : Int))) ::
  rT (tV (.int .u64 ((S2 + (ns.getD k2 0).toNat : Nat) : Int))) ::
  []) hz hd (by kernel_rfl) ?_ ?_
 refine ⟨?_, ?_, ?_, ?_, ?_, ?_, ?_, ?_, trivial⟩
 exact zMv hz (sv S22)
 exact zMv hz (sv S14)
 exact zMv hz (sv S26)
 exact zIxV hz rfl (sd 1 rfl) (sd 2 rfl) (ix_o hA4 (by omega))
 exact zLdV hz rfl (sd 3 rfl) (fun γ w hC => ld_o hc4 (by omega) hC)
 exact sConv (T' := tV (.int .i64 (ns.getD k2 0))) rfl rfl rfl hz rfl (Gd.none_ rfl) rfl (sd 4 rfl) (fun v_ w_ h_ => by have h_ : v_ = .int .i64 (ns.getD k2 0) := h_; subst h_; exact ⟨_, by have hz_ := hn1; generalize ns.getD k2 0 = z_ at hz_ ⊢; simp [go_sem, IntKind.wrap_u64]; omega, rfl⟩)
 exact sBin rfl rfl rfl hz rfl (Gd.none_ rfl) rfl (sd 0 rfl) (sd 5 rfl) (fun w => cp_addu (by omega) w)
 exact zAs hz (sd 6 rfl)
 intro a' γ' W' hz' hd' hC hk hh
 have tp3 := Cp3.lt
 replace Cp3 := kC hC Cp3
 replace Cp16 := kC hC Cp16
 replace S8 := kp hk S8
 replace S0 := kp hk S0
 replace S11 := kp hk S11
 replace S13 := kp hk S13
 replace S14 := kp hk S14
 replace S18 := kp hk S18
 replace S104 := kp hk S104
 replace S19 := kp hk S19
 replace S20 := kp hk S20
 clear S22
 replace S23 := kp hk S23
 replace S122 := kp hk S122
 replace S26 := kp hk S26
 replace S159 := kp hk S159
 replace HSc := RI.aft HSc hC (by intro m hm; simp at hm)
 replace O13 := OwT.aft O13 hC (fun _ _ => rfl)
 replace O14 := OwT.aft O14 hC (fun _ _ => rfl)
 have S22 := gotV hz' 7 hh rfl rfl rfl rfl
 clear tp3
 replace HB := aft_call HB (RelC.below_nil hC)
 clear hC hk hh; replace hz := hz'; replace hd := hd'; clear hz' hd'
 refine region_text (M := []) (
  rT (tV (.int .i64 (k2 : Int))) ::
  rT (tV (.int .i64 ((k2 + 1 : Nat) : Int))) ::
  rT (tV (.int .i64 ((k2 + 1 : Nat) : Int))) ::
  []) hz hd (by kernel_rfl) ?_ ?_
 refine ⟨?_, ?_, ?_, trivial⟩
 exact zMv hz (sv S26)
 exact sBin rfl rfl rfl hz rfl (Gd.none_ rfl) rfl (sd 0 rfl) kc (fun w => by simp [go_sem, IntKind.wrap_i64]; omega)
 exact zAs hz (sd 1 rfl)
 intro a' γ' W' hz' hd' hC hk hh
 have tp3 := Cp3.lt
 replace Cp3 := kC hC Cp3
 replace Cp16 := kC hC Cp16
 replace S8 := kp hk S8
 replace S0 := kp hk S0
 replace S11 := kp hk S11
 replace S13 := kp hk S13
 replace S14 := kp hk S14
 replace S18 := kp hk S18
 replace S104 := kp hk S104
 replace S19 := kp hk S19
 replace S20 := kp hk S20
 replace S23 := kp hk S23
 replace S122 := kp hk S122
 clear S26
 replace S159 := kp hk S159
 replace S22 := kp hk S22
 replace HSc := RI.aft HSc hC (by intro m hm; simp at hm)
 replace O13 := OwT.aft O13 hC (fun _ _ => rfl)
 replace O14 := OwT.aft O14 hC (fun _ _ => rfl)
 have S26 := gotV hz' 2 hh rfl rfl rfl rfl
 clear tp3
 replace HB := aft_call HB (RelC.below_nil hC)
 clear hC hk hh; replace hz := hz'; replace hd := hd'; clear hz' hd'
 show ∃ n', n' < _ ∧ _
 refine ⟨_, ?_, k2 + 1, S2 + (ns.getD k2 0).toNat, rfl, hz, hd, HB, S0, S8, S11, S13, S14, S18, S19, S20, S22, S23, S26, S104, S122, Cp3, Cp16, HSc, O13, O14, (by omega), (by rw [psum_succ (by omega)]; omega)⟩
 omega
 rw [decide_eq_false hc20] at S159
 refine wp_cond_false S159.ev ?_
 refine wp_exit ?_
 refine wp_seq ?_
 have hsm := C1.sum_le k2 (by omega) (by omega)
 refine region_drawn (M := []) (
  rT (tV (.int .u64 (S2 : Int))) ::
  rT (tQ B32 64 (((S2 : Nat) : Rat))) ::
  rT (tQ B32 ((l + 65) + 64) (mulI (divI (rtQ u) per1) (ts.getD (ts.length - 1) 0))) ::
  rT (tV (.int .i64 (cmpQ (((S2 : Nat) : Rat)) (mulI (divI (rtQ u) per1) (ts.getD (ts.length - 1) 0))))) ::
  rT (tV (.bool (decide (mulI (divI (rtQ u) per1) (ts.getD (ts.length - 1) 0) < ((S2 : Nat) : Rat))))) ::
  []) hz hd (by kernel_rfl) (by kernel_rfl) ?_ ?_
 refine ⟨?_, ?_, ?_, ?_, ?_, trivial⟩
 exact zMv hz (sv S22)
 exact zC1 hz Try.func17 (sd 0 rfl) (k1 (fun _ => dq_whole (l := 63) (p := S2) (by omega) (by decide)))
 exact zLd hz (sv S20) Cp16 ld_q32
 exact zC2 hz Try.func18 (sd 1 rfl) (sd 2 rfl) (fun _ _ _ h0 h1 => dq_cmp h0 h1 (by decide) (by omega))
 exact sBin rfl rfl rfl hz rfl (Gd.none_ rfl) rfl (sd 3 rfl) kc (fun w => run_cQ_gtr (((S2 : Nat) : Rat)) (mulI (divI (rtQ u) per1) (ts.getD (ts.length - 1) 0)) w)
 intro a' γ' W' hz' hd' hC hk hh
 have tp3 := Cp3.lt
 replace Cp3 := kC hC Cp3
 replace Cp16 := kC hC Cp16
 replace S8 := kp hk S8
 replace S0 := kp hk S0
 replace S11 := kp hk S11
 replace S13 := kp hk S13
 replace S14 := kp hk S14
 replace S18 := kp hk S18
 replace S104 := kp hk S104
 replace S19 := kp hk S19
 replace S20 := kp hk S20
 replace S22 := kp hk S22
 replace S23 := kp hk S23
 replace S122 := kp hk S122
 replace S26 := kp hk S26
 replace S159 := kp hk S159
 replace HSc := RI.aft HSc hC (by intro m hm; simp at hm)
 replace O13 := OwT.aft O13 hC (fun _ _ => rfl)
 replace O14 := OwT.aft O14 hC (fun _ _ => rfl)
 have S173 := gotV hz' 4 hh rfl rfl rfl rfl
 clear tp3
 replace HB := aft_call HB (RelC.below_nil hC)
 clear hC hk hh; replace hz := hz'; replace hd := hd'; clear hz' hd'
 have hc21 : ¬ (mulI (divI (rtQ u) per1) (ts.getD (ts.length - 1) 0) < ((S2 : Nat) : Rat)) := caps_2 C1 (rt_of8 hc1) (by omega) (by rw [hS]; congr 1; omega)
 rw [decide_eq_false hc21] at S173
 refine wp_cond_false S173.ev ?_
 refine wp_skip ?_
 refine region_text (M := []) (
  rT (tV (.int .i64 (i : Int))) ::
  rT (tV (.int .i64 ((i + 1 : Nat) : Int))) ::
  rT (tV (.int .i64 ((i + 1 : Nat) : Int))) ::
  []) hz hd (by kernel_rfl) ?_ ?_
 refine ⟨?_, ?_, ?_, trivial⟩
 exact zMv hz (sv S18)
 exact sBin rfl rfl rfl hz rfl (Gd.none_ rfl) rfl (sd 0 rfl) kc (fun w => by simp [go_sem, IntKind.wrap_i64]; omega)
 exact zAs hz (sd 1 rfl)
 intro a' γ' W' hz' hd' hC hk hh
 have tp3 := Cp3.lt
 replace Cp3 := kC hC Cp3
 replace Cp16 := kC hC Cp16
 replace S8 := kp hk S8
 replace S0 := kp hk S0
 replace S11 := kp hk S11
 replace S13 := kp hk S13
 replace S14 := kp hk S14
 clear S18
 replace S104 := kp hk S104
 replace S19 := kp hk S19
 replace S20 := kp hk S20
 replace S22 := kp hk S22
 replace S23 := kp hk S23
 replace S122 := kp hk S122
 replace S26 := kp hk S26
 replace S159 := kp hk S159
 replace S173 := kp hk S173
 replace HSc := RI.aft HSc hC (by intro m hm; simp at hm)
 replace O13 := OwT.aft O13 hC (fun _ _ => rfl)
 replace O14 := OwT.aft O14 hC (fun _ _ => rfl)
 have S18 := gotV hz' 2 hh rfl rfl rfl rfl
 clear tp3
 replace HB := aft_call HB (RelC.below_nil hC)
 clear hC hk hh; replace hz := hz'; replace hd := hd'; clear hz' hd'
 show ∃ n', n' < _ ∧ _
 refine ⟨_, ?_, i + 1, rfl, hz, hd, HB, S0, S8, S11, S13, S14, S18, Cp3, HSc, O13, O14, (by omega)⟩
 omega
 rw [decide_eq_false hc15] at S104
 refine wp_cond_false S104.ev ?_
 refine wp_exit ?_
 refine wp_seq ?_
 refine region_text (M := []) (
  rT (tV (.bool true)) ::
  []) hz hd (by kernel_rfl) ?_ ?_
 refine ⟨?_, trivial⟩
 exact zAs hz kc
 intro a' γ' W' hz' hd' hC hk hh
 have tp3 := Cp3.lt
 clear Cp3
 clear S8
 clear S0
 clear S11
 clear S13
 clear S14
 clear S18
 clear S104
 replace HSc := RI.aft HSc hC (by intro m hm; simp at hm)
 replace O13 := OwT.aft O13 hC (fun _ _ => rfl)
 replace O14 := OwT.aft O14 hC (fun _ _ => rfl)
 have S8 := gotV hz' 0 hh rfl rfl rfl rfl
 clear tp3
 replace HB := aft_call HB (RelC.below_nil hC)
 clear hC hk hh; replace hz := hz'; replace hd := hd'; clear hz' hd'
 refine wp_ret ?_
 exact ret1 (by kernel_rfl) S8 hd ⟨_, rfl, rfl, HB⟩
 refine region_text (M := []) (
  rT (tV (.int .i64 bn)) ::
  rT (tV (.int .u64 (u : Int))) ::
  rT (tV (.float .f64 u)) ::
  rT (tV (.int .i64 per1)) ::
  rT (tT [tV (.pointer none), tV (.int .i64 (newE bn u per1 0))]) ::
  rT (tT [tV (.pointer none), tV (.int .i64 (newE bn u per1 0))]) ::
  rT (tV (.pointer none)) ::
  rT (tV (.int .i64 (newE bn u per1 0))) ::
  rT (tV (.pointer none)) ::
  rT (tV (.int .i64 (newE bn u per1 0))) ::
  []) hz hd (by kernel_rfl) ?_ ?_
 refine ⟨?_, ?_, ?_, ?_, ?_, ?_, ?_, ?_, ?_, ?_, trivial⟩
 exact zMv hz (sv S0)
 exact zMv hz (sv S1)
 exact zC1 hz Try.func10 (sd 1 rfl) (k1 (fun _ => c_float))
 exact zMv hz (sv S2)
 exact sCall rfl rfl rfl hz rfl (Gd.none_ rfl) rfl Try.func9 (by kernel_rfl) (by kernel_rfl) fun a γ w U => (by show Calls _ _ #[a.eval (.tmp 34), a.eval (.tmp 36), a.eval (.tmp 37), .int .i64 0] _ _; rw [show a.eval (.tmp 34) = .int .i64 bn from Src.at_ (sd 0 rfl) U, show a.eval (.tmp 36) = .float .f64 u from Src.at_ (sd 2 rfl) U, show a.eval (.tmp 37) = .int .i64 per1 from Src.at_ (sd 3 rfl) U]; exact c_new_no (l := l) hl (by omega) hu (by omega) hc1)
 exact zMv hz (sd 4 rfl)
 exact zExt hz (sd 5 rfl)
 exact zExt hz (sd 5 rfl)
 exact zAs hz (sd 6 rfl)
 exact zAs hz (sd 7 rfl)
 intro a' γ' W' hz' hd' hC hk hh
 replace S1 := kp hk S1
 replace S3 := kp hk S3
 replace S8 := kp hk S8
 replace S0 := kp hk S0
 replace S2 := kp hk S2
 replace HSc := RI.aft HSc hC (by intro m hm; simp at hm)
 have S9 := gotV hz' 8 hh rfl rfl rfl rfl
 have S10 := gotV hz' 9 hh rfl rfl rfl rfl
 replace HB := aft_call HB (RelC.below_nil hC)
 clear hC hk hh; replace hz := hz'; replace hd := hd'; clear hz' hd'
 refine wp_seq ?_
 refine region_text (M := []) (
  rT (tV (.int .u64 (u : Int))) ::
  rT (tT [tQ B32 l (rtQ u), tV (.bool (decide (RtOk u)))]) ::
  rT (tT [tQ B32 l (rtQ u), tV (.bool (decide (RtOk u)))]) ::
  rT (tQ B32 l (rtQ u)) ::
  rT (tV (.bool (decide (RtOk u)))) ::
  rVar 5 35 2 ::
  rB 5 35 (tQ B32 l (rtQ u)) (some 5) 6 ::
  rT (tV (.bool (decide (RtOk u)))) ::
  []) hz hd (by kernel_rfl) ?_ ?_
 refine ⟨?_, ?_, ?_, ?_, ?_, ?_, ?_, ?_, trivial⟩
 exact zMv hz (sv S1)
 exact zC1 hz Try.func11 (sd 0 rfl) (k1 (fun _ => d_rate (l := l) (u := u) hu hl))
 exact zMv hz (sd 1 rfl)
 exact zExt hz (sd 2 rfl)
 exact zExt hz (sd 2 rfl)
 exact zAl hz nd_rat al_r32
 exact zSt (sd 3 rfl) st_q32
 exact zAs hz (sd 4 rfl)
 intro a' γ' W' hz' hd' hC hk hh
 clear S1
 replace S3 := kp hk S3
 replace S8 := kp hk S8
 replace S0 := kp hk S0
 replace S2 := kp hk S2
 replace S9 := kp hk S9
 replace S10 := kp hk S10
 replace HSc := RI.aft HSc hC (by intro m hm; simp at hm)
 obtain ⟨p22, S11, Cp22, lp22, gp22⟩ := gotB hz' 6 hC hh rfl rfl rfl rfl rfl rfl
 have S12 := gotV hz' 7 hh rfl rfl rfl rfl
 have bp22 : w.heap.size ≤ p22 := Nat.le_trans HB.size lp22
 clear lp22 gp22
 replace HB := aft_call HB (RelC.below_nil hC)
 clear hC hk hh; replace hz := hz'; replace hd := hd'; clear hz' hd'
 refine wp_seq ?_
 refine wp_seq ?_
 have hc23 : ¬ (RtOk u) := fun g => hc1 (newE_0 (by omega) (by omega) g (by omega) (by omega) (by decide) (by decide))
 rw [decide_eq_false hc23] at S12
 refine region_text (M := []) (
  rT (tV (.bool true)) ::
  rT (tV (.bool false)) ::
  rT (tV (.bool false)) ::
  rT (tV (.int .i64 (newE bn u per1 0))) ::
  rT (tV (.bool false)) ::
  rT (tV (.bool false)) ::
  rT (tV (.bool false)) ::
  rT (tV (.bool false)) ::
  []) hz hd (by kernel_rfl) ?_ ?_
 refine ⟨?_, ?_, ?_, ?_, ?_, ?_, ?_, ?_, trivial⟩
 exact zC0 hz Try.func12 (fun _ => l_told8)
 exact zNot hz (sd 0 rfl)
 exact zMv hz (sd 1 rfl)
 exact zMv hz (sv S10) (g := gT 2 rfl)
 exact sBin rfl rfl rfl hz rfl (gT 2 rfl) rfl (sd 3 rfl) kc (fun w => run_f (P := newE bn u per1 0 = 0) ((fun w => run_eqlE) w) hc1)
 exact zMv hz (sv S12) (g := gT 2 rfl)
 exact sBin rfl rfl rfl hz rfl (gT 2 rfl) rfl (sd 4 rfl) (sd 5 rfl) (fun w => by kernel_rfl)
 exact zPF hz (sd 2 rfl) (sd 6 rfl)
 intro a' γ' W' hz' hd' hC hk hh
 have tp22 := Cp22.lt
 replace Cp22 := kC hC Cp22
 replace S3 := kp hk S3
 replace S8 := kp hk S8
 replace S0 := kp hk S0
 replace S2 := kp hk S2
 replace S9 := kp hk S9
 clear S10
 replace S11 := kp hk S11
 replace S12 := kp hk S12
 replace HSc := RI.aft HSc hC (by intro m hm; simp at hm)
 have S53 := gotV hz' 7 hh rfl rfl rfl rfl
 clear tp22
 replace HB := aft_call HB (RelC.below_nil hC)
 clear hC hk hh; replace hz := hz'; replace hd := hd'; clear hz' hd'
 refine wp_cond_false S53.ev ?_
 refine wp_skip ?_
 refine wp_seq ?_
 refine wp_seq ?_
 refine region_text (M := []) (
  rT (tV (.bool false)) ::
  rT (tV (.bool true)) ::
  []) hz hd (by kernel_rfl) ?_ ?_
 refine ⟨?_, ?_, trivial⟩
 exact zMv hz (sv S12)
 exact zNot hz (sd 0 rfl)
 intro a' γ' W' hz' hd' hC hk hh
 have tp22 := Cp22.lt
 replace Cp22 := kC hC Cp22
 replace S3 := kp hk S3
 replace S8 := kp hk S8
 replace S0 := kp hk S0
 replace S2 := kp hk S2
 replace S9 := kp hk S9
 replace S11 := kp hk S11
 clear S12
 clear S53
 replace HSc := RI.aft HSc hC (by intro m hm; simp at hm)
 have S55 := gotV hz' 1 hh rfl rfl rfl rfl
 clear tp22
 replace HB := aft_call HB (RelC.below_nil hC)
 clear hC hk hh; replace hz := hz'; replace hd := hd'; clear hz' hd'
 refine wp_cond_true S55.ev ?_
 refine wp_seq ?_
 refine region_text (M := []) (
  rT (tV (.bool true)) ::
  []) hz hd (by kernel_rfl) ?_ ?_
 refine ⟨?_, trivial⟩
 exact zAs hz kc
 intro a' γ' W' hz' hd' hC hk hh
 have tp22 := Cp22.lt
 replace Cp22 := kC hC Cp22
 replace S3 := kp hk S3
 clear S8
 replace S0 := kp hk S0
 replace S2 := kp hk S2
 replace S9 := kp hk S9
 replace S11 := kp hk S11
 clear S55
 replace HSc := RI.aft HSc hC (by intro m hm; simp at hm)
 have S8 := gotV hz' 0 hh rfl rfl rfl rfl
 clear tp22
 replace HB := aft_call HB (RelC.below_nil hC)
 clear hC hk hh; replace hz := hz'; replace hd := hd'; clear hz' hd'
 refine wp_ret ?_
 exact ret1 (by kernel_rfl) S8 hd ⟨_, rfl, rfl, HB⟩

end Go.Proofs.Ytojpiiboikomfaa.Rg

namespace Go.Proofs.Ytojpiiboikomfaa.Rg

open Go.RowKit Go.ChangeShapes Go.WideShapes Go.ChangeAt Go.Deep

theorem in_range3 {k bytes : Nat} {w : World} {A : Option Addr} {n c : Nat} {l : List Int} (h : InI .i64 bytes k w A n c l) (j : Nat) : -9223372036854775808 ≤ l.getD j 0 ∧ l.getD j 0 < 9223372036854775808 := by
  rw [List.getD_eq_getElem?_getD]
  cases hj : l[j]? with
  | none => simp
  | some x => exact i64_r (h.wf x (List.mem_of_getElem? hj))
theorem bucketCaps_walk (b u per : Int) (A0 : Option Addr) (n0 c0 : Nat) (l0 : List Int) (w : World) (hb : (Lit.int .i64 b).wf = true) (hu : (Lit.int .u64 u).wf = true) (hp : (Lit.int .i64 per).wf = true) (h0 : InI .i64 24 3 w A0 n0 c0 l0) :
    Calls Try.prog 3 #[.int .i64 b, .int .u64 u, .int .i64 per, .slice A0 n0 c0] w fun e w' => e = .returned (.bool true) ∧ Below w.heap.size w w' := by
  obtain ⟨u, rfl, hu2⟩ := u64_r hu
  obtain ⟨hb1, hb2⟩ := i64_r hb
  obtain ⟨hp1, hp2⟩ := i64_r hp
  exact ret_out8 (bucketCaps_ret (l := 1100) (by omega) (by omega) hu2 hb1 hb2 hp1 hp2 (ri_in (by decide) h0) (in_range3 h0))
end Go.Proofs.Ytojpiiboikomfaa.Rg
