/-
  Walks and plain laws, put together: VL VM.
-/
import Derived.Test.YtfgnleoaibcegaaGreatQj
set_option linter.unusedVariables false
set_option linter.unusedSimpArgs false
namespace Go.Proofs.YtfgnleoaibcegaaGreat.Rg

open Go.RowKit

theorem tM_ten0 {n : Nat} : ∀ v w, (tN B32 2 1).p v w → (tN B32 (n + 2) (10 ^ 0)).p v w := fun v w h => tN_le (by omega) _ _ h
theorem tM_ten1 {n i l : Nat} (hi : i < n) : ∀ v w, (tN B32 l (10 ^ i * 10)).p v w → (tN B32 (n + 2) (10 ^ (i + 1))).p v w := by
  rintro v w ⟨A, m, c, e, hd, hm⟩
  rw [← Nat.pow_succ] at hd
  refine ⟨A, m, c, e, hd, hd.le (by decide) ?_⟩
  exact Nat.lt_of_le_of_lt (Nat.pow_le_pow_left (by decide : 10 ≤ B32) _) (Nat.pow_lt_pow_right (by decide) (by omega))
theorem tM_ten2 {n i : Nat} (h1 : i ≤ n) (h2 : ¬ i < n) : ∀ v w, (tN B32 (n + 2) (10 ^ i)).p v w → (tN B32 (n + 2) (10 ^ n)).p v w := by
  obtain rfl : i = n := by omega
  exact fun _ _ h => h
/-- What stands from i on as a power. -/
def powV (L : List Nat) (i : Nat) : Option Int := if i = L.length then some 0 else if ExpOk L i then some (expV L i) else none
section

variable {L : List Nat} {i : Nat}
theorem pow_end (h : i = L.length) : powV L i = some 0 := by unfold powV; rw [if_pos h]
theorem pow_no (h : ¬ i = L.length) (h1 : ¬ ExpOk L i) : powV L i = none := by unfold powV; rw [if_neg h, if_neg h1]
theorem pow_yes (h : ¬ i = L.length) (h1 : ExpOk L i) : powV L i = some (expV L i) := by unfold powV; rw [if_neg h, if_pos h1]
theorem pow_to {o : Option Int} {z : Int} {b : Bool} (h : powV L i = o) (hz : z = o.getD 0) (hb : b = o.isSome) : ∀ v w, (tT [tV (.int .i64 z), tV (.bool b)]).p v w → (tT [tV (.int .i64 ((powV L i).getD 0)), tV (.bool (powV L i).isSome)]).p v w := by
  rw [h, hz, hb]; exact fun _ _ h => h
end
theorem pw_en2 {L : List Nat} {i j : Nat} (hj : j = signJ L (i + 1)) (hl : j + runL L j ≤ L.length) (h : j + runL L j ≠ L.length) : ¬ ExpOk L i := fun c => by have := c.en; rw [← hj] at this; omega
theorem pw_ok2 {L : List Nat} {i j : Nat} (he : ¬ L.getD i 0 ≠ 101) (hj : j = signJ L (i + 1)) (h1 : ¬ runL L j < 1) (h2 : ¬ 3 < runL L j) (h3 : ¬ j + runL L j ≠ L.length) : ExpOk L i := pw_ok he hj h1 h2 (by omega)
theorem b_sub48 {d : Nat} {ox oy : Operand} {id : TypeId} (h : 48 ≤ d ∧ d ≤ 57) (w : World) : (do eqGuard .sub id ox oy (.int .u8 ((d : Nat) : Int)) (.int .u8 48); binOp .sub id (.int .u8 ((d : Nat) : Int)) (.int .u8 48) : Sem Value).run Tryz.prog w = .ok (.int .u8 ((d - 48 : Nat) : Int)) w := by
  have e : IntKind.u8.wrap (((d : Nat) : Int) - 48) = ((d - 48 : Nat) : Int) := by rw [IntKind.wrap_u8]; omega
  simp [go_sem, e]
theorem cv_u8 {d : Nat} (h : d ≤ 255) (w : World) : (convert 5 3 (.int .u8 ((d : Nat) : Int))).run Tryz.prog w = .ok (.int .i64 ((d : Nat) : Int)) w := by
  have e : IntKind.i64.wrap ((d : Nat) : Int) = ((d : Nat) : Int) := by rw [IntKind.wrap_i64]; omega
  simp [go_sem, e]
theorem f_sign2 {m : Nat} {z : Int} {ox oy : Operand} {id : TypeId} (hm : m ≤ 999) (hz : z = 1 ∨ z = -1) (w : World) : (do eqGuard .mul id ox oy (.int .i64 z) (.int .i64 ((m : Nat) : Int)); binOp .mul id (.int .i64 z) (.int .i64 ((m : Nat) : Int)) : Sem Value).run Tryz.prog w = .ok (.int .i64 (((m : Nat) : Int) * z)) w := by
  have e : IntKind.i64.wrap (z * ((m : Nat) : Int)) = ((m : Nat) : Int) * z := by rw [IntKind.wrap_i64]; rcases hz with rfl | rfl <;> omega
  simp [go_sem, e]
theorem n_subj {j r : Nat} {ox oy : Operand} {id : TypeId} (h : j + r ≤ 4611686018427387904) (w : World) : (do eqGuard .sub id ox oy (.int .i64 ((j + r : Nat) : Int)) (.int .i64 ((j : Nat) : Int)); binOp .sub id (.int .i64 ((j + r : Nat) : Int)) (.int .i64 ((j : Nat) : Int)) : Sem Value).run Tryz.prog w = .ok (.int .i64 ((r : Nat) : Int)) w := by
  have := n_sub (i := j + r) (n := j) (ox := ox) (oy := oy) (id := id) (by omega) h w
  rw [Nat.add_sub_cancel_left] at this; exact this
theorem n_ne {i n : Nat} {ox oy : Operand} {id : TypeId}  (w : World) : (do eqGuard .neq id ox oy (.int .i64 ((i : Nat) : Int)) (.int .i64 ((n : Nat) : Int)); binOp .neq id (.int .i64 ((i : Nat) : Int)) (.int .i64 ((n : Nat) : Int)) : Sem Value).run Tryz.prog w = .ok (.bool (decide (i ≠ n))) w := by
  by_cases hc : i = n
  · subst hc; simp [go_sem]
  · have : ¬ ((i : Nat) : Int) = ((n : Nat) : Int) := by omega
    simp [go_sem, hc, this]
set_option maxRecDepth 10000 in
set_option maxHeartbeats 2000000 in
theorem d_run {L : List Nat} {i : Nat} {w : World}  (hB : ∀ d ∈ L, d < 256) (hL : L.length ≤ 1000000000000000) (hi : i ≤ L.length) :
    Calls Tryz.prog 73 #[.string (strB L), .int .i64 ((i : Nat) : Int)] w (Ret (tV (.int .i64 ((i + runL L i : Nat) : Int))) w) := by
 refine enter Tryz.func73 rfl Tryz.ntmps73 (by simp) ?_
 intro a hz hd ha
 have S0 := ha 0 _ rfl
 have S1 := ha 1 _ rfl
 clear ha
 have HB : Below w.heap.size w w := Below.refl _ _
 refine wp_seq ?_
 refine region_text (M := []) (
  rT (tV (.int .i64 0)) ::
  []) hz hd (by kernel_rfl) ?_ ?_
 refine ⟨?_, trivial⟩
 exact zAs hz kc
 intro a' γ' W' hz' hd' hC hk hh
 replace S0 := kp hk S0
 replace S1 := kp hk S1
 have S4 := gotV hz' 0 hh rfl rfl rfl rfl
 replace HB := aft_call HB (RelC.below_nil hC)
 clear hC hk hh; replace hz := hz'; replace hd := hd'; clear hz' hd'
 refine wp_seq ?_
 refine wp_block ?_
 refine wp_loop_ghost (fun k a W => ∃ (n : Nat), k = L.length - (i + n) ∧ a.tmps.size = 24 ∧ a.defers = [] ∧ Below w.heap.size w W ∧ Sl a 0 (.string (strB L)) ∧ Sl a 1 (.int .i64 ((i + n : Nat) : Int)) ∧ Sl a 4 (.int .i64 0) ∧ RunTo L i n) _ ⟨0, rfl, hz, hd, HB, S0, S1, S4, (RunTo.zero hi)⟩ ?_
 clear S0 S1 S4 hz hd HB
 rintro k a W ⟨n, rfl, hz, hd, HB, S0, S1, S4, hr⟩
 refine wp_seq ?_
 refine wp_seq ?_
 by_cases hc1 : i + n < L.length
 by_cases hc2 : 48 ≤ L.getD (i + n) 0
 refine region_text (M := []) (
  rT (tV (.int .i64 ((i + n : Nat) : Int))) ::
  rT (tV (.string (strB L))) ::
  rT (tV (.int .i64 ((L.length : Nat) : Int))) ::
  rT (tV (.bool true)) ::
  rT (tV (.bool true)) ::
  rT (tV (.string (strB L))) ::
  rT (tV (.int .i64 ((i + n : Nat) : Int))) ::
  rT (tV (.int .u8 ((L.getD (i + n) 0 : Nat) : Int))) ::
  rT (tV (.bool true)) ::
  rT (tV (.bool true)) ::
  rT (tV (.bool true)) ::
  rT (tV (.string (strB L))) ::
  rT (tV (.int .i64 ((i + n : Nat) : Int))) ::
  rT (tV (.int .u8 ((L.getD (i + n) 0 : Nat) : Int))) ::
  rT (tV (.bool (decide (L.getD (i + n) 0 ≤ 57)))) ::
  rT (tV (.bool (decide (L.getD (i + n) 0 ≤ 57)))) ::
  []) hz hd (by kernel_rfl) ?_ ?_
 refine ⟨?_, ?_, ?_, ?_, ?_, ?_, ?_, ?_, ?_, ?_, ?_, ?_, ?_, ?_, ?_, ?_, trivial⟩
 exact zMv hz (sv S1)
 exact zMv hz (sv S0)
 exact zB1len hz rfl (sd 1 rfl) (fun w => s_len w)
 exact sBin rfl rfl rfl hz rfl (Gd.none_ rfl) rfl (sd 0 rfl) (sd 2 rfl) (fun w => run_t (P := i + n < L.length) ((fun w => n_lt w) w) hc1)
 exact zMv hz (sd 3 rfl)
 exact zMv hz (sv S0) (g := gT 4 rfl)
 exact zMv hz (sv S1) (g := gT 4 rfl)
 exact zIx hz rfl (sd 5 rfl) (sd 6 rfl) (fun w => s_ix hB hc1 w) (g := gT 4 rfl)
 exact sBin rfl rfl rfl hz rfl (gT 4 rfl) rfl (sd 7 rfl) kc (fun w => run_t (P := 48 ≤ L.getD (i + n) 0) ((fun w => b_geq w) w) hc2)
 exact zPT hz (sd 4 rfl) (sd 8 rfl)
 exact zMv hz (sd 9 rfl)
 exact zMv hz (sv S0) (g := gT 10 rfl)
 exact zMv hz (sv S1) (g := gT 10 rfl)
 exact zIx hz rfl (sd 11 rfl) (sd 12 rfl) (fun w => s_ix hB hc1 w) (g := gT 10 rfl)
 exact sBin rfl rfl rfl hz rfl (gT 10 rfl) rfl (sd 13 rfl) kc (fun w => b_leq w)
 exact zPT hz (sd 10 rfl) (sd 14 rfl)
 intro a' γ' W' hz' hd' hC hk hh
 replace S0 := kp hk S0
 replace S1 := kp hk S1
 replace S4 := kp hk S4
 have S20 := gotV hz' 15 hh rfl rfl rfl rfl
 replace HB := aft_call HB (RelC.below_nil hC)
 clear hC hk hh; replace hz := hz'; replace hd := hd'; clear hz' hd'
 by_cases hc3 : L.getD (i + n) 0 ≤ 57
 rw [decide_eq_true hc3] at S20
 refine wp_cond_true S20.ev ?_
 refine wp_skip ?_
 refine wp_block ?_
 refine region_text (M := []) (
  rT (tV (.int .i64 ((i + n : Nat) : Int))) ::
  rT (tV (.int .i64 ((i + (n + 1) : Nat) : Int))) ::
  rT (tV (.int .i64 ((i + (n + 1) : Nat) : Int))) ::
  []) hz hd (by kernel_rfl) ?_ ?_
 refine ⟨?_, ?_, ?_, trivial⟩
 exact zMv hz (sv S1)
 exact sBin rfl rfl rfl hz rfl (Gd.none_ rfl) rfl (sd 0 rfl) kc (fun w => n_succ (i := i + n) (by have := hr.le; omega) w)
 exact zAs hz (sd 1 rfl)
 intro a' γ' W' hz' hd' hC hk hh
 replace S0 := kp hk S0
 clear S1
 replace S4 := kp hk S4
 replace S20 := kp hk S20
 have S1 := gotV hz' 2 hh rfl rfl rfl rfl
 replace HB := aft_call HB (RelC.below_nil hC)
 clear hC hk hh; replace hz := hz'; replace hd := hd'; clear hz' hd'
 show ∃ n', n' < _ ∧ _
 refine ⟨_, ?_, n + 1, rfl, hz, hd, HB, S0, S1, S4, (hr.next hc1 hc2 hc3)⟩
 have := hr.le; omega
 rw [decide_eq_false hc3] at S20
 refine wp_cond_false S20.ev ?_
 refine wp_exit ?_
 refine wp_seq ?_
 refine region_text (M := []) (
  rT (tV (.int .i64 ((i + n : Nat) : Int))) ::
  rT (tV (.int .i64 ((i + n : Nat) : Int))) ::
  []) hz hd (by kernel_rfl) ?_ ?_
 refine ⟨?_, ?_, trivial⟩
 exact zMv hz (sv S1)
 exact zAs hz (sd 0 rfl)
 intro a' γ' W' hz' hd' hC hk hh
 clear S0
 clear S1
 clear S4
 clear S20
 have S4 := gotV hz' 1 hh rfl rfl rfl rfl
 replace HB := aft_call HB (RelC.below_nil hC)
 clear hC hk hh; replace hz := hz'; replace hd := hd'; clear hz' hd'
 refine wp_ret ?_
 refine ret_to (T := tV (.int .i64 ((i + n : Nat) : Int))) (ret1 (by kernel_rfl) S4 hd ⟨_, rfl, rfl, HB⟩) ?_
 exact tV_to (congrArg (fun k : Nat => Value.int .i64 ((i + k : Nat) : Int)) (hr.is (fun _ => by unfold dg; rw [decide_eq_false hc3, Bool.and_false])).symm)
 refine region_text (M := []) (
  rT (tV (.int .i64 ((i + n : Nat) : Int))) ::
  rT (tV (.string (strB L))) ::
  rT (tV (.int .i64 ((L.length : Nat) : Int))) ::
  rT (tV (.bool true)) ::
  rT (tV (.bool true)) ::
  rT (tV (.string (strB L))) ::
  rT (tV (.int .i64 ((i + n : Nat) : Int))) ::
  rT (tV (.int .u8 ((L.getD (i + n) 0 : Nat) : Int))) ::
  rT (tV (.bool false)) ::
  rT (tV (.bool false)) ::
  rT (tV (.bool false)) ::
  rT (tV undef) ::
  rT (tV undef) ::
  rT (tV undef) ::
  rT (tV undef) ::
  rT (tV (.bool false)) ::
  []) hz hd (by kernel_rfl) ?_ ?_
 refine ⟨?_, ?_, ?_, ?_, ?_, ?_, ?_, ?_, ?_, ?_, ?_, ?_, ?_, ?_, ?_, ?_, trivial⟩
 exact zMv hz (sv S1)
 exact zMv hz (sv S0)
 exact zB1len hz rfl (sd 1 rfl) (fun w => s_len w)
 exact sBin rfl rfl rfl hz rfl (Gd.none_ rfl) rfl (sd 0 rfl) (sd 2 rfl) (fun w => run_t (P := i + n < L.length) ((fun w => n_lt w) w) hc1)
 exact zMv hz (sd 3 rfl)
 exact zMv hz (sv S0) (g := gT 4 rfl)
 exact zMv hz (sv S1) (g := gT 4 rfl)
 exact zIx hz rfl (sd 5 rfl) (sd 6 rfl) (fun w => s_ix hB hc1 w) (g := gT 4 rfl)
 exact sBin rfl rfl rfl hz rfl (gT 4 rfl) rfl (sd 7 rfl) kc (fun w => run_f (P := 48 ≤ L.getD (i + n) 0) ((fun w => b_geq w) w) hc2)
 exact zPT hz (sd 4 rfl) (sd 8 rfl)
 exact zMv hz (sd 9 rfl)
 exact zSkU hz (gN 10 rfl)
 exact zSkU hz (gN 10 rfl)
 exact zSkU hz (gN 10 rfl)
 exact zSkU hz (gN 10 rfl)
 exact zPF hz (sd 10 rfl) kc
 intro a' γ' W' hz' hd' hC hk hh
 replace S0 := kp hk S0
 replace S1 := kp hk S1
 replace S4 := kp hk S4
 have S20 := gotV hz' 15 hh rfl rfl rfl rfl
 replace HB := aft_call HB (RelC.below_nil hC)
 clear hC hk hh; replace hz := hz'; replace hd := hd'; clear hz' hd'
 refine wp_cond_false S20.ev ?_
 refine wp_exit ?_
 refine wp_seq ?_
 refine region_text (M := []) (
  rT (tV (.int .i64 ((i + n : Nat) : Int))) ::
  rT (tV (.int .i64 ((i + n : Nat) : Int))) ::
  []) hz hd (by kernel_rfl) ?_ ?_
 refine ⟨?_, ?_, trivial⟩
 exact zMv hz (sv S1)
 exact zAs hz (sd 0 rfl)
 intro a' γ' W' hz' hd' hC hk hh
 clear S0
 clear S1
 clear S4
 clear S20
 have S4 := gotV hz' 1 hh rfl rfl rfl rfl
 replace HB := aft_call HB (RelC.below_nil hC)
 clear hC hk hh; replace hz := hz'; replace hd := hd'; clear hz' hd'
 refine wp_ret ?_
 refine ret_to (T := tV (.int .i64 ((i + n : Nat) : Int))) (ret1 (by kernel_rfl) S4 hd ⟨_, rfl, rfl, HB⟩) ?_
 exact tV_to (congrArg (fun k : Nat => Value.int .i64 ((i + k : Nat) : Int)) (hr.is (fun _ => by unfold dg; rw [decide_eq_false hc2]; rfl)).symm)
 refine region_text (M := []) (
  rT (tV (.int .i64 ((i + n : Nat) : Int))) ::
  rT (tV (.string (strB L))) ::
  rT (tV (.int .i64 ((L.length : Nat) : Int))) ::
  rT (tV (.bool false)) ::
  rT (tV (.bool false)) ::
  rT (tV undef) ::
  rT (tV undef) ::
  rT (tV undef) ::
  rT (tV undef) ::
  rT (tV (.bool false)) ::
  rT (tV (.bool false)) ::
  rT (tV undef) ::
  rT (tV undef) ::
  rT (tV undef) ::
  rT (tV undef) ::
  rT (tV (.bool false)) ::
  []) hz hd (by kernel_rfl) ?_ ?_
 refine ⟨?_, ?_, ?_, ?_, ?_, ?_, ?_, ?_, ?_, ?_, ?_, ?_, ?_, ?_, ?_, ?_, trivial⟩
 exact zMv hz (sv S1)
 exact zMv hz (sv S0)
 exact zB1len hz rfl (sd 1 rfl) (fun w => s_len w)
 exact sBin rfl rfl rfl hz rfl (Gd.none_ rfl) rfl (sd 0 rfl) (sd 2 rfl) (fun w => run_f (P := i + n < L.length) ((fun w => n_lt w) w) hc1)
 exact zMv hz (sd 3 rfl)
 exact zSkU hz (gN 4 rfl)
 exact zSkU hz (gN 4 rfl)
 exact zSkU hz (gN 4 rfl)
 exact zSkU hz (gN 4 rfl)
 exact zPF hz (sd 4 rfl) kc
 exact zMv hz (sd 9 rfl)
 exact zSkU hz (gN 10 rfl)
 exact zSkU hz (gN 10 rfl)
 exact zSkU hz (gN 10 rfl)
 exact zSkU hz (gN 10 rfl)
 exact zPF hz (sd 10 rfl) kc
 intro a' γ' W' hz' hd' hC hk hh
 replace S0 := kp hk S0
 replace S1 := kp hk S1
 replace S4 := kp hk S4
 have S20 := gotV hz' 15 hh rfl rfl rfl rfl
 replace HB := aft_call HB (RelC.below_nil hC)
 clear hC hk hh; replace hz := hz'; replace hd := hd'; clear hz' hd'
 refine wp_cond_false S20.ev ?_
 refine wp_exit ?_
 refine wp_seq ?_
 refine region_text (M := []) (
  rT (tV (.int .i64 ((i + n : Nat) : Int))) ::
  rT (tV (.int .i64 ((i + n : Nat) : Int))) ::
  []) hz hd (by kernel_rfl) ?_ ?_
 refine ⟨?_, ?_, trivial⟩
 exact zMv hz (sv S1)
 exact zAs hz (sd 0 rfl)
 intro a' γ' W' hz' hd' hC hk hh
 clear S0
 clear S1
 clear S4
 clear S20
 have S4 := gotV hz' 1 hh rfl rfl rfl rfl
 replace HB := aft_call HB (RelC.below_nil hC)
 clear hC hk hh; replace hz := hz'; replace hd := hd'; clear hz' hd'
 refine wp_ret ?_
 refine ret_to (T := tV (.int .i64 ((i + n : Nat) : Int))) (ret1 (by kernel_rfl) S4 hd ⟨_, rfl, rfl, HB⟩) ?_
 exact tV_to (congrArg (fun k : Nat => Value.int .i64 ((i + k : Nat) : Int)) (hr.is (fun hc => absurd hc hc1)).symm)

set_option maxRecDepth 10000 in
set_option maxHeartbeats 2000000 in
theorem d_ten {n : Nat} {w : World}  (hn : n ≤ 3000) :
    Calls Tryz.prog 76 #[.int .i64 ((n : Nat) : Int)] w (Ret (tN B32 (n + 2) (10 ^ n)) w) := by
 refine enter Tryz.func76 rfl Tryz.ntmps76 (by simp) ?_
 intro a hz hd ha
 have S0 := ha 0 _ rfl
 clear ha
 have HB : Below w.heap.size w w := Below.refl _ _
 refine wp_seq ?_
 refine region_text (M := []) (
  rB 0 30 (tN B32 0 0) none 0 ::
  []) hz hd (by kernel_rfl) ?_ ?_
 refine ⟨?_, trivial⟩
 exact zNew hz (fun _ => tN_nil) al_n32
 intro a' γ' W' hz' hd' hC hk hh
 replace S0 := kp hk S0
 obtain ⟨p1, S2, Cp1, lp1, gp1⟩ := gotB hz' 0 hC hh rfl rfl rfl rfl rfl rfl
 have bp1 : w.heap.size ≤ p1 := Nat.le_trans HB.size lp1
 clear lp1 gp1
 replace HB := aft_call HB (RelC.below_nil hC)
 clear hC hk hh; replace hz := hz'; replace hd := hd'; clear hz' hd'
 refine wp_seq ?_
 refine region_text (M := []) (
  rT (tN B32 2 1) ::
  rVar 1 30 1 ::
  rB 1 30 (tN B32 2 1) (some 1) 2 ::
  []) hz hd (by kernel_rfl) ?_ ?_
 refine ⟨?_, ?_, ?_, trivial⟩
 exact zC1 hz Tryz.func16 (kc (v := .int .u64 1)) (k1 (fun _ => d_of (by decide)))
 exact zAl hz nd_slice al_n32
 exact zSt (sd 0 rfl) st_n32
 intro a' γ' W' hz' hd' hC hk hh
 have ep1 := Cp1.lt
 have tp1 := Cp1.lt
 replace Cp1 := kC hC Cp1
 replace S0 := kp hk S0
 replace S2 := kp hk S2
 obtain ⟨p2, S3, Cp2, lp2, gp2⟩ := gotB hz' 2 hC hh rfl rfl rfl rfl rfl rfl
 have n_p2_p1 : p2 ≠ p1 := by omega
 have n_p1_p2 : p1 ≠ p2 := by have := ep1; omega
 have bp2 : w.heap.size ≤ p2 := Nat.le_trans HB.size lp2
 clear lp2 gp2
 clear tp1
 clear ep1
 replace HB := aft_call HB (RelC.below_nil hC)
 clear hC hk hh; replace hz := hz'; replace hd := hd'; clear hz' hd'
 refine wp_seq ?_
 refine wp_seq ?_
 refine region_text (M := []) (
  rT (tV (.int .i64 0)) ::
  []) hz hd (by kernel_rfl) ?_ ?_
 refine ⟨?_, trivial⟩
 exact zAs hz kc
 intro a' γ' W' hz' hd' hC hk hh
 have tp1 := Cp1.lt
 replace Cp1 := kC hC Cp1
 have tp2 := Cp2.lt
 replace Cp2 := kC hC Cp2
 replace S0 := kp hk S0
 replace S2 := kp hk S2
 replace S3 := kp hk S3
 have S4 := gotV hz' 0 hh rfl rfl rfl rfl
 clear tp1 tp2
 replace HB := aft_call HB (RelC.below_nil hC)
 clear hC hk hh; replace hz := hz'; replace hd := hd'; clear hz' hd'
 refine wp_block ?_
 replace Cp2 : Cell 30 (tN B32 (n + 2) (10 ^ 0)) p2 _ := Cell.toN Cp2 (tM_ten0)
 refine wp_loop_ghost (fun k a W => ∃ (i : Nat), k = n - i ∧ a.tmps.size = 15 ∧ a.defers = [] ∧ Below w.heap.size w W ∧ Sl a 0 (.int .i64 ((n : Nat) : Int)) ∧ Sl a 2 (.pointer (some ⟨p1, 0, none⟩)) ∧ Sl a 3 (.pointer (some ⟨p2, 0, none⟩)) ∧ Sl a 4 (.int .i64 ((i : Nat) : Int)) ∧ Cell 30 (tN B32 0 0) p1 W ∧ Cell 30 (tN B32 (n + 2) (10 ^ i)) p2 W ∧ i ≤ n) _ ⟨0, rfl, hz, hd, HB, S0, S2, S3, S4, Cp1, Cp2, (Nat.zero_le _)⟩ ?_
 clear S0 S2 S3 S4 Cp1 Cp2 hz hd HB
 rintro k a W ⟨i, rfl, hz, hd, HB, S0, S2, S3, S4, Cp1, Cx, hi⟩
 refine wp_seq ?_
 refine wp_seq ?_
 refine region_text (M := []) (
  rT (tV (.int .i64 ((i : Nat) : Int))) ::
  rT (tV (.int .i64 ((n : Nat) : Int))) ::
  rT (tV (.bool (decide (i < n)))) ::
  []) hz hd (by kernel_rfl) ?_ ?_
 refine ⟨?_, ?_, ?_, trivial⟩
 exact zMv hz (sv S4)
 exact zMv hz (sv S0)
 exact sBin rfl rfl rfl hz rfl (Gd.none_ rfl) rfl (sd 0 rfl) (sd 1 rfl) (fun w => n_lt w)
 intro a' γ' W' hz' hd' hC hk hh
 have tp1 := Cp1.lt
 replace Cp1 := kC hC Cp1
 have tp2 := Cx.lt
 replace Cx := kC hC Cx
 replace S0 := kp hk S0
 replace S2 := kp hk S2
 replace S3 := kp hk S3
 replace S4 := kp hk S4
 have S8 := gotV hz' 2 hh rfl rfl rfl rfl
 clear tp1 tp2
 replace HB := aft_call HB (RelC.below_nil hC)
 clear hC hk hh; replace hz := hz'; replace hd := hd'; clear hz' hd'
 by_cases hc3 : i < n
 rw [decide_eq_true hc3] at S8
 refine wp_cond_true S8.ev ?_
 refine wp_skip ?_
 refine wp_seq ?_
 refine wp_block ?_
 refine region_drawn (M := [p2]) (
  rT (tN B32 (n + 2) (10 ^ i)) ::
  rT (tN B32 2 10) ::
  rT (tN B32 ((n + 2) + 2) ((10 ^ i) * 10)) ::
  rE 0 30 (tN B32 ((n + 2) + 2) ((10 ^ i) * 10)) p2 ::
  []) hz hd (by kernel_rfl) (by kernel_rfl) ?_ ?_
 refine ⟨?_, ?_, ?_, ?_, trivial⟩
 exact sLoadM rfl rfl rfl hz rfl (Gd.none_ rfl) rfl (sv S3) Cx (k := 0) (by simp [tagOf]) (by kernel_rfl) ld_n32
 exact zC1 hz Tryz.func16 (kc (v := .int .u64 10)) (k1 (fun _ => d_of (by decide)))
 exact zC2 hz Tryz.func63 (sd 0 rfl) (sd 1 rfl) (fun _ _ _ h0 h1 => d_mul h0 h1 (by rw [big_eq]; omega) (by decide))
 exact zSE rfl (sv S3) (by simp [tagOf]) (Cx.var tN_nd) (sd 2 rfl) st_n32
 intro a' γ' W' hz' hd' hC hk hh
 have tp1 := Cp1.lt
 replace Cp1 := kC hC Cp1 (by simp [tagOf, n_p1_p2])
 replace Cx := gotE (T := tN B32 ((n + 2) + 2) ((10 ^ i) * 10)) (id := 30) (p := p2) 3 hh rfl rfl
 replace S0 := kp hk S0
 replace S2 := kp hk S2
 replace S3 := kp hk S3
 replace S4 := kp hk S4
 replace S8 := kp hk S8
 clear tp1
 replace HB := RelC.aftM HB hC (by intro m hm; simp at hm; rcases hm with rfl <;> assumption)
 clear hC hk hh; replace hz := hz'; replace hd := hd'; clear hz' hd'
 refine region_text (M := []) (
  rT (tV (.int .i64 ((i : Nat) : Int))) ::
  rT (tV (.int .i64 ((i + 1 : Nat) : Int))) ::
  rT (tV (.int .i64 ((i + 1 : Nat) : Int))) ::
  []) hz hd (by kernel_rfl) ?_ ?_
 refine ⟨?_, ?_, ?_, trivial⟩
 exact zMv hz (sv S4)
 exact sBin rfl rfl rfl hz rfl (Gd.none_ rfl) rfl (sd 0 rfl) kc (fun w => n_succ (by omega) w)
 exact zAs hz (sd 1 rfl)
 intro a' γ' W' hz' hd' hC hk hh
 have tp1 := Cp1.lt
 replace Cp1 := kC hC Cp1
 have tp2 := Cx.lt
 replace Cx := kC hC Cx
 replace S0 := kp hk S0
 replace S2 := kp hk S2
 replace S3 := kp hk S3
 clear S4
 replace S8 := kp hk S8
 have S4 := gotV hz' 2 hh rfl rfl rfl rfl
 clear tp1 tp2
 replace HB := aft_call HB (RelC.below_nil hC)
 clear hC hk hh; replace hz := hz'; replace hd := hd'; clear hz' hd'
 replace Cx : Cell 30 (tN B32 (n + 2) (10 ^ (i + 1))) p2 _ := Cell.toN Cx (tM_ten1 hc3)
 show ∃ n', n' < _ ∧ _
 refine ⟨_, ?_, i + 1, rfl, hz, hd, HB, S0, S2, S3, S4, Cp1, Cx, (by have := hc3; omega)⟩
 omega
 rw [decide_eq_false hc3] at S8
 refine wp_cond_false S8.ev ?_
 refine wp_exit ?_
 refine wp_seq ?_
 refine region_text (M := [p1]) (
  rT (tN B32 (n + 2) (10 ^ i)) ::
  rE 0 30 (tN B32 (n + 2) (10 ^ i)) p1 ::
  []) hz hd (by kernel_rfl) ?_ ?_
 refine ⟨?_, ?_, trivial⟩
 exact zLd hz (sv S3) Cx ld_n32 (by simp [tagOf, n_p2_p1])
 exact zSE rfl (sv S2) (by simp [tagOf]) (Cp1.var tN_nd) (sd 0 rfl) st_n32
 intro a' γ' W' hz' hd' hC hk hh
 replace Cp1 := gotE (T := tN B32 (n + 2) (10 ^ i)) (id := 30) (p := p1) 1 hh rfl rfl
 have tp2 := Cx.lt
 clear Cx
 clear S0
 replace S2 := kp hk S2
 clear S3
 clear S4
 clear S8
 clear tp2
 replace HB := RelC.aftM HB hC (by intro m hm; simp at hm; rcases hm with rfl <;> assumption)
 clear hC hk hh; replace hz := hz'; replace hd := hd'; clear hz' hd'
 refine wp_ret ?_
 refine ret_to (T := tN B32 (n + 2) (10 ^ i)) (ret1_n32 (by kernel_rfl) S2 hd Cp1 HB) ?_
 exact tM_ten2 hi hc3

set_option maxRecDepth 10000 in
set_option maxHeartbeats 2000000 in
theorem d_power {L : List Nat} {i : Nat} {w : World}  (hB : ∀ d ∈ L, d < 256) (hL : L.length ≤ 1000000000000000) (hi : i ≤ L.length) :
    Calls Tryz.prog 75 #[.string (strB L), .int .i64 ((i : Nat) : Int)] w (Ret (tT [tV (.int .i64 ((powV L i).getD 0)), tV (.bool (powV L i).isSome)]) w) := by
 refine enter Tryz.func75 rfl Tryz.ntmps75 (by simp) ?_
 intro a hz hd ha
 have S0 := ha 0 _ rfl
 have S1 := ha 1 _ rfl
 clear ha
 have HB : Below w.heap.size w w := Below.refl _ _
 refine wp_seq ?_
 refine region_text (M := []) (
  rT (tV (.int .i64 0)) ::
  rT (tV (.bool false)) ::
  []) hz hd (by kernel_rfl) ?_ ?_
 refine ⟨?_, ?_, trivial⟩
 exact zAs hz kc
 exact zAs hz kc
 intro a' γ' W' hz' hd' hC hk hh
 replace S0 := kp hk S0
 replace S1 := kp hk S1
 have S4 := gotV hz' 0 hh rfl rfl rfl rfl
 have S5 := gotV hz' 1 hh rfl rfl rfl rfl
 replace HB := aft_call HB (RelC.below_nil hC)
 clear hC hk hh; replace hz := hz'; replace hd := hd'; clear hz' hd'
 refine wp_seq ?_
 refine wp_seq ?_
 refine region_text (M := []) (
  rT (tV (.int .i64 ((i : Nat) : Int))) ::
  rT (tV (.string (strB L))) ::
  rT (tV (.int .i64 ((L.length : Nat) : Int))) ::
  rT (tV (.bool (decide (i = L.length)))) ::
  []) hz hd (by kernel_rfl) ?_ ?_
 refine ⟨?_, ?_, ?_, ?_, trivial⟩
 exact zMv hz (sv S1)
 exact zMv hz (sv S0)
 exact zB1len hz rfl (sd 1 rfl) (fun w => s_len w)
 exact sBin rfl rfl rfl hz rfl (Gd.none_ rfl) rfl (sd 0 rfl) (sd 2 rfl) (fun w => n_eq w)
 intro a' γ' W' hz' hd' hC hk hh
 replace S0 := kp hk S0
 replace S1 := kp hk S1
 replace S4 := kp hk S4
 replace S5 := kp hk S5
 have S13 := gotV hz' 3 hh rfl rfl rfl rfl
 replace HB := aft_call HB (RelC.below_nil hC)
 clear hC hk hh; replace hz := hz'; replace hd := hd'; clear hz' hd'
 by_cases hc1 : i = L.length
 rw [decide_eq_true hc1] at S13
 refine wp_cond_true S13.ev ?_
 refine wp_seq ?_
 refine region_text (M := []) (
  rT (tV (.int .i64 0)) ::
  rT (tV (.bool true)) ::
  []) hz hd (by kernel_rfl) ?_ ?_
 refine ⟨?_, ?_, trivial⟩
 exact zAs hz kc
 exact zAs hz kc
 intro a' γ' W' hz' hd' hC hk hh
 replace S0 := kp hk S0
 replace S1 := kp hk S1
 clear S4
 clear S5
 clear S13
 have S4 := gotV hz' 0 hh rfl rfl rfl rfl
 have S5 := gotV hz' 1 hh rfl rfl rfl rfl
 replace HB := aft_call HB (RelC.below_nil hC)
 clear hC hk hh; replace hz := hz'; replace hd := hd'; clear hz' hd'
 refine wp_ret ?_
 refine ret_to (T := tT [tV (.int .i64 0), tV (.bool true)]) (rett2 (by kernel_rfl) S4 S5 hd HB) ?_
 exact pow_to (pow_end hc1) rfl rfl
 rw [decide_eq_false hc1] at S13
 refine wp_cond_false S13.ev ?_
 refine wp_skip ?_
 refine wp_seq ?_
 refine wp_seq ?_
 refine region_text (M := []) (
  rT (tV (.string (strB L))) ::
  rT (tV (.int .i64 ((i : Nat) : Int))) ::
  rT (tV (.int .u8 ((L.getD i 0 : Nat) : Int))) ::
  rT (tV (.bool (decide (L.getD i 0 ≠ 101)))) ::
  []) hz hd (by kernel_rfl) ?_ ?_
 refine ⟨?_, ?_, ?_, ?_, trivial⟩
 exact zMv hz (sv S0)
 exact zMv hz (sv S1)
 exact zIx hz rfl (sd 0 rfl) (sd 1 rfl) (fun w => s_ix hB (by omega) w)
 exact sBin rfl rfl rfl hz rfl (Gd.none_ rfl) rfl (sd 2 rfl) kc (fun w => b_101n w)
 intro a' γ' W' hz' hd' hC hk hh
 replace S0 := kp hk S0
 replace S1 := kp hk S1
 replace S4 := kp hk S4
 replace S5 := kp hk S5
 clear S13
 have S17 := gotV hz' 3 hh rfl rfl rfl rfl
 replace HB := aft_call HB (RelC.below_nil hC)
 clear hC hk hh; replace hz := hz'; replace hd := hd'; clear hz' hd'
 by_cases hc2 : L.getD i 0 ≠ 101
 rw [decide_eq_true hc2] at S17
 refine wp_cond_true S17.ev ?_
 refine wp_seq ?_
 refine region_text (M := []) (
  rT (tV (.int .i64 0)) ::
  rT (tV (.bool false)) ::
  []) hz hd (by kernel_rfl) ?_ ?_
 refine ⟨?_, ?_, trivial⟩
 exact zAs hz kc
 exact zAs hz kc
 intro a' γ' W' hz' hd' hC hk hh
 replace S0 := kp hk S0
 replace S1 := kp hk S1
 clear S4
 clear S5
 clear S17
 have S4 := gotV hz' 0 hh rfl rfl rfl rfl
 have S5 := gotV hz' 1 hh rfl rfl rfl rfl
 replace HB := aft_call HB (RelC.below_nil hC)
 clear hC hk hh; replace hz := hz'; replace hd := hd'; clear hz' hd'
 refine wp_ret ?_
 refine ret_to (T := tT [tV (.int .i64 0), tV (.bool false)]) (rett2 (by kernel_rfl) S4 S5 hd HB) ?_
 exact pow_to (pow_no hc1 (pw_e hc2)) rfl rfl
 rw [decide_eq_false hc2] at S17
 refine wp_cond_false S17.ev ?_
 refine wp_skip ?_
 refine wp_seq ?_
 refine region_text (M := []) (
  rT (tV (.int .i64 ((i : Nat) : Int))) ::
  rT (tV (.int .i64 ((i + 1 : Nat) : Int))) ::
  rT (tV (.int .i64 ((i + 1 : Nat) : Int))) ::
  []) hz hd (by kernel_rfl) ?_ ?_
 refine ⟨?_, ?_, ?_, trivial⟩
 exact zMv hz (sv S1)
 exact sBin rfl rfl rfl hz rfl (Gd.none_ rfl) rfl (sd 0 rfl) kc (fun w => n_succ (by omega) w)
 exact zAs hz (sd 1 rfl)
 intro a' γ' W' hz' hd' hC hk hh
 replace S0 := kp hk S0
 clear S1
 replace S4 := kp hk S4
 replace S5 := kp hk S5
 clear S17
 have S1 := gotV hz' 2 hh rfl rfl rfl rfl
 replace HB := aft_call HB (RelC.below_nil hC)
 clear hC hk hh; replace hz := hz'; replace hd := hd'; clear hz' hd'
 refine wp_seq ?_
 refine region_text (M := []) (
  rT (tV (.int .i64 1)) ::
  []) hz hd (by kernel_rfl) ?_ ?_
 refine ⟨?_, trivial⟩
 exact zAs hz kc
 intro a' γ' W' hz' hd' hC hk hh
 replace S0 := kp hk S0
 replace S4 := kp hk S4
 replace S5 := kp hk S5
 replace S1 := kp hk S1
 have S6 := gotV hz' 0 hh rfl rfl rfl rfl
 replace HB := aft_call HB (RelC.below_nil hC)
 clear hC hk hh; replace hz := hz'; replace hd := hd'; clear hz' hd'
 refine wp_join (fun a W => ∃ (j : Nat) (zs : Int), a.tmps.size = 78 ∧ a.defers = [] ∧ Below w.heap.size w W ∧ Sl a 0 (.string (strB L)) ∧ Sl a 1 (.int .i64 ((j : Nat) : Int)) ∧ Sl a 4 (.int .i64 0) ∧ Sl a 5 (.bool false) ∧ Sl a 6 (.int .i64 zs) ∧ j = signJ L (i + 1) ∧ zs = signZ L (i + 1) ∧ j ≤ L.length) ?_ ?_
 refine wp_seq ?_
 by_cases hc3 : i + 1 < L.length
 by_cases hc4 : L.getD (i + 1) 0 = 43
 refine region_text (M := []) (
  rT (tV (.int .i64 ((i + 1 : Nat) : Int))) ::
  rT (tV (.string (strB L))) ::
  rT (tV (.int .i64 ((L.length : Nat) : Int))) ::
  rT (tV (.bool true)) ::
  rT (tV (.bool true)) ::
  rT (tV (.string (strB L))) ::
  rT (tV (.int .i64 ((i + 1 : Nat) : Int))) ::
  rT (tV (.int .u8 ((L.getD (i + 1) 0 : Nat) : Int))) ::
  rT (tV (.bool true)) ::
  rT (tV (.bool true)) ::
  rT (tV undef) ::
  rT (tV undef) ::
  rT (tV undef) ::
  rT (tV undef) ::
  rT (tV (.bool true)) ::
  rT (tV (.bool true)) ::
  []) hz hd (by kernel_rfl) ?_ ?_
 refine ⟨?_, ?_, ?_, ?_, ?_, ?_, ?_, ?_, ?_, ?_, ?_, ?_, ?_, ?_, ?_, ?_, trivial⟩
 exact zMv hz (sv S1)
 exact zMv hz (sv S0)
 exact zB1len hz rfl (sd 1 rfl) (fun w => s_len w)
 exact sBin rfl rfl rfl hz rfl (Gd.none_ rfl) rfl (sd 0 rfl) (sd 2 rfl) (fun w => run_t (P := i + 1 < L.length) ((fun w => n_lt w) w) hc3)
 exact zMv hz (sd 3 rfl)
 exact zMv hz (sv S0) (g := gT 4 rfl)
 exact zMv hz (sv S1) (g := gT 4 rfl)
 exact zIx hz rfl (sd 5 rfl) (sd 6 rfl) (fun w => s_ix hB (by omega) w) (g := gT 4 rfl)
 exact sBin rfl rfl rfl hz rfl (gT 4 rfl) rfl (sd 7 rfl) kc (fun w => run_t (P := L.getD (i + 1) 0 = 43) ((fun w => b_43 w) w) hc4)
 exact zMv hz (sd 8 rfl) (g := gT 4 rfl)
 exact zSkU hz (gN 9 rfl)
 exact zSkU hz (gN 9 rfl)
 exact zSkU hz (gN 9 rfl)
 exact zSkU hz (gN 9 rfl)
 exact zPT hz (sd 9 rfl) kc (g := gT 4 rfl)
 exact zPT hz (sd 4 rfl) (sd 14 rfl)
 intro a' γ' W' hz' hd' hC hk hh
 replace S0 := kp hk S0
 replace S4 := kp hk S4
 replace S5 := kp hk S5
 replace S1 := kp hk S1
 replace S6 := kp hk S6
 have S35 := gotV hz' 15 hh rfl rfl rfl rfl
 replace HB := aft_call HB (RelC.below_nil hC)
 clear hC hk hh; replace hz := hz'; replace hd := hd'; clear hz' hd'
 refine wp_cond_true S35.ev ?_
 refine wp_seq ?_
 refine wp_seq ?_
 refine region_text (M := []) (
  rT (tV (.string (strB L))) ::
  rT (tV (.int .i64 ((i + 1 : Nat) : Int))) ::
  rT (tV (.int .u8 ((L.getD (i + 1) 0 : Nat) : Int))) ::
  rT (tV (.bool (decide (L.getD (i + 1) 0 = 45)))) ::
  []) hz hd (by kernel_rfl) ?_ ?_
 refine ⟨?_, ?_, ?_, ?_, trivial⟩
 exact zMv hz (sv S0)
 exact zMv hz (sv S1)
 exact zIx hz rfl (sd 0 rfl) (sd 1 rfl) (fun w => s_ix hB (by omega) w)
 exact sBin rfl rfl rfl hz rfl (Gd.none_ rfl) rfl (sd 2 rfl) kc (fun w => b_45 w)
 intro a' γ' W' hz' hd' hC hk hh
 replace S0 := kp hk S0
 replace S4 := kp hk S4
 replace S5 := kp hk S5
 replace S1 := kp hk S1
 replace S6 := kp hk S6
 clear S35
 have S39 := gotV hz' 3 hh rfl rfl rfl rfl
 replace HB := aft_call HB (RelC.below_nil hC)
 clear hC hk hh; replace hz := hz'; replace hd := hd'; clear hz' hd'
 by_cases hc5 : L.getD (i + 1) 0 = 45
 rw [decide_eq_true hc5] at S39
 refine wp_cond_true S39.ev ?_
 refine region_text (M := []) (
  rT (tV (.int .i64 (-1))) ::
  []) hz hd (by kernel_rfl) ?_ ?_
 refine ⟨?_, trivial⟩
 exact zAs hz kc
 intro a' γ' W' hz' hd' hC hk hh
 replace S0 := kp hk S0
 replace S4 := kp hk S4
 replace S5 := kp hk S5
 replace S1 := kp hk S1
 clear S6
 clear S39
 have S6 := gotV hz' 0 hh rfl rfl rfl rfl
 replace HB := aft_call HB (RelC.below_nil hC)
 clear hC hk hh; replace hz := hz'; replace hd := hd'; clear hz' hd'
 refine region_text (M := []) (
  rT (tV (.int .i64 ((i + 1 : Nat) : Int))) ::
  rT (tV (.int .i64 ((i + 1 + 1 : Nat) : Int))) ::
  rT (tV (.int .i64 ((i + 1 + 1 : Nat) : Int))) ::
  []) hz hd (by kernel_rfl) ?_ ?_
 refine ⟨?_, ?_, ?_, trivial⟩
 exact zMv hz (sv S1)
 exact sBin rfl rfl rfl hz rfl (Gd.none_ rfl) rfl (sd 0 rfl) kc (fun w => n_succ (by omega) w)
 exact zAs hz (sd 1 rfl)
 intro a' γ' W' hz' hd' hC hk hh
 replace S0 := kp hk S0
 replace S4 := kp hk S4
 replace S5 := kp hk S5
 clear S1
 replace S6 := kp hk S6
 have S1 := gotV hz' 2 hh rfl rfl rfl rfl
 replace HB := aft_call HB (RelC.below_nil hC)
 clear hC hk hh; replace hz := hz'; replace hd := hd'; clear hz' hd'
 refine join_n ?_
 exact ⟨i + 1 + 1, (-1), hz, hd, HB, S0, S1, S4, S5, S6, (sign_m hc3 hc5).1, (sign_m hc3 hc5).2, (by omega)⟩
 rw [decide_eq_false hc5] at S39
 refine wp_cond_false S39.ev ?_
 refine wp_skip ?_
 refine region_text (M := []) (
  rT (tV (.int .i64 ((i + 1 : Nat) : Int))) ::
  rT (tV (.int .i64 ((i + 1 + 1 : Nat) : Int))) ::
  rT (tV (.int .i64 ((i + 1 + 1 : Nat) : Int))) ::
  []) hz hd (by kernel_rfl) ?_ ?_
 refine ⟨?_, ?_, ?_, trivial⟩
 exact zMv hz (sv S1)
 exact sBin rfl rfl rfl hz rfl (Gd.none_ rfl) rfl (sd 0 rfl) kc (fun w => n_succ (by omega) w)
 exact zAs hz (sd 1 rfl)
 intro a' γ' W' hz' hd' hC hk hh
 replace S0 := kp hk S0
 replace S4 := kp hk S4
 replace S5 := kp hk S5
 clear S1
 replace S6 := kp hk S6
 clear S39
 have S1 := gotV hz' 2 hh rfl rfl rfl rfl
 replace HB := aft_call HB (RelC.below_nil hC)
 clear hC hk hh; replace hz := hz'; replace hd := hd'; clear hz' hd'
 refine join_n ?_
 exact ⟨i + 1 + 1, 1, hz, hd, HB, S0, S1, S4, S5, S6, (sign_p hc3 hc4 hc5).1, (sign_p hc3 hc4 hc5).2, (by omega)⟩
 refine region_text (M := []) (
  rT (tV (.int .i64 ((i + 1 : Nat) : Int))) ::
  rT (tV (.string (strB L))) ::
  rT (tV (.int .i64 ((L.length : Nat) : Int))) ::
  rT (tV (.bool true)) ::
  rT (tV (.bool true)) ::
  rT (tV (.string (strB L))) ::
  rT (tV (.int .i64 ((i + 1 : Nat) : Int))) ::
  rT (tV (.int .u8 ((L.getD (i + 1) 0 : Nat) : Int))) ::
  rT (tV (.bool false)) ::
  rT (tV (.bool false)) ::
  rT (tV (.string (strB L))) ::
  rT (tV (.int .i64 ((i + 1 : Nat) : Int))) ::
  rT (tV (.int .u8 ((L.getD (i + 1) 0 : Nat) : Int))) ::
  rT (tV (.bool (decide (L.getD (i + 1) 0 = 45)))) ::
  rT (tV (.bool (decide (L.getD (i + 1) 0 = 45)))) ::
  rT (tV (.bool (decide (L.getD (i + 1) 0 = 45)))) ::
  []) hz hd (by kernel_rfl) ?_ ?_
 refine ⟨?_, ?_, ?_, ?_, ?_, ?_, ?_, ?_, ?_, ?_, ?_, ?_, ?_, ?_, ?_, ?_, trivial⟩
 exact zMv hz (sv S1)
 exact zMv hz (sv S0)
 exact zB1len hz rfl (sd 1 rfl) (fun w => s_len w)
 exact sBin rfl rfl rfl hz rfl (Gd.none_ rfl) rfl (sd 0 rfl) (sd 2 rfl) (fun w => run_t (P := i + 1 < L.length) ((fun w => n_lt w) w) hc3)
 exact zMv hz (sd 3 rfl)
 exact zMv hz (sv S0) (g := gT 4 rfl)
 exact zMv hz (sv S1) (g := gT 4 rfl)
 exact zIx hz rfl (sd 5 rfl) (sd 6 rfl) (fun w => s_ix hB (by omega) w) (g := gT 4 rfl)
 exact sBin rfl rfl rfl hz rfl (gT 4 rfl) rfl (sd 7 rfl) kc (fun w => run_f (P := L.getD (i + 1) 0 = 43) ((fun w => b_43 w) w) hc4)
 exact zMv hz (sd 8 rfl) (g := gT 4 rfl)
 exact zMv hz (sv S0) (g := gT 9 rfl)
 exact zMv hz (sv S1) (g := gT 9 rfl)
 exact zIx hz rfl (sd 10 rfl) (sd 11 rfl) (fun w => s_ix hB (by omega) w) (g := gT 9 rfl)
 exact sBin rfl rfl rfl hz rfl (gT 9 rfl) rfl (sd 12 rfl) kc (fun w => b_45 w)
 exact zPF hz (sd 9 rfl) (sd 13 rfl) (g := gT 4 rfl)
 exact zPT hz (sd 4 rfl) (sd 14 rfl)
 intro a' γ' W' hz' hd' hC hk hh
 replace S0 := kp hk S0
 replace S4 := kp hk S4
 replace S5 := kp hk S5
 replace S1 := kp hk S1
 replace S6 := kp hk S6
 have S35 := gotV hz' 15 hh rfl rfl rfl rfl
 replace HB := aft_call HB (RelC.below_nil hC)
 clear hC hk hh; replace hz := hz'; replace hd := hd'; clear hz' hd'
 by_cases hc6 : L.getD (i + 1) 0 = 45
 rw [decide_eq_true hc6] at S35
 refine wp_cond_true S35.ev ?_
 refine wp_seq ?_
 refine wp_seq ?_
 refine region_text (M := []) (
  rT (tV (.string (strB L))) ::
  rT (tV (.int .i64 ((i + 1 : Nat) : Int))) ::
  rT (tV (.int .u8 ((L.getD (i + 1) 0 : Nat) : Int))) ::
  rT (tV (.bool true)) ::
  []) hz hd (by kernel_rfl) ?_ ?_
 refine ⟨?_, ?_, ?_, ?_, trivial⟩
 exact zMv hz (sv S0)
 exact zMv hz (sv S1)
 exact zIx hz rfl (sd 0 rfl) (sd 1 rfl) (fun w => s_ix hB (by omega) w)
 exact sBin rfl rfl rfl hz rfl (Gd.none_ rfl) rfl (sd 2 rfl) kc (fun w => run_t (P := L.getD (i + 1) 0 = 45) ((fun w => b_45 w) w) hc6)
 intro a' γ' W' hz' hd' hC hk hh
 replace S0 := kp hk S0
 replace S4 := kp hk S4
 replace S5 := kp hk S5
 replace S1 := kp hk S1
 replace S6 := kp hk S6
 clear S35
 have S39 := gotV hz' 3 hh rfl rfl rfl rfl
 replace HB := aft_call HB (RelC.below_nil hC)
 clear hC hk hh; replace hz := hz'; replace hd := hd'; clear hz' hd'
 refine wp_cond_true S39.ev ?_
 refine region_text (M := []) (
  rT (tV (.int .i64 (-1))) ::
  []) hz hd (by kernel_rfl) ?_ ?_
 refine ⟨?_, trivial⟩
 exact zAs hz kc
 intro a' γ' W' hz' hd' hC hk hh
 replace S0 := kp hk S0
 replace S4 := kp hk S4
 replace S5 := kp hk S5
 replace S1 := kp hk S1
 clear S6
 clear S39
 have S6 := gotV hz' 0 hh rfl rfl rfl rfl
 replace HB := aft_call HB (RelC.below_nil hC)
 clear hC hk hh; replace hz := hz'; replace hd := hd'; clear hz' hd'
 refine region_text (M := []) (
  rT (tV (.int .i64 ((i + 1 : Nat) : Int))) ::
  rT (tV (.int .i64 ((i + 1 + 1 : Nat) : Int))) ::
  rT (tV (.int .i64 ((i + 1 + 1 : Nat) : Int))) ::
  []) hz hd (by kernel_rfl) ?_ ?_
 refine ⟨?_, ?_, ?_, trivial⟩
 exact zMv hz (sv S1)
 exact sBin rfl rfl rfl hz rfl (Gd.none_ rfl) rfl (sd 0 rfl) kc (fun w => n_succ (by omega) w)
 exact zAs hz (sd 1 rfl)
 intro a' γ' W' hz' hd' hC hk hh
 replace S0 := kp hk S0
 replace S4 := kp hk S4
 replace S5 := kp hk S5
 clear S1
 replace S6 := kp hk S6
 have S1 := gotV hz' 2 hh rfl rfl rfl rfl
 replace HB := aft_call HB (RelC.below_nil hC)
 clear hC hk hh; replace hz := hz'; replace hd := hd'; clear hz' hd'
 refine join_n ?_
 exact ⟨i + 1 + 1, (-1), hz, hd, HB, S0, S1, S4, S5, S6, (sign_m hc3 hc6).1, (sign_m hc3 hc6).2, (by omega)⟩
 rw [decide_eq_false hc6] at S35
 refine wp_cond_false S35.ev ?_
 refine wp_skip ?_
 refine join_n ?_
 exact ⟨i + 1, 1, hz, hd, HB, S0, S1, S4, S5, S6, (sign_no hc3 hc4 hc6).1, (sign_no hc3 hc4 hc6).2, (by omega)⟩
 refine region_text (M := []) (
  rT (tV (.int .i64 ((i + 1 : Nat) : Int))) ::
  rT (tV (.string (strB L))) ::
  rT (tV (.int .i64 ((L.length : Nat) : Int))) ::
  rT (tV (.bool false)) ::
  rT (tV (.bool false)) ::
  rT (tV undef) ::
  rT (tV undef) ::
  rT (tV undef) ::
  rT (tV undef) ::
  rT (tV undef) ::
  rT (tV undef) ::
  rT (tV undef) ::
  rT (tV undef) ::
  rT (tV undef) ::
  rT (tV undef) ::
  rT (tV (.bool false)) ::
  []) hz hd (by kernel_rfl) ?_ ?_
 refine ⟨?_, ?_, ?_, ?_, ?_, ?_, ?_, ?_, ?_, ?_, ?_, ?_, ?_, ?_, ?_, ?_, trivial⟩
 exact zMv hz (sv S1)
 exact zMv hz (sv S0)
 exact zB1len hz rfl (sd 1 rfl) (fun w => s_len w)
 exact sBin rfl rfl rfl hz rfl (Gd.none_ rfl) rfl (sd 0 rfl) (sd 2 rfl) (fun w => run_f (P := i + 1 < L.length) ((fun w => n_lt w) w) hc3)
 exact zMv hz (sd 3 rfl)
 exact zSkU hz (gN 4 rfl)
 exact zSkU hz (gN 4 rfl)
 exact zSkU hz (gN 4 rfl)
 exact zSkU hz (gN 4 rfl)
 exact zSkU hz (gN 4 rfl)
 exact zSkU hz (gU 9 rfl)
 exact zSkU hz (gU 9 rfl)
 exact zSkU hz (gU 9 rfl)
 exact zSkU hz (gU 9 rfl)
 exact zSkU hz (gN 4 rfl)
 exact zPF hz (sd 4 rfl) kc
 intro a' γ' W' hz' hd' hC hk hh
 replace S0 := kp hk S0
 replace S4 := kp hk S4
 replace S5 := kp hk S5
 replace S1 := kp hk S1
 replace S6 := kp hk S6
 have S35 := gotV hz' 15 hh rfl rfl rfl rfl
 replace HB := aft_call HB (RelC.below_nil hC)
 clear hC hk hh; replace hz := hz'; replace hd := hd'; clear hz' hd'
 refine wp_cond_false S35.ev ?_
 refine wp_skip ?_
 refine join_n ?_
 exact ⟨i + 1, 1, hz, hd, HB, S0, S1, S4, S5, S6, (sign_0 hc3).1, (sign_0 hc3).2, (by omega)⟩
 clear S0 S4 S5 S1 S6 hz hd HB
 rintro a W ⟨j, zs, hz, hd, HB, S0, S1, S4, S5, S6, hj, hzs, hjl⟩
 have hz2 : zs = 1 ∨ zs = -1 := hzs ▸ signZ_abs
 have hrj := run_le (L := L) j hjl
 refine wp_seq ?_
 refine region_text (M := []) (
  rT (tV (.string (strB L))) ::
  rT (tV (.int .i64 ((j : Nat) : Int))) ::
  rT (tV (.int .i64 ((j + (runL L j) : Nat) : Int))) ::
  rT (tV (.int .i64 ((j + (runL L j) : Nat) : Int))) ::
  []) hz hd (by kernel_rfl) ?_ ?_
 refine ⟨?_, ?_, ?_, ?_, trivial⟩
 exact zMv hz (sv S0)
 exact zMv hz (sv S1)
 exact zC2 hz Tryz.func73 (sd 0 rfl) (sd 1 rfl) (k11 (fun _ => d_run hB hL (by omega)))
 exact zAs hz (sd 2 rfl)
 intro a' γ' W' hz' hd' hC hk hh
 replace S0 := kp hk S0
 replace S4 := kp hk S4
 replace S5 := kp hk S5
 replace S1 := kp hk S1
 replace S6 := kp hk S6
 have S7 := gotV hz' 3 hh rfl rfl rfl rfl
 replace HB := aft_call HB (RelC.below_nil hC)
 clear hC hk hh; replace hz := hz'; replace hd := hd'; clear hz' hd'
 refine wp_seq ?_
 refine wp_seq ?_
 by_cases hc7 : j + (runL L j) ≠ L.length
 refine region_text (M := []) (
  rT (tV (.int .i64 ((j + (runL L j) : Nat) : Int))) ::
  rT (tV (.string (strB L))) ::
  rT (tV (.int .i64 ((L.length : Nat) : Int))) ::
  rT (tV (.bool true)) ::
  rT (tV (.bool true)) ::
  rT (tV undef) ::
  rT (tV undef) ::
  rT (tV undef) ::
  rT (tV undef) ::
  rT (tV (.bool true)) ::
  rT (tV (.bool true)) ::
  rT (tV undef) ::
  rT (tV undef) ::
  rT (tV undef) ::
  rT (tV undef) ::
  rT (tV (.bool true)) ::
  []) hz hd (by kernel_rfl) ?_ ?_
 refine ⟨?_, ?_, ?_, ?_, ?_, ?_, ?_, ?_, ?_, ?_, ?_, ?_, ?_, ?_, ?_, ?_, trivial⟩
 exact zMv hz (sv S7)
 exact zMv hz (sv S0)
 exact zB1len hz rfl (sd 1 rfl) (fun w => s_len w)
 exact sBin rfl rfl rfl hz rfl (Gd.none_ rfl) rfl (sd 0 rfl) (sd 2 rfl) (fun w => run_t (P := j + (runL L j) ≠ L.length) ((fun w => n_ne w) w) hc7)
 exact zMv hz (sd 3 rfl)
 exact zSkU hz (gN 4 rfl)
 exact zSkU hz (gN 4 rfl)
 exact zSkU hz (gN 4 rfl)
 exact zSkU hz (gN 4 rfl)
 exact zPT hz (sd 4 rfl) kc
 exact zMv hz (sd 9 rfl)
 exact zSkU hz (gN 10 rfl)
 exact zSkU hz (gN 10 rfl)
 exact zSkU hz (gN 10 rfl)
 exact zSkU hz (gN 10 rfl)
 exact zPT hz (sd 10 rfl) kc
 intro a' γ' W' hz' hd' hC hk hh
 replace S0 := kp hk S0
 replace S4 := kp hk S4
 replace S5 := kp hk S5
 replace S1 := kp hk S1
 replace S6 := kp hk S6
 replace S7 := kp hk S7
 have S60 := gotV hz' 15 hh rfl rfl rfl rfl
 replace HB := aft_call HB (RelC.below_nil hC)
 clear hC hk hh; replace hz := hz'; replace hd := hd'; clear hz' hd'
 refine wp_cond_true S60.ev ?_
 refine wp_seq ?_
 refine region_text (M := []) (
  rT (tV (.int .i64 0)) ::
  rT (tV (.bool false)) ::
  []) hz hd (by kernel_rfl) ?_ ?_
 refine ⟨?_, ?_, trivial⟩
 exact zAs hz kc
 exact zAs hz kc
 intro a' γ' W' hz' hd' hC hk hh
 replace S0 := kp hk S0
 clear S4
 clear S5
 replace S1 := kp hk S1
 replace S6 := kp hk S6
 replace S7 := kp hk S7
 clear S60
 have S4 := gotV hz' 0 hh rfl rfl rfl rfl
 have S5 := gotV hz' 1 hh rfl rfl rfl rfl
 replace HB := aft_call HB (RelC.below_nil hC)
 clear hC hk hh; replace hz := hz'; replace hd := hd'; clear hz' hd'
 refine wp_ret ?_
 refine ret_to (T := tT [tV (.int .i64 0), tV (.bool false)]) (rett2 (by kernel_rfl) S4 S5 hd HB) ?_
 exact pow_to (pow_no hc1 (pw_en2 hj hrj hc7)) rfl rfl
 by_cases hc8 : runL L j < 1
 refine region_text (M := []) (
  rT (tV (.int .i64 ((j + (runL L j) : Nat) : Int))) ::
  rT (tV (.string (strB L))) ::
  rT (tV (.int .i64 ((L.length : Nat) : Int))) ::
  rT (tV (.bool false)) ::
  rT (tV (.bool false)) ::
  rT (tV (.int .i64 ((j + (runL L j) : Nat) : Int))) ::
  rT (tV (.int .i64 ((j : Nat) : Int))) ::
  rT (tV (.int .i64 ((runL L j : Nat) : Int))) ::
  rT (tV (.bool true)) ::
  rT (tV (.bool true)) ::
  rT (tV (.bool true)) ::
  rT (tV undef) ::
  rT (tV undef) ::
  rT (tV undef) ::
  rT (tV undef) ::
  rT (tV (.bool true)) ::
  []) hz hd (by kernel_rfl) ?_ ?_
 refine ⟨?_, ?_, ?_, ?_, ?_, ?_, ?_, ?_, ?_, ?_, ?_, ?_, ?_, ?_, ?_, ?_, trivial⟩
 exact zMv hz (sv S7)
 exact zMv hz (sv S0)
 exact zB1len hz rfl (sd 1 rfl) (fun w => s_len w)
 exact sBin rfl rfl rfl hz rfl (Gd.none_ rfl) rfl (sd 0 rfl) (sd 2 rfl) (fun w => run_f (P := j + (runL L j) ≠ L.length) ((fun w => n_ne w) w) hc7)
 exact zMv hz (sd 3 rfl)
 exact zMv hz (sv S7) (g := gT 4 rfl)
 exact zMv hz (sv S1) (g := gT 4 rfl)
 exact sBin rfl rfl rfl hz rfl (gT 4 rfl) rfl (sd 5 rfl) (sd 6 rfl) (fun w => n_subj (by omega) w)
 exact sBin rfl rfl rfl hz rfl (gT 4 rfl) rfl (sd 7 rfl) kc (fun w => run_t (P := runL L j < 1) ((fun w => n_lt1 w) w) hc8)
 exact zPF hz (sd 4 rfl) (sd 8 rfl)
 exact zMv hz (sd 9 rfl)
 exact zSkU hz (gN 10 rfl)
 exact zSkU hz (gN 10 rfl)
 exact zSkU hz (gN 10 rfl)
 exact zSkU hz (gN 10 rfl)
 exact zPT hz (sd 10 rfl) kc
 intro a' γ' W' hz' hd' hC hk hh
 replace S0 := kp hk S0
 replace S4 := kp hk S4
 replace S5 := kp hk S5
 replace S1 := kp hk S1
 replace S6 := kp hk S6
 replace S7 := kp hk S7
 have S60 := gotV hz' 15 hh rfl rfl rfl rfl
 replace HB := aft_call HB (RelC.below_nil hC)
 clear hC hk hh; replace hz := hz'; replace hd := hd'; clear hz' hd'
 refine wp_cond_true S60.ev ?_
 refine wp_seq ?_
 refine region_text (M := []) (
  rT (tV (.int .i64 0)) ::
  rT (tV (.bool false)) ::
  []) hz hd (by kernel_rfl) ?_ ?_
 refine ⟨?_, ?_, trivial⟩
 exact zAs hz kc
 exact zAs hz kc
 intro a' γ' W' hz' hd' hC hk hh
 replace S0 := kp hk S0
 clear S4
 clear S5
 replace S1 := kp hk S1
 replace S6 := kp hk S6
 replace S7 := kp hk S7
 clear S60
 have S4 := gotV hz' 0 hh rfl rfl rfl rfl
 have S5 := gotV hz' 1 hh rfl rfl rfl rfl
 replace HB := aft_call HB (RelC.below_nil hC)
 clear hC hk hh; replace hz := hz'; replace hd := hd'; clear hz' hd'
 refine wp_ret ?_
 refine ret_to (T := tT [tV (.int .i64 0), tV (.bool false)]) (rett2 (by kernel_rfl) S4 S5 hd HB) ?_
 exact pow_to (pow_no hc1 (pw_lo hj hc8)) rfl rfl
 refine region_text (M := []) (
  rT (tV (.int .i64 ((j + (runL L j) : Nat) : Int))) ::
  rT (tV (.string (strB L))) ::
  rT (tV (.int .i64 ((L.length : Nat) : Int))) ::
  rT (tV (.bool false)) ::
  rT (tV (.bool false)) ::
  rT (tV (.int .i64 ((j + (runL L j) : Nat) : Int))) ::
  rT (tV (.int .i64 ((j : Nat) : Int))) ::
  rT (tV (.int .i64 ((runL L j : Nat) : Int))) ::
  rT (tV (.bool false)) ::
  rT (tV (.bool false)) ::
  rT (tV (.bool false)) ::
  rT (tV (.int .i64 ((j + (runL L j) : Nat) : Int))) ::
  rT (tV (.int .i64 ((j : Nat) : Int))) ::
  rT (tV (.int .i64 ((runL L j : Nat) : Int))) ::
  rT (tV (.bool (decide (3 < runL L j)))) ::
  rT (tV (.bool (decide (3 < runL L j)))) ::
  []) hz hd (by kernel_rfl) ?_ ?_
 refine ⟨?_, ?_, ?_, ?_, ?_, ?_, ?_, ?_, ?_, ?_, ?_, ?_, ?_, ?_, ?_, ?_, trivial⟩
 exact zMv hz (sv S7)
 exact zMv hz (sv S0)
 exact zB1len hz rfl (sd 1 rfl) (fun w => s_len w)
 exact sBin rfl rfl rfl hz rfl (Gd.none_ rfl) rfl (sd 0 rfl) (sd 2 rfl) (fun w => run_f (P := j + (runL L j) ≠ L.length) ((fun w => n_ne w) w) hc7)
 exact zMv hz (sd 3 rfl)
 exact zMv hz (sv S7) (g := gT 4 rfl)
 exact zMv hz (sv S1) (g := gT 4 rfl)
 exact sBin rfl rfl rfl hz rfl (gT 4 rfl) rfl (sd 5 rfl) (sd 6 rfl) (fun w => n_subj (by omega) w)
 exact sBin rfl rfl rfl hz rfl (gT 4 rfl) rfl (sd 7 rfl) kc (fun w => run_f (P := runL L j < 1) ((fun w => n_lt1 w) w) hc8)
 exact zPF hz (sd 4 rfl) (sd 8 rfl)
 exact zMv hz (sd 9 rfl)
 exact zMv hz (sv S7) (g := gT 10 rfl)
 exact zMv hz (sv S1) (g := gT 10 rfl)
 exact sBin rfl rfl rfl hz rfl (gT 10 rfl) rfl (sd 11 rfl) (sd 12 rfl) (fun w => n_subj (by omega) w)
 exact sBin rfl rfl rfl hz rfl (gT 10 rfl) rfl (sd 13 rfl) kc (fun w => n_gt3 w)
 exact zPF hz (sd 10 rfl) (sd 14 rfl)
 intro a' γ' W' hz' hd' hC hk hh
 replace S0 := kp hk S0
 replace S4 := kp hk S4
 replace S5 := kp hk S5
 replace S1 := kp hk S1
 replace S6 := kp hk S6
 replace S7 := kp hk S7
 have S60 := gotV hz' 15 hh rfl rfl rfl rfl
 replace HB := aft_call HB (RelC.below_nil hC)
 clear hC hk hh; replace hz := hz'; replace hd := hd'; clear hz' hd'
 by_cases hc9 : 3 < runL L j
 rw [decide_eq_true hc9] at S60
 refine wp_cond_true S60.ev ?_
 refine wp_seq ?_
 refine region_text (M := []) (
  rT (tV (.int .i64 0)) ::
  rT (tV (.bool false)) ::
  []) hz hd (by kernel_rfl) ?_ ?_
 refine ⟨?_, ?_, trivial⟩
 exact zAs hz kc
 exact zAs hz kc
 intro a' γ' W' hz' hd' hC hk hh
 replace S0 := kp hk S0
 clear S4
 clear S5
 replace S1 := kp hk S1
 replace S6 := kp hk S6
 replace S7 := kp hk S7
 clear S60
 have S4 := gotV hz' 0 hh rfl rfl rfl rfl
 have S5 := gotV hz' 1 hh rfl rfl rfl rfl
 replace HB := aft_call HB (RelC.below_nil hC)
 clear hC hk hh; replace hz := hz'; replace hd := hd'; clear hz' hd'
 refine wp_ret ?_
 refine ret_to (T := tT [tV (.int .i64 0), tV (.bool false)]) (rett2 (by kernel_rfl) S4 S5 hd HB) ?_
 exact pow_to (pow_no hc1 (pw_hi hj hc9)) rfl rfl
 rw [decide_eq_false hc9] at S60
 refine wp_cond_false S60.ev ?_
 refine wp_skip ?_
 refine wp_seq ?_
 obtain ⟨hXl, hX⟩ := tail_dig (L := L) (j := j) (by omega) hjl
 obtain ⟨X, eX⟩ : ∃ X, L.drop j = X := ⟨_, rfl⟩
 rw [eX] at hX hXl
 have hX3 : X.length ≤ 3 := by omega
 refine region_text (M := []) (
  rT (tV (.int .i64 0)) ::
  []) hz hd (by kernel_rfl) ?_ ?_
 refine ⟨?_, trivial⟩
 exact zAs hz kc
 intro a' γ' W' hz' hd' hC hk hh
 replace S0 := kp hk S0
 replace S4 := kp hk S4
 replace S5 := kp hk S5
 replace S1 := kp hk S1
 replace S6 := kp hk S6
 replace S7 := kp hk S7
 clear S60
 have S8 := gotV hz' 0 hh rfl rfl rfl rfl
 replace HB := aft_call HB (RelC.below_nil hC)
 clear hC hk hh; replace hz := hz'; replace hd := hd'; clear hz' hd'
 refine wp_seq ?_
 refine wp_seq ?_
 refine region_text (M := []) (
  rT (tV (.int .i64 ((j : Nat) : Int))) ::
  rT (tV (.int .i64 ((j : Nat) : Int))) ::
  []) hz hd (by kernel_rfl) ?_ ?_
 refine ⟨?_, ?_, trivial⟩
 exact zMv hz (sv S1)
 exact zAs hz (sd 0 rfl)
 intro a' γ' W' hz' hd' hC hk hh
 replace S0 := kp hk S0
 replace S4 := kp hk S4
 replace S5 := kp hk S5
 clear S1
 replace S6 := kp hk S6
 replace S7 := kp hk S7
 replace S8 := kp hk S8
 have S9 := gotV hz' 1 hh rfl rfl rfl rfl
 replace HB := aft_call HB (RelC.below_nil hC)
 clear hC hk hh; replace hz := hz'; replace hd := hd'; clear hz' hd'
 refine wp_block ?_
 refine wp_loop_ghost (fun k a W => ∃ (c : Nat), k = X.length - c ∧ a.tmps.size = 78 ∧ a.defers = [] ∧ Below w.heap.size w W ∧ Sl a 0 (.string (strB L)) ∧ Sl a 4 (.int .i64 0) ∧ Sl a 5 (.bool false) ∧ Sl a 6 (.int .i64 zs) ∧ Sl a 7 (.int .i64 ((j + (runL L j) : Nat) : Int)) ∧ Sl a 8 (.int .i64 ((readD (X.take c) : Nat) : Int)) ∧ Sl a 9 (.int .i64 ((j + c : Nat) : Int)) ∧ c ≤ X.length) _ ⟨0, rfl, hz, hd, HB, S0, S4, S5, S6, S7, S8, S9, (Nat.zero_le _)⟩ ?_
 clear S0 S4 S5 S6 S7 S8 S9 hz hd HB
 rintro k a W ⟨c, rfl, hz, hd, HB, S0, S4, S5, S6, S7, S8, S9, hc⟩
 refine wp_seq ?_
 refine wp_seq ?_
 refine region_text (M := []) (
  rT (tV (.int .i64 ((j + c : Nat) : Int))) ::
  rT (tV (.int .i64 ((j + (runL L j) : Nat) : Int))) ::
  rT (tV (.bool (decide (j + c < j + (runL L j))))) ::
  []) hz hd (by kernel_rfl) ?_ ?_
 refine ⟨?_, ?_, ?_, trivial⟩
 exact zMv hz (sv S9)
 exact zMv hz (sv S7)
 exact sBin rfl rfl rfl hz rfl (Gd.none_ rfl) rfl (sd 0 rfl) (sd 1 rfl) (fun w => n_lt w)
 intro a' γ' W' hz' hd' hC hk hh
 replace S0 := kp hk S0
 replace S4 := kp hk S4
 replace S5 := kp hk S5
 replace S6 := kp hk S6
 replace S7 := kp hk S7
 replace S8 := kp hk S8
 replace S9 := kp hk S9
 have S64 := gotV hz' 2 hh rfl rfl rfl rfl
 replace HB := aft_call HB (RelC.below_nil hC)
 clear hC hk hh; replace hz := hz'; replace hd := hd'; clear hz' hd'
 by_cases hc10 : j + c < j + (runL L j)
 rw [decide_eq_true hc10] at S64
 refine wp_cond_true S64.ev ?_
 refine wp_skip ?_
 refine wp_seq ?_
 refine wp_block ?_
 have hcl : c < X.length := by omega
 have hcl2 := getD_dig hX hcl
 have hr3 := readD_le (mem_take_le hX c) (by rw [List.length_take]; omega)
 refine region_text (M := []) (
  rT (tV (.int .i64 ((readD (X.take c) : Nat) : Int))) ::
  rT (tV (.int .i64 ((10 * (readD (X.take c)) : Nat) : Int))) ::
  rT (tV (.string (strB L))) ::
  rT (tV (.int .i64 ((j + c : Nat) : Int))) ::
  rT (tV (.int .u8 ((X.getD c 0 : Nat) : Int))) ::
  rT (tV (.int .u8 ((X.getD c 0 - 48 : Nat) : Int))) ::
  rT (tV (.int .i64 ((X.getD c 0 - 48 : Nat) : Int))) ::
  rT (tV (.int .i64 ((10 * (readD (X.take c)) + (X.getD c 0 - 48) : Nat) : Int))) ::
  rT (tV (.int .i64 ((10 * (readD (X.take c)) + (X.getD c 0 - 48) : Nat) : Int))) ::
  []) hz hd (by kernel_rfl) ?_ ?_
 refine ⟨?_, ?_, ?_, ?_, ?_, ?_, ?_, ?_, ?_, trivial⟩
 exact zMv hz (sv S8)
 exact sBin rfl rfl rfl hz rfl (Gd.none_ rfl) rfl kc (sd 0 rfl) (fun w => n_mul10 (by omega) w)
 exact zMv hz (sv S0)
 exact zMv hz (sv S9)
 exact zIx hz rfl (sd 2 rfl) (sd 3 rfl) (fun w => by have hq := s_ix (L := L) (j := j + c) hB (by omega) w; rw [← drop_getD, eX] at hq; exact hq)
 exact sBin rfl rfl rfl hz rfl (Gd.none_ rfl) rfl (sd 4 rfl) kc (fun w => b_sub48 (getD_dig hX hcl) w)
 exact sConv (T' := tV (.int .u8 ((X.getD c 0 - 48 : Nat) : Int))) rfl rfl rfl hz rfl (Gd.none_ rfl) rfl (sd 5 rfl) (fun v_ w_ h_ => by have h_ : v_ = .int .u8 ((X.getD c 0 - 48 : Nat) : Int) := h_; subst h_; exact ⟨_, by exact cv_u8 (by have := getD_dig hX hcl; omega) _, rfl⟩)
 exact sBin rfl rfl rfl hz rfl (Gd.none_ rfl) rfl (sd 1 rfl) (sd 6 rfl) (fun w => n_add (by omega) (by omega) w)
 exact zAs hz (sd 7 rfl)
 intro a' γ' W' hz' hd' hC hk hh
 replace S0 := kp hk S0
 replace S4 := kp hk S4
 replace S5 := kp hk S5
 replace S6 := kp hk S6
 replace S7 := kp hk S7
 clear S8
 replace S9 := kp hk S9
 replace S64 := kp hk S64
 have S8 := gotV hz' 8 hh rfl rfl rfl rfl
 replace HB := aft_call HB (RelC.below_nil hC)
 clear hC hk hh; replace hz := hz'; replace hd := hd'; clear hz' hd'
 refine region_text (M := []) (
  rT (tV (.int .i64 ((j + c : Nat) : Int))) ::
  rT (tV (.int .i64 ((j + c + 1 : Nat) : Int))) ::
  rT (tV (.int .i64 ((j + c + 1 : Nat) : Int))) ::
  []) hz hd (by kernel_rfl) ?_ ?_
 refine ⟨?_, ?_, ?_, trivial⟩
 exact zMv hz (sv S9)
 exact sBin rfl rfl rfl hz rfl (Gd.none_ rfl) rfl (sd 0 rfl) kc (fun w => n_succ (by omega) w)
 exact zAs hz (sd 1 rfl)
 intro a' γ' W' hz' hd' hC hk hh
 replace S0 := kp hk S0
 replace S4 := kp hk S4
 replace S5 := kp hk S5
 replace S6 := kp hk S6
 replace S7 := kp hk S7
 clear S9
 replace S64 := kp hk S64
 replace S8 := kp hk S8
 have S9 := gotV hz' 2 hh rfl rfl rfl rfl
 replace HB := aft_call HB (RelC.below_nil hC)
 clear hC hk hh; replace hz := hz'; replace hd := hd'; clear hz' hd'
 rw [← readD_take hcl] at S8
 show ∃ n', n' < _ ∧ _
 refine ⟨_, ?_, c + 1, rfl, hz, hd, HB, S0, S4, S5, S6, S7, S8, S9, hcl⟩
 omega
 rw [decide_eq_false hc10] at S64
 refine wp_cond_false S64.ev ?_
 refine wp_exit ?_
 refine wp_seq ?_
 have hcX : c = X.length := by omega
 have eup : readD (X.take c) = readD X := by rw [hcX, List.take_length]
 have hup := readD_le hX hX3
 rw [eup] at S8
 refine region_text (M := []) (
  rT (tV (.int .i64 zs)) ::
  rT (tV (.int .i64 ((readD X : Nat) : Int))) ::
  rT (tV (.int .i64 (((readD X : Nat) : Int) * zs))) ::
  rT (tV (.int .i64 (((readD X : Nat) : Int) * zs))) ::
  rT (tV (.bool true)) ::
  []) hz hd (by kernel_rfl) ?_ ?_
 refine ⟨?_, ?_, ?_, ?_, ?_, trivial⟩
 exact zMv hz (sv S6)
 exact zMv hz (sv S8)
 exact sBin rfl rfl rfl hz rfl (Gd.none_ rfl) rfl (sd 0 rfl) (sd 1 rfl) (fun w => f_sign2 hup hz2 w)
 exact zAs hz (sd 2 rfl)
 exact zAs hz kc
 intro a' γ' W' hz' hd' hC hk hh
 clear S0
 clear S4
 clear S5
 clear S6
 clear S7
 clear S8
 clear S9
 clear S64
 have S4 := gotV hz' 3 hh rfl rfl rfl rfl
 have S5 := gotV hz' 4 hh rfl rfl rfl rfl
 replace HB := aft_call HB (RelC.below_nil hC)
 clear hC hk hh; replace hz := hz'; replace hd := hd'; clear hz' hd'
 refine wp_ret ?_
 refine ret_to (T := tT [tV (.int .i64 (((readD X : Nat) : Int) * zs)), tV (.bool true)]) (rett2 (by kernel_rfl) S4 S5 hd HB) ?_
 exact pow_to (pow_yes hc1 (pw_ok2 hc2 hj hc8 hc9 hc7)) (by unfold expV; rw [← hj, eX, hzs]; rfl) rfl

end Go.Proofs.YtfgnleoaibcegaaGreat.Rg

namespace Go.Proofs.YtfgnleoaibcegaaGreat.Rg

open Go.RowKit

theorem takeWhile_all : ∀ {M : List Nat}, M.all isDig = true → M.takeWhile dg = M
  | [], _ => rfl
  | d :: M, h => by
    rw [List.all_cons, Bool.and_eq_true] at h
    have e : dg d = true := h.1
    rw [List.takeWhile_cons, e]
    simp only [if_true]
    rw [takeWhile_all h.2]
theorem parse_run {L : List Nat} {j : Nat} (h : parseV (L.drop j) ≠ 0) : 0 < runL L j ∧ runL L j = (L.drop j).length := by
  have hk : parseOk (L.drop j) = true := by
    cases hc : parseOk (L.drop j) with
    | true => rfl
    | false => exact absurd (by unfold parseV; rw [hc]; rfl) h
  unfold parseOk at hk
  rw [Bool.and_eq_true, Bool.and_eq_true, decide_eq_true_eq, decide_eq_true_eq] at hk
  have e : runL L j = (L.drop j).length := by unfold runL; rw [takeWhile_all hk.2]
  exact ⟨by omega, e⟩
theorem parse_no {M : List Nat} (h : ¬ parseOk M = true) : parseV M = 0 := by unfold parseV; rw [if_neg h]
theorem mkRat_eq {a c : Int} {b d : Nat} (hb : b ≠ 0) (hd : d ≠ 0) (h : a * (d : Int) = c * (b : Int)) : mkRat a b = mkRat c d := (Rat.mkRat_eq_iff hb hd).2 h
theorem ten_ne (n : Nat) : (10 ^ n : Nat) ≠ 0 := Nat.ne_of_gt (Nat.pow_pos (by decide))
theorem sc_pos {p pl : Nat} {n : Int} (h : 0 < n) : mkRat ((p * 10 ^ n.toNat : Nat) : Int) (10 ^ pl) = sclQ p (n - ((pl : Nat) : Int)) := by
  unfold sclQ
  split
  · refine mkRat_eq (ten_ne _) (ten_ne _) ?_
    rw [← Int.natCast_mul, ← Int.natCast_mul, Int.ofNat_inj, Nat.mul_assoc, ← Nat.pow_add, show n.toNat + (-(n - ((pl : Nat) : Int))).toNat = pl by omega]
  · refine mkRat_eq (ten_ne _) (by decide) ?_
    rw [← Int.natCast_mul, ← Int.natCast_mul, Int.ofNat_inj, Nat.mul_one, Nat.mul_assoc, ← Nat.pow_add, show (n - ((pl : Nat) : Int)).toNat + pl = n.toNat by omega]
theorem sc_neg {p pl : Nat} {n : Int} (h : ¬ 0 < n) : mkRat ((p : Nat) : Int) (10 ^ pl * 10 ^ (-n).toNat) = sclQ p (n - ((pl : Nat) : Int)) := by
  rw [← Nat.pow_add]
  unfold sclQ
  split
  · refine mkRat_eq (ten_ne _) (ten_ne _) ?_
    rw [show (-(n - ((pl : Nat) : Int))).toNat = pl + (-n).toNat by omega]
  · refine mkRat_eq (ten_ne _) (by decide) ?_
    rw [show (n - ((pl : Nat) : Int)).toNat = 0 by omega, show pl + (-n).toNat = 0 by omega, Nat.pow_zero, Nat.mul_one]
section

variable {L : List Nat} {W P : Nat}
theorem pd_long (h : 400 < L.length) : parseR L = none := pr_long h
theorem pd_none (eW : runL L 0 = W) (h : W = 0) : parseR L = none := by
  unfold parseR
  rw [show cutL L = _ from cut_0 (eW.trans h)]
  exact pr_bad Bool.false_ne_true
theorem pd_over0 (eW : runL L 0 = W) (h0 : ¬ W = 0) (h1 : W < L.length) (h2 : L.getD W 0 = 47) (h : parseV (L.drop (W + 1)) = 0) : parseR L = none := by
  unfold parseR
  subst eW
  by_cases ha : runL L (runL L 0 + 1) = 0
  · rw [show cutL L = _ from cut_over0 h0 (by omega) h2 ha]; exact pr_bad Bool.false_ne_true
  · by_cases hb : runL L 0 + 1 + runL L (runL L 0 + 1) < L.length
    · rw [show cutL L = _ from cut_over1 h0 (by omega) h2 hb]; exact pr_bad Bool.false_ne_true
    · rw [show cutL L = _ from cut_over h0 (by omega) h2 ha hb]
      unfold parseC
      split
      · rfl
      · exact if_pos (Nat.pos_of_ne_zero ha)
theorem pd_over (eW : runL L 0 = W) (hl : ¬ 400 < L.length) (h0 : ¬ W = 0) (h1 : W < L.length) (h2 : L.getD W 0 = 47) (h : ¬ parseV (L.drop (W + 1)) = 0) : parseR L = some (mkRat ((parseV (L.take W) : Nat) : Int) (parseV (L.drop (W + 1)))) := by
  unfold parseR
  subst eW
  obtain ⟨ha, hb⟩ := parse_run h
  rw [List.length_drop] at hb
  rw [show cutL L = _ from cut_over h0 (by omega) h2 (by omega) (by omega)]
  unfold parseC
  rw [if_neg (fun c => c.elim hl fun e => Bool.false_ne_true e.symm), if_pos ha, if_neg h]
/-- What is left to read is a power, or nothing. -/
def PwIs (L D : List Nat) (pl i : Nat) : Prop := parseR L = (powV L i).map fun n => sclQ (parseV D) (n - ((pl : Nat) : Int))
theorem pd_whole (eW : runL L 0 = W) (hl : ¬ 400 < L.length) (h0 : ¬ W = 0) (h1 : W < L.length → ¬ L.getD W 0 = 47) (h2 : W < L.length → ¬ L.getD W 0 = 46) : PwIs L (L.take W) 0 W := by
  unfold PwIs parseR
  subst eW
  by_cases he : runL L 0 = L.length
  · rw [pow_end he, show cutL L = _ from cut_all h0 he]
    exact pr_whole hl rfl (Nat.lt_irrefl 0) (Nat.lt_irrefl 0)
  · have hlt : runL L 0 < L.length := by have := run_le (L := L) 0 (Nat.zero_le _); omega
    have hc := cut_pw0 h0 he (h1 hlt) (h2 hlt)
    by_cases hx : ExpOk L (runL L 0)
    · rw [pow_yes he hx, show cutL L = _ from pw_yes hc hx, pr_whole hl rfl (Nat.lt_irrefl 0) (Nat.lt_irrefl 0)]
      simp
    · rw [pow_no he hx, show cutL L = _ from pw_not hc hx]
      exact pr_bad Bool.false_ne_true
theorem pd_dot0 (eW : runL L 0 = W) (eP : runL L (W + 1) = P) (h0 : ¬ W = 0) (h1 : W < L.length) (h2 : L.getD W 0 = 46) (h : P = 0) : parseR L = none := by
  unfold parseR
  subst eW
  rw [show cutL L = _ from cut_part0 h0 (by omega) (by rw [h2]; decide) (by rw [h2]; decide) (eP.trans h)]
  exact pr_bad Bool.false_ne_true
theorem pd_dot (eW : runL L 0 = W) (eP : runL L (W + 1) = P) (hl : ¬ 400 < L.length) (h0 : ¬ W = 0) (h1 : W < L.length) (h2 : L.getD W 0 = 46) (h : ¬ P = 0) : PwIs L (L.take W ++ (L.drop (W + 1)).take P) P (W + 1 + P) := by
  unfold PwIs parseR
  subst eW
  subst eP
  by_cases he : runL L 0 + (1 + runL L (runL L 0 + 1)) = L.length
  · rw [pow_end (by omega), show cutL L = _ from cut_part1 h0 (by omega) (by rw [h2]; decide) (by rw [h2]; decide) h he]
    exact pr_part hl rfl (Nat.lt_irrefl 0) (Nat.pos_of_ne_zero h)
  · have hc := cut_pw1 h0 (by omega) (by rw [h2]; decide) (by rw [h2]; decide) h he
    rw [Nat.add_assoc]
    by_cases hx : ExpOk L (runL L 0 + (1 + runL L (runL L 0 + 1)))
    · rw [pow_yes he hx, show cutL L = _ from pw_yes hc hx, pr_part hl rfl (Nat.lt_irrefl 0) (Nat.pos_of_ne_zero h)]
      rfl
    · rw [pow_no he hx, show cutL L = _ from pw_not hc hx]
      exact pr_bad Bool.false_ne_true
theorem powV_le {i : Nat} (hi : i ≤ L.length) : -999 ≤ (powV L i).getD 0 ∧ (powV L i).getD 0 ≤ 999 := by
  unfold powV
  split
  · exact up_0
  · split
    · exact expV_le (by omega) (by assumption)
    · exact up_0
variable {D : List Nat} {pl i : Nat} {n : Int}
theorem pd_no (h : PwIs L D pl i) (h1 : ¬ powV L i ≠ none) : parseR L = none := by
  unfold PwIs at h; rw [h, Decidable.not_not.1 h1]; rfl
theorem pd_yes (h : PwIs L D pl i) (h1 : powV L i ≠ none) (hn : (powV L i).getD 0 = n) : parseR L = some (sclQ (parseV D) (n - ((pl : Nat) : Int))) := by
  unfold PwIs at h
  rw [h, ← hn]
  cases hc : powV L i with
  | none => exact absurd hc h1
  | some z => rfl
theorem pd_to {l m : Nat} {x : Rat} {e : Int} {o : Option Rat} (h : parseR L = o) (hx : x = resX o) (he : e = resE o) (hl : l ≤ m) : ∀ v w, (tT [tQ B32 l x, tV (.int .i64 e)]).p v w → (tT [tQ B32 m (resX (parseR L)), tV (.int .i64 (resE (parseR L)))]).p v w := by
  rw [h]
  exact to2 (tQ_to (by decide) hx hl) (tV_to (congrArg (Value.int .i64) he))
variable {w : World}
theorem d_run0 (eW : runL L 0 = W) (hB : ∀ d ∈ L, d < 256) (hL : L.length ≤ 1000000000000000) : Calls Tryz.prog 73 #[.string (strB L), .int .i64 0] w (Ret (tV (.int .i64 ((W : Nat) : Int))) w) := by
  have := d_run (i := 0) (w := w) hB hL (Nat.zero_le _)
  rw [eW, Nat.zero_add] at this; exact this
theorem d_run1 (eP : runL L (W + 1) = P) (hB : ∀ d ∈ L, d < 256) (hL : L.length ≤ 1000000000000000) (h : W + 1 ≤ L.length) : Calls Tryz.prog 73 #[.string (strB L), .int .i64 ((W + 1 : Nat) : Int)] w (Ret (tV (.int .i64 ((W + 1 + P : Nat) : Int))) w) := by
  have := d_run (i := W + 1) (w := w) hB hL h
  rw [eP] at this; exact this
theorem d_power_n (hn : (powV L i).getD 0 = n) (hB : ∀ d ∈ L, d < 256) (hL : L.length ≤ 1000000000000000) (h : i ≤ L.length) : Calls Tryz.prog 75 #[.string (strB L), .int .i64 ((i : Nat) : Int)] w (Ret (tT [tV (.int .i64 n), tV (.bool (decide (powV L i ≠ none)))]) w) := by
  have := d_power (w := w) hB hL h
  have e : (powV L i).isSome = decide (powV L i ≠ none) := by cases powV L i <;> rfl
  rw [hn, e] at this; exact this
theorem d_ten_z {z : Int} (h0 : 0 ≤ z) (h : z ≤ 1000) : Calls Tryz.prog 76 #[.int .i64 z] w (Ret (tN B32 1002 (10 ^ z.toNat)) w) := by
  have := d_ten (n := z.toNat) (w := w) (by omega)
  rw [show ((z.toNat : Nat) : Int) = z by omega] at this
  refine this.mono ?_
  rintro e w' ⟨v, h1, h2, h3⟩
  exact ⟨v, h1, tN_le (by omega) _ _ h2, h3⟩
theorem d_ten_n (h : pl ≤ 1000) : Calls Tryz.prog 76 #[.int .i64 ((pl : Nat) : Int)] w (Ret (tN B32 1002 (10 ^ pl)) w) := by
  have := d_ten_z (z := ((pl : Nat) : Int)) (w := w) (by omega) (by omega)
  rwa [Int.toNat_natCast] at this
theorem d_parse_b {M : List Nat} (hB : ∀ d ∈ M, d < 256) : Calls Tryz.prog 74 #[.string (strB M)] w (Ret (tT [tN B32 400 (parseV M), tV (.bool (decide (parseOk M = true)))]) w) := by
  have := d_parse (s := strB M) (w := w)
  rw [bytesL_strB M hB] at this
  rw [Bool.decide_eq_true]; exact this
theorem pd_bp {l : Nat} (hl : 20000 ≤ l) : parseV D * 10 ^ n.toNat < 2 ^ l ∨ 1000 < n.toNat := by
  by_cases h : 1000 < n.toNat
  · exact Or.inr h
  · exact Or.inl (sc_bits (by omega))
theorem pd_bq {l k : Nat} (hl : 20000 ≤ l) : 10 ^ pl * 10 ^ k < 2 ^ l ∨ 2000 < pl + k := by
  by_cases h : 2000 < pl + k
  · exact Or.inr h
  · rw [← Nat.pow_add]; exact Or.inl (ten_bits (by omega))
end
theorem b_46 {d : Nat} {ox oy : Operand} {id : TypeId}  (w : World) : (do eqGuard .eql id ox oy (.int .u8 ((d : Nat) : Int)) (.int .u8 46); binOp .eql id (.int .u8 ((d : Nat) : Int)) (.int .u8 46) : Sem Value).run Tryz.prog w = .ok (.bool (decide (d = 46))) w := by
  by_cases hc : d = 46
  · subst hc; simp [go_sem]
  · have : ¬ ((d : Nat) : Int) = 46 := by omega
    simp [go_sem, hc, this]
theorem z_gt0 {z : Int} {ox oy : Operand} {id : TypeId} (w : World) : (do eqGuard .gtr id ox oy (.int .i64 z) (.int .i64 0); binOp .gtr id (.int .i64 z) (.int .i64 0) : Sem Value).run Tryz.prog w = .ok (.bool (decide (0 < z))) w := by
  simp [go_sem]
theorem f_negz {z : Int} (h : -999 ≤ z ∧ z ≤ 999) (w : World) : (Op.unary .neg (.int .i64 z)).run Tryz.prog w = .ok (.int .i64 (-z)) w := by
  have e : IntKind.i64.wrap (-z) = -z := by rw [IntKind.wrap_i64]; omega
  simp [go_sem, e]
theorem f_pl1 {W P : Nat} {ox oy : Operand} {id : TypeId} (h : W + 1 + P ≤ 4611686018427387904) (w : World) : (do eqGuard .sub id ox oy (.int .i64 ((W + 1 + P : Nat) : Int)) (.int .i64 ((W : Nat) : Int)); binOp .sub id (.int .i64 ((W + 1 + P : Nat) : Int)) (.int .i64 ((W : Nat) : Int)) : Sem Value).run Tryz.prog w = .ok (.int .i64 ((P + 1 : Nat) : Int)) w := by
  have := n_sub (i := W + 1 + P) (n := W) (ox := ox) (oy := oy) (id := id) (by omega) h w
  rw [show W + 1 + P - W = P + 1 by omega] at this; exact this
theorem f_pl2 {P : Nat} {ox oy : Operand} {id : TypeId} (h : P + 1 ≤ 4611686018427387904) (w : World) : (do eqGuard .sub id ox oy (.int .i64 ((P + 1 : Nat) : Int)) (.int .i64 1); binOp .sub id (.int .i64 ((P + 1 : Nat) : Int)) (.int .i64 1) : Sem Value).run Tryz.prog w = .ok (.int .i64 ((P : Nat) : Int)) w := by
  have e : IntKind.i64.wrap ((P : Nat) : Int) = ((P : Nat) : Int) := by rw [IntKind.wrap_i64]; omega
  simp [go_sem, e]
set_option maxRecDepth 10000 in
set_option maxHeartbeats 2000000 in
theorem d_nparse {l : Nat} {L : List Nat} {w : World}  (hB : ∀ d ∈ L, d < 256) (hL : L.length ≤ 1000000000000000) (hl : 20000 ≤ l) :
    Calls Tryz.prog 24 #[.string (strB L)] w (Ret (tT [tQ B32 l (resX (parseR L)), tV (.int .i64 (resE (parseR L)))]) w) := by
 refine enter Tryz.func24 rfl Tryz.ntmps24 (by simp) ?_
 intro a hz hd ha
 have S0 := ha 0 _ rfl
 clear ha
 have HB : Below w.heap.size w w := Below.refl _ _
 obtain ⟨W, eW⟩ : ∃ W, runL L 0 = W := ⟨_, rfl⟩
 have hW := run_le (L := L) 0 (Nat.zero_le _)
 rw [eW] at hW
 refine wp_seq ?_
 refine region_text (M := []) (
  rB 0 32 (tR B32 0 0 0 0) none 0 ::
  rT (tV (.int .i64 0)) ::
  []) hz hd (by kernel_rfl) ?_ ?_
 refine ⟨?_, ?_, trivial⟩
 exact zNew hz (fun _ => tR_nil) al_r32
 exact zAs hz kc
 intro a' γ' W' hz' hd' hC hk hh
 replace S0 := kp hk S0
 obtain ⟨p1, S2, Cp1, lp1, gp1⟩ := gotB hz' 0 hC hh rfl rfl rfl rfl rfl rfl
 have S3 := gotV hz' 1 hh rfl rfl rfl rfl
 have bp1 : w.heap.size ≤ p1 := Nat.le_trans HB.size lp1
 clear lp1 gp1
 replace HB := aft_call HB (RelC.below_nil hC)
 clear hC hk hh; replace hz := hz'; replace hd := hd'; clear hz' hd'
 refine wp_seq ?_
 refine region_text (M := []) (
  rT (tQ B32 1 0) ::
  rVar 1 32 2 ::
  rB 1 32 (tQ B32 1 0) (some 1) 2 ::
  []) hz hd (by kernel_rfl) ?_ ?_
 refine ⟨?_, ?_, ?_, trivial⟩
 exact zC0 hz Tryz.func58 (fun _ => dq_zero)
 exact zAl hz nd_rat al_r32
 exact zSt (sd 0 rfl) st_q32
 intro a' γ' W' hz' hd' hC hk hh
 have tp1 := Cp1.lt
 replace Cp1 := kC hC Cp1
 replace S0 := kp hk S0
 replace S2 := kp hk S2
 replace S3 := kp hk S3
 obtain ⟨p2, S4, Cp2, lp2, gp2⟩ := gotB hz' 2 hC hh rfl rfl rfl rfl rfl rfl
 have n_p2_p1 : p2 ≠ p1 := by omega
 clear lp2 gp2
 clear tp1
 replace HB := aft_call HB (RelC.below_nil hC)
 clear hC hk hh; replace hz := hz'; replace hd := hd'; clear hz' hd'
 refine wp_seq ?_
 refine region_text (M := []) (
  rT (tV (.string (strB L))) ::
  rT (tV (.int .i64 ((W : Nat) : Int))) ::
  rT (tV (.int .i64 ((W : Nat) : Int))) ::
  []) hz hd (by kernel_rfl) ?_ ?_
 refine ⟨?_, ?_, ?_, trivial⟩
 exact zMv hz (sv S0)
 exact zC2 hz Tryz.func73 (sd 0 rfl) (kc (v := .int .i64 0)) (k11 (fun _ => d_run0 eW hB hL))
 exact zAs hz (sd 1 rfl)
 intro a' γ' W' hz' hd' hC hk hh
 have tp1 := Cp1.lt
 replace Cp1 := kC hC Cp1
 replace Cp2 := kC hC Cp2
 replace S0 := kp hk S0
 replace S2 := kp hk S2
 replace S3 := kp hk S3
 replace S4 := kp hk S4
 have S5 := gotV hz' 2 hh rfl rfl rfl rfl
 clear tp1
 replace HB := aft_call HB (RelC.below_nil hC)
 clear hC hk hh; replace hz := hz'; replace hd := hd'; clear hz' hd'
 refine wp_seq ?_
 refine wp_seq ?_
 by_cases hc3 : 400 < L.length
 refine region_text (M := []) (
  rT (tV (.string (strB L))) ::
  rT (tV (.int .i64 ((L.length : Nat) : Int))) ::
  rT (tV (.bool true)) ::
  rT (tV (.bool true)) ::
  rT (tV undef) ::
  rT (tV undef) ::
  rT (tV (.bool true)) ::
  []) hz hd (by kernel_rfl) ?_ ?_
 refine ⟨?_, ?_, ?_, ?_, ?_, ?_, ?_, trivial⟩
 exact zMv hz (sv S0)
 exact zB1len hz rfl (sd 0 rfl) (fun w => s_len w)
 exact sBin rfl rfl rfl hz rfl (Gd.none_ rfl) rfl (sd 1 rfl) kc (fun w => run_t (P := 400 < L.length) ((fun w => n_gt400 w) w) hc3)
 exact zMv hz (sd 2 rfl)
 exact zSkU hz (gN 3 rfl)
 exact zSkU hz (gN 3 rfl)
 exact zPT hz (sd 3 rfl) kc
 intro a' γ' W' hz' hd' hC hk hh
 have tp1 := Cp1.lt
 replace Cp1 := kC hC Cp1
 replace Cp2 := kC hC Cp2
 replace S0 := kp hk S0
 replace S2 := kp hk S2
 replace S3 := kp hk S3
 replace S4 := kp hk S4
 replace S5 := kp hk S5
 have S31 := gotV hz' 6 hh rfl rfl rfl rfl
 clear tp1
 replace HB := aft_call HB (RelC.below_nil hC)
 clear hC hk hh; replace hz := hz'; replace hd := hd'; clear hz' hd'
 refine wp_cond_true S31.ev ?_
 refine wp_seq ?_
 refine region_text (M := [p1]) (
  rT (tQ B32 1 0) ::
  rE 0 32 (tQ B32 1 0) p1 ::
  rT (tV (.int .i64 30)) ::
  []) hz hd (by kernel_rfl) ?_ ?_
 refine ⟨?_, ?_, ?_, trivial⟩
 exact zLd hz (sv S4) Cp2 ld_q32 (by simp [tagOf, n_p2_p1])
 exact zSE rfl (sv S2) (by simp [tagOf]) (Cp1.var tR_nd) (sd 0 rfl) st_q32
 exact zAs hz kc
 intro a' γ' W' hz' hd' hC hk hh
 replace Cp1 := gotE (T := tQ B32 1 0) (id := 32) (p := p1) 1 hh rfl rfl
 replace Cp2 := kC hC Cp2 (by simp [tagOf, n_p2_p1])
 replace S0 := kp hk S0
 replace S2 := kp hk S2
 clear S3
 replace S4 := kp hk S4
 replace S5 := kp hk S5
 clear S31
 have S3 := gotV hz' 2 hh rfl rfl rfl rfl
 replace HB := RelC.aftM HB hC (by intro m hm; simp at hm; rcases hm with rfl <;> assumption)
 clear hC hk hh; replace hz := hz'; replace hd := hd'; clear hz' hd'
 refine wp_ret ?_
 refine ret_to (T := tT [tQ B32 1 0, tV (.int .i64 30)]) (retct_q32 (by kernel_rfl) S2 S3 hd Cp1 HB) ?_
 exact pd_to (pd_long hc3) rfl rfl (by omega)
 refine region_text (M := []) (
  rT (tV (.string (strB L))) ::
  rT (tV (.int .i64 ((L.length : Nat) : Int))) ::
  rT (tV (.bool false)) ::
  rT (tV (.bool false)) ::
  rT (tV (.int .i64 ((W : Nat) : Int))) ::
  rT (tV (.bool (decide (W = 0)))) ::
  rT (tV (.bool (decide (W = 0)))) ::
  []) hz hd (by kernel_rfl) ?_ ?_
 refine ⟨?_, ?_, ?_, ?_, ?_, ?_, ?_, trivial⟩
 exact zMv hz (sv S0)
 exact zB1len hz rfl (sd 0 rfl) (fun w => s_len w)
 exact sBin rfl rfl rfl hz rfl (Gd.none_ rfl) rfl (sd 1 rfl) kc (fun w => run_f (P := 400 < L.length) ((fun w => n_gt400 w) w) hc3)
 exact zMv hz (sd 2 rfl)
 exact zMv hz (sv S5) (g := gT 3 rfl)
 exact sBin rfl rfl rfl hz rfl (gT 3 rfl) rfl (sd 4 rfl) kc (fun w => n_eq0 w)
 exact zPF hz (sd 3 rfl) (sd 5 rfl)
 intro a' γ' W' hz' hd' hC hk hh
 have tp1 := Cp1.lt
 replace Cp1 := kC hC Cp1
 replace Cp2 := kC hC Cp2
 replace S0 := kp hk S0
 replace S2 := kp hk S2
 replace S3 := kp hk S3
 replace S4 := kp hk S4
 replace S5 := kp hk S5
 have S31 := gotV hz' 6 hh rfl rfl rfl rfl
 clear tp1
 replace HB := aft_call HB (RelC.below_nil hC)
 clear hC hk hh; replace hz := hz'; replace hd := hd'; clear hz' hd'
 by_cases hc4 : W = 0
 rw [decide_eq_true hc4] at S31
 refine wp_cond_true S31.ev ?_
 refine wp_seq ?_
 refine region_text (M := [p1]) (
  rT (tQ B32 1 0) ::
  rE 0 32 (tQ B32 1 0) p1 ::
  rT (tV (.int .i64 30)) ::
  []) hz hd (by kernel_rfl) ?_ ?_
 refine ⟨?_, ?_, ?_, trivial⟩
 exact zLd hz (sv S4) Cp2 ld_q32 (by simp [tagOf, n_p2_p1])
 exact zSE rfl (sv S2) (by simp [tagOf]) (Cp1.var tR_nd) (sd 0 rfl) st_q32
 exact zAs hz kc
 intro a' γ' W' hz' hd' hC hk hh
 replace Cp1 := gotE (T := tQ B32 1 0) (id := 32) (p := p1) 1 hh rfl rfl
 replace Cp2 := kC hC Cp2 (by simp [tagOf, n_p2_p1])
 replace S0 := kp hk S0
 replace S2 := kp hk S2
 clear S3
 replace S4 := kp hk S4
 replace S5 := kp hk S5
 clear S31
 have S3 := gotV hz' 2 hh rfl rfl rfl rfl
 replace HB := RelC.aftM HB hC (by intro m hm; simp at hm; rcases hm with rfl <;> assumption)
 clear hC hk hh; replace hz := hz'; replace hd := hd'; clear hz' hd'
 refine wp_ret ?_
 refine ret_to (T := tT [tQ B32 1 0, tV (.int .i64 30)]) (retct_q32 (by kernel_rfl) S2 S3 hd Cp1 HB) ?_
 exact pd_to (pd_none eW hc4) rfl rfl (by omega)
 rw [decide_eq_false hc4] at S31
 refine wp_cond_false S31.ev ?_
 refine wp_skip ?_
 refine wp_seq ?_
 refine wp_seq ?_
 by_cases hc5 : W < L.length
 refine region_text (M := []) (
  rT (tV (.int .i64 ((W : Nat) : Int))) ::
  rT (tV (.string (strB L))) ::
  rT (tV (.int .i64 ((L.length : Nat) : Int))) ::
  rT (tV (.bool true)) ::
  rT (tV (.bool true)) ::
  rT (tV (.string (strB L))) ::
  rT (tV (.int .i64 ((W : Nat) : Int))) ::
  rT (tV (.int .u8 ((L.getD W 0 : Nat) : Int))) ::
  rT (tV (.bool (decide (L.getD W 0 = 47)))) ::
  rT (tV (.bool (decide (L.getD W 0 = 47)))) ::
  []) hz hd (by kernel_rfl) ?_ ?_
 refine ⟨?_, ?_, ?_, ?_, ?_, ?_, ?_, ?_, ?_, ?_, trivial⟩
 exact zMv hz (sv S5)
 exact zMv hz (sv S0)
 exact zB1len hz rfl (sd 1 rfl) (fun w => s_len w)
 exact sBin rfl rfl rfl hz rfl (Gd.none_ rfl) rfl (sd 0 rfl) (sd 2 rfl) (fun w => run_t (P := W < L.length) ((fun w => n_lt w) w) hc5)
 exact zMv hz (sd 3 rfl)
 exact zMv hz (sv S0) (g := gT 4 rfl)
 exact zMv hz (sv S5) (g := gT 4 rfl)
 exact zIx hz rfl (sd 5 rfl) (sd 6 rfl) (fun w => s_ix hB (by omega) w) (g := gT 4 rfl)
 exact sBin rfl rfl rfl hz rfl (gT 4 rfl) rfl (sd 7 rfl) kc (fun w => b_47 w)
 exact zPT hz (sd 4 rfl) (sd 8 rfl)
 intro a' γ' W' hz' hd' hC hk hh
 have tp1 := Cp1.lt
 replace Cp1 := kC hC Cp1
 replace Cp2 := kC hC Cp2
 replace S0 := kp hk S0
 replace S2 := kp hk S2
 replace S3 := kp hk S3
 replace S4 := kp hk S4
 replace S5 := kp hk S5
 clear S31
 have S42 := gotV hz' 9 hh rfl rfl rfl rfl
 clear tp1
 replace HB := aft_call HB (RelC.below_nil hC)
 clear hC hk hh; replace hz := hz'; replace hd := hd'; clear hz' hd'
 by_cases hc6 : L.getD W 0 = 47
 rw [decide_eq_true hc6] at S42
 refine wp_cond_true S42.ev ?_
 refine wp_seq ?_
 refine region_text (M := []) (
  rT (tV (.string (strB L))) ::
  rT (tV (.int .i64 ((W : Nat) : Int))) ::
  rT (tV (.string (strB (L.take W)))) ::
  rT (tT [tN B32 400 (parseV (L.take W)), tV (.bool (decide (parseOk (L.take W) = true)))]) ::
  rT (tT [tN B32 400 (parseV (L.take W)), tV (.bool (decide (parseOk (L.take W) = true)))]) ::
  rT (tN B32 400 (parseV (L.take W))) ::
  rT (tV (.bool (decide (parseOk (L.take W) = true)))) ::
  rVar 7 30 1 ::
  rB 7 30 (tN B32 400 (parseV (L.take W))) (some 7) 8 ::
  rT (tV (.bool (decide (parseOk (L.take W) = true)))) ::
  []) hz hd (by kernel_rfl) ?_ ?_
 refine ⟨?_, ?_, ?_, ?_, ?_, ?_, ?_, ?_, ?_, ?_, trivial⟩
 exact zMv hz (sv S0)
 exact zMv hz (sv S5)
 exact zSlTo hz rfl (sd 0 rfl) (sd 1 rfl) (fun w => s_to (by omega) w)
 exact zC1 hz Tryz.func74 (sd 2 rfl) (k1 (fun _ => d_parse_b (by_take hB W)))
 exact zMv hz (sd 3 rfl)
 exact zExt hz (sd 4 rfl)
 exact zExt hz (sd 4 rfl)
 exact zAl hz nd_slice al_n32
 exact zSt (sd 5 rfl) st_n32
 exact zAs hz (sd 6 rfl)
 intro a' γ' W' hz' hd' hC hk hh
 have tp1 := Cp1.lt
 replace Cp1 := kC hC Cp1
 replace Cp2 := kC hC Cp2
 replace S0 := kp hk S0
 replace S2 := kp hk S2
 replace S3 := kp hk S3
 replace S4 := kp hk S4
 replace S5 := kp hk S5
 clear S42
 obtain ⟨p7, S6, Cp7, lp7, gp7⟩ := gotB hz' 8 hC hh rfl rfl rfl rfl rfl rfl
 have n_p7_p1 : p7 ≠ p1 := by omega
 clear lp7 gp7
 clear tp1
 replace HB := aft_call HB (RelC.below_nil hC)
 clear hC hk hh; replace hz := hz'; replace hd := hd'; clear hz' hd'
 refine wp_seq ?_
 refine region_text (M := []) (
  rT (tV (.string (strB L))) ::
  rT (tV (.int .i64 ((W : Nat) : Int))) ::
  rT (tV (.int .i64 ((W + 1 : Nat) : Int))) ::
  rT (tV (.string (strB (L.drop (W + 1))))) ::
  rT (tT [tN B32 400 (parseV (L.drop (W + 1))), tV (.bool (decide (parseOk (L.drop (W + 1)) = true)))]) ::
  rT (tT [tN B32 400 (parseV (L.drop (W + 1))), tV (.bool (decide (parseOk (L.drop (W + 1)) = true)))]) ::
  rT (tN B32 400 (parseV (L.drop (W + 1)))) ::
  rT (tV (.bool (decide (parseOk (L.drop (W + 1)) = true)))) ::
  rVar 8 30 1 ::
  rB 8 30 (tN B32 400 (parseV (L.drop (W + 1)))) (some 8) 9 ::
  rT (tV (.bool (decide (parseOk (L.drop (W + 1)) = true)))) ::
  []) hz hd (by kernel_rfl) ?_ ?_
 refine ⟨?_, ?_, ?_, ?_, ?_, ?_, ?_, ?_, ?_, ?_, ?_, trivial⟩
 exact zMv hz (sv S0)
 exact zMv hz (sv S5)
 exact sBin rfl rfl rfl hz rfl (Gd.none_ rfl) rfl (sd 1 rfl) kc (fun w => n_succ (by omega) w)
 exact zSlFrom hz rfl (sd 0 rfl) (sd 2 rfl) (fun w => s_from (by omega) w)
 exact zC1 hz Tryz.func74 (sd 3 rfl) (k1 (fun _ => d_parse_b (by_drop hB (W + 1))))
 exact zMv hz (sd 4 rfl)
 exact zExt hz (sd 5 rfl)
 exact zExt hz (sd 5 rfl)
 exact zAl hz nd_slice al_n32
 exact zSt (sd 6 rfl) st_n32
 exact zAs hz (sd 7 rfl)
 intro a' γ' W' hz' hd' hC hk hh
 have tp1 := Cp1.lt
 replace Cp1 := kC hC Cp1
 replace Cp2 := kC hC Cp2
 replace Cp7 := kC hC Cp7
 replace S0 := kp hk S0
 replace S2 := kp hk S2
 replace S3 := kp hk S3
 replace S4 := kp hk S4
 replace S5 := kp hk S5
 replace S6 := kp hk S6
 obtain ⟨p8, S8, Cp8, lp8, gp8⟩ := gotB hz' 9 hC hh rfl rfl rfl rfl rfl rfl
 have S9 := gotV hz' 10 hh rfl rfl rfl rfl
 have n_p8_p1 : p8 ≠ p1 := by omega
 clear lp8 gp8
 clear tp1
 replace HB := aft_call HB (RelC.below_nil hC)
 clear hC hk hh; replace hz := hz'; replace hd := hd'; clear hz' hd'
 refine wp_seq ?_
 refine wp_seq ?_
 by_cases hc9 : parseOk (L.drop (W + 1)) = true
 rw [decide_eq_true hc9] at S9
 refine region_text (M := []) (
  rT (tV (.bool true)) ::
  rT (tV (.bool false)) ::
  rT (tV (.bool false)) ::
  rT (tN B32 400 (parseV (L.drop (W + 1)))) ::
  rT (tV (.bool (decide (parseV (L.drop (W + 1)) = 0)))) ::
  rT (tV (.bool (decide (parseV (L.drop (W + 1)) = 0)))) ::
  []) hz hd (by kernel_rfl) ?_ ?_
 refine ⟨?_, ?_, ?_, ?_, ?_, ?_, trivial⟩
 exact zMv hz (sv S9)
 exact zNot hz (sd 0 rfl)
 exact zMv hz (sd 1 rfl)
 exact zLd hz (sv S8) Cp8 ld_n32 (g := gT 2 rfl)
 exact zC1 hz Tryz.func64 (sd 3 rfl) (fun _ _ h0 => d_zero h0) (g := gT 2 rfl)
 exact zPF hz (sd 2 rfl) (sd 4 rfl)
 intro a' γ' W' hz' hd' hC hk hh
 have tp1 := Cp1.lt
 replace Cp1 := kC hC Cp1
 replace Cp2 := kC hC Cp2
 replace Cp7 := kC hC Cp7
 replace Cp8 := kC hC Cp8
 replace S0 := kp hk S0
 replace S2 := kp hk S2
 replace S3 := kp hk S3
 replace S4 := kp hk S4
 replace S5 := kp hk S5
 replace S6 := kp hk S6
 replace S8 := kp hk S8
 clear S9
 have S63 := gotV hz' 5 hh rfl rfl rfl rfl
 clear tp1
 replace HB := aft_call HB (RelC.below_nil hC)
 clear hC hk hh; replace hz := hz'; replace hd := hd'; clear hz' hd'
 by_cases hc10 : parseV (L.drop (W + 1)) = 0
 rw [decide_eq_true hc10] at S63
 refine wp_cond_true S63.ev ?_
 refine wp_seq ?_
 refine region_text (M := [p1]) (
  rT (tQ B32 1 0) ::
  rE 0 32 (tQ B32 1 0) p1 ::
  rT (tV (.int .i64 30)) ::
  []) hz hd (by kernel_rfl) ?_ ?_
 refine ⟨?_, ?_, ?_, trivial⟩
 exact zLd hz (sv S4) Cp2 ld_q32 (by simp [tagOf, n_p2_p1])
 exact zSE rfl (sv S2) (by simp [tagOf]) (Cp1.var tR_nd) (sd 0 rfl) st_q32
 exact zAs hz kc
 intro a' γ' W' hz' hd' hC hk hh
 replace Cp1 := gotE (T := tQ B32 1 0) (id := 32) (p := p1) 1 hh rfl rfl
 replace Cp2 := kC hC Cp2 (by simp [tagOf, n_p2_p1])
 replace Cp7 := kC hC Cp7 (by simp [tagOf, n_p7_p1])
 replace Cp8 := kC hC Cp8 (by simp [tagOf, n_p8_p1])
 replace S0 := kp hk S0
 replace S2 := kp hk S2
 clear S3
 replace S4 := kp hk S4
 replace S5 := kp hk S5
 replace S6 := kp hk S6
 replace S8 := kp hk S8
 clear S63
 have S3 := gotV hz' 2 hh rfl rfl rfl rfl
 replace HB := RelC.aftM HB hC (by intro m hm; simp at hm; rcases hm with rfl <;> assumption)
 clear hC hk hh; replace hz := hz'; replace hd := hd'; clear hz' hd'
 refine wp_ret ?_
 refine ret_to (T := tT [tQ B32 1 0, tV (.int .i64 30)]) (retct_q32 (by kernel_rfl) S2 S3 hd Cp1 HB) ?_
 exact pd_to (pd_over0 eW hc4 hc5 hc6 hc10) rfl rfl (by omega)
 rw [decide_eq_false hc10] at S63
 refine wp_cond_false S63.ev ?_
 refine wp_skip ?_
 refine wp_seq ?_
 refine region_text (M := []) (
  rT (tN B32 400 (parseV (L.take W))) ::
  rT (tN B32 400 (parseV (L.drop (W + 1)))) ::
  rT (tT [tQ B32 l (mkRat ((parseV (L.take W) : Nat) : Int) (parseV (L.drop (W + 1)))), tV (.bool (decide (parseV (L.drop (W + 1)) ≠ 0)))]) ::
  rT (tT [tQ B32 l (mkRat ((parseV (L.take W) : Nat) : Int) (parseV (L.drop (W + 1)))), tV (.bool (decide (parseV (L.drop (W + 1)) ≠ 0)))]) ::
  rT (tQ B32 l (mkRat ((parseV (L.take W) : Nat) : Int) (parseV (L.drop (W + 1))))) ::
  rT (tV (.bool (decide (parseV (L.drop (W + 1)) ≠ 0)))) ::
  rVar 6 32 2 ::
  rB 6 32 (tQ B32 l (mkRat ((parseV (L.take W) : Nat) : Int) (parseV (L.drop (W + 1))))) (some 6) 7 ::
  rT (tV (.bool (decide (parseV (L.drop (W + 1)) ≠ 0)))) ::
  []) hz hd (by kernel_rfl) ?_ ?_
 refine ⟨?_, ?_, ?_, ?_, ?_, ?_, ?_, ?_, ?_, trivial⟩
 exact zLd hz (sv S6) Cp7 ld_n32
 exact zLd hz (sv S8) Cp8 ld_n32
 exact zC2 hz Tryz.func15 (sd 0 rfl) (sd 1 rfl) (fun _ _ _ h0 h1 => dq_from (l := l) h0 h1 (by decide) (by decide) (parse_bits (by omega)) (parse_bits (by omega)) (by omega))
 exact zMv hz (sd 2 rfl)
 exact zExt hz (sd 3 rfl)
 exact zExt hz (sd 3 rfl)
 exact zAl hz nd_rat al_r32
 exact zSt (sd 4 rfl) st_q32
 exact zAs hz (sd 5 rfl)
 intro a' γ' W' hz' hd' hC hk hh
 have tp1 := Cp1.lt
 replace Cp1 := kC hC Cp1
 replace Cp2 := kC hC Cp2
 clear Cp7
 clear Cp8
 replace S0 := kp hk S0
 replace S2 := kp hk S2
 replace S3 := kp hk S3
 replace S4 := kp hk S4
 replace S5 := kp hk S5
 clear S6
 clear S8
 clear S63
 obtain ⟨p11, S10, Cp11, lp11, gp11⟩ := gotB hz' 7 hC hh rfl rfl rfl rfl rfl rfl
 have n_p11_p1 : p11 ≠ p1 := by omega
 clear lp11 gp11
 clear tp1
 replace HB := aft_call HB (RelC.below_nil hC)
 clear hC hk hh; replace hz := hz'; replace hd := hd'; clear hz' hd'
 refine wp_seq ?_
 refine region_text (M := [p1]) (
  rT (tQ B32 l (mkRat ((parseV (L.take W) : Nat) : Int) (parseV (L.drop (W + 1))))) ::
  rE 0 32 (tQ B32 l (mkRat ((parseV (L.take W) : Nat) : Int) (parseV (L.drop (W + 1))))) p1 ::
  rT (tV (.int .i64 0)) ::
  []) hz hd (by kernel_rfl) ?_ ?_
 refine ⟨?_, ?_, ?_, trivial⟩
 exact zLd hz (sv S10) Cp11 ld_q32 (by simp [tagOf, n_p11_p1])
 exact zSE rfl (sv S2) (by simp [tagOf]) (Cp1.var tR_nd) (sd 0 rfl) st_q32
 exact zAs hz kc
 intro a' γ' W' hz' hd' hC hk hh
 replace Cp1 := gotE (T := tQ B32 l (mkRat ((parseV (L.take W) : Nat) : Int) (parseV (L.drop (W + 1))))) (id := 32) (p := p1) 1 hh rfl rfl
 replace Cp2 := kC hC Cp2 (by simp [tagOf, n_p2_p1])
 clear Cp11
 replace S0 := kp hk S0
 replace S2 := kp hk S2
 clear S3
 replace S4 := kp hk S4
 replace S5 := kp hk S5
 clear S10
 have S3 := gotV hz' 2 hh rfl rfl rfl rfl
 replace HB := RelC.aftM HB hC (by intro m hm; simp at hm; rcases hm with rfl <;> assumption)
 clear hC hk hh; replace hz := hz'; replace hd := hd'; clear hz' hd'
 refine wp_ret ?_
 refine ret_to (T := tT [tQ B32 l (mkRat ((parseV (L.take W) : Nat) : Int) (parseV (L.drop (W + 1)))), tV (.int .i64 0)]) (retct_q32 (by kernel_rfl) S2 S3 hd Cp1 HB) ?_
 exact pd_to (pd_over eW hc3 hc4 hc5 hc6 hc10) rfl rfl (by omega)
 rw [decide_eq_false hc9] at S9
 refine region_text (M := []) (
  rT (tV (.bool false)) ::
  rT (tV (.bool true)) ::
  rT (tV (.bool true)) ::
  rT (tV undef) ::
  rT (tV undef) ::
  rT (tV (.bool true)) ::
  []) hz hd (by kernel_rfl) ?_ ?_
 refine ⟨?_, ?_, ?_, ?_, ?_, ?_, trivial⟩
 exact zMv hz (sv S9)
 exact zNot hz (sd 0 rfl)
 exact zMv hz (sd 1 rfl)
 exact zSkU hz (gN 2 rfl)
 exact zSkU hz (gN 2 rfl)
 exact zPT hz (sd 2 rfl) kc
 intro a' γ' W' hz' hd' hC hk hh
 have tp1 := Cp1.lt
 replace Cp1 := kC hC Cp1
 replace Cp2 := kC hC Cp2
 replace Cp7 := kC hC Cp7
 replace Cp8 := kC hC Cp8
 replace S0 := kp hk S0
 replace S2 := kp hk S2
 replace S3 := kp hk S3
 replace S4 := kp hk S4
 replace S5 := kp hk S5
 replace S6 := kp hk S6
 replace S8 := kp hk S8
 clear S9
 have S63 := gotV hz' 5 hh rfl rfl rfl rfl
 clear tp1
 replace HB := aft_call HB (RelC.below_nil hC)
 clear hC hk hh; replace hz := hz'; replace hd := hd'; clear hz' hd'
 refine wp_cond_true S63.ev ?_
 refine wp_seq ?_
 refine region_text (M := [p1]) (
  rT (tQ B32 1 0) ::
  rE 0 32 (tQ B32 1 0) p1 ::
  rT (tV (.int .i64 30)) ::
  []) hz hd (by kernel_rfl) ?_ ?_
 refine ⟨?_, ?_, ?_, trivial⟩
 exact zLd hz (sv S4) Cp2 ld_q32 (by simp [tagOf, n_p2_p1])
 exact zSE rfl (sv S2) (by simp [tagOf]) (Cp1.var tR_nd) (sd 0 rfl) st_q32
 exact zAs hz kc
 intro a' γ' W' hz' hd' hC hk hh
 replace Cp1 := gotE (T := tQ B32 1 0) (id := 32) (p := p1) 1 hh rfl rfl
 replace Cp2 := kC hC Cp2 (by simp [tagOf, n_p2_p1])
 replace Cp7 := kC hC Cp7 (by simp [tagOf, n_p7_p1])
 replace Cp8 := kC hC Cp8 (by simp [tagOf, n_p8_p1])
 replace S0 := kp hk S0
 replace S2 := kp hk S2
 clear S3
 replace S4 := kp hk S4
 replace S5 := kp hk S5
 replace S6 := kp hk S6
 replace S8 := kp hk S8
 clear S63
 have S3 := gotV hz' 2 hh rfl rfl rfl rfl
 replace HB := RelC.aftM HB hC (by intro m hm; simp at hm; rcases hm with rfl <;> assumption)
 clear hC hk hh; replace hz := hz'; replace hd := hd'; clear hz' hd'
 refine wp_ret ?_
 refine ret_to (T := tT [tQ B32 1 0, tV (.int .i64 30)]) (retct_q32 (by kernel_rfl) S2 S3 hd Cp1 HB) ?_
 exact pd_to (pd_over0 eW hc4 hc5 hc6 (parse_no hc9)) rfl rfl (by omega)
 rw [decide_eq_false hc6] at S42
 refine wp_cond_false S42.ev ?_
 refine wp_skip ?_
 refine wp_seq ?_
 refine region_text (M := []) (
  rT (tV (.string (strB L))) ::
  rT (tV (.int .i64 ((W : Nat) : Int))) ::
  rT (tV (.string (strB (L.take W)))) ::
  rT (tV (.string (strB (L.take W)))) ::
  []) hz hd (by kernel_rfl) ?_ ?_
 refine ⟨?_, ?_, ?_, ?_, trivial⟩
 exact zMv hz (sv S0)
 exact zMv hz (sv S5)
 exact zSlTo hz rfl (sd 0 rfl) (sd 1 rfl) (fun w => s_to (by omega) w)
 exact zAs hz (sd 2 rfl)
 intro a' γ' W' hz' hd' hC hk hh
 have tp1 := Cp1.lt
 replace Cp1 := kC hC Cp1
 replace Cp2 := kC hC Cp2
 replace S0 := kp hk S0
 replace S2 := kp hk S2
 replace S3 := kp hk S3
 replace S4 := kp hk S4
 replace S5 := kp hk S5
 clear S42
 have S12 := gotV hz' 3 hh rfl rfl rfl rfl
 clear tp1
 replace HB := aft_call HB (RelC.below_nil hC)
 clear hC hk hh; replace hz := hz'; replace hd := hd'; clear hz' hd'
 refine wp_seq ?_
 refine region_text (M := []) (
  rT (tV (.int .i64 0)) ::
  []) hz hd (by kernel_rfl) ?_ ?_
 refine ⟨?_, trivial⟩
 exact zAs hz kc
 intro a' γ' W' hz' hd' hC hk hh
 have tp1 := Cp1.lt
 replace Cp1 := kC hC Cp1
 replace Cp2 := kC hC Cp2
 replace S0 := kp hk S0
 replace S2 := kp hk S2
 replace S3 := kp hk S3
 replace S4 := kp hk S4
 replace S5 := kp hk S5
 replace S12 := kp hk S12
 have S13 := gotV hz' 0 hh rfl rfl rfl rfl
 clear tp1
 replace HB := aft_call HB (RelC.below_nil hC)
 clear hC hk hh; replace hz := hz'; replace hd := hd'; clear hz' hd'
 refine wp_join (fun a W => ∃ (D : List Nat) (pl : Nat) (i : Nat), a.tmps.size = 138 ∧ a.defers = [] ∧ Below w.heap.size w W ∧ Sl a 0 (.string (strB L)) ∧ Sl a 2 (.pointer (some ⟨p1, 0, none⟩)) ∧ Sl a 4 (.pointer (some ⟨p2, 0, none⟩)) ∧ Sl a 5 (.int .i64 ((i : Nat) : Int)) ∧ Sl a 12 (.string (strB D)) ∧ Sl a 13 (.int .i64 ((pl : Nat) : Int)) ∧ Cell 32 (tR B32 0 0 0 0) p1 W ∧ Cell 32 (tQ B32 1 0) p2 W ∧ PwIs L D pl i ∧ i ≤ L.length ∧ (∀ d ∈ D, d < 256) ∧ pl ≤ 400) ?_ ?_
 refine wp_seq ?_
 refine region_text (M := []) (
  rT (tV (.int .i64 ((W : Nat) : Int))) ::
  rT (tV (.string (strB L))) ::
  rT (tV (.int .i64 ((L.length : Nat) : Int))) ::
  rT (tV (.bool true)) ::
  rT (tV (.bool true)) ::
  rT (tV (.string (strB L))) ::
  rT (tV (.int .i64 ((W : Nat) : Int))) ::
  rT (tV (.int .u8 ((L.getD W 0 : Nat) : Int))) ::
  rT (tV (.bool (decide (L.getD W 0 = 46)))) ::
  rT (tV (.bool (decide (L.getD W 0 = 46)))) ::
  []) hz hd (by kernel_rfl) ?_ ?_
 refine ⟨?_, ?_, ?_, ?_, ?_, ?_, ?_, ?_, ?_, ?_, trivial⟩
 exact zMv hz (sv S5)
 exact zMv hz (sv S0)
 exact zB1len hz rfl (sd 1 rfl) (fun w => s_len w)
 exact sBin rfl rfl rfl hz rfl (Gd.none_ rfl) rfl (sd 0 rfl) (sd 2 rfl) (fun w => run_t (P := W < L.length) ((fun w => n_lt w) w) hc5)
 exact zMv hz (sd 3 rfl)
 exact zMv hz (sv S0) (g := gT 4 rfl)
 exact zMv hz (sv S5) (g := gT 4 rfl)
 exact zIx hz rfl (sd 5 rfl) (sd 6 rfl) (fun w => s_ix hB (by omega) w) (g := gT 4 rfl)
 exact sBin rfl rfl rfl hz rfl (gT 4 rfl) rfl (sd 7 rfl) kc (fun w => b_46 w)
 exact zPT hz (sd 4 rfl) (sd 8 rfl)
 intro a' γ' W' hz' hd' hC hk hh
 have tp1 := Cp1.lt
 replace Cp1 := kC hC Cp1
 replace Cp2 := kC hC Cp2
 replace S0 := kp hk S0
 replace S2 := kp hk S2
 replace S3 := kp hk S3
 replace S4 := kp hk S4
 replace S5 := kp hk S5
 replace S12 := kp hk S12
 replace S13 := kp hk S13
 have S84 := gotV hz' 9 hh rfl rfl rfl rfl
 clear tp1
 replace HB := aft_call HB (RelC.below_nil hC)
 clear hC hk hh; replace hz := hz'; replace hd := hd'; clear hz' hd'
 by_cases hc12 : L.getD W 0 = 46
 rw [decide_eq_true hc12] at S84
 refine wp_cond_true S84.ev ?_
 refine wp_seq ?_
 obtain ⟨P, eP⟩ : ∃ P, runL L (W + 1) = P := ⟨_, rfl⟩
 have hP := run_le (L := L) (W + 1) (by omega)
 rw [eP] at hP
 refine region_text (M := []) (
  rT (tV (.string (strB L))) ::
  rT (tV (.int .i64 ((W : Nat) : Int))) ::
  rT (tV (.int .i64 ((W + 1 : Nat) : Int))) ::
  rT (tV (.int .i64 ((W + 1 + P : Nat) : Int))) ::
  rT (tV (.int .i64 ((W + 1 + P : Nat) : Int))) ::
  []) hz hd (by kernel_rfl) ?_ ?_
 refine ⟨?_, ?_, ?_, ?_, ?_, trivial⟩
 exact zMv hz (sv S0)
 exact zMv hz (sv S5)
 exact sBin rfl rfl rfl hz rfl (Gd.none_ rfl) rfl (sd 1 rfl) kc (fun w => n_succ (by omega) w)
 exact zC2 hz Tryz.func73 (sd 0 rfl) (sd 2 rfl) (k11 (fun _ => d_run1 eP hB hL (by omega)))
 exact zAs hz (sd 3 rfl)
 intro a' γ' W' hz' hd' hC hk hh
 have tp1 := Cp1.lt
 replace Cp1 := kC hC Cp1
 replace Cp2 := kC hC Cp2
 replace S0 := kp hk S0
 replace S2 := kp hk S2
 replace S3 := kp hk S3
 replace S4 := kp hk S4
 replace S5 := kp hk S5
 replace S12 := kp hk S12
 replace S13 := kp hk S13
 clear S84
 have S14 := gotV hz' 4 hh rfl rfl rfl rfl
 clear tp1
 replace HB := aft_call HB (RelC.below_nil hC)
 clear hC hk hh; replace hz := hz'; replace hd := hd'; clear hz' hd'
 refine wp_seq ?_
 refine region_text (M := []) (
  rT (tV (.int .i64 ((W + 1 + P : Nat) : Int))) ::
  rT (tV (.int .i64 ((W : Nat) : Int))) ::
  rT (tV (.int .i64 ((P + 1 : Nat) : Int))) ::
  rT (tV (.int .i64 ((P : Nat) : Int))) ::
  rT (tV (.int .i64 ((P : Nat) : Int))) ::
  []) hz hd (by kernel_rfl) ?_ ?_
 refine ⟨?_, ?_, ?_, ?_, ?_, trivial⟩
 exact zMv hz (sv S14)
 exact zMv hz (sv S5)
 exact sBin rfl rfl rfl hz rfl (Gd.none_ rfl) rfl (sd 0 rfl) (sd 1 rfl) (fun w => f_pl1 (by omega) w)
 exact sBin rfl rfl rfl hz rfl (Gd.none_ rfl) rfl (sd 2 rfl) kc (fun w => f_pl2 (by omega) w)
 exact zAs hz (sd 3 rfl)
 intro a' γ' W' hz' hd' hC hk hh
 have tp1 := Cp1.lt
 replace Cp1 := kC hC Cp1
 replace Cp2 := kC hC Cp2
 replace S0 := kp hk S0
 replace S2 := kp hk S2
 replace S3 := kp hk S3
 replace S4 := kp hk S4
 replace S5 := kp hk S5
 replace S12 := kp hk S12
 clear S13
 replace S14 := kp hk S14
 have S13 := gotV hz' 4 hh rfl rfl rfl rfl
 clear tp1
 replace HB := aft_call HB (RelC.below_nil hC)
 clear hC hk hh; replace hz := hz'; replace hd := hd'; clear hz' hd'
 refine wp_seq ?_
 refine wp_seq ?_
 refine region_text (M := []) (
  rT (tV (.int .i64 ((P : Nat) : Int))) ::
  rT (tV (.bool (decide (P = 0)))) ::
  []) hz hd (by kernel_rfl) ?_ ?_
 refine ⟨?_, ?_, trivial⟩
 exact zMv hz (sv S13)
 exact sBin rfl rfl rfl hz rfl (Gd.none_ rfl) rfl (sd 0 rfl) kc (fun w => n_eq0 w)
 intro a' γ' W' hz' hd' hC hk hh
 have tp1 := Cp1.lt
 replace Cp1 := kC hC Cp1
 replace Cp2 := kC hC Cp2
 replace S0 := kp hk S0
 replace S2 := kp hk S2
 replace S3 := kp hk S3
 replace S4 := kp hk S4
 replace S5 := kp hk S5
 replace S12 := kp hk S12
 replace S14 := kp hk S14
 replace S13 := kp hk S13
 have S94 := gotV hz' 1 hh rfl rfl rfl rfl
 clear tp1
 replace HB := aft_call HB (RelC.below_nil hC)
 clear hC hk hh; replace hz := hz'; replace hd := hd'; clear hz' hd'
 by_cases hc13 : P = 0
 rw [decide_eq_true hc13] at S94
 refine wp_cond_true S94.ev ?_
 refine wp_seq ?_
 refine region_text (M := [p1]) (
  rT (tQ B32 1 0) ::
  rE 0 32 (tQ B32 1 0) p1 ::
  rT (tV (.int .i64 30)) ::
  []) hz hd (by kernel_rfl) ?_ ?_
 refine ⟨?_, ?_, ?_, trivial⟩
 exact zLd hz (sv S4) Cp2 ld_q32 (by simp [tagOf, n_p2_p1])
 exact zSE rfl (sv S2) (by simp [tagOf]) (Cp1.var tR_nd) (sd 0 rfl) st_q32
 exact zAs hz kc
 intro a' γ' W' hz' hd' hC hk hh
 replace Cp1 := gotE (T := tQ B32 1 0) (id := 32) (p := p1) 1 hh rfl rfl
 replace Cp2 := kC hC Cp2 (by simp [tagOf, n_p2_p1])
 replace S0 := kp hk S0
 replace S2 := kp hk S2
 clear S3
 replace S4 := kp hk S4
 replace S5 := kp hk S5
 replace S12 := kp hk S12
 replace S14 := kp hk S14
 replace S13 := kp hk S13
 clear S94
 have S3 := gotV hz' 2 hh rfl rfl rfl rfl
 replace HB := RelC.aftM HB hC (by intro m hm; simp at hm; rcases hm with rfl <;> assumption)
 clear hC hk hh; replace hz := hz'; replace hd := hd'; clear hz' hd'
 refine wp_ret ?_
 refine ret_to (T := tT [tQ B32 1 0, tV (.int .i64 30)]) (retct_q32 (by kernel_rfl) S2 S3 hd Cp1 HB) ?_
 exact pd_to (pd_dot0 eW eP hc4 hc5 hc12 hc13) rfl rfl (by omega)
 rw [decide_eq_false hc13] at S94
 refine wp_cond_false S94.ev ?_
 refine wp_skip ?_
 refine wp_seq ?_
 refine region_text (M := []) (
  rT (tV (.string (strB (L.take W)))) ::
  rT (tV (.string (strB L))) ::
  rT (tV (.int .i64 ((W : Nat) : Int))) ::
  rT (tV (.int .i64 ((W + 1 : Nat) : Int))) ::
  rT (tV (.int .i64 ((W + 1 + P : Nat) : Int))) ::
  rT (tV (.string (strB ((L.drop (W + 1)).take P)))) ::
  rT (tV (.string (strB ((L.take W) ++ ((L.drop (W + 1)).take P))))) ::
  rT (tV (.string (strB ((L.take W) ++ ((L.drop (W + 1)).take P))))) ::
  []) hz hd (by kernel_rfl) ?_ ?_
 refine ⟨?_, ?_, ?_, ?_, ?_, ?_, ?_, ?_, trivial⟩
 exact zMv hz (sv S12)
 exact zMv hz (sv S0)
 exact zMv hz (sv S5)
 exact sBin rfl rfl rfl hz rfl (Gd.none_ rfl) rfl (sd 2 rfl) kc (fun w => n_succ (by omega) w)
 exact zMv hz (sv S14)
 exact zSlMid hz rfl (sd 1 rfl) (sd 3 rfl) (sd 4 rfl) (fun w => by have hq := s_mid (L := L) (i := W + 1) (j := W + 1 + P) (by omega) (by omega) w; rw [Nat.add_sub_cancel_left] at hq; exact hq)
 exact sBin rfl rfl rfl hz rfl (Gd.none_ rfl) rfl (sd 0 rfl) (sd 5 rfl) (fun w => s_cat (L := L.take W) (M := (L.drop (W + 1)).take P) (by rw [List.length_take, List.length_take]; omega) rfl w)
 exact zAs hz (sd 6 rfl)
 intro a' γ' W' hz' hd' hC hk hh
 have tp1 := Cp1.lt
 replace Cp1 := kC hC Cp1
 replace Cp2 := kC hC Cp2
 replace S0 := kp hk S0
 replace S2 := kp hk S2
 replace S3 := kp hk S3
 replace S4 := kp hk S4
 replace S5 := kp hk S5
 clear S12
 replace S14 := kp hk S14
 replace S13 := kp hk S13
 clear S94
 have S12 := gotV hz' 7 hh rfl rfl rfl rfl
 clear tp1
 replace HB := aft_call HB (RelC.below_nil hC)
 clear hC hk hh; replace hz := hz'; replace hd := hd'; clear hz' hd'
 refine region_text (M := []) (
  rT (tV (.int .i64 ((W + 1 + P : Nat) : Int))) ::
  rT (tV (.int .i64 ((W + 1 + P : Nat) : Int))) ::
  []) hz hd (by kernel_rfl) ?_ ?_
 refine ⟨?_, ?_, trivial⟩
 exact zMv hz (sv S14)
 exact zAs hz (sd 0 rfl)
 intro a' γ' W' hz' hd' hC hk hh
 have tp1 := Cp1.lt
 replace Cp1 := kC hC Cp1
 replace Cp2 := kC hC Cp2
 replace S0 := kp hk S0
 replace S2 := kp hk S2
 replace S3 := kp hk S3
 replace S4 := kp hk S4
 clear S5
 clear S14
 replace S13 := kp hk S13
 replace S12 := kp hk S12
 have S5 := gotV hz' 1 hh rfl rfl rfl rfl
 clear tp1
 replace HB := aft_call HB (RelC.below_nil hC)
 clear hC hk hh; replace hz := hz'; replace hd := hd'; clear hz' hd'
 refine join_n ?_
 exact ⟨(L.take W ++ (L.drop (W + 1)).take P), P, (W + 1 + P), hz, hd, HB, S0, S2, S4, S5, S12, S13, Cp1, Cp2, (pd_dot eW eP hc3 hc4 hc5 hc12 hc13), (by omega), (by_app (by_take hB W) (by_take (by_drop hB (W + 1)) P)), (by omega)⟩
 rw [decide_eq_false hc12] at S84
 refine wp_cond_false S84.ev ?_
 refine wp_skip ?_
 refine join_n ?_
 exact ⟨(L.take W), 0, W, hz, hd, HB, S0, S2, S4, S5, S12, S13, Cp1, Cp2, (pd_whole eW hc3 hc4 (fun _ => hc6) (fun _ => hc12)), (by omega), (by_take hB W), (by omega)⟩
 clear S0 S2 S3 S4 S5 S12 S13 Cp1 Cp2 hz hd HB
 rintro a W ⟨D, pl, i, hz, hd, HB, S0, S2, S4, S5, S12, S13, Cp1, Cp2, hp, hi, hD, hpl⟩
 obtain ⟨n, hn⟩ : ∃ n, (powV L i).getD 0 = n := ⟨_, rfl⟩
 have hn9 := powV_le (L := L) hi
 rw [hn] at hn9
 refine wp_seq ?_
 refine region_text (M := []) (
  rT (tV (.string (strB L))) ::
  rT (tV (.int .i64 ((i : Nat) : Int))) ::
  rT (tT [tV (.int .i64 (n)), tV (.bool (decide (powV L i ≠ none)))]) ::
  rT (tT [tV (.int .i64 (n)), tV (.bool (decide (powV L i ≠ none)))]) ::
  rT (tV (.int .i64 (n))) ::
  rT (tV (.bool (decide (powV L i ≠ none)))) ::
  rT (tV (.int .i64 (n))) ::
  rT (tV (.bool (decide (powV L i ≠ none)))) ::
  []) hz hd (by kernel_rfl) ?_ ?_
 refine ⟨?_, ?_, ?_, ?_, ?_, ?_, ?_, ?_, trivial⟩
 exact zMv hz (sv S0)
 exact zMv hz (sv S5)
 exact zC2 hz Tryz.func75 (sd 0 rfl) (sd 1 rfl) (k11 (fun _ => d_power_n hn hB hL hi))
 exact zMv hz (sd 2 rfl)
 exact zExt hz (sd 3 rfl)
 exact zExt hz (sd 3 rfl)
 exact zAs hz (sd 4 rfl)
 exact zAs hz (sd 5 rfl)
 intro a' γ' W' hz' hd' hC hk hh
 have tp1 := Cp1.lt
 replace Cp1 := kC hC Cp1
 replace Cp2 := kC hC Cp2
 clear S0
 replace S2 := kp hk S2
 replace S4 := kp hk S4
 clear S5
 replace S12 := kp hk S12
 replace S13 := kp hk S13
 have S15 := gotV hz' 6 hh rfl rfl rfl rfl
 have S16 := gotV hz' 7 hh rfl rfl rfl rfl
 clear tp1
 replace HB := aft_call HB (RelC.below_nil hC)
 clear hC hk hh; replace hz := hz'; replace hd := hd'; clear hz' hd'
 refine wp_seq ?_
 refine wp_seq ?_
 by_cases hc14 : powV L i ≠ none
 rw [decide_eq_true hc14] at S16
 refine region_text (M := []) (
  rT (tV (.bool true)) ::
  rT (tV (.bool false)) ::
  []) hz hd (by kernel_rfl) ?_ ?_
 refine ⟨?_, ?_, trivial⟩
 exact zMv hz (sv S16)
 exact zNot hz (sd 0 rfl)
 intro a' γ' W' hz' hd' hC hk hh
 have tp1 := Cp1.lt
 replace Cp1 := kC hC Cp1
 replace Cp2 := kC hC Cp2
 replace S2 := kp hk S2
 replace S4 := kp hk S4
 replace S12 := kp hk S12
 replace S13 := kp hk S13
 replace S15 := kp hk S15
 clear S16
 have S111 := gotV hz' 1 hh rfl rfl rfl rfl
 clear tp1
 replace HB := aft_call HB (RelC.below_nil hC)
 clear hC hk hh; replace hz := hz'; replace hd := hd'; clear hz' hd'
 refine wp_cond_false S111.ev ?_
 refine wp_skip ?_
 refine wp_seq ?_
 refine region_text (M := []) (
  rT (tV (.string (strB D))) ::
  rT (tT [tN B32 400 (parseV D), tV (.bool (decide (parseOk D = true)))]) ::
  rT (tT [tN B32 400 (parseV D), tV (.bool (decide (parseOk D = true)))]) ::
  rT (tN B32 400 (parseV D)) ::
  rT (tV (.bool (decide (parseOk D = true)))) ::
  rVar 5 30 1 ::
  rB 5 30 (tN B32 400 (parseV D)) (some 5) 6 ::
  rT (tV (.bool (decide (parseOk D = true)))) ::
  []) hz hd (by kernel_rfl) ?_ ?_
 refine ⟨?_, ?_, ?_, ?_, ?_, ?_, ?_, ?_, trivial⟩
 exact zMv hz (sv S12)
 exact zC1 hz Tryz.func74 (sd 0 rfl) (k1 (fun _ => d_parse_b hD))
 exact zMv hz (sd 1 rfl)
 exact zExt hz (sd 2 rfl)
 exact zExt hz (sd 2 rfl)
 exact zAl hz nd_slice al_n32
 exact zSt (sd 3 rfl) st_n32
 exact zAs hz (sd 4 rfl)
 intro a' γ' W' hz' hd' hC hk hh
 have ep1 := Cp1.lt
 have ep2 := Cp2.lt
 have tp1 := Cp1.lt
 replace Cp1 := kC hC Cp1
 clear Cp2
 replace S2 := kp hk S2
 clear S4
 clear S12
 replace S13 := kp hk S13
 replace S15 := kp hk S15
 clear S111
 obtain ⟨p15, S17, Cp15, lp15, gp15⟩ := gotB hz' 6 hC hh rfl rfl rfl rfl rfl rfl
 have n_p15_p1 : p15 ≠ p1 := by omega
 have n_p1_p15 : p1 ≠ p15 := by have := ep1; omega
 have bp15 : w.heap.size ≤ p15 := Nat.le_trans HB.size lp15
 clear lp15 gp15
 clear tp1
 clear ep1 ep2
 replace HB := aft_call HB (RelC.below_nil hC)
 clear hC hk hh; replace hz := hz'; replace hd := hd'; clear hz' hd'
 refine wp_seq ?_
 refine region_text (M := []) (
  rT (tV (.int .i64 ((pl : Nat) : Int))) ::
  rT (tN B32 1002 (10 ^ pl)) ::
  rVar 2 30 1 ::
  rB 2 30 (tN B32 1002 (10 ^ pl)) (some 2) 3 ::
  []) hz hd (by kernel_rfl) ?_ ?_
 refine ⟨?_, ?_, ?_, ?_, trivial⟩
 exact zMv hz (sv S13)
 exact zC1 hz Tryz.func76 (sd 0 rfl) (k1 (fun _ => d_ten_n (by omega)))
 exact zAl hz nd_slice al_n32
 exact zSt (sd 1 rfl) st_n32
 intro a' γ' W' hz' hd' hC hk hh
 have ep1 := Cp1.lt
 have ep15 := Cp15.lt
 have tp1 := Cp1.lt
 replace Cp1 := kC hC Cp1
 have tp15 := Cp15.lt
 replace Cp15 := kC hC Cp15
 replace S2 := kp hk S2
 clear S13
 replace S15 := kp hk S15
 replace S17 := kp hk S17
 obtain ⟨p16, S19, Cp16, lp16, gp16⟩ := gotB hz' 3 hC hh rfl rfl rfl rfl rfl rfl
 have n_p16_p1 : p16 ≠ p1 := by omega
 have n_p16_p15 : p16 ≠ p15 := by omega
 have n_p1_p16 : p1 ≠ p16 := by have := ep1; omega
 have n_p15_p16 : p15 ≠ p16 := by have := ep15; omega
 have bp16 : w.heap.size ≤ p16 := Nat.le_trans HB.size lp16
 clear lp16 gp16
 clear tp1 tp15
 clear ep1 ep15
 replace HB := aft_call HB (RelC.below_nil hC)
 clear hC hk hh; replace hz := hz'; replace hd := hd'; clear hz' hd'
 refine wp_seq ?_
 refine wp_seq ?_
 refine region_text (M := []) (
  rT (tV (.int .i64 (n))) ::
  rT (tV (.bool (decide (0 < n)))) ::
  []) hz hd (by kernel_rfl) ?_ ?_
 refine ⟨?_, ?_, trivial⟩
 exact zMv hz (sv S15)
 exact sBin rfl rfl rfl hz rfl (Gd.none_ rfl) rfl (sd 0 rfl) kc (fun w => z_gt0 w)
 intro a' γ' W' hz' hd' hC hk hh
 have tp1 := Cp1.lt
 replace Cp1 := kC hC Cp1
 have tp15 := Cp15.lt
 replace Cp15 := kC hC Cp15
 have tp16 := Cp16.lt
 replace Cp16 := kC hC Cp16
 replace S2 := kp hk S2
 replace S15 := kp hk S15
 replace S17 := kp hk S17
 replace S19 := kp hk S19
 have S121 := gotV hz' 1 hh rfl rfl rfl rfl
 clear tp1 tp15 tp16
 replace HB := aft_call HB (RelC.below_nil hC)
 clear hC hk hh; replace hz := hz'; replace hd := hd'; clear hz' hd'
 by_cases hc17 : 0 < n
 rw [decide_eq_true hc17] at S121
 refine wp_cond_true S121.ev ?_
 refine region_drawn (M := [p15]) (
  rT (tN B32 400 (parseV D)) ::
  rT (tV (.int .i64 (n))) ::
  rT (tN B32 1002 (10 ^ (n).toNat)) ::
  rT (tN B32 1402 ((parseV D) * (10 ^ (n).toNat))) ::
  rE 0 30 (tN B32 1402 ((parseV D) * (10 ^ (n).toNat))) p15 ::
  []) hz hd (by kernel_rfl) (by kernel_rfl) ?_ ?_
 refine ⟨?_, ?_, ?_, ?_, ?_, trivial⟩
 exact sLoadM rfl rfl rfl hz rfl (Gd.none_ rfl) rfl (sv S17) Cp15 (k := 0) (by simp [tagOf]) (by kernel_rfl) ld_n32
 exact zMv hz (sv S15)
 exact zC1 hz Tryz.func76 (sd 1 rfl) (k1 (fun _ => d_ten_z (z := n) (by omega) (by omega)))
 exact zC2 hz Tryz.func63 (sd 0 rfl) (sd 2 rfl) (fun _ _ _ h0 h1 => d_mul h0 h1 (by decide) (by decide))
 exact zSE rfl (sv S17) (by simp [tagOf]) (Cp15.var tN_nd) (sd 3 rfl) st_n32
 intro a' γ' W' hz' hd' hC hk hh
 have tp1 := Cp1.lt
 replace Cp1 := kC hC Cp1 (by simp [tagOf, n_p1_p15])
 replace Cp15 := gotE (T := tN B32 1402 ((parseV D) * (10 ^ (n).toNat))) (id := 30) (p := p15) 4 hh rfl rfl
 have tp16 := Cp16.lt
 replace Cp16 := kC hC Cp16 (by simp [tagOf, n_p16_p15])
 replace S2 := kp hk S2
 clear S15
 replace S17 := kp hk S17
 replace S19 := kp hk S19
 clear S121
 clear tp1 tp16
 replace HB := RelC.aftM HB hC (by intro m hm; simp at hm; rcases hm with rfl <;> assumption)
 clear hC hk hh; replace hz := hz'; replace hd := hd'; clear hz' hd'
 refine wp_seq ?_
 refine region_text (M := []) (
  rT (tN B32 1402 ((parseV D) * (10 ^ (n).toNat))) ::
  rT (tN B32 1002 (10 ^ pl)) ::
  rT (tT [tQ B32 l (mkRat (((parseV D) * (10 ^ (n).toNat) : Nat) : Int) (10 ^ pl)), tV (.bool (decide (10 ^ pl ≠ 0)))]) ::
  rT (tT [tQ B32 l (mkRat (((parseV D) * (10 ^ (n).toNat) : Nat) : Int) (10 ^ pl)), tV (.bool (decide (10 ^ pl ≠ 0)))]) ::
  rT (tQ B32 l (mkRat (((parseV D) * (10 ^ (n).toNat) : Nat) : Int) (10 ^ pl))) ::
  rT (tV (.bool (decide (10 ^ pl ≠ 0)))) ::
  rVar 6 32 2 ::
  rB 6 32 (tQ B32 l (mkRat (((parseV D) * (10 ^ (n).toNat) : Nat) : Int) (10 ^ pl))) (some 6) 7 ::
  rT (tV (.bool (decide (10 ^ pl ≠ 0)))) ::
  []) hz hd (by kernel_rfl) ?_ ?_
 refine ⟨?_, ?_, ?_, ?_, ?_, ?_, ?_, ?_, ?_, trivial⟩
 exact zLd hz (sv S17) Cp15 ld_n32
 exact zLd hz (sv S19) Cp16 ld_n32
 exact zC2 hz Tryz.func15 (sd 0 rfl) (sd 1 rfl) (fun _ _ _ h0 h1 => dq_from (l := l) h0 h1 (by decide) (by decide) ((pd_bp hl).resolve_right (by omega)) (ten_bits (by omega)) (by omega))
 exact zMv hz (sd 2 rfl)
 exact zExt hz (sd 3 rfl)
 exact zExt hz (sd 3 rfl)
 exact zAl hz nd_rat al_r32
 exact zSt (sd 4 rfl) st_q32
 exact zAs hz (sd 5 rfl)
 intro a' γ' W' hz' hd' hC hk hh
 have tp1 := Cp1.lt
 replace Cp1 := kC hC Cp1
 have tp15 := Cp15.lt
 clear Cp15
 have tp16 := Cp16.lt
 clear Cp16
 replace S2 := kp hk S2
 clear S17
 clear S19
 obtain ⟨p18, S20, Cp18, lp18, gp18⟩ := gotB hz' 7 hC hh rfl rfl rfl rfl rfl rfl
 have n_p18_p1 : p18 ≠ p1 := by omega
 clear lp18 gp18
 clear tp1 tp15 tp16
 replace HB := aft_call HB (RelC.below_nil hC)
 clear hC hk hh; replace hz := hz'; replace hd := hd'; clear hz' hd'
 refine wp_seq ?_
 refine region_text (M := [p1]) (
  rT (tQ B32 l (mkRat (((parseV D) * (10 ^ (n).toNat) : Nat) : Int) (10 ^ pl))) ::
  rE 0 32 (tQ B32 l (mkRat (((parseV D) * (10 ^ (n).toNat) : Nat) : Int) (10 ^ pl))) p1 ::
  rT (tV (.int .i64 0)) ::
  []) hz hd (by kernel_rfl) ?_ ?_
 refine ⟨?_, ?_, ?_, trivial⟩
 exact zLd hz (sv S20) Cp18 ld_q32 (by simp [tagOf, n_p18_p1])
 exact zSE rfl (sv S2) (by simp [tagOf]) (Cp1.var tR_nd) (sd 0 rfl) st_q32
 exact zAs hz kc
 intro a' γ' W' hz' hd' hC hk hh
 replace Cp1 := gotE (T := tQ B32 l (mkRat (((parseV D) * (10 ^ (n).toNat) : Nat) : Int) (10 ^ pl))) (id := 32) (p := p1) 1 hh rfl rfl
 clear Cp18
 replace S2 := kp hk S2
 clear S20
 have S3 := gotV hz' 2 hh rfl rfl rfl rfl
 replace HB := RelC.aftM HB hC (by intro m hm; simp at hm; rcases hm with rfl <;> assumption)
 clear hC hk hh; replace hz := hz'; replace hd := hd'; clear hz' hd'
 refine wp_ret ?_
 refine ret_to (T := tT [tQ B32 l (mkRat (((parseV D) * (10 ^ (n).toNat) : Nat) : Int) (10 ^ pl)), tV (.int .i64 0)]) (retct_q32 (by kernel_rfl) S2 S3 hd Cp1 HB) ?_
 exact pd_to (pd_yes hp hc14 hn) (sc_pos hc17) rfl (by omega)
 rw [decide_eq_false hc17] at S121
 refine wp_cond_false S121.ev ?_
 refine region_drawn (M := [p16]) (
  rT (tN B32 1002 (10 ^ pl)) ::
  rT (tV (.int .i64 (n))) ::
  rT (tV (.int .i64 (-n))) ::
  rT (tN B32 1002 (10 ^ (-n).toNat)) ::
  rT (tN B32 2004 ((10 ^ pl) * (10 ^ (-n).toNat))) ::
  rE 0 30 (tN B32 2004 ((10 ^ pl) * (10 ^ (-n).toNat))) p16 ::
  []) hz hd (by kernel_rfl) (by kernel_rfl) ?_ ?_
 refine ⟨?_, ?_, ?_, ?_, ?_, ?_, trivial⟩
 exact sLoadM rfl rfl rfl hz rfl (Gd.none_ rfl) rfl (sv S19) Cp16 (k := 0) (by simp [tagOf]) (by kernel_rfl) ld_n32
 exact zMv hz (sv S15)
 exact sUn rfl rfl rfl hz rfl (Gd.none_ rfl) rfl (sd 1 rfl) (fun w => f_negz hn9 w)
 exact zC1 hz Tryz.func76 (sd 2 rfl) (k1 (fun _ => d_ten_z (z := -n) (by omega) (by omega)))
 exact zC2 hz Tryz.func63 (sd 0 rfl) (sd 3 rfl) (fun _ _ _ h0 h1 => d_mul h0 h1 (by decide) (by decide))
 exact zSE rfl (sv S19) (by simp [tagOf]) (Cp16.var tN_nd) (sd 4 rfl) st_n32
 intro a' γ' W' hz' hd' hC hk hh
 have tp1 := Cp1.lt
 replace Cp1 := kC hC Cp1 (by simp [tagOf, n_p1_p16])
 have tp15 := Cp15.lt
 replace Cp15 := kC hC Cp15 (by simp [tagOf, n_p15_p16])
 replace Cp16 := gotE (T := tN B32 2004 ((10 ^ pl) * (10 ^ (-n).toNat))) (id := 30) (p := p16) 5 hh rfl rfl
 replace S2 := kp hk S2
 clear S15
 replace S17 := kp hk S17
 replace S19 := kp hk S19
 clear S121
 clear tp1 tp15
 replace HB := RelC.aftM HB hC (by intro m hm; simp at hm; rcases hm with rfl <;> assumption)
 clear hC hk hh; replace hz := hz'; replace hd := hd'; clear hz' hd'
 refine wp_seq ?_
 refine region_text (M := []) (
  rT (tN B32 400 (parseV D)) ::
  rT (tN B32 2004 ((10 ^ pl) * (10 ^ (-n).toNat))) ::
  rT (tT [tQ B32 l (mkRat ((parseV D : Nat) : Int) ((10 ^ pl) * (10 ^ (-n).toNat))), tV (.bool (decide ((10 ^ pl) * (10 ^ (-n).toNat) ≠ 0)))]) ::
  rT (tT [tQ B32 l (mkRat ((parseV D : Nat) : Int) ((10 ^ pl) * (10 ^ (-n).toNat))), tV (.bool (decide ((10 ^ pl) * (10 ^ (-n).toNat) ≠ 0)))]) ::
  rT (tQ B32 l (mkRat ((parseV D : Nat) : Int) ((10 ^ pl) * (10 ^ (-n).toNat)))) ::
  rT (tV (.bool (decide ((10 ^ pl) * (10 ^ (-n).toNat) ≠ 0)))) ::
  rVar 6 32 2 ::
  rB 6 32 (tQ B32 l (mkRat ((parseV D : Nat) : Int) ((10 ^ pl) * (10 ^ (-n).toNat)))) (some 6) 7 ::
  rT (tV (.bool (decide ((10 ^ pl) * (10 ^ (-n).toNat) ≠ 0)))) ::
  []) hz hd (by kernel_rfl) ?_ ?_
 refine ⟨?_, ?_, ?_, ?_, ?_, ?_, ?_, ?_, ?_, trivial⟩
 exact zLd hz (sv S17) Cp15 ld_n32
 exact zLd hz (sv S19) Cp16 ld_n32
 exact zC2 hz Tryz.func15 (sd 0 rfl) (sd 1 rfl) (fun _ _ _ h0 h1 => dq_from (l := l) h0 h1 (by decide) (by decide) (parse_bits (by omega)) ((pd_bq hl).resolve_right (by omega)) (by omega))
 exact zMv hz (sd 2 rfl)
 exact zExt hz (sd 3 rfl)
 exact zExt hz (sd 3 rfl)
 exact zAl hz nd_rat al_r32
 exact zSt (sd 4 rfl) st_q32
 exact zAs hz (sd 5 rfl)
 intro a' γ' W' hz' hd' hC hk hh
 have tp1 := Cp1.lt
 replace Cp1 := kC hC Cp1
 have tp15 := Cp15.lt
 clear Cp15
 have tp16 := Cp16.lt
 clear Cp16
 replace S2 := kp hk S2
 clear S17
 clear S19
 obtain ⟨p19, S20, Cp19, lp19, gp19⟩ := gotB hz' 7 hC hh rfl rfl rfl rfl rfl rfl
 have n_p19_p1 : p19 ≠ p1 := by omega
 clear lp19 gp19
 clear tp1 tp15 tp16
 replace HB := aft_call HB (RelC.below_nil hC)
 clear hC hk hh; replace hz := hz'; replace hd := hd'; clear hz' hd'
 refine wp_seq ?_
 refine region_text (M := [p1]) (
  rT (tQ B32 l (mkRat ((parseV D : Nat) : Int) ((10 ^ pl) * (10 ^ (-n).toNat)))) ::
  rE 0 32 (tQ B32 l (mkRat ((parseV D : Nat) : Int) ((10 ^ pl) * (10 ^ (-n).toNat)))) p1 ::
  rT (tV (.int .i64 0)) ::
  []) hz hd (by kernel_rfl) ?_ ?_
 refine ⟨?_, ?_, ?_, trivial⟩
 exact zLd hz (sv S20) Cp19 ld_q32 (by simp [tagOf, n_p19_p1])
 exact zSE rfl (sv S2) (by simp [tagOf]) (Cp1.var tR_nd) (sd 0 rfl) st_q32
 exact zAs hz kc
 intro a' γ' W' hz' hd' hC hk hh
 replace Cp1 := gotE (T := tQ B32 l (mkRat ((parseV D : Nat) : Int) ((10 ^ pl) * (10 ^ (-n).toNat)))) (id := 32) (p := p1) 1 hh rfl rfl
 clear Cp19
 replace S2 := kp hk S2
 clear S20
 have S3 := gotV hz' 2 hh rfl rfl rfl rfl
 replace HB := RelC.aftM HB hC (by intro m hm; simp at hm; rcases hm with rfl <;> assumption)
 clear hC hk hh; replace hz := hz'; replace hd := hd'; clear hz' hd'
 refine wp_ret ?_
 refine ret_to (T := tT [tQ B32 l (mkRat ((parseV D : Nat) : Int) ((10 ^ pl) * (10 ^ (-n).toNat))), tV (.int .i64 0)]) (retct_q32 (by kernel_rfl) S2 S3 hd Cp1 HB) ?_
 exact pd_to (pd_yes hp hc14 hn) (sc_neg hc17) rfl (by omega)
 rw [decide_eq_false hc14] at S16
 refine region_text (M := []) (
  rT (tV (.bool false)) ::
  rT (tV (.bool true)) ::
  []) hz hd (by kernel_rfl) ?_ ?_
 refine ⟨?_, ?_, trivial⟩
 exact zMv hz (sv S16)
 exact zNot hz (sd 0 rfl)
 intro a' γ' W' hz' hd' hC hk hh
 have tp1 := Cp1.lt
 replace Cp1 := kC hC Cp1
 replace Cp2 := kC hC Cp2
 replace S2 := kp hk S2
 replace S4 := kp hk S4
 replace S12 := kp hk S12
 replace S13 := kp hk S13
 replace S15 := kp hk S15
 clear S16
 have S111 := gotV hz' 1 hh rfl rfl rfl rfl
 clear tp1
 replace HB := aft_call HB (RelC.below_nil hC)
 clear hC hk hh; replace hz := hz'; replace hd := hd'; clear hz' hd'
 refine wp_cond_true S111.ev ?_
 refine wp_seq ?_
 refine region_text (M := [p1]) (
  rT (tQ B32 1 0) ::
  rE 0 32 (tQ B32 1 0) p1 ::
  rT (tV (.int .i64 30)) ::
  []) hz hd (by kernel_rfl) ?_ ?_
 refine ⟨?_, ?_, ?_, trivial⟩
 exact zLd hz (sv S4) Cp2 ld_q32 (by simp [tagOf, n_p2_p1])
 exact zSE rfl (sv S2) (by simp [tagOf]) (Cp1.var tR_nd) (sd 0 rfl) st_q32
 exact zAs hz kc
 intro a' γ' W' hz' hd' hC hk hh
 replace Cp1 := gotE (T := tQ B32 1 0) (id := 32) (p := p1) 1 hh rfl rfl
 clear Cp2
 replace S2 := kp hk S2
 clear S4
 replace S12 := kp hk S12
 replace S13 := kp hk S13
 replace S15 := kp hk S15
 clear S111
 have S3 := gotV hz' 2 hh rfl rfl rfl rfl
 replace HB := RelC.aftM HB hC (by intro m hm; simp at hm; rcases hm with rfl <;> assumption)
 clear hC hk hh; replace hz := hz'; replace hd := hd'; clear hz' hd'
 refine wp_ret ?_
 refine ret_to (T := tT [tQ B32 1 0, tV (.int .i64 30)]) (retct_q32 (by kernel_rfl) S2 S3 hd Cp1 HB) ?_
 exact pd_to (pd_no hp hc14) rfl rfl (by omega)
 refine region_text (M := []) (
  rT (tV (.int .i64 ((W : Nat) : Int))) ::
  rT (tV (.string (strB L))) ::
  rT (tV (.int .i64 ((L.length : Nat) : Int))) ::
  rT (tV (.bool false)) ::
  rT (tV (.bool false)) ::
  rT (tV undef) ::
  rT (tV undef) ::
  rT (tV undef) ::
  rT (tV undef) ::
  rT (tV (.bool false)) ::
  []) hz hd (by kernel_rfl) ?_ ?_
 refine ⟨?_, ?_, ?_, ?_, ?_, ?_, ?_, ?_, ?_, ?_, trivial⟩
 exact zMv hz (sv S5)
 exact zMv hz (sv S0)
 exact zB1len hz rfl (sd 1 rfl) (fun w => s_len w)
 exact sBin rfl rfl rfl hz rfl (Gd.none_ rfl) rfl (sd 0 rfl) (sd 2 rfl) (fun w => run_f (P := W < L.length) ((fun w => n_lt w) w) hc5)
 exact zMv hz (sd 3 rfl)
 exact zSkU hz (gN 4 rfl)
 exact zSkU hz (gN 4 rfl)
 exact zSkU hz (gN 4 rfl)
 exact zSkU hz (gN 4 rfl)
 exact zPF hz (sd 4 rfl) kc
 intro a' γ' W' hz' hd' hC hk hh
 have tp1 := Cp1.lt
 replace Cp1 := kC hC Cp1
 replace Cp2 := kC hC Cp2
 replace S0 := kp hk S0
 replace S2 := kp hk S2
 replace S3 := kp hk S3
 replace S4 := kp hk S4
 replace S5 := kp hk S5
 clear S31
 have S42 := gotV hz' 9 hh rfl rfl rfl rfl
 clear tp1
 replace HB := aft_call HB (RelC.below_nil hC)
 clear hC hk hh; replace hz := hz'; replace hd := hd'; clear hz' hd'
 refine wp_cond_false S42.ev ?_
 refine wp_skip ?_
 refine wp_seq ?_
 refine region_text (M := []) (
  rT (tV (.string (strB L))) ::
  rT (tV (.int .i64 ((W : Nat) : Int))) ::
  rT (tV (.string (strB (L.take W)))) ::
  rT (tV (.string (strB (L.take W)))) ::
  []) hz hd (by kernel_rfl) ?_ ?_
 refine ⟨?_, ?_, ?_, ?_, trivial⟩
 exact zMv hz (sv S0)
 exact zMv hz (sv S5)
 exact zSlTo hz rfl (sd 0 rfl) (sd 1 rfl) (fun w => s_to (by omega) w)
 exact zAs hz (sd 2 rfl)
 intro a' γ' W' hz' hd' hC hk hh
 have tp1 := Cp1.lt
 replace Cp1 := kC hC Cp1
 replace Cp2 := kC hC Cp2
 replace S0 := kp hk S0
 replace S2 := kp hk S2
 replace S3 := kp hk S3
 replace S4 := kp hk S4
 replace S5 := kp hk S5
 clear S42
 have S12 := gotV hz' 3 hh rfl rfl rfl rfl
 clear tp1
 replace HB := aft_call HB (RelC.below_nil hC)
 clear hC hk hh; replace hz := hz'; replace hd := hd'; clear hz' hd'
 refine wp_seq ?_
 refine region_text (M := []) (
  rT (tV (.int .i64 0)) ::
  []) hz hd (by kernel_rfl) ?_ ?_
 refine ⟨?_, trivial⟩
 exact zAs hz kc
 intro a' γ' W' hz' hd' hC hk hh
 have tp1 := Cp1.lt
 replace Cp1 := kC hC Cp1
 replace Cp2 := kC hC Cp2
 replace S0 := kp hk S0
 replace S2 := kp hk S2
 replace S3 := kp hk S3
 replace S4 := kp hk S4
 replace S5 := kp hk S5
 replace S12 := kp hk S12
 have S13 := gotV hz' 0 hh rfl rfl rfl rfl
 clear tp1
 replace HB := aft_call HB (RelC.below_nil hC)
 clear hC hk hh; replace hz := hz'; replace hd := hd'; clear hz' hd'
 refine wp_join (fun a W => ∃ (D : List Nat) (pl : Nat) (i : Nat), a.tmps.size = 138 ∧ a.defers = [] ∧ Below w.heap.size w W ∧ Sl a 0 (.string (strB L)) ∧ Sl a 2 (.pointer (some ⟨p1, 0, none⟩)) ∧ Sl a 4 (.pointer (some ⟨p2, 0, none⟩)) ∧ Sl a 5 (.int .i64 ((i : Nat) : Int)) ∧ Sl a 12 (.string (strB D)) ∧ Sl a 13 (.int .i64 ((pl : Nat) : Int)) ∧ Cell 32 (tR B32 0 0 0 0) p1 W ∧ Cell 32 (tQ B32 1 0) p2 W ∧ PwIs L D pl i ∧ i ≤ L.length ∧ (∀ d ∈ D, d < 256) ∧ pl ≤ 400) ?_ ?_
 refine wp_seq ?_
 refine region_text (M := []) (
  rT (tV (.int .i64 ((W : Nat) : Int))) ::
  rT (tV (.string (strB L))) ::
  rT (tV (.int .i64 ((L.length : Nat) : Int))) ::
  rT (tV (.bool false)) ::
  rT (tV (.bool false)) ::
  rT (tV undef) ::
  rT (tV undef) ::
  rT (tV undef) ::
  rT (tV undef) ::
  rT (tV (.bool false)) ::
  []) hz hd (by kernel_rfl) ?_ ?_
 refine ⟨?_, ?_, ?_, ?_, ?_, ?_, ?_, ?_, ?_, ?_, trivial⟩
 exact zMv hz (sv S5)
 exact zMv hz (sv S0)
 exact zB1len hz rfl (sd 1 rfl) (fun w => s_len w)
 exact sBin rfl rfl rfl hz rfl (Gd.none_ rfl) rfl (sd 0 rfl) (sd 2 rfl) (fun w => run_f (P := W < L.length) ((fun w => n_lt w) w) hc5)
 exact zMv hz (sd 3 rfl)
 exact zSkU hz (gN 4 rfl)
 exact zSkU hz (gN 4 rfl)
 exact zSkU hz (gN 4 rfl)
 exact zSkU hz (gN 4 rfl)
 exact zPF hz (sd 4 rfl) kc
 intro a' γ' W' hz' hd' hC hk hh
 have tp1 := Cp1.lt
 replace Cp1 := kC hC Cp1
 replace Cp2 := kC hC Cp2
 replace S0 := kp hk S0
 replace S2 := kp hk S2
 replace S3 := kp hk S3
 replace S4 := kp hk S4
 replace S5 := kp hk S5
 replace S12 := kp hk S12
 replace S13 := kp hk S13
 have S84 := gotV hz' 9 hh rfl rfl rfl rfl
 clear tp1
 replace HB := aft_call HB (RelC.below_nil hC)
 clear hC hk hh; replace hz := hz'; replace hd := hd'; clear hz' hd'
 refine wp_cond_false S84.ev ?_
 refine wp_skip ?_
 refine join_n ?_
 exact ⟨(L.take W), 0, W, hz, hd, HB, S0, S2, S4, S5, S12, S13, Cp1, Cp2, (pd_whole eW hc3 hc4 (fun h => absurd h hc5) (fun h => absurd h hc5)), (by omega), (by_take hB W), (by omega)⟩
 clear S0 S2 S3 S4 S5 S12 S13 Cp1 Cp2 hz hd HB
 rintro a W ⟨D, pl, i, hz, hd, HB, S0, S2, S4, S5, S12, S13, Cp1, Cp2, hp, hi, hD, hpl⟩
 obtain ⟨n, hn⟩ : ∃ n, (powV L i).getD 0 = n := ⟨_, rfl⟩
 have hn9 := powV_le (L := L) hi
 rw [hn] at hn9
 refine wp_seq ?_
 refine region_text (M := []) (
  rT (tV (.string (strB L))) ::
  rT (tV (.int .i64 ((i : Nat) : Int))) ::
  rT (tT [tV (.int .i64 (n)), tV (.bool (decide (powV L i ≠ none)))]) ::
  rT (tT [tV (.int .i64 (n)), tV (.bool (decide (powV L i ≠ none)))]) ::
  rT (tV (.int .i64 (n))) ::
  rT (tV (.bool (decide (powV L i ≠ none)))) ::
  rT (tV (.int .i64 (n))) ::
  rT (tV (.bool (decide (powV L i ≠ none)))) ::
  []) hz hd (by kernel_rfl) ?_ ?_
 refine ⟨?_, ?_, ?_, ?_, ?_, ?_, ?_, ?_, trivial⟩
 exact zMv hz (sv S0)
 exact zMv hz (sv S5)
 exact zC2 hz Tryz.func75 (sd 0 rfl) (sd 1 rfl) (k11 (fun _ => d_power_n hn hB hL hi))
 exact zMv hz (sd 2 rfl)
 exact zExt hz (sd 3 rfl)
 exact zExt hz (sd 3 rfl)
 exact zAs hz (sd 4 rfl)
 exact zAs hz (sd 5 rfl)
 intro a' γ' W' hz' hd' hC hk hh
 have tp1 := Cp1.lt
 replace Cp1 := kC hC Cp1
 replace Cp2 := kC hC Cp2
 clear S0
 replace S2 := kp hk S2
 replace S4 := kp hk S4
 clear S5
 replace S12 := kp hk S12
 replace S13 := kp hk S13
 have S15 := gotV hz' 6 hh rfl rfl rfl rfl
 have S16 := gotV hz' 7 hh rfl rfl rfl rfl
 clear tp1
 replace HB := aft_call HB (RelC.below_nil hC)
 clear hC hk hh; replace hz := hz'; replace hd := hd'; clear hz' hd'
 refine wp_seq ?_
 refine wp_seq ?_
 by_cases hc20 : powV L i ≠ none
 rw [decide_eq_true hc20] at S16
 refine region_text (M := []) (
  rT (tV (.bool true)) ::
  rT (tV (.bool false)) ::
  []) hz hd (by kernel_rfl) ?_ ?_
 refine ⟨?_, ?_, trivial⟩
 exact zMv hz (sv S16)
 exact zNot hz (sd 0 rfl)
 intro a' γ' W' hz' hd' hC hk hh
 have tp1 := Cp1.lt
 replace Cp1 := kC hC Cp1
 replace Cp2 := kC hC Cp2
 replace S2 := kp hk S2
 replace S4 := kp hk S4
 replace S12 := kp hk S12
 replace S13 := kp hk S13
 replace S15 := kp hk S15
 clear S16
 have S111 := gotV hz' 1 hh rfl rfl rfl rfl
 clear tp1
 replace HB := aft_call HB (RelC.below_nil hC)
 clear hC hk hh; replace hz := hz'; replace hd := hd'; clear hz' hd'
 refine wp_cond_false S111.ev ?_
 refine wp_skip ?_
 refine wp_seq ?_
 refine region_text (M := []) (
  rT (tV (.string (strB D))) ::
  rT (tT [tN B32 400 (parseV D), tV (.bool (decide (parseOk D = true)))]) ::
  rT (tT [tN B32 400 (parseV D), tV (.bool (decide (parseOk D = true)))]) ::
  rT (tN B32 400 (parseV D)) ::
  rT (tV (.bool (decide (parseOk D = true)))) ::
  rVar 5 30 1 ::
  rB 5 30 (tN B32 400 (parseV D)) (some 5) 6 ::
  rT (tV (.bool (decide (parseOk D = true)))) ::
  []) hz hd (by kernel_rfl) ?_ ?_
 refine ⟨?_, ?_, ?_, ?_, ?_, ?_, ?_, ?_, trivial⟩
 exact zMv hz (sv S12)
 exact zC1 hz Tryz.func74 (sd 0 rfl) (k1 (fun _ => d_parse_b hD))
 exact zMv hz (sd 1 rfl)
 exact zExt hz (sd 2 rfl)
 exact zExt hz (sd 2 rfl)
 exact zAl hz nd_slice al_n32
 exact zSt (sd 3 rfl) st_n32
 exact zAs hz (sd 4 rfl)
 intro a' γ' W' hz' hd' hC hk hh
 have ep1 := Cp1.lt
 have ep2 := Cp2.lt
 have tp1 := Cp1.lt
 replace Cp1 := kC hC Cp1
 clear Cp2
 replace S2 := kp hk S2
 clear S4
 clear S12
 replace S13 := kp hk S13
 replace S15 := kp hk S15
 clear S111
 obtain ⟨p21, S17, Cp21, lp21, gp21⟩ := gotB hz' 6 hC hh rfl rfl rfl rfl rfl rfl
 have n_p21_p1 : p21 ≠ p1 := by omega
 have n_p1_p21 : p1 ≠ p21 := by have := ep1; omega
 have bp21 : w.heap.size ≤ p21 := Nat.le_trans HB.size lp21
 clear lp21 gp21
 clear tp1
 clear ep1 ep2
 replace HB := aft_call HB (RelC.below_nil hC)
 clear hC hk hh; replace hz := hz'; replace hd := hd'; clear hz' hd'
 refine wp_seq ?_
 refine region_text (M := []) (
  rT (tV (.int .i64 ((pl : Nat) : Int))) ::
  rT (tN B32 1002 (10 ^ pl)) ::
  rVar 2 30 1 ::
  rB 2 30 (tN B32 1002 (10 ^ pl)) (some 2) 3 ::
  []) hz hd (by kernel_rfl) ?_ ?_
 refine ⟨?_, ?_, ?_, ?_, trivial⟩
 exact zMv hz (sv S13)
 exact zC1 hz Tryz.func76 (sd 0 rfl) (k1 (fun _ => d_ten_n (by omega)))
 exact zAl hz nd_slice al_n32
 exact zSt (sd 1 rfl) st_n32
 intro a' γ' W' hz' hd' hC hk hh
 have ep1 := Cp1.lt
 have ep21 := Cp21.lt
 have tp1 := Cp1.lt
 replace Cp1 := kC hC Cp1
 have tp21 := Cp21.lt
 replace Cp21 := kC hC Cp21
 replace S2 := kp hk S2
 clear S13
 replace S15 := kp hk S15
 replace S17 := kp hk S17
 obtain ⟨p22, S19, Cp22, lp22, gp22⟩ := gotB hz' 3 hC hh rfl rfl rfl rfl rfl rfl
 have n_p22_p1 : p22 ≠ p1 := by omega
 have n_p22_p21 : p22 ≠ p21 := by omega
 have n_p1_p22 : p1 ≠ p22 := by have := ep1; omega
 have n_p21_p22 : p21 ≠ p22 := by have := ep21; omega
 have bp22 : w.heap.size ≤ p22 := Nat.le_trans HB.size lp22
 clear lp22 gp22
 clear tp1 tp21
 clear ep1 ep21
 replace HB := aft_call HB (RelC.below_nil hC)
 clear hC hk hh; replace hz := hz'; replace hd := hd'; clear hz' hd'
 refine wp_seq ?_
 refine wp_seq ?_
 refine region_text (M := []) (
  rT (tV (.int .i64 (n))) ::
  rT (tV (.bool (decide (0 < n)))) ::
  []) hz hd (by kernel_rfl) ?_ ?_
 refine ⟨?_, ?_, trivial⟩
 exact zMv hz (sv S15)
 exact sBin rfl rfl rfl hz rfl (Gd.none_ rfl) rfl (sd 0 rfl) kc (fun w => z_gt0 w)
 intro a' γ' W' hz' hd' hC hk hh
 have tp1 := Cp1.lt
 replace Cp1 := kC hC Cp1
 have tp21 := Cp21.lt
 replace Cp21 := kC hC Cp21
 have tp22 := Cp22.lt
 replace Cp22 := kC hC Cp22
 replace S2 := kp hk S2
 replace S15 := kp hk S15
 replace S17 := kp hk S17
 replace S19 := kp hk S19
 have S121 := gotV hz' 1 hh rfl rfl rfl rfl
 clear tp1 tp21 tp22
 replace HB := aft_call HB (RelC.below_nil hC)
 clear hC hk hh; replace hz := hz'; replace hd := hd'; clear hz' hd'
 by_cases hc23 : 0 < n
 rw [decide_eq_true hc23] at S121
 refine wp_cond_true S121.ev ?_
 refine region_drawn (M := [p21]) (
  rT (tN B32 400 (parseV D)) ::
  rT (tV (.int .i64 (n))) ::
  rT (tN B32 1002 (10 ^ (n).toNat)) ::
  rT (tN B32 1402 ((parseV D) * (10 ^ (n).toNat))) ::
  rE 0 30 (tN B32 1402 ((parseV D) * (10 ^ (n).toNat))) p21 ::
  []) hz hd (by kernel_rfl) (by kernel_rfl) ?_ ?_
 refine ⟨?_, ?_, ?_, ?_, ?_, trivial⟩
 exact sLoadM rfl rfl rfl hz rfl (Gd.none_ rfl) rfl (sv S17) Cp21 (k := 0) (by simp [tagOf]) (by kernel_rfl) ld_n32
 exact zMv hz (sv S15)
 exact zC1 hz Tryz.func76 (sd 1 rfl) (k1 (fun _ => d_ten_z (z := n) (by omega) (by omega)))
 exact zC2 hz Tryz.func63 (sd 0 rfl) (sd 2 rfl) (fun _ _ _ h0 h1 => d_mul h0 h1 (by decide) (by decide))
 exact zSE rfl (sv S17) (by simp [tagOf]) (Cp21.var tN_nd) (sd 3 rfl) st_n32
 intro a' γ' W' hz' hd' hC hk hh
 have tp1 := Cp1.lt
 replace Cp1 := kC hC Cp1 (by simp [tagOf, n_p1_p21])
 replace Cp21 := gotE (T := tN B32 1402 ((parseV D) * (10 ^ (n).toNat))) (id := 30) (p := p21) 4 hh rfl rfl
 have tp22 := Cp22.lt
 replace Cp22 := kC hC Cp22 (by simp [tagOf, n_p22_p21])
 replace S2 := kp hk S2
 clear S15
 replace S17 := kp hk S17
 replace S19 := kp hk S19
 clear S121
 clear tp1 tp22
 replace HB := RelC.aftM HB hC (by intro m hm; simp at hm; rcases hm with rfl <;> assumption)
 clear hC hk hh; replace hz := hz'; replace hd := hd'; clear hz' hd'
 refine wp_seq ?_
 refine region_text (M := []) (
  rT (tN B32 1402 ((parseV D) * (10 ^ (n).toNat))) ::
  rT (tN B32 1002 (10 ^ pl)) ::
  rT (tT [tQ B32 l (mkRat (((parseV D) * (10 ^ (n).toNat) : Nat) : Int) (10 ^ pl)), tV (.bool (decide (10 ^ pl ≠ 0)))]) ::
  rT (tT [tQ B32 l (mkRat (((parseV D) * (10 ^ (n).toNat) : Nat) : Int) (10 ^ pl)), tV (.bool (decide (10 ^ pl ≠ 0)))]) ::
  rT (tQ B32 l (mkRat (((parseV D) * (10 ^ (n).toNat) : Nat) : Int) (10 ^ pl))) ::
  rT (tV (.bool (decide (10 ^ pl ≠ 0)))) ::
  rVar 6 32 2 ::
  rB 6 32 (tQ B32 l (mkRat (((parseV D) * (10 ^ (n).toNat) : Nat) : Int) (10 ^ pl))) (some 6) 7 ::
  rT (tV (.bool (decide (10 ^ pl ≠ 0)))) ::
  []) hz hd (by kernel_rfl) ?_ ?_
 refine ⟨?_, ?_, ?_, ?_, ?_, ?_, ?_, ?_, ?_, trivial⟩
 exact zLd hz (sv S17) Cp21 ld_n32
 exact zLd hz (sv S19) Cp22 ld_n32
 exact zC2 hz Tryz.func15 (sd 0 rfl) (sd 1 rfl) (fun _ _ _ h0 h1 => dq_from (l := l) h0 h1 (by decide) (by decide) ((pd_bp hl).resolve_right (by omega)) (ten_bits (by omega)) (by omega))
 exact zMv hz (sd 2 rfl)
 exact zExt hz (sd 3 rfl)
 exact zExt hz (sd 3 rfl)
 exact zAl hz nd_rat al_r32
 exact zSt (sd 4 rfl) st_q32
 exact zAs hz (sd 5 rfl)
 intro a' γ' W' hz' hd' hC hk hh
 have tp1 := Cp1.lt
 replace Cp1 := kC hC Cp1
 have tp21 := Cp21.lt
 clear Cp21
 have tp22 := Cp22.lt
 clear Cp22
 replace S2 := kp hk S2
 clear S17
 clear S19
 obtain ⟨p24, S20, Cp24, lp24, gp24⟩ := gotB hz' 7 hC hh rfl rfl rfl rfl rfl rfl
 have n_p24_p1 : p24 ≠ p1 := by omega
 clear lp24 gp24
 clear tp1 tp21 tp22
 replace HB := aft_call HB (RelC.below_nil hC)
 clear hC hk hh; replace hz := hz'; replace hd := hd'; clear hz' hd'
 refine wp_seq ?_
 refine region_text (M := [p1]) (
  rT (tQ B32 l (mkRat (((parseV D) * (10 ^ (n).toNat) : Nat) : Int) (10 ^ pl))) ::
  rE 0 32 (tQ B32 l (mkRat (((parseV D) * (10 ^ (n).toNat) : Nat) : Int) (10 ^ pl))) p1 ::
  rT (tV (.int .i64 0)) ::
  []) hz hd (by kernel_rfl) ?_ ?_
 refine ⟨?_, ?_, ?_, trivial⟩
 exact zLd hz (sv S20) Cp24 ld_q32 (by simp [tagOf, n_p24_p1])
 exact zSE rfl (sv S2) (by simp [tagOf]) (Cp1.var tR_nd) (sd 0 rfl) st_q32
 exact zAs hz kc
 intro a' γ' W' hz' hd' hC hk hh
 replace Cp1 := gotE (T := tQ B32 l (mkRat (((parseV D) * (10 ^ (n).toNat) : Nat) : Int) (10 ^ pl))) (id := 32) (p := p1) 1 hh rfl rfl
 clear Cp24
 replace S2 := kp hk S2
 clear S20
 have S3 := gotV hz' 2 hh rfl rfl rfl rfl
 replace HB := RelC.aftM HB hC (by intro m hm; simp at hm; rcases hm with rfl <;> assumption)
 clear hC hk hh; replace hz := hz'; replace hd := hd'; clear hz' hd'
 refine wp_ret ?_
 refine ret_to (T := tT [tQ B32 l (mkRat (((parseV D) * (10 ^ (n).toNat) : Nat) : Int) (10 ^ pl)), tV (.int .i64 0)]) (retct_q32 (by kernel_rfl) S2 S3 hd Cp1 HB) ?_
 exact pd_to (pd_yes hp hc20 hn) (sc_pos hc23) rfl (by omega)
 rw [decide_eq_false hc23] at S121
 refine wp_cond_false S121.ev ?_
 refine region_drawn (M := [p22]) (
  rT (tN B32 1002 (10 ^ pl)) ::
  rT (tV (.int .i64 (n))) ::
  rT (tV (.int .i64 (-n))) ::
  rT (tN B32 1002 (10 ^ (-n).toNat)) ::
  rT (tN B32 2004 ((10 ^ pl) * (10 ^ (-n).toNat))) ::
  rE 0 30 (tN B32 2004 ((10 ^ pl) * (10 ^ (-n).toNat))) p22 ::
  []) hz hd (by kernel_rfl) (by kernel_rfl) ?_ ?_
 refine ⟨?_, ?_, ?_, ?_, ?_, ?_, trivial⟩
 exact sLoadM rfl rfl rfl hz rfl (Gd.none_ rfl) rfl (sv S19) Cp22 (k := 0) (by simp [tagOf]) (by kernel_rfl) ld_n32
 exact zMv hz (sv S15)
 exact sUn rfl rfl rfl hz rfl (Gd.none_ rfl) rfl (sd 1 rfl) (fun w => f_negz hn9 w)
 exact zC1 hz Tryz.func76 (sd 2 rfl) (k1 (fun _ => d_ten_z (z := -n) (by omega) (by omega)))
 exact zC2 hz Tryz.func63 (sd 0 rfl) (sd 3 rfl) (fun _ _ _ h0 h1 => d_mul h0 h1 (by decide) (by decide))
 exact zSE rfl (sv S19) (by simp [tagOf]) (Cp22.var tN_nd) (sd 4 rfl) st_n32
 intro a' γ' W' hz' hd' hC hk hh
 have tp1 := Cp1.lt
 replace Cp1 := kC hC Cp1 (by simp [tagOf, n_p1_p22])
 have tp21 := Cp21.lt
 replace Cp21 := kC hC Cp21 (by simp [tagOf, n_p21_p22])
 replace Cp22 := gotE (T := tN B32 2004 ((10 ^ pl) * (10 ^ (-n).toNat))) (id := 30) (p := p22) 5 hh rfl rfl
 replace S2 := kp hk S2
 clear S15
 replace S17 := kp hk S17
 replace S19 := kp hk S19
 clear S121
 clear tp1 tp21
 replace HB := RelC.aftM HB hC (by intro m hm; simp at hm; rcases hm with rfl <;> assumption)
 clear hC hk hh; replace hz := hz'; replace hd := hd'; clear hz' hd'
 refine wp_seq ?_
 refine region_text (M := []) (
  rT (tN B32 400 (parseV D)) ::
  rT (tN B32 2004 ((10 ^ pl) * (10 ^ (-n).toNat))) ::
  rT (tT [tQ B32 l (mkRat ((parseV D : Nat) : Int) ((10 ^ pl) * (10 ^ (-n).toNat))), tV (.bool (decide ((10 ^ pl) * (10 ^ (-n).toNat) ≠ 0)))]) ::
  rT (tT [tQ B32 l (mkRat ((parseV D : Nat) : Int) ((10 ^ pl) * (10 ^ (-n).toNat))), tV (.bool (decide ((10 ^ pl) * (10 ^ (-n).toNat) ≠ 0)))]) ::
  rT (tQ B32 l (mkRat ((parseV D : Nat) : Int) ((10 ^ pl) * (10 ^ (-n).toNat)))) ::
  rT (tV (.bool (decide ((10 ^ pl) * (10 ^ (-n).toNat) ≠ 0)))) ::
  rVar 6 32 2 ::
  rB 6 32 (tQ B32 l (mkRat ((parseV D : Nat) : Int) ((10 ^ pl) * (10 ^ (-n).toNat)))) (some 6) 7 ::
  rT (tV (.bool (decide ((10 ^ pl) * (10 ^ (-n).toNat) ≠ 0)))) ::
  []) hz hd (by kernel_rfl) ?_ ?_
 refine ⟨?_, ?_, ?_, ?_, ?_, ?_, ?_, ?_, ?_, trivial⟩
 exact zLd hz (sv S17) Cp21 ld_n32
 exact zLd hz (sv S19) Cp22 ld_n32
 exact zC2 hz Tryz.func15 (sd 0 rfl) (sd 1 rfl) (fun _ _ _ h0 h1 => dq_from (l := l) h0 h1 (by decide) (by decide) (parse_bits (by omega)) ((pd_bq hl).resolve_right (by omega)) (by omega))
 exact zMv hz (sd 2 rfl)
 exact zExt hz (sd 3 rfl)
 exact zExt hz (sd 3 rfl)
 exact zAl hz nd_rat al_r32
 exact zSt (sd 4 rfl) st_q32
 exact zAs hz (sd 5 rfl)
 intro a' γ' W' hz' hd' hC hk hh
 have tp1 := Cp1.lt
 replace Cp1 := kC hC Cp1
 have tp21 := Cp21.lt
 clear Cp21
 have tp22 := Cp22.lt
 clear Cp22
 replace S2 := kp hk S2
 clear S17
 clear S19
 obtain ⟨p25, S20, Cp25, lp25, gp25⟩ := gotB hz' 7 hC hh rfl rfl rfl rfl rfl rfl
 have n_p25_p1 : p25 ≠ p1 := by omega
 clear lp25 gp25
 clear tp1 tp21 tp22
 replace HB := aft_call HB (RelC.below_nil hC)
 clear hC hk hh; replace hz := hz'; replace hd := hd'; clear hz' hd'
 refine wp_seq ?_
 refine region_text (M := [p1]) (
  rT (tQ B32 l (mkRat ((parseV D : Nat) : Int) ((10 ^ pl) * (10 ^ (-n).toNat)))) ::
  rE 0 32 (tQ B32 l (mkRat ((parseV D : Nat) : Int) ((10 ^ pl) * (10 ^ (-n).toNat)))) p1 ::
  rT (tV (.int .i64 0)) ::
  []) hz hd (by kernel_rfl) ?_ ?_
 refine ⟨?_, ?_, ?_, trivial⟩
 exact zLd hz (sv S20) Cp25 ld_q32 (by simp [tagOf, n_p25_p1])
 exact zSE rfl (sv S2) (by simp [tagOf]) (Cp1.var tR_nd) (sd 0 rfl) st_q32
 exact zAs hz kc
 intro a' γ' W' hz' hd' hC hk hh
 replace Cp1 := gotE (T := tQ B32 l (mkRat ((parseV D : Nat) : Int) ((10 ^ pl) * (10 ^ (-n).toNat)))) (id := 32) (p := p1) 1 hh rfl rfl
 clear Cp25
 replace S2 := kp hk S2
 clear S20
 have S3 := gotV hz' 2 hh rfl rfl rfl rfl
 replace HB := RelC.aftM HB hC (by intro m hm; simp at hm; rcases hm with rfl <;> assumption)
 clear hC hk hh; replace hz := hz'; replace hd := hd'; clear hz' hd'
 refine wp_ret ?_
 refine ret_to (T := tT [tQ B32 l (mkRat ((parseV D : Nat) : Int) ((10 ^ pl) * (10 ^ (-n).toNat))), tV (.int .i64 0)]) (retct_q32 (by kernel_rfl) S2 S3 hd Cp1 HB) ?_
 exact pd_to (pd_yes hp hc20 hn) (sc_neg hc23) rfl (by omega)
 rw [decide_eq_false hc20] at S16
 refine region_text (M := []) (
  rT (tV (.bool false)) ::
  rT (tV (.bool true)) ::
  []) hz hd (by kernel_rfl) ?_ ?_
 refine ⟨?_, ?_, trivial⟩
 exact zMv hz (sv S16)
 exact zNot hz (sd 0 rfl)
 intro a' γ' W' hz' hd' hC hk hh
 have tp1 := Cp1.lt
 replace Cp1 := kC hC Cp1
 replace Cp2 := kC hC Cp2
 replace S2 := kp hk S2
 replace S4 := kp hk S4
 replace S12 := kp hk S12
 replace S13 := kp hk S13
 replace S15 := kp hk S15
 clear S16
 have S111 := gotV hz' 1 hh rfl rfl rfl rfl
 clear tp1
 replace HB := aft_call HB (RelC.below_nil hC)
 clear hC hk hh; replace hz := hz'; replace hd := hd'; clear hz' hd'
 refine wp_cond_true S111.ev ?_
 refine wp_seq ?_
 refine region_text (M := [p1]) (
  rT (tQ B32 1 0) ::
  rE 0 32 (tQ B32 1 0) p1 ::
  rT (tV (.int .i64 30)) ::
  []) hz hd (by kernel_rfl) ?_ ?_
 refine ⟨?_, ?_, ?_, trivial⟩
 exact zLd hz (sv S4) Cp2 ld_q32 (by simp [tagOf, n_p2_p1])
 exact zSE rfl (sv S2) (by simp [tagOf]) (Cp1.var tR_nd) (sd 0 rfl) st_q32
 exact zAs hz kc
 intro a' γ' W' hz' hd' hC hk hh
 replace Cp1 := gotE (T := tQ B32 1 0) (id := 32) (p := p1) 1 hh rfl rfl
 clear Cp2
 replace S2 := kp hk S2
 clear S4
 replace S12 := kp hk S12
 replace S13 := kp hk S13
 replace S15 := kp hk S15
 clear S111
 have S3 := gotV hz' 2 hh rfl rfl rfl rfl
 replace HB := RelC.aftM HB hC (by intro m hm; simp at hm; rcases hm with rfl <;> assumption)
 clear hC hk hh; replace hz := hz'; replace hd := hd'; clear hz' hd'
 refine wp_ret ?_
 refine ret_to (T := tT [tQ B32 1 0, tV (.int .i64 30)]) (retct_q32 (by kernel_rfl) S2 S3 hd Cp1 HB) ?_
 exact pd_to (pd_no hp hc20) rfl rfl (by omega)

end Go.Proofs.YtfgnleoaibcegaaGreat.Rg
