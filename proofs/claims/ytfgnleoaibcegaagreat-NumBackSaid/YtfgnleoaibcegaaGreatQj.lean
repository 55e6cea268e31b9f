/-
  Walks and plain laws, put together: VJ VK VN VP.
-/
import Derived.Test.YtfgnleoaibcegaaGreatQh
set_option linter.unusedVariables false
set_option linter.unusedSimpArgs false
namespace Go.Proofs.YtfgnleoaibcegaaGreat.Rg

open Go.RowKit

theorem to5 {T1 T2 T3 T4 T5 U1 U2 U3 U4 U5 : Ty} (h1 : ∀ v w, T1.p v w → U1.p v w) (h2 : ∀ v w, T2.p v w → U2.p v w) (h3 : ∀ v w, T3.p v w → U3.p v w) (h4 : ∀ v w, T4.p v w → U4.p v w) (h5 : ∀ v w, T5.p v w → U5.p v w) : ∀ v w, (tT [T1, T2, T3, T4, T5]).p v w → (tT [U1, U2, U3, U4, U5]).p v w := by
  rintro v w ⟨m, rfl, h⟩
  match m, h with
  | [a, b, c, d, e], ⟨ha, hb, hc, hd, he, _⟩ => exact ⟨_, rfl, h1 _ _ ha, h2 _ _ hb, h3 _ _ hc, h4 _ _ hd, h5 _ _ he, trivial⟩
def tCut (c : Cut) : Ty := tT [tV (.int .i64 ((c.whole : Nat) : Int)), tV (.int .i64 ((c.part : Nat) : Int)), tV (.int .i64 ((c.over : Nat) : Int)), tV (.int .i64 c.up), tV (.bool c.ok)]
theorem cut_to {L : List Nat} {c : Cut} (h : CutV L c) : ∀ v w, (tCut c).p v w → (tCut (cutL L)).p v w := by unfold CutV at h; rw [h]; exact fun _ _ h => h
theorem b_47 {d : Nat} {ox oy : Operand} {id : TypeId}  (w : World) : (do eqGuard .eql id ox oy (.int .u8 ((d : Nat) : Int)) (.int .u8 47); binOp .eql id (.int .u8 ((d : Nat) : Int)) (.int .u8 47) : Sem Value).run Tryz.prog w = .ok (.bool (decide (d = 47))) w := by
  by_cases hc : d = 47
  · subst hc; simp [go_sem]
  · have : ¬ ((d : Nat) : Int) = 47 := by omega
    simp [go_sem, hc, this]
theorem b_46n {d : Nat} {ox oy : Operand} {id : TypeId}  (w : World) : (do eqGuard .neq id ox oy (.int .u8 ((d : Nat) : Int)) (.int .u8 46); binOp .neq id (.int .u8 ((d : Nat) : Int)) (.int .u8 46) : Sem Value).run Tryz.prog w = .ok (.bool (decide (d ≠ 46))) w := by
  by_cases hc : d = 46
  · subst hc; simp [go_sem]
  · have : ¬ ((d : Nat) : Int) = 46 := by omega
    simp [go_sem, hc, this]
theorem b_101n {d : Nat} {ox oy : Operand} {id : TypeId}  (w : World) : (do eqGuard .neq id ox oy (.int .u8 ((d : Nat) : Int)) (.int .u8 101); binOp .neq id (.int .u8 ((d : Nat) : Int)) (.int .u8 101) : Sem Value).run Tryz.prog w = .ok (.bool (decide (d ≠ 101))) w := by
  by_cases hc : d = 101
  · subst hc; simp [go_sem]
  · have : ¬ ((d : Nat) : Int) = 101 := by omega
    simp [go_sem, hc, this]
theorem b_43 {d : Nat} {ox oy : Operand} {id : TypeId}  (w : World) : (do eqGuard .eql id ox oy (.int .u8 ((d : Nat) : Int)) (.int .u8 43); binOp .eql id (.int .u8 ((d : Nat) : Int)) (.int .u8 43) : Sem Value).run Tryz.prog w = .ok (.bool (decide (d = 43))) w := by
  by_cases hc : d = 43
  · subst hc; simp [go_sem]
  · have : ¬ ((d : Nat) : Int) = 43 := by omega
    simp [go_sem, hc, this]
theorem b_45 {d : Nat} {ox oy : Operand} {id : TypeId}  (w : World) : (do eqGuard .eql id ox oy (.int .u8 ((d : Nat) : Int)) (.int .u8 45); binOp .eql id (.int .u8 ((d : Nat) : Int)) (.int .u8 45) : Sem Value).run Tryz.prog w = .ok (.bool (decide (d = 45))) w := by
  by_cases hc : d = 45
  · subst hc; simp [go_sem]
  · have : ¬ ((d : Nat) : Int) = 45 := by omega
    simp [go_sem, hc, this]
theorem n_lt1 {i : Nat} {ox oy : Operand} {id : TypeId}  (w : World) : (do eqGuard .lss id ox oy (.int .i64 ((i : Nat) : Int)) (.int .i64 1); binOp .lss id (.int .i64 ((i : Nat) : Int)) (.int .i64 1) : Sem Value).run Tryz.prog w = .ok (.bool (decide (i < 1))) w := by
  have e : decide (((i : Nat) : Int) < 1) = decide (i < 1) := by rw [decide_eq_decide]; omega
  rw [← e]
  simp only [eqGuard]; simp [go_sem]
theorem n_gt3 {i : Nat} {ox oy : Operand} {id : TypeId}  (w : World) : (do eqGuard .gtr id ox oy (.int .i64 ((i : Nat) : Int)) (.int .i64 3); binOp .gtr id (.int .i64 ((i : Nat) : Int)) (.int .i64 3) : Sem Value).run Tryz.prog w = .ok (.bool (decide (3 < i))) w := by
  have e : decide (3 < ((i : Nat) : Int)) = decide (3 < i) := by rw [decide_eq_decide]; omega
  rw [← e]
  simp only [eqGuard]; simp [go_sem]
theorem n_gt0 {i : Nat} {ox oy : Operand} {id : TypeId}  (w : World) : (do eqGuard .gtr id ox oy (.int .i64 ((i : Nat) : Int)) (.int .i64 0); binOp .gtr id (.int .i64 ((i : Nat) : Int)) (.int .i64 0) : Sem Value).run Tryz.prog w = .ok (.bool (decide (0 < i))) w := by
  have e : decide (0 < ((i : Nat) : Int)) = decide (0 < i) := by rw [decide_eq_decide]; omega
  rw [← e]
  simp only [eqGuard]; simp [go_sem]
theorem n_eq {i n : Nat} {ox oy : Operand} {id : TypeId}  (w : World) : (do eqGuard .eql id ox oy (.int .i64 ((i : Nat) : Int)) (.int .i64 ((n : Nat) : Int)); binOp .eql id (.int .i64 ((i : Nat) : Int)) (.int .i64 ((n : Nat) : Int)) : Sem Value).run Tryz.prog w = .ok (.bool (decide (i = n))) w := by
  by_cases hc : i = n
  · subst hc; simp [go_sem]
  · have : ¬ ((i : Nat) : Int) = ((n : Nat) : Int) := by omega
    simp [go_sem, hc, this]
theorem n_1add {i : Nat} {ox oy : Operand} {id : TypeId} (h : i ≤ 4611686018427387904) (w : World) : (do eqGuard .add id ox oy (.int .i64 1) (.int .i64 ((i : Nat) : Int)); binOp .add id (.int .i64 1) (.int .i64 ((i : Nat) : Int)) : Sem Value).run Tryz.prog w = .ok (.int .i64 ((1 + i : Nat) : Int)) w := by
  have e : IntKind.i64.wrap (1 + ((i : Nat) : Int)) = ((1 + i : Nat) : Int) := by rw [IntKind.wrap_i64]; omega
  simp [go_sem, e]
theorem n_mul10 {i : Nat} {ox oy : Operand} {id : TypeId} (h : i ≤ 1000) (w : World) : (do eqGuard .mul id ox oy (.int .i64 10) (.int .i64 ((i : Nat) : Int)); binOp .mul id (.int .i64 10) (.int .i64 ((i : Nat) : Int)) : Sem Value).run Tryz.prog w = .ok (.int .i64 ((10 * i : Nat) : Int)) w := by
  have e : IntKind.i64.wrap (10 * ((i : Nat) : Int)) = ((10 * i : Nat) : Int) := by rw [IntKind.wrap_i64]; omega
  simp [go_sem, e]
theorem d_sub48 {d : Nat} {ox oy : Operand} {id : TypeId} (h : 48 ≤ d ∧ d ≤ 57) (w : World) : (do eqGuard .sub id ox oy (.int .i32 ((d : Nat) : Int)) (.int .i32 48); binOp .sub id (.int .i32 ((d : Nat) : Int)) (.int .i32 48) : Sem Value).run Tryz.prog w = .ok (.int .i32 ((d - 48 : Nat) : Int)) w := by
  have e : IntKind.i32.wrap (((d : Nat) : Int) - 48) = ((d - 48 : Nat) : Int) := by rw [IntKind.wrap_i32]; omega
  simp [go_sem, e]
theorem f_sign {m : Nat} {z : Int} {ox oy : Operand} {id : TypeId} (hm : m ≤ 999) (hz : z = 1 ∨ z = -1) (w : World) : (do eqGuard .mul id ox oy (.int .i64 ((m : Nat) : Int)) (.int .i64 z); binOp .mul id (.int .i64 ((m : Nat) : Int)) (.int .i64 z) : Sem Value).run Tryz.prog w = .ok (.int .i64 (((m : Nat) : Int) * z)) w := by
  have e : IntKind.i64.wrap (((m : Nat) : Int) * z) = ((m : Nat) : Int) * z := by rw [IntKind.wrap_i64]; rcases hz with rfl | rfl <;> omega
  simp [go_sem, e]
theorem cv_i32 {d : Nat} (h : d ≤ 1000) (w : World) : (convert 21 3 (.int .i32 ((d : Nat) : Int))).run Tryz.prog w = .ok (.int .i64 ((d : Nat) : Int)) w := by
  have e : IntKind.i64.wrap ((d : Nat) : Int) = ((d : Nat) : Int) := by rw [IntKind.wrap_i64]; omega
  simp [go_sem, e]
set_option maxRecDepth 10000 in
set_option maxHeartbeats 2000000 in
theorem c_cut {L : List Nat} {w : World}  (hB : ∀ d ∈ L, d < 256) (hL : L.length ≤ 1000000000000000) :
    Calls Tryz.prog 70 #[.string (strB L)] w (Ret (tCut (cutL L)) w) := by
 refine enter Tryz.func70 rfl Tryz.ntmps70 (by simp) ?_
 intro a hz hd ha
 have S0 := ha 0 _ rfl
 clear ha
 have HB : Below w.heap.size w w := Below.refl _ _
 have hr0 := run_le (L := L) 0 (Nat.zero_le _)
 refine wp_seq ?_
 refine rt [rV (.int .i64 0), rV (.int .i64 0), rV (.int .i64 0), rV (.int .i64 0), rV (.bool false)] hz hd ?_ ?_
 refine ⟨?_, ?_, ?_, ?_, ?_, trivial⟩
 exact zAs hz kc
 exact zAs hz kc
 exact zAs hz kc
 exact zAs hz kc
 exact zAs hz kc
 clear hz hd
 intro a' γ' W' hz hd hC hk hh
 replace S0 := kp hk S0
 have S2 := gV hz 0 hh
 have S3 := gV hz 1 hh
 have S4 := gV hz 2 hh
 have S5 := gV hz 3 hh
 have S6 := gV hz 4 hh
 replace HB := aB HB hC
 clear hC hk hh
 refine wp_scope_hops 2 ?_
 refine wp_seq ?_
 refine rt [rV (.int .i64 0), rV (.int .i64 0)] hz hd ?_ ?_
 refine ⟨?_, ?_, trivial⟩
 exact zAs hz kc
 exact zAs hz kc
 clear hz hd
 intro a' γ' W' hz hd hC hk hh
 replace S0 := kp hk S0
 replace S2 := kp hk S2
 replace S3 := kp hk S3
 replace S4 := kp hk S4
 replace S5 := kp hk S5
 replace S6 := kp hk S6
 have S7 := gV hz 0 hh
 have S8 := gV hz 1 hh
 replace HB := aB HB hC
 clear hC hk hh
 refine wp_seq ?_
 refine rt [rV (.int .i64 1)] hz hd ?_ ?_
 refine ⟨?_, trivial⟩
 exact zAs hz kc
 clear hz hd
 intro a' γ' W' hz hd hC hk hh
 replace S0 := kp hk S0
 replace S2 := kp hk S2
 replace S3 := kp hk S3
 replace S4 := kp hk S4
 replace S5 := kp hk S5
 replace S6 := kp hk S6
 replace S7 := kp hk S7
 replace S8 := kp hk S8
 have S9 := gV hz 0 hh
 replace HB := aB HB hC
 clear hC hk hh
 refine wp_seq ?_
 refine rt [rV (.string (strB L)), rV (.int .i64 ((runL L 0 : Nat) : Int)), rV (.int .i64 ((runL L 0 : Nat) : Int))] hz hd ?_ ?_
 refine ⟨?_, ?_, ?_, trivial⟩
 exact zMv hz (sv S0)
 exact zC2 hz Tryz.func107 (sd 0 rfl) (kc (v := .int .i64 0)) (k11 (fun _ => c_digits hB hL (Nat.zero_le _)))
 exact zAs hz (sd 1 rfl)
 clear hz hd
 intro a' γ' W' hz hd hC hk hh
 replace S0 := kp hk S0
 clear S2
 replace S3 := kp hk S3
 replace S4 := kp hk S4
 replace S5 := kp hk S5
 replace S6 := kp hk S6
 replace S7 := kp hk S7
 replace S8 := kp hk S8
 replace S9 := kp hk S9
 have S2 := gV hz 2 hh
 replace HB := aB HB hC
 clear hC hk hh
 refine wp_seq ?_
 refine rt [rV (.int .i64 ((runL L 0 : Nat) : Int)), rV (.int .i64 ((runL L 0 : Nat) : Int))] hz hd ?_ ?_
 refine ⟨?_, ?_, trivial⟩
 exact zMv hz (sv S2)
 exact zAs hz (sd 0 rfl)
 clear hz hd
 intro a' γ' W' hz hd hC hk hh
 replace S0 := kp hk S0
 replace S3 := kp hk S3
 replace S4 := kp hk S4
 replace S5 := kp hk S5
 replace S6 := kp hk S6
 clear S7
 replace S8 := kp hk S8
 replace S9 := kp hk S9
 replace S2 := kp hk S2
 have S7 := gV hz 1 hh
 replace HB := aB HB hC
 clear hC hk hh
 refine wp_seq ?_
 refine wp_seq ?_
 by_cases hc1 : runL L 0 = 0
 refine rt [rV (.int .i64 ((runL L 0 : Nat) : Int)), rV (.bool true), rV (.bool true), rV undef, rV undef, rV undef, rV undef, rV (.bool true)] hz hd ?_ ?_
 refine ⟨?_, ?_, ?_, ?_, ?_, ?_, ?_, ?_, trivial⟩
 exact zMv hz (sv S2)
 exact sBin rfl rfl rfl hz rfl (Gd.none_ rfl) rfl (sd 0 rfl) kc (fun w => run_t (P := runL L 0 = 0) ((fun w => n_eq0 w) w) hc1)
 exact zMv hz (sd 1 rfl)
 exact zSkU hz (gN 2 rfl)
 exact zSkU hz (gN 2 rfl)
 exact zSkU hz (gN 2 rfl)
 exact zSkU hz (gN 2 rfl)
 exact zPT hz (sd 2 rfl) kc
 clear hz hd
 intro a' γ' W' hz hd hC hk hh
 replace S0 := kp hk S0
 replace S3 := kp hk S3
 replace S4 := kp hk S4
 replace S5 := kp hk S5
 replace S6 := kp hk S6
 replace S8 := kp hk S8
 replace S9 := kp hk S9
 replace S2 := kp hk S2
 replace S7 := kp hk S7
 have S22 := gV hz 7 hh
 replace HB := aB HB hC
 clear hC hk hh
 refine wp_cond_true S22.ev ?_
 refine wp_goto ?_
 refine jq_goto rfl ?_
 refine wp_seq ?_
 refine wp_skip ?_
 refine wp_seq ?_
 refine rt [rV (.int .i64 ((runL L 0 : Nat) : Int)), rV (.int .i64 0), rV (.int .i64 0), rV (.int .i64 0), rV (.int .i64 ((runL L 0 : Nat) : Int)), rV (.bool (decide (0 < runL L 0))), rV (.int .i64 ((runL L 0 : Nat) : Int)), rV (.int .i64 0), rV (.int .i64 0), rV (.int .i64 0), rV (.bool (decide (0 < runL L 0)))] hz hd ?_ ?_
 refine ⟨?_, ?_, ?_, ?_, ?_, ?_, ?_, ?_, ?_, ?_, ?_, trivial⟩
 exact zMv hz (sv S2)
 exact zMv hz (sv S3)
 exact zMv hz (sv S4)
 exact zMv hz (sv S5)
 exact zMv hz (sv S2)
 exact sBin rfl rfl rfl hz rfl (Gd.none_ rfl) rfl (sd 4 rfl) kc (fun w => n_gt0 w)
 exact zAs hz (sd 0 rfl)
 exact zAs hz (sd 1 rfl)
 exact zAs hz (sd 2 rfl)
 exact zAs hz (sd 3 rfl)
 exact zAs hz (sd 5 rfl)
 clear hz hd
 intro a' γ' W' hz hd hC hk hh
 replace S0 := kp hk S0
 clear S3
 clear S4
 clear S5
 clear S6
 replace S8 := kp hk S8
 replace S9 := kp hk S9
 clear S2
 replace S7 := kp hk S7
 replace S22 := kp hk S22
 have S2 := gV hz 6 hh
 have S3 := gV hz 7 hh
 have S4 := gV hz 8 hh
 have S5 := gV hz 9 hh
 have S6 := gV hz 10 hh
 replace HB := aB HB hC
 clear hC hk hh
 refine wp_ret ?_
 refine ret_to (T := tT [tV (.int .i64 ((runL L 0 : Nat) : Int)), tV (.int .i64 0), tV (.int .i64 0), tV (.int .i64 0), tV (.bool (decide (0 < runL L 0)))]) (rett5 (by kernel_rfl) S2 S3 S4 S5 S6 hd HB) ?_
 refine fun v w h => cut_to (c := ⟨runL L 0, 0, 0, 0, false⟩) (cut_0 hc1) v w (to5 (tV_to rfl) (tV_to rfl) (tV_to rfl) (tV_to rfl) (tV_to (congrArg Value.bool (decide_eq_false (by omega)))) v w h)
 refine rt [rV (.int .i64 ((runL L 0 : Nat) : Int)), rV (.bool false), rV (.bool false), rV (.int .i64 ((runL L 0 : Nat) : Int)), rV (.string (strB L)), rV (.int .i64 ((L.length : Nat) : Int)), rV (.bool (decide (runL L 0 = L.length))), rV (.bool (decide (runL L 0 = L.length)))] hz hd ?_ ?_
 refine ⟨?_, ?_, ?_, ?_, ?_, ?_, ?_, ?_, trivial⟩
 exact zMv hz (sv S2)
 exact sBin rfl rfl rfl hz rfl (Gd.none_ rfl) rfl (sd 0 rfl) kc (fun w => run_f (P := runL L 0 = 0) ((fun w => n_eq0 w) w) hc1)
 exact zMv hz (sd 1 rfl)
 exact zMv hz (sv S7) (g := gT 2 rfl)
 exact zMv hz (sv S0) (g := gT 2 rfl)
 exact zB1len hz rfl (sd 4 rfl) (fun w => s_len w) (g := gT 2 rfl)
 exact sBin rfl rfl rfl hz rfl (gT 2 rfl) rfl (sd 3 rfl) (sd 5 rfl) (fun w => n_eq w)
 exact zPF hz (sd 2 rfl) (sd 6 rfl)
 clear hz hd
 intro a' γ' W' hz hd hC hk hh
 replace S0 := kp hk S0
 replace S3 := kp hk S3
 replace S4 := kp hk S4
 replace S5 := kp hk S5
 replace S6 := kp hk S6
 replace S8 := kp hk S8
 replace S9 := kp hk S9
 replace S2 := kp hk S2
 replace S7 := kp hk S7
 have S22 := gV hz 7 hh
 replace HB := aB HB hC
 clear hC hk hh
 by_cases hc2 : runL L 0 = L.length
 rw [decide_eq_true hc2] at S22
 refine wp_cond_true S22.ev ?_
 refine wp_goto ?_
 refine jq_goto rfl ?_
 refine wp_seq ?_
 refine wp_skip ?_
 refine wp_seq ?_
 refine rt [rV (.int .i64 ((runL L 0 : Nat) : Int)), rV (.int .i64 0), rV (.int .i64 0), rV (.int .i64 0), rV (.int .i64 ((runL L 0 : Nat) : Int)), rV (.bool (decide (0 < runL L 0))), rV (.int .i64 ((runL L 0 : Nat) : Int)), rV (.int .i64 0), rV (.int .i64 0), rV (.int .i64 0), rV (.bool (decide (0 < runL L 0)))] hz hd ?_ ?_
 refine ⟨?_, ?_, ?_, ?_, ?_, ?_, ?_, ?_, ?_, ?_, ?_, trivial⟩
 exact zMv hz (sv S2)
 exact zMv hz (sv S3)
 exact zMv hz (sv S4)
 exact zMv hz (sv S5)
 exact zMv hz (sv S2)
 exact sBin rfl rfl rfl hz rfl (Gd.none_ rfl) rfl (sd 4 rfl) kc (fun w => n_gt0 w)
 exact zAs hz (sd 0 rfl)
 exact zAs hz (sd 1 rfl)
 exact zAs hz (sd 2 rfl)
 exact zAs hz (sd 3 rfl)
 exact zAs hz (sd 5 rfl)
 clear hz hd
 intro a' γ' W' hz hd hC hk hh
 replace S0 := kp hk S0
 clear S3
 clear S4
 clear S5
 clear S6
 replace S8 := kp hk S8
 replace S9 := kp hk S9
 clear S2
 replace S7 := kp hk S7
 replace S22 := kp hk S22
 have S2 := gV hz 6 hh
 have S3 := gV hz 7 hh
 have S4 := gV hz 8 hh
 have S5 := gV hz 9 hh
 have S6 := gV hz 10 hh
 replace HB := aB HB hC
 clear hC hk hh
 refine wp_ret ?_
 refine ret_to (T := tT [tV (.int .i64 ((runL L 0 : Nat) : Int)), tV (.int .i64 0), tV (.int .i64 0), tV (.int .i64 0), tV (.bool (decide (0 < runL L 0)))]) (rett5 (by kernel_rfl) S2 S3 S4 S5 S6 hd HB) ?_
 refine fun v w h => cut_to (c := ⟨runL L 0, 0, 0, 0, true⟩) (cut_all hc1 hc2) v w (to5 (tV_to rfl) (tV_to rfl) (tV_to rfl) (tV_to rfl) (tV_to (congrArg Value.bool (decide_eq_true (by omega)))) v w h)
 rw [decide_eq_false hc2] at S22
 refine wp_cond_false S22.ev ?_
 refine wp_skip ?_
 refine wp_seq ?_
 refine wp_seq ?_
 refine rt [rV (.string (strB L)), rV (.int .i64 ((runL L 0 : Nat) : Int)), rV (.int .u8 ((L.getD (runL L 0) 0 : Nat) : Int)), rV (.bool (decide (L.getD (runL L 0) 0 = 47)))] hz hd ?_ ?_
 refine ⟨?_, ?_, ?_, ?_, trivial⟩
 exact zMv hz (sv S0)
 exact zMv hz (sv S7)
 exact zIx hz rfl (sd 0 rfl) (sd 1 rfl) (fun w => s_ix hB (by omega) w)
 exact sBin rfl rfl rfl hz rfl (Gd.none_ rfl) rfl (sd 2 rfl) kc (fun w => b_47 w)
 clear hz hd
 intro a' γ' W' hz hd hC hk hh
 replace S0 := kp hk S0
 replace S3 := kp hk S3
 replace S4 := kp hk S4
 replace S5 := kp hk S5
 replace S6 := kp hk S6
 replace S8 := kp hk S8
 replace S9 := kp hk S9
 replace S2 := kp hk S2
 replace S7 := kp hk S7
 replace S22 := kp hk S22
 have S26 := gV hz 3 hh
 replace HB := aB HB hC
 clear hC hk hh
 by_cases hc3 : L.getD (runL L 0) 0 = 47
 rw [decide_eq_true hc3] at S26
 refine wp_cond_true S26.ev ?_
 refine wp_goto ?_
 refine jq_goto rfl ?_
 refine wp_seq ?_
 refine wp_skip ?_
 refine wp_seq ?_
 have hr1 := run_le (L := L) (runL L 0 + 1) (by omega)
 refine rt [rV (.string (strB L)), rV (.int .i64 ((runL L 0 : Nat) : Int)), rV (.int .i64 ((runL L 0 + 1 : Nat) : Int)), rV (.int .i64 ((runL L (runL L 0 + 1) : Nat) : Int)), rV (.int .i64 ((runL L (runL L 0 + 1) : Nat) : Int))] hz hd ?_ ?_
 refine ⟨?_, ?_, ?_, ?_, ?_, trivial⟩
 exact zMv hz (sv S0)
 exact zMv hz (sv S7)
 exact sBin rfl rfl rfl hz rfl (Gd.none_ rfl) rfl (sd 1 rfl) kc (fun w => n_succ (by omega) w)
 exact zC2 hz Tryz.func107 (sd 0 rfl) (sd 2 rfl) (k11 (fun _ => c_digits hB hL (by omega)))
 exact zAs hz (sd 3 rfl)
 clear hz hd
 intro a' γ' W' hz hd hC hk hh
 replace S0 := kp hk S0
 replace S3 := kp hk S3
 clear S4
 replace S5 := kp hk S5
 replace S6 := kp hk S6
 replace S8 := kp hk S8
 replace S9 := kp hk S9
 replace S2 := kp hk S2
 replace S7 := kp hk S7
 replace S22 := kp hk S22
 replace S26 := kp hk S26
 have S4 := gV hz 4 hh
 replace HB := aB HB hC
 clear hC hk hh
 refine wp_seq ?_
 refine wp_seq ?_
 by_cases hc4 : runL L (runL L 0 + 1) = 0
 refine rt [rV (.int .i64 ((runL L (runL L 0 + 1) : Nat) : Int)), rV (.bool true), rV (.bool true), rV undef, rV undef, rV undef, rV undef, rV undef, rV undef, rV undef, rV (.bool true)] hz hd ?_ ?_
 refine ⟨?_, ?_, ?_, ?_, ?_, ?_, ?_, ?_, ?_, ?_, ?_, trivial⟩
 exact zMv hz (sv S4)
 exact sBin rfl rfl rfl hz rfl (Gd.none_ rfl) rfl (sd 0 rfl) kc (fun w => run_t (P := runL L (runL L 0 + 1) = 0) ((fun w => n_eq0 w) w) hc4)
 exact zMv hz (sd 1 rfl)
 exact zSkU hz (gN 2 rfl)
 exact zSkU hz (gN 2 rfl)
 exact zSkU hz (gN 2 rfl)
 exact zSkU hz (gN 2 rfl)
 exact zSkU hz (gN 2 rfl)
 exact zSkU hz (gN 2 rfl)
 exact zSkU hz (gN 2 rfl)
 exact zPT hz (sd 2 rfl) kc
 clear hz hd
 intro a' γ' W' hz hd hC hk hh
 replace S0 := kp hk S0
 replace S3 := kp hk S3
 replace S5 := kp hk S5
 replace S6 := kp hk S6
 replace S8 := kp hk S8
 replace S9 := kp hk S9
 replace S2 := kp hk S2
 replace S7 := kp hk S7
 replace S22 := kp hk S22
 replace S26 := kp hk S26
 replace S4 := kp hk S4
 have S126 := gV hz 10 hh
 replace HB := aB HB hC
 clear hC hk hh
 refine wp_cond_true S126.ev ?_
 refine wp_seq ?_
 refine rt [rV (.int .i64 0), rV (.int .i64 0), rV (.int .i64 0), rV (.int .i64 0), rV (.bool false)] hz hd ?_ ?_
 refine ⟨?_, ?_, ?_, ?_, ?_, trivial⟩
 exact zAs hz kc
 exact zAs hz kc
 exact zAs hz kc
 exact zAs hz kc
 exact zAs hz kc
 clear hz hd
 intro a' γ' W' hz hd hC hk hh
 replace S0 := kp hk S0
 clear S3
 clear S5
 clear S6
 replace S8 := kp hk S8
 replace S9 := kp hk S9
 clear S2
 replace S7 := kp hk S7
 replace S22 := kp hk S22
 replace S26 := kp hk S26
 clear S4
 replace S126 := kp hk S126
 have S2 := gV hz 0 hh
 have S3 := gV hz 1 hh
 have S4 := gV hz 2 hh
 have S5 := gV hz 3 hh
 have S6 := gV hz 4 hh
 replace HB := aB HB hC
 clear hC hk hh
 refine wp_ret ?_
 refine ret_to (T := tT [tV (.int .i64 0), tV (.int .i64 0), tV (.int .i64 0), tV (.int .i64 0), tV (.bool false)]) (rett5 (by kernel_rfl) S2 S3 S4 S5 S6 hd HB) ?_
 refine fun v w h => cut_to (c := noCut) (cut_over0 hc1 hc2 hc3 hc4) v w (to5 (tV_to rfl) (tV_to rfl) (tV_to rfl) (tV_to rfl) (tV_to rfl) v w h)
 refine rt [rV (.int .i64 ((runL L (runL L 0 + 1) : Nat) : Int)), rV (.bool false), rV (.bool false), rV (.int .i64 ((runL L 0 : Nat) : Int)), rV (.int .i64 ((runL L 0 + 1 : Nat) : Int)), rV (.int .i64 ((runL L (runL L 0 + 1) : Nat) : Int)), rV (.int .i64 ((runL L 0 + 1 + (runL L (runL L 0 + 1)) : Nat) : Int)), rV (.string (strB L)), rV (.int .i64 ((L.length : Nat) : Int)), rV (.bool (decide (runL L 0 + 1 + (runL L (runL L 0 + 1)) < L.length))), rV (.bool (decide (runL L 0 + 1 + (runL L (runL L 0 + 1)) < L.length)))] hz hd ?_ ?_
 refine ⟨?_, ?_, ?_, ?_, ?_, ?_, ?_, ?_, ?_, ?_, ?_, trivial⟩
 exact zMv hz (sv S4)
 exact sBin rfl rfl rfl hz rfl (Gd.none_ rfl) rfl (sd 0 rfl) kc (fun w => run_f (P := runL L (runL L 0 + 1) = 0) ((fun w => n_eq0 w) w) hc4)
 exact zMv hz (sd 1 rfl)
 exact zMv hz (sv S7) (g := gT 2 rfl)
 exact sBin rfl rfl rfl hz rfl (gT 2 rfl) rfl (sd 3 rfl) kc (fun w => n_succ (by omega) w)
 exact zMv hz (sv S4) (g := gT 2 rfl)
 exact sBin rfl rfl rfl hz rfl (gT 2 rfl) rfl (sd 4 rfl) (sd 5 rfl) (fun w => n_add (by omega) (by omega) w)
 exact zMv hz (sv S0) (g := gT 2 rfl)
 exact zB1len hz rfl (sd 7 rfl) (fun w => s_len w) (g := gT 2 rfl)
 exact sBin rfl rfl rfl hz rfl (gT 2 rfl) rfl (sd 6 rfl) (sd 8 rfl) (fun w => n_lt w)
 exact zPF hz (sd 2 rfl) (sd 9 rfl)
 clear hz hd
 intro a' γ' W' hz hd hC hk hh
 replace S0 := kp hk S0
 replace S3 := kp hk S3
 replace S5 := kp hk S5
 replace S6 := kp hk S6
 replace S8 := kp hk S8
 replace S9 := kp hk S9
 replace S2 := kp hk S2
 replace S7 := kp hk S7
 replace S22 := kp hk S22
 replace S26 := kp hk S26
 replace S4 := kp hk S4
 have S126 := gV hz 10 hh
 replace HB := aB HB hC
 clear hC hk hh
 by_cases hc5 : runL L 0 + 1 + (runL L (runL L 0 + 1)) < L.length
 rw [decide_eq_true hc5] at S126
 refine wp_cond_true S126.ev ?_
 refine wp_seq ?_
 refine rt [rV (.int .i64 0), rV (.int .i64 0), rV (.int .i64 0), rV (.int .i64 0), rV (.bool false)] hz hd ?_ ?_
 refine ⟨?_, ?_, ?_, ?_, ?_, trivial⟩
 exact zAs hz kc
 exact zAs hz kc
 exact zAs hz kc
 exact zAs hz kc
 exact zAs hz kc
 clear hz hd
 intro a' γ' W' hz hd hC hk hh
 replace S0 := kp hk S0
 clear S3
 clear S5
 clear S6
 replace S8 := kp hk S8
 replace S9 := kp hk S9
 clear S2
 replace S7 := kp hk S7
 replace S22 := kp hk S22
 replace S26 := kp hk S26
 clear S4
 replace S126 := kp hk S126
 have S2 := gV hz 0 hh
 have S3 := gV hz 1 hh
 have S4 := gV hz 2 hh
 have S5 := gV hz 3 hh
 have S6 := gV hz 4 hh
 replace HB := aB HB hC
 clear hC hk hh
 refine wp_ret ?_
 refine ret_to (T := tT [tV (.int .i64 0), tV (.int .i64 0), tV (.int .i64 0), tV (.int .i64 0), tV (.bool false)]) (rett5 (by kernel_rfl) S2 S3 S4 S5 S6 hd HB) ?_
 refine fun v w h => cut_to (c := noCut) (cut_over1 hc1 hc2 hc3 hc5) v w (to5 (tV_to rfl) (tV_to rfl) (tV_to rfl) (tV_to rfl) (tV_to rfl) v w h)
 rw [decide_eq_false hc5] at S126
 refine wp_cond_false S126.ev ?_
 refine wp_skip ?_
 refine wp_seq ?_
 refine wp_label ?_
 refine wp_seq ?_
 refine rt [rV (.int .i64 ((runL L 0 : Nat) : Int)), rV (.int .i64 0), rV (.int .i64 ((runL L (runL L 0 + 1) : Nat) : Int)), rV (.int .i64 0), rV (.int .i64 ((runL L 0 : Nat) : Int)), rV (.bool (decide (0 < runL L 0))), rV (.int .i64 ((runL L 0 : Nat) : Int)), rV (.int .i64 0), rV (.int .i64 ((runL L (runL L 0 + 1) : Nat) : Int)), rV (.int .i64 0), rV (.bool (decide (0 < runL L 0)))] hz hd ?_ ?_
 refine ⟨?_, ?_, ?_, ?_, ?_, ?_, ?_, ?_, ?_, ?_, ?_, trivial⟩
 exact zMv hz (sv S2)
 exact zMv hz (sv S3)
 exact zMv hz (sv S4)
 exact zMv hz (sv S5)
 exact zMv hz (sv S2)
 exact sBin rfl rfl rfl hz rfl (Gd.none_ rfl) rfl (sd 4 rfl) kc (fun w => n_gt0 w)
 exact zAs hz (sd 0 rfl)
 exact zAs hz (sd 1 rfl)
 exact zAs hz (sd 2 rfl)
 exact zAs hz (sd 3 rfl)
 exact zAs hz (sd 5 rfl)
 clear hz hd
 intro a' γ' W' hz hd hC hk hh
 replace S0 := kp hk S0
 clear S3
 clear S5
 clear S6
 replace S8 := kp hk S8
 replace S9 := kp hk S9
 clear S2
 replace S7 := kp hk S7
 replace S22 := kp hk S22
 replace S26 := kp hk S26
 clear S4
 replace S126 := kp hk S126
 have S2 := gV hz 6 hh
 have S3 := gV hz 7 hh
 have S4 := gV hz 8 hh
 have S5 := gV hz 9 hh
 have S6 := gV hz 10 hh
 replace HB := aB HB hC
 clear hC hk hh
 refine wp_ret ?_
 refine ret_to (T := tT [tV (.int .i64 ((runL L 0 : Nat) : Int)), tV (.int .i64 0), tV (.int .i64 ((runL L (runL L 0 + 1) : Nat) : Int)), tV (.int .i64 0), tV (.bool (decide (0 < runL L 0)))]) (rett5 (by kernel_rfl) S2 S3 S4 S5 S6 hd HB) ?_
 refine fun v w h => cut_to (c := ⟨runL L 0, 0, runL L (runL L 0 + 1), 0, true⟩) (cut_over hc1 hc2 hc3 hc4 hc5) v w (to5 (tV_to rfl) (tV_to rfl) (tV_to rfl) (tV_to rfl) (tV_to (congrArg Value.bool (decide_eq_true (by omega)))) v w h)
 rw [decide_eq_false hc3] at S26
 refine wp_cond_false S26.ev ?_
 refine wp_skip ?_
 refine wp_seq ?_
 refine wp_seq ?_
 refine rt [rV (.string (strB L)), rV (.int .i64 ((runL L 0 : Nat) : Int)), rV (.int .u8 ((L.getD (runL L 0) 0 : Nat) : Int)), rV (.bool (decide (L.getD (runL L 0) 0 ≠ 46)))] hz hd ?_ ?_
 refine ⟨?_, ?_, ?_, ?_, trivial⟩
 exact zMv hz (sv S0)
 exact zMv hz (sv S7)
 exact zIx hz rfl (sd 0 rfl) (sd 1 rfl) (fun w => s_ix hB (by omega) w)
 exact sBin rfl rfl rfl hz rfl (Gd.none_ rfl) rfl (sd 2 rfl) kc (fun w => b_46n w)
 clear hz hd
 intro a' γ' W' hz hd hC hk hh
 replace S0 := kp hk S0
 replace S3 := kp hk S3
 replace S4 := kp hk S4
 replace S5 := kp hk S5
 replace S6 := kp hk S6
 replace S8 := kp hk S8
 replace S9 := kp hk S9
 replace S2 := kp hk S2
 replace S7 := kp hk S7
 replace S22 := kp hk S22
 replace S26 := kp hk S26
 have S30 := gV hz 3 hh
 replace HB := aB HB hC
 clear hC hk hh
 by_cases hc6 : L.getD (runL L 0) 0 ≠ 46
 rw [decide_eq_true hc6] at S30
 refine wp_cond_true S30.ev ?_
 refine wp_goto ?_
 refine jq_goto rfl ?_
 refine wp_seq ?_
 refine wp_skip ?_
 refine wp_seq ?_
 refine wp_seq ?_
 refine rt [rV (.string (strB L)), rV (.int .i64 ((runL L 0 : Nat) : Int)), rV (.int .u8 ((L.getD (runL L 0) 0 : Nat) : Int)), rV (.bool (decide (L.getD (runL L 0) 0 ≠ 101)))] hz hd ?_ ?_
 refine ⟨?_, ?_, ?_, ?_, trivial⟩
 exact zMv hz (sv S0)
 exact zMv hz (sv S7)
 exact zIx hz rfl (sd 0 rfl) (sd 1 rfl) (fun w => s_ix hB (by omega) w)
 exact sBin rfl rfl rfl hz rfl (Gd.none_ rfl) rfl (sd 2 rfl) kc (fun w => b_101n w)
 clear hz hd
 intro a' γ' W' hz hd hC hk hh
 replace S0 := kp hk S0
 replace S3 := kp hk S3
 replace S4 := kp hk S4
 replace S5 := kp hk S5
 replace S6 := kp hk S6
 replace S8 := kp hk S8
 replace S9 := kp hk S9
 replace S2 := kp hk S2
 replace S7 := kp hk S7
 replace S22 := kp hk S22
 replace S26 := kp hk S26
 replace S30 := kp hk S30
 have S54 := gV hz 3 hh
 replace HB := aB HB hC
 clear hC hk hh
 by_cases hc7 : L.getD (runL L 0) 0 ≠ 101
 rw [decide_eq_true hc7] at S54
 refine wp_cond_true S54.ev ?_
 refine wp_seq ?_
 refine rt [rV (.int .i64 0), rV (.int .i64 0), rV (.int .i64 0), rV (.int .i64 0), rV (.bool false)] hz hd ?_ ?_
 refine ⟨?_, ?_, ?_, ?_, ?_, trivial⟩
 exact zAs hz kc
 exact zAs hz kc
 exact zAs hz kc
 exact zAs hz kc
 exact zAs hz kc
 clear hz hd
 intro a' γ' W' hz hd hC hk hh
 replace S0 := kp hk S0
 clear S3
 clear S4
 clear S5
 clear S6
 replace S8 := kp hk S8
 replace S9 := kp hk S9
 clear S2
 replace S7 := kp hk S7
 replace S22 := kp hk S22
 replace S26 := kp hk S26
 replace S30 := kp hk S30
 replace S54 := kp hk S54
 have S2 := gV hz 0 hh
 have S3 := gV hz 1 hh
 have S4 := gV hz 2 hh
 have S5 := gV hz 3 hh
 have S6 := gV hz 4 hh
 replace HB := aB HB hC
 clear hC hk hh
 refine wp_ret ?_
 refine ret_to (T := tT [tV (.int .i64 0), tV (.int .i64 0), tV (.int .i64 0), tV (.int .i64 0), tV (.bool false)]) (rett5 (by kernel_rfl) S2 S3 S4 S5 S6 hd HB) ?_
 refine fun v w h => cut_to (c := noCut) (pw_not (cut_pw0 hc1 hc2 hc3 hc6) (pw_e hc7)) v w (to5 (tV_to rfl) (tV_to rfl) (tV_to rfl) (tV_to rfl) (tV_to rfl) v w h)
 rw [decide_eq_false hc7] at S54
 refine wp_cond_false S54.ev ?_
 refine wp_skip ?_
 refine wp_seq ?_
 refine rt [rV (.int .i64 ((runL L 0 : Nat) : Int)), rV (.int .i64 ((runL L 0 + 1 : Nat) : Int)), rV (.int .i64 ((runL L 0 + 1 : Nat) : Int))] hz hd ?_ ?_
 refine ⟨?_, ?_, ?_, trivial⟩
 exact zMv hz (sv S7)
 exact sBin rfl rfl rfl hz rfl (Gd.none_ rfl) rfl (sd 0 rfl) kc (fun w => n_succ (by omega) w)
 exact zAs hz (sd 1 rfl)
 clear hz hd
 intro a' γ' W' hz hd hC hk hh
 replace S0 := kp hk S0
 replace S3 := kp hk S3
 replace S4 := kp hk S4
 replace S5 := kp hk S5
 replace S6 := kp hk S6
 replace S8 := kp hk S8
 replace S9 := kp hk S9
 replace S2 := kp hk S2
 clear S7
 replace S22 := kp hk S22
 replace S26 := kp hk S26
 replace S30 := kp hk S30
 replace S54 := kp hk S54
 have S7 := gV hz 2 hh
 replace HB := aB HB hC
 clear hC hk hh
 refine wp_join (fun a W => ∃ (j : Nat) (zs : Int), a.tmps.size = 133 ∧ a.defers = [] ∧ Below w.heap.size w W ∧ Sl a 0 (.string (strB L)) ∧ Sl a 2 (.int .i64 ((runL L 0 : Nat) : Int)) ∧ Sl a 3 (.int .i64 0) ∧ Sl a 4 (.int .i64 0) ∧ Sl a 5 (.int .i64 0) ∧ Sl a 6 (.bool false) ∧ Sl a 7 (.int .i64 ((j : Nat) : Int)) ∧ Sl a 8 (.int .i64 0) ∧ Sl a 9 (.int .i64 zs) ∧ Sl a 22 (.bool false) ∧ Sl a 26 (.bool false) ∧ Sl a 30 (.bool true) ∧ Sl a 54 (.bool false) ∧ j = signJ L (runL L 0 + 1) ∧ zs = signZ L (runL L 0 + 1) ∧ j ≤ L.length) ?_ ?_
 refine wp_seq ?_
 by_cases hc8 : runL L 0 + 1 < L.length
 by_cases hc9 : L.getD (runL L 0 + 1) 0 = 43
 refine rt [rV (.int .i64 ((runL L 0 + 1 : Nat) : Int)), rV (.string (strB L)), rV (.int .i64 ((L.length : Nat) : Int)), rV (.bool true), rV (.bool true), rV (.string (strB L)), rV (.int .i64 ((runL L 0 + 1 : Nat) : Int)), rV (.int .u8 ((L.getD (runL L 0 + 1) 0 : Nat) : Int)), rV (.bool true), rV (.bool true), rV undef, rV undef, rV undef, rV undef, rV (.bool true), rV (.bool true)] hz hd ?_ ?_
 refine ⟨?_, ?_, ?_, ?_, ?_, ?_, ?_, ?_, ?_, ?_, ?_, ?_, ?_, ?_, ?_, ?_, trivial⟩
 exact zMv hz (sv S7)
 exact zMv hz (sv S0)
 exact zB1len hz rfl (sd 1 rfl) (fun w => s_len w)
 exact sBin rfl rfl rfl hz rfl (Gd.none_ rfl) rfl (sd 0 rfl) (sd 2 rfl) (fun w => run_t (P := runL L 0 + 1 < L.length) ((fun w => n_lt w) w) hc8)
 exact zMv hz (sd 3 rfl)
 exact zMv hz (sv S0) (g := gT 4 rfl)
 exact zMv hz (sv S7) (g := gT 4 rfl)
 exact zIx hz rfl (sd 5 rfl) (sd 6 rfl) (fun w => s_ix hB (by omega) w) (g := gT 4 rfl)
 exact sBin rfl rfl rfl hz rfl (gT 4 rfl) rfl (sd 7 rfl) kc (fun w => run_t (P := L.getD (runL L 0 + 1) 0 = 43) ((fun w => b_43 w) w) hc9)
 exact zMv hz (sd 8 rfl) (g := gT 4 rfl)
 exact zSkU hz (gN 9 rfl)
 exact zSkU hz (gN 9 rfl)
 exact zSkU hz (gN 9 rfl)
 exact zSkU hz (gN 9 rfl)
 exact zPT hz (sd 9 rfl) kc (g := gT 4 rfl)
 exact zPT hz (sd 4 rfl) (sd 14 rfl)
 clear hz hd
 intro a' γ' W' hz hd hC hk hh
 replace S0 := kp hk S0
 replace S3 := kp hk S3
 replace S4 := kp hk S4
 replace S5 := kp hk S5
 replace S6 := kp hk S6
 replace S8 := kp hk S8
 replace S9 := kp hk S9
 replace S2 := kp hk S2
 replace S22 := kp hk S22
 replace S26 := kp hk S26
 replace S30 := kp hk S30
 replace S54 := kp hk S54
 replace S7 := kp hk S7
 have S72 := gV hz 15 hh
 replace HB := aB HB hC
 clear hC hk hh
 refine wp_cond_true S72.ev ?_
 refine wp_seq ?_
 refine wp_seq ?_
 refine rt [rV (.string (strB L)), rV (.int .i64 ((runL L 0 + 1 : Nat) : Int)), rV (.int .u8 ((L.getD (runL L 0 + 1) 0 : Nat) : Int)), rV (.bool (decide (L.getD (runL L 0 + 1) 0 = 45)))] hz hd ?_ ?_
 refine ⟨?_, ?_, ?_, ?_, trivial⟩
 exact zMv hz (sv S0)
 exact zMv hz (sv S7)
 exact zIx hz rfl (sd 0 rfl) (sd 1 rfl) (fun w => s_ix hB (by omega) w)
 exact sBin rfl rfl rfl hz rfl (Gd.none_ rfl) rfl (sd 2 rfl) kc (fun w => b_45 w)
 clear hz hd
 intro a' γ' W' hz hd hC hk hh
 replace S0 := kp hk S0
 replace S3 := kp hk S3
 replace S4 := kp hk S4
 replace S5 := kp hk S5
 replace S6 := kp hk S6
 replace S8 := kp hk S8
 replace S9 := kp hk S9
 replace S2 := kp hk S2
 replace S22 := kp hk S22
 replace S26 := kp hk S26
 replace S30 := kp hk S30
 replace S54 := kp hk S54
 replace S7 := kp hk S7
 replace S72 := kp hk S72
 have S76 := gV hz 3 hh
 replace HB := aB HB hC
 clear hC hk hh
 by_cases hc10 : L.getD (runL L 0 + 1) 0 = 45
 rw [decide_eq_true hc10] at S76
 refine wp_cond_true S76.ev ?_
 refine rt [rV (.int .i64 (-1))] hz hd ?_ ?_
 refine ⟨?_, trivial⟩
 exact zAs hz kc
 clear hz hd
 intro a' γ' W' hz hd hC hk hh
 replace S0 := kp hk S0
 replace S3 := kp hk S3
 replace S4 := kp hk S4
 replace S5 := kp hk S5
 replace S6 := kp hk S6
 replace S8 := kp hk S8
 clear S9
 replace S2 := kp hk S2
 replace S22 := kp hk S22
 replace S26 := kp hk S26
 replace S30 := kp hk S30
 replace S54 := kp hk S54
 replace S7 := kp hk S7
 replace S72 := kp hk S72
 replace S76 := kp hk S76
 have S9 := gV hz 0 hh
 replace HB := aB HB hC
 clear hC hk hh
 refine rt [rV (.int .i64 ((runL L 0 + 1 : Nat) : Int)), rV (.int .i64 ((runL L 0 + 1 + 1 : Nat) : Int)), rV (.int .i64 ((runL L 0 + 1 + 1 : Nat) : Int))] hz hd ?_ ?_
 refine ⟨?_, ?_, ?_, trivial⟩
 exact zMv hz (sv S7)
 exact sBin rfl rfl rfl hz rfl (Gd.none_ rfl) rfl (sd 0 rfl) kc (fun w => n_succ (by omega) w)
 exact zAs hz (sd 1 rfl)
 clear hz hd
 intro a' γ' W' hz hd hC hk hh
 replace S0 := kp hk S0
 replace S3 := kp hk S3
 replace S4 := kp hk S4
 replace S5 := kp hk S5
 replace S6 := kp hk S6
 replace S8 := kp hk S8
 replace S2 := kp hk S2
 replace S22 := kp hk S22
 replace S26 := kp hk S26
 replace S30 := kp hk S30
 replace S54 := kp hk S54
 clear S7
 replace S72 := kp hk S72
 replace S76 := kp hk S76
 replace S9 := kp hk S9
 have S7 := gV hz 2 hh
 replace HB := aB HB hC
 clear hC hk hh
 refine join_n ?_
 exact ⟨runL L 0 + 1 + 1, (-1), hz, hd, HB, S0, S2, S3, S4, S5, S6, S7, S8, S9, S22, S26, S30, S54, (sign_m hc8 hc10).1, (sign_m hc8 hc10).2, (by omega)⟩
 rw [decide_eq_false hc10] at S76
 refine wp_cond_false S76.ev ?_
 refine wp_skip ?_
 refine rt [rV (.int .i64 ((runL L 0 + 1 : Nat) : Int)), rV (.int .i64 ((runL L 0 + 1 + 1 : Nat) : Int)), rV (.int .i64 ((runL L 0 + 1 + 1 : Nat) : Int))] hz hd ?_ ?_
 refine ⟨?_, ?_, ?_, trivial⟩
 exact zMv hz (sv S7)
 exact sBin rfl rfl rfl hz rfl (Gd.none_ rfl) rfl (sd 0 rfl) kc (fun w => n_succ (by omega) w)
 exact zAs hz (sd 1 rfl)
 clear hz hd
 intro a' γ' W' hz hd hC hk hh
 replace S0 := kp hk S0
 replace S3 := kp hk S3
 replace S4 := kp hk S4
 replace S5 := kp hk S5
 replace S6 := kp hk S6
 replace S8 := kp hk S8
 replace S9 := kp hk S9
 replace S2 := kp hk S2
 replace S22 := kp hk S22
 replace S26 := kp hk S26
 replace S30 := kp hk S30
 replace S54 := kp hk S54
 clear S7
 replace S72 := kp hk S72
 replace S76 := kp hk S76
 have S7 := gV hz 2 hh
 replace HB := aB HB hC
 clear hC hk hh
 refine join_n ?_
 exact ⟨runL L 0 + 1 + 1, 1, hz, hd, HB, S0, S2, S3, S4, S5, S6, S7, S8, S9, S22, S26, S30, S54, (sign_p hc8 hc9 hc10).1, (sign_p hc8 hc9 hc10).2, (by omega)⟩
 refine rt [rV (.int .i64 ((runL L 0 + 1 : Nat) : Int)), rV (.string (strB L)), rV (.int .i64 ((L.length : Nat) : Int)), rV (.bool true), rV (.bool true), rV (.string (strB L)), rV (.int .i64 ((runL L 0 + 1 : Nat) : Int)), rV (.int .u8 ((L.getD (runL L 0 + 1) 0 : Nat) : Int)), rV (.bool false), rV (.bool false), rV (.string (strB L)), rV (.int .i64 ((runL L 0 + 1 : Nat) : Int)), rV (.int .u8 ((L.getD (runL L 0 + 1) 0 : Nat) : Int)), rV (.bool (decide (L.getD (runL L 0 + 1) 0 = 45))), rV (.bool (decide (L.getD (runL L 0 + 1) 0 = 45))), rV (.bool (decide (L.getD (runL L 0 + 1) 0 = 45)))] hz hd ?_ ?_
 refine ⟨?_, ?_, ?_, ?_, ?_, ?_, ?_, ?_, ?_, ?_, ?_, ?_, ?_, ?_, ?_, ?_, trivial⟩
 exact zMv hz (sv S7)
 exact zMv hz (sv S0)
 exact zB1len hz rfl (sd 1 rfl) (fun w => s_len w)
 exact sBin rfl rfl rfl hz rfl (Gd.none_ rfl) rfl (sd 0 rfl) (sd 2 rfl) (fun w => run_t (P := runL L 0 + 1 < L.length) ((fun w => n_lt w) w) hc8)
 exact zMv hz (sd 3 rfl)
 exact zMv hz (sv S0) (g := gT 4 rfl)
 exact zMv hz (sv S7) (g := gT 4 rfl)
 exact zIx hz rfl (sd 5 rfl) (sd 6 rfl) (fun w => s_ix hB (by omega) w) (g := gT 4 rfl)
 exact sBin rfl rfl rfl hz rfl (gT 4 rfl) rfl (sd 7 rfl) kc (fun w => run_f (P := L.getD (runL L 0 + 1) 0 = 43) ((fun w => b_43 w) w) hc9)
 exact zMv hz (sd 8 rfl) (g := gT 4 rfl)
 exact zMv hz (sv S0) (g := gT 9 rfl)
 exact zMv hz (sv S7) (g := gT 9 rfl)
 exact zIx hz rfl (sd 10 rfl) (sd 11 rfl) (fun w => s_ix hB (by omega) w) (g := gT 9 rfl)
 exact sBin rfl rfl rfl hz rfl (gT 9 rfl) rfl (sd 12 rfl) kc (fun w => b_45 w)
 exact zPF hz (sd 9 rfl) (sd 13 rfl) (g := gT 4 rfl)
 exact zPT hz (sd 4 rfl) (sd 14 rfl)
 clear hz hd
 intro a' γ' W' hz hd hC hk hh
 replace S0 := kp hk S0
 replace S3 := kp hk S3
 replace S4 := kp hk S4
 replace S5 := kp hk S5
 replace S6 := kp hk S6
 replace S8 := kp hk S8
 replace S9 := kp hk S9
 replace S2 := kp hk S2
 replace S22 := kp hk S22
 replace S26 := kp hk S26
 replace S30 := kp hk S30
 replace S54 := kp hk S54
 replace S7 := kp hk S7
 have S72 := gV hz 15 hh
 replace HB := aB HB hC
 clear hC hk hh
 by_cases hc11 : L.getD (runL L 0 + 1) 0 = 45
 rw [decide_eq_true hc11] at S72
 refine wp_cond_true S72.ev ?_
 refine wp_seq ?_
 refine wp_seq ?_
 refine rt [rV (.string (strB L)), rV (.int .i64 ((runL L 0 + 1 : Nat) : Int)), rV (.int .u8 ((L.getD (runL L 0 + 1) 0 : Nat) : Int)), rV (.bool true)] hz hd ?_ ?_
 refine ⟨?_, ?_, ?_, ?_, trivial⟩
 exact zMv hz (sv S0)
 exact zMv hz (sv S7)
 exact zIx hz rfl (sd 0 rfl) (sd 1 rfl) (fun w => s_ix hB (by omega) w)
 exact sBin rfl rfl rfl hz rfl (Gd.none_ rfl) rfl (sd 2 rfl) kc (fun w => run_t (P := L.getD (runL L 0 + 1) 0 = 45) ((fun w => b_45 w) w) hc11)
 clear hz hd
 intro a' γ' W' hz hd hC hk hh
 replace S0 := kp hk S0
 replace S3 := kp hk S3
 replace S4 := kp hk S4
 replace S5 := kp hk S5
 replace S6 := kp hk S6
 replace S8 := kp hk S8
 replace S9 := kp hk S9
 replace S2 := kp hk S2
 replace S22 := kp hk S22
 replace S26 := kp hk S26
 replace S30 := kp hk S30
 replace S54 := kp hk S54
 replace S7 := kp hk S7
 replace S72 := kp hk S72
 have S76 := gV hz 3 hh
 replace HB := aB HB hC
 clear hC hk hh
 refine wp_cond_true S76.ev ?_
 refine rt [rV (.int .i64 (-1))] hz hd ?_ ?_
 refine ⟨?_, trivial⟩
 exact zAs hz kc
 clear hz hd
 intro a' γ' W' hz hd hC hk hh
 replace S0 := kp hk S0
 replace S3 := kp hk S3
 replace S4 := kp hk S4
 replace S5 := kp hk S5
 replace S6 := kp hk S6
 replace S8 := kp hk S8
 clear S9
 replace S2 := kp hk S2
 replace S22 := kp hk S22
 replace S26 := kp hk S26
 replace S30 := kp hk S30
 replace S54 := kp hk S54
 replace S7 := kp hk S7
 replace S72 := kp hk S72
 replace S76 := kp hk S76
 have S9 := gV hz 0 hh
 replace HB := aB HB hC
 clear hC hk hh
 refine rt [rV (.int .i64 ((runL L 0 + 1 : Nat) : Int)), rV (.int .i64 ((runL L 0 + 1 + 1 : Nat) : Int)), rV (.int .i64 ((runL L 0 + 1 + 1 : Nat) : Int))] hz hd ?_ ?_
 refine ⟨?_, ?_, ?_, trivial⟩
 exact zMv hz (sv S7)
 exact sBin rfl rfl rfl hz rfl (Gd.none_ rfl) rfl (sd 0 rfl) kc (fun w => n_succ (by omega) w)
 exact zAs hz (sd 1 rfl)
 clear hz hd
 intro a' γ' W' hz hd hC hk hh
 replace S0 := kp hk S0
 replace S3 := kp hk S3
 replace S4 := kp hk S4
 replace S5 := kp hk S5
 replace S6 := kp hk S6
 replace S8 := kp hk S8
 replace S2 := kp hk S2
 replace S22 := kp hk S22
 replace S26 := kp hk S26
 replace S30 := kp hk S30
 replace S54 := kp hk S54
 clear S7
 replace S72 := kp hk S72
 replace S76 := kp hk S76
 replace S9 := kp hk S9
 have S7 := gV hz 2 hh
 replace HB := aB HB hC
 clear hC hk hh
 refine join_n ?_
 exact ⟨runL L 0 + 1 + 1, (-1), hz, hd, HB, S0, S2, S3, S4, S5, S6, S7, S8, S9, S22, S26, S30, S54, (sign_m hc8 hc11).1, (sign_m hc8 hc11).2, (by omega)⟩
 rw [decide_eq_false hc11] at S72
 refine wp_cond_false S72.ev ?_
 refine wp_skip ?_
 refine join_n ?_
 exact ⟨runL L 0 + 1, 1, hz, hd, HB, S0, S2, S3, S4, S5, S6, S7, S8, S9, S22, S26, S30, S54, (sign_no hc8 hc9 hc11).1, (sign_no hc8 hc9 hc11).2, (by omega)⟩
 refine rt [rV (.int .i64 ((runL L 0 + 1 : Nat) : Int)), rV (.string (strB L)), rV (.int .i64 ((L.length : Nat) : Int)), rV (.bool false), rV (.bool false), rV undef, rV undef, rV undef, rV undef, rV undef, rV undef, rV undef, rV undef, rV undef, rV undef, rV (.bool false)] hz hd ?_ ?_
 refine ⟨?_, ?_, ?_, ?_, ?_, ?_, ?_, ?_, ?_, ?_, ?_, ?_, ?_, ?_, ?_, ?_, trivial⟩
 exact zMv hz (sv S7)
 exact zMv hz (sv S0)
 exact zB1len hz rfl (sd 1 rfl) (fun w => s_len w)
 exact sBin rfl rfl rfl hz rfl (Gd.none_ rfl) rfl (sd 0 rfl) (sd 2 rfl) (fun w => run_f (P := runL L 0 + 1 < L.length) ((fun w => n_lt w) w) hc8)
 exact zMv hz (sd 3 rfl)
 exact zSkU hz (gN 4 rfl)
 exact zSkU hz (gN 4 rfl)
 exact zSkU hz (gN 4 rfl)
 exact zSkU hz (gN 4 rfl)
 exact zSkU hz (gN 4 rfl)
 exact zSkU hz (gU 9 rfl)
 exact zSkU hz (gU 9 rfl)
 exact zSkU hz (gU 9 rfl)
 exact zSkU hz (gU 9 rfl)
 exact zSkU hz (gN 4 rfl)
 exact zPF hz (sd 4 rfl) kc
 clear hz hd
 intro a' γ' W' hz hd hC hk hh
 replace S0 := kp hk S0
 replace S3 := kp hk S3
 replace S4 := kp hk S4
 replace S5 := kp hk S5
 replace S6 := kp hk S6
 replace S8 := kp hk S8
 replace S9 := kp hk S9
 replace S2 := kp hk S2
 replace S22 := kp hk S22
 replace S26 := kp hk S26
 replace S30 := kp hk S30
 replace S54 := kp hk S54
 replace S7 := kp hk S7
 have S72 := gV hz 15 hh
 replace HB := aB HB hC
 clear hC hk hh
 refine wp_cond_false S72.ev ?_
 refine wp_skip ?_
 refine join_n ?_
 exact ⟨runL L 0 + 1, 1, hz, hd, HB, S0, S2, S3, S4, S5, S6, S7, S8, S9, S22, S26, S30, S54, (sign_0 hc8).1, (sign_0 hc8).2, (by omega)⟩
 clear S0 S3 S4 S5 S6 S8 S9 S2 S22 S26 S30 S54 S7 hz hd HB
 rintro a W ⟨j, zs, hz, hd, HB, S0, S2, S3, S4, S5, S6, S7, S8, S9, S22, S26, S30, S54, hj, hzs, hjl⟩
 have hz2 : zs = 1 ∨ zs = -1 := hzs ▸ signZ_abs
 refine wp_seq ?_
 refine rt [rV (.string (strB L)), rV (.int .i64 ((j : Nat) : Int)), rV (.int .i64 ((runL L j : Nat) : Int)), rV (.int .i64 ((runL L j : Nat) : Int))] hz hd ?_ ?_
 refine ⟨?_, ?_, ?_, ?_, trivial⟩
 exact zMv hz (sv S0)
 exact zMv hz (sv S7)
 exact zC2 hz Tryz.func107 (sd 0 rfl) (sd 1 rfl) (k11 (fun _ => c_digits hB hL (by omega)))
 exact zAs hz (sd 2 rfl)
 clear hz hd
 intro a' γ' W' hz hd hC hk hh
 replace S0 := kp hk S0
 replace S3 := kp hk S3
 replace S4 := kp hk S4
 replace S5 := kp hk S5
 replace S6 := kp hk S6
 clear S8
 replace S9 := kp hk S9
 replace S2 := kp hk S2
 replace S22 := kp hk S22
 replace S26 := kp hk S26
 replace S30 := kp hk S30
 replace S54 := kp hk S54
 replace S7 := kp hk S7
 have S8 := gV hz 3 hh
 replace HB := aB HB hC
 clear hC hk hh
 refine wp_seq ?_
 refine wp_seq ?_
 have hrj := run_le (L := L) j hjl
 by_cases hc12 : runL L j < 1
 refine rt [rV (.int .i64 ((runL L j : Nat) : Int)), rV (.bool true), rV (.bool true), rV undef, rV undef, rV (.bool true), rV (.bool true), rV undef, rV undef, rV undef, rV undef, rV undef, rV undef, rV (.bool true)] hz hd ?_ ?_
 refine ⟨?_, ?_, ?_, ?_, ?_, ?_, ?_, ?_, ?_, ?_, ?_, ?_, ?_, ?_, trivial⟩
 exact zMv hz (sv S8)
 exact sBin rfl rfl rfl hz rfl (Gd.none_ rfl) rfl (sd 0 rfl) kc (fun w => run_t (P := runL L j < 1) ((fun w => n_lt1 w) w) hc12)
 exact zMv hz (sd 1 rfl)
 exact zSkU hz (gN 2 rfl)
 exact zSkU hz (gN 2 rfl)
 exact zPT hz (sd 2 rfl) kc
 exact zMv hz (sd 5 rfl)
 exact zSkU hz (gN 6 rfl)
 exact zSkU hz (gN 6 rfl)
 exact zSkU hz (gN 6 rfl)
 exact zSkU hz (gN 6 rfl)
 exact zSkU hz (gN 6 rfl)
 exact zSkU hz (gN 6 rfl)
 exact zPT hz (sd 6 rfl) kc
 clear hz hd
 intro a' γ' W' hz hd hC hk hh
 replace S0 := kp hk S0
 replace S3 := kp hk S3
 replace S4 := kp hk S4
 replace S5 := kp hk S5
 replace S6 := kp hk S6
 replace S9 := kp hk S9
 replace S2 := kp hk S2
 replace S22 := kp hk S22
 replace S26 := kp hk S26
 replace S30 := kp hk S30
 replace S54 := kp hk S54
 replace S7 := kp hk S7
 replace S8 := kp hk S8
 have S95 := gV hz 13 hh
 replace HB := aB HB hC
 clear hC hk hh
 refine wp_cond_true S95.ev ?_
 refine wp_seq ?_
 refine rt [rV (.int .i64 0), rV (.int .i64 0), rV (.int .i64 0), rV (.int .i64 0), rV (.bool false)] hz hd ?_ ?_
 refine ⟨?_, ?_, ?_, ?_, ?_, trivial⟩
 exact zAs hz kc
 exact zAs hz kc
 exact zAs hz kc
 exact zAs hz kc
 exact zAs hz kc
 clear hz hd
 intro a' γ' W' hz hd hC hk hh
 replace S0 := kp hk S0
 clear S3
 clear S4
 clear S5
 clear S6
 replace S9 := kp hk S9
 clear S2
 replace S22 := kp hk S22
 replace S26 := kp hk S26
 replace S30 := kp hk S30
 replace S54 := kp hk S54
 replace S7 := kp hk S7
 replace S8 := kp hk S8
 replace S95 := kp hk S95
 have S2 := gV hz 0 hh
 have S3 := gV hz 1 hh
 have S4 := gV hz 2 hh
 have S5 := gV hz 3 hh
 have S6 := gV hz 4 hh
 replace HB := aB HB hC
 clear hC hk hh
 refine wp_ret ?_
 refine ret_to (T := tT [tV (.int .i64 0), tV (.int .i64 0), tV (.int .i64 0), tV (.int .i64 0), tV (.bool false)]) (rett5 (by kernel_rfl) S2 S3 S4 S5 S6 hd HB) ?_
 refine fun v w h => cut_to (c := noCut) (pw_not (cut_pw0 hc1 hc2 hc3 hc6) (pw_lo hj hc12)) v w (to5 (tV_to rfl) (tV_to rfl) (tV_to rfl) (tV_to rfl) (tV_to rfl) v w h)
 by_cases hc13 : 3 < runL L j
 refine rt [rV (.int .i64 ((runL L j : Nat) : Int)), rV (.bool false), rV (.bool false), rV (.int .i64 ((runL L j : Nat) : Int)), rV (.bool true), rV (.bool true), rV (.bool true), rV undef, rV undef, rV undef, rV undef, rV undef, rV undef, rV (.bool true)] hz hd ?_ ?_
 refine ⟨?_, ?_, ?_, ?_, ?_, ?_, ?_, ?_, ?_, ?_, ?_, ?_, ?_, ?_, trivial⟩
 exact zMv hz (sv S8)
 exact sBin rfl rfl rfl hz rfl (Gd.none_ rfl) rfl (sd 0 rfl) kc (fun w => run_f (P := runL L j < 1) ((fun w => n_lt1 w) w) hc12)
 exact zMv hz (sd 1 rfl)
 exact zMv hz (sv S8) (g := gT 2 rfl)
 exact sBin rfl rfl rfl hz rfl (gT 2 rfl) rfl (sd 3 rfl) kc (fun w => run_t (P := 3 < runL L j) ((fun w => n_gt3 w) w) hc13)
 exact zPF hz (sd 2 rfl) (sd 4 rfl)
 exact zMv hz (sd 5 rfl)
 exact zSkU hz (gN 6 rfl)
 exact zSkU hz (gN 6 rfl)
 exact zSkU hz (gN 6 rfl)
 exact zSkU hz (gN 6 rfl)
 exact zSkU hz (gN 6 rfl)
 exact zSkU hz (gN 6 rfl)
 exact zPT hz (sd 6 rfl) kc
 clear hz hd
 intro a' γ' W' hz hd hC hk hh
 replace S0 := kp hk S0
 replace S3 := kp hk S3
 replace S4 := kp hk S4
 replace S5 := kp hk S5
 replace S6 := kp hk S6
 replace S9 := kp hk S9
 replace S2 := kp hk S2
 replace S22 := kp hk S22
 replace S26 := kp hk S26
 replace S30 := kp hk S30
 replace S54 := kp hk S54
 replace S7 := kp hk S7
 replace S8 := kp hk S8
 have S95 := gV hz 13 hh
 replace HB := aB HB hC
 clear hC hk hh
 refine wp_cond_true S95.ev ?_
 refine wp_seq ?_
 refine rt [rV (.int .i64 0), rV (.int .i64 0), rV (.int .i64 0), rV (.int .i64 0), rV (.bool false)] hz hd ?_ ?_
 refine ⟨?_, ?_, ?_, ?_, ?_, trivial⟩
 exact zAs hz kc
 exact zAs hz kc
 exact zAs hz kc
 exact zAs hz kc
 exact zAs hz kc
 clear hz hd
 intro a' γ' W' hz hd hC hk hh
 replace S0 := kp hk S0
 clear S3
 clear S4
 clear S5
 clear S6
 replace S9 := kp hk S9
 clear S2
 replace S22 := kp hk S22
 replace S26 := kp hk S26
 replace S30 := kp hk S30
 replace S54 := kp hk S54
 replace S7 := kp hk S7
 replace S8 := kp hk S8
 replace S95 := kp hk S95
 have S2 := gV hz 0 hh
 have S3 := gV hz 1 hh
 have S4 := gV hz 2 hh
 have S5 := gV hz 3 hh
 have S6 := gV hz 4 hh
 replace HB := aB HB hC
 clear hC hk hh
 refine wp_ret ?_
 refine ret_to (T := tT [tV (.int .i64 0), tV (.int .i64 0), tV (.int .i64 0), tV (.int .i64 0), tV (.bool false)]) (rett5 (by kernel_rfl) S2 S3 S4 S5 S6 hd HB) ?_
 refine fun v w h => cut_to (c := noCut) (pw_not (cut_pw0 hc1 hc2 hc3 hc6) (pw_hi hj hc13)) v w (to5 (tV_to rfl) (tV_to rfl) (tV_to rfl) (tV_to rfl) (tV_to rfl) v w h)
 refine rt [rV (.int .i64 ((runL L j : Nat) : Int)), rV (.bool false), rV (.bool false), rV (.int .i64 ((runL L j : Nat) : Int)), rV (.bool false), rV (.bool false), rV (.bool false), rV (.int .i64 ((j : Nat) : Int)), rV (.int .i64 ((runL L j : Nat) : Int)), rV (.int .i64 ((j + (runL L j) : Nat) : Int)), rV (.string (strB L)), rV (.int .i64 ((L.length : Nat) : Int)), rV (.bool (decide (j + (runL L j) < L.length))), rV (.bool (decide (j + (runL L j) < L.length)))] hz hd ?_ ?_
 refine ⟨?_, ?_, ?_, ?_, ?_, ?_, ?_, ?_, ?_, ?_, ?_, ?_, ?_, ?_, trivial⟩
 exact zMv hz (sv S8)
 exact sBin rfl rfl rfl hz rfl (Gd.none_ rfl) rfl (sd 0 rfl) kc (fun w => run_f (P := runL L j < 1) ((fun w => n_lt1 w) w) hc12)
 exact zMv hz (sd 1 rfl)
 exact zMv hz (sv S8) (g := gT 2 rfl)
 exact sBin rfl rfl rfl hz rfl (gT 2 rfl) rfl (sd 3 rfl) kc (fun w => run_f (P := 3 < runL L j) ((fun w => n_gt3 w) w) hc13)
 exact zPF hz (sd 2 rfl) (sd 4 rfl)
 exact zMv hz (sd 5 rfl)
 exact zMv hz (sv S7) (g := gT 6 rfl)
 exact zMv hz (sv S8) (g := gT 6 rfl)
 exact sBin rfl rfl rfl hz rfl (gT 6 rfl) rfl (sd 7 rfl) (sd 8 rfl) (fun w => n_add (by omega) (by omega) w)
 exact zMv hz (sv S0) (g := gT 6 rfl)
 exact zB1len hz rfl (sd 10 rfl) (fun w => s_len w) (g := gT 6 rfl)
 exact sBin rfl rfl rfl hz rfl (gT 6 rfl) rfl (sd 9 rfl) (sd 11 rfl) (fun w => n_lt w)
 exact zPF hz (sd 6 rfl) (sd 12 rfl)
 clear hz hd
 intro a' γ' W' hz hd hC hk hh
 replace S0 := kp hk S0
 replace S3 := kp hk S3
 replace S4 := kp hk S4
 replace S5 := kp hk S5
 replace S6 := kp hk S6
 replace S9 := kp hk S9
 replace S2 := kp hk S2
 replace S22 := kp hk S22
 replace S26 := kp hk S26
 replace S30 := kp hk S30
 replace S54 := kp hk S54
 replace S7 := kp hk S7
 replace S8 := kp hk S8
 have S95 := gV hz 13 hh
 replace HB := aB HB hC
 clear hC hk hh
 by_cases hc14 : j + (runL L j) < L.length
 rw [decide_eq_true hc14] at S95
 refine wp_cond_true S95.ev ?_
 refine wp_seq ?_
 refine rt [rV (.int .i64 0), rV (.int .i64 0), rV (.int .i64 0), rV (.int .i64 0), rV (.bool false)] hz hd ?_ ?_
 refine ⟨?_, ?_, ?_, ?_, ?_, trivial⟩
 exact zAs hz kc
 exact zAs hz kc
 exact zAs hz kc
 exact zAs hz kc
 exact zAs hz kc
 clear hz hd
 intro a' γ' W' hz hd hC hk hh
 replace S0 := kp hk S0
 clear S3
 clear S4
 clear S5
 clear S6
 replace S9 := kp hk S9
 clear S2
 replace S22 := kp hk S22
 replace S26 := kp hk S26
 replace S30 := kp hk S30
 replace S54 := kp hk S54
 replace S7 := kp hk S7
 replace S8 := kp hk S8
 replace S95 := kp hk S95
 have S2 := gV hz 0 hh
 have S3 := gV hz 1 hh
 have S4 := gV hz 2 hh
 have S5 := gV hz 3 hh
 have S6 := gV hz 4 hh
 replace HB := aB HB hC
 clear hC hk hh
 refine wp_ret ?_
 refine ret_to (T := tT [tV (.int .i64 0), tV (.int .i64 0), tV (.int .i64 0), tV (.int .i64 0), tV (.bool false)]) (rett5 (by kernel_rfl) S2 S3 S4 S5 S6 hd HB) ?_
 refine fun v w h => cut_to (c := noCut) (pw_not (cut_pw0 hc1 hc2 hc3 hc6) (pw_en hj hc14)) v w (to5 (tV_to rfl) (tV_to rfl) (tV_to rfl) (tV_to rfl) (tV_to rfl) v w h)
 rw [decide_eq_false hc14] at S95
 refine wp_cond_false S95.ev ?_
 refine wp_skip ?_
 refine wp_seq ?_
 refine wp_seq ?_
 obtain ⟨hXl, hX⟩ := tail_dig (L := L) (j := j) hc14 hjl
 obtain ⟨X, eX⟩ : ∃ X, L.drop j = X := ⟨_, rfl⟩
 rw [eX] at hX hXl
 have hX3 : X.length ≤ 3 := by have := hc13; omega
 refine rt [rV (.string (strB L)), rV (.int .i64 ((j : Nat) : Int)), rV (.string (strB X)), rIt 3 (strB X) 0] hz hd ?_ ?_
 refine ⟨?_, ?_, ?_, ?_, trivial⟩
 exact zMv hz (sv S0)
 exact zMv hz (sv S7)
 exact zSlFrom hz rfl (sd 0 rfl) (sd 1 rfl) (fun w => eX ▸ s_from hjl w)
 exact zRange hz rfl (by kernel_rfl) (sd 2 rfl)
 clear hz hd
 intro a' γ' W' hz hd hC hk hh
 replace S0 := kp hk S0
 replace S3 := kp hk S3
 replace S4 := kp hk S4
 replace S5 := kp hk S5
 replace S6 := kp hk S6
 replace S9 := kp hk S9
 replace S2 := kp hk S2
 replace S22 := kp hk S22
 replace S26 := kp hk S26
 replace S30 := kp hk S30
 replace S54 := kp hk S54
 replace S7 := kp hk S7
 replace S8 := kp hk S8
 replace S95 := kp hk S95
 obtain ⟨pI, S99, hI, lI⟩ := gotIt hz 3 hC hh rfl rfl rfl rfl rfl
 have bI : w.heap.size ≤ pI := Nat.le_trans HB.size lI
 clear lI
 replace HB := aB HB hC
 clear hC hk hh
 refine wp_block ?_
 refine wp_loop_ghost (fun k a W => ∃ (c : Nat), k = X.length - c ∧ a.tmps.size = 133 ∧ a.defers = [] ∧ Below w.heap.size w W ∧ Sl a 0 (.string (strB L)) ∧ Sl a 2 (.int .i64 ((runL L 0 : Nat) : Int)) ∧ Sl a 3 (.int .i64 0) ∧ Sl a 4 (.int .i64 0) ∧ Sl a 5 (.int .i64 ((readD (X.take c) : Nat) : Int)) ∧ Sl a 6 (.bool false) ∧ Sl a 7 (.int .i64 ((j : Nat) : Int)) ∧ Sl a 8 (.int .i64 ((runL L j : Nat) : Int)) ∧ Sl a 9 (.int .i64 zs) ∧ Sl a 22 (.bool false) ∧ Sl a 26 (.bool false) ∧ Sl a 30 (.bool true) ∧ Sl a 54 (.bool false) ∧ Sl a 95 (.bool false) ∧ Sl a 99 (.pointer (some ⟨pI, 0, none⟩)) ∧ Iter (strB X) c pI W ∧ c ≤ X.length) _ ⟨0, rfl, hz, hd, HB, S0, S2, S3, S4, S5, S6, S7, S8, S9, S22, S26, S30, S54, S95, S99, hI, (Nat.zero_le _)⟩ ?_
 clear S0 S3 S4 S5 S6 S9 S2 S22 S26 S30 S54 S7 S8 S95 S99 hI hz hd HB
 rintro k a W ⟨c, rfl, hz, hd, HB, S0, S2, S3, S4, S5, S6, S7, S8, S9, S22, S26, S30, S54, S95, S99, hI, hc⟩
 have hrc := readD_le (mem_take_le hX c) (by rw [List.length_take]; omega)
 refine wp_seq ?_
 by_cases hcl : c < X.length
 refine region_text (M := [pI]) [rItE 0 (tT [tV (.bool true), tV (.int .i64 ((c : Nat) : Int)), tV (.int .i32 ((X.getD c 0 : Nat) : Int))]) (strB X) (c + 1) pI, rV (.bool true)] hz hd (by kernel_rfl) ?_ ?_
 refine ⟨?_, ?_, trivial⟩
 exact zNext (T := tT [tV (.bool true), tV (.int .i64 ((c : Nat) : Int)), tV (.int .i32 ((X.getD c 0 : Nat) : Int))]) (k := 0) hz rfl hI (by rw [strB_size]; exact hcl) (by rw [strB_at hX hcl]; have := getD_dig hX hcl; omega) (by simp [tagOf]) (by kernel_rfl) (fun w => ⟨[.bool true, .int .i64 ((c : Nat) : Int), .int .i32 (((strB X)[c]'(by rw [strB_size]; exact hcl)).toNat : Nat)], rfl, rfl, rfl, (by show Value.int .i32 _ = Value.int .i32 _; rw [strB_at hX hcl]), trivial⟩) (sv S99)
 exact zExt hz (sdI 0 rfl)
 clear hz hd
 intro a' γ' W' hz hd hC hk hh
 replace S0 := kp hk S0
 replace S3 := kp hk S3
 replace S4 := kp hk S4
 replace S5 := kp hk S5
 replace S6 := kp hk S6
 replace S9 := kp hk S9
 replace S2 := kp hk S2
 replace S22 := kp hk S22
 replace S26 := kp hk S26
 replace S30 := kp hk S30
 replace S54 := kp hk S54
 replace S7 := kp hk S7
 replace S8 := kp hk S8
 replace S95 := kp hk S95
 replace S99 := kp hk S99
 obtain ⟨⟨v100, S100, H100⟩, hI2⟩ := gotNx hz 0 hh rfl rfl rfl rfl rfl
 clear hI
 have S101 := gV hz 1 hh
 replace HB := aM HB hC
 clear hC hk hh
 refine wp_seq ?_
 refine wp_cond_true S101.ev ?_
 refine wp_skip ?_
 refine wp_block ?_
 refine wp_seq ?_
 refine rt [rV (.int .i32 ((X.getD c 0 : Nat) : Int)), rV (.int .i32 ((X.getD c 0 : Nat) : Int))] hz hd ?_ ?_
 refine ⟨?_, ?_, trivial⟩
 exact zExt hz (so S100 H100)
 exact zAs hz (sd 0 rfl)
 clear hz hd
 intro a' γ' W' hz hd hC hk hh
 replace S0 := kp hk S0
 replace S3 := kp hk S3
 replace S4 := kp hk S4
 replace S5 := kp hk S5
 replace S6 := kp hk S6
 replace S9 := kp hk S9
 replace S2 := kp hk S2
 replace S22 := kp hk S22
 replace S26 := kp hk S26
 replace S30 := kp hk S30
 replace S54 := kp hk S54
 replace S7 := kp hk S7
 replace S8 := kp hk S8
 replace S95 := kp hk S95
 replace S99 := kp hk S99
 replace S100 := kp hk S100
 replace H100 := Ty.aft _ H100 hC
 replace S101 := kp hk S101
 replace hI2 := Iter.aft hI2 hC
 have S11 := gV hz 1 hh
 replace HB := aB HB hC
 clear hC hk hh
 have hcl2 := getD_dig hX hcl
 have hr3 := readD_le (mem_take_le hX c) (by rw [List.length_take]; omega)
 refine rt [rV (.int .i64 ((readD (X.take c) : Nat) : Int)), rV (.int .i64 ((10 * (readD (X.take c)) : Nat) : Int)), rV (.int .i32 ((X.getD c 0 : Nat) : Int)), rV (.int .i32 ((X.getD c 0 - 48 : Nat) : Int)), rV (.int .i64 ((X.getD c 0 - 48 : Nat) : Int)), rV (.int .i64 ((10 * (readD (X.take c)) + (X.getD c 0 - 48) : Nat) : Int)), rV (.int .i64 ((10 * (readD (X.take c)) + (X.getD c 0 - 48) : Nat) : Int))] hz hd ?_ ?_
 refine ⟨?_, ?_, ?_, ?_, ?_, ?_, ?_, trivial⟩
 exact zMv hz (sv S5)
 exact sBin rfl rfl rfl hz rfl (Gd.none_ rfl) rfl kc (sd 0 rfl) (fun w => n_mul10 (by omega) w)
 exact zMv hz (sv S11)
 exact sBin rfl rfl rfl hz rfl (Gd.none_ rfl) rfl (sd 2 rfl) kc (fun w => d_sub48 (getD_dig hX hcl) w)
 exact sConv (T' := tV (.int .i32 ((X.getD c 0 - 48 : Nat) : Int))) rfl rfl rfl hz rfl (Gd.none_ rfl) rfl (sd 3 rfl) (fun v_ w_ h_ => by have h_ : v_ = .int .i32 ((X.getD c 0 - 48 : Nat) : Int) := h_; subst h_; exact ⟨_, by exact cv_i32 (by have := getD_dig hX hcl; omega) _, rfl⟩)
 exact sBin rfl rfl rfl hz rfl (Gd.none_ rfl) rfl (sd 1 rfl) (sd 4 rfl) (fun w => n_add (by omega) (by omega) w)
 exact zAs hz (sd 5 rfl)
 clear hz hd
 intro a' γ' W' hz hd hC hk hh
 replace S0 := kp hk S0
 replace S3 := kp hk S3
 replace S4 := kp hk S4
 clear S5
 replace S6 := kp hk S6
 replace S9 := kp hk S9
 replace S2 := kp hk S2
 replace S22 := kp hk S22
 replace S26 := kp hk S26
 replace S30 := kp hk S30
 replace S54 := kp hk S54
 replace S7 := kp hk S7
 replace S8 := kp hk S8
 replace S95 := kp hk S95
 replace S99 := kp hk S99
 replace S100 := kp hk S100
 replace H100 := Ty.aft _ H100 hC
 replace S101 := kp hk S101
 replace S11 := kp hk S11
 replace hI2 := Iter.aft hI2 hC
 have S5 := gV hz 6 hh
 replace HB := aB HB hC
 clear hC hk hh
 rw [← readD_take hcl] at S5
 show ∃ n', n' < _ ∧ _
 refine ⟨_, ?_, c + 1, rfl, hz, hd, HB, S0, S2, S3, S4, S5, S6, S7, S8, S9, S22, S26, S30, S54, S95, S99, hI2, hcl⟩
 omega
 refine rt [rT (tT [tV (.bool false)]), rV (.bool false)] hz hd ?_ ?_
 refine ⟨?_, ?_, trivial⟩
 exact zNextEnd hz rfl hI (by rw [strB_size]; exact hcl) rfl (sv S99)
 exact zExt hz (sd 0 rfl)
 clear hz hd
 intro a' γ' W' hz hd hC hk hh
 replace S0 := kp hk S0
 replace S3 := kp hk S3
 replace S4 := kp hk S4
 replace S5 := kp hk S5
 replace S6 := kp hk S6
 replace S9 := kp hk S9
 replace S2 := kp hk S2
 replace S22 := kp hk S22
 replace S26 := kp hk S26
 replace S30 := kp hk S30
 replace S54 := kp hk S54
 replace S7 := kp hk S7
 replace S8 := kp hk S8
 replace S95 := kp hk S95
 replace S99 := kp hk S99
 replace hI := Iter.aft hI hC rfl
 obtain ⟨v100, S100, H100⟩ := got hz 0 hh rfl rfl rfl rfl
 have S101 := gV hz 1 hh
 replace HB := aB HB hC
 clear hC hk hh
 refine wp_seq ?_
 refine wp_cond_false S101.ev ?_
 refine wp_exit ?_
 refine wp_seq ?_
 have hcX : c = X.length := by have := hcl; omega
 have eup : readD (X.take c) = readD X := by rw [hcX, List.take_length]
 have hup := readD_le hX hX3
 rw [eup] at S5
 refine rt [rV (.int .i64 ((readD X : Nat) : Int)), rV (.int .i64 zs), rV (.int .i64 (((readD X : Nat) : Int) * zs)), rV (.int .i64 (((readD X : Nat) : Int) * zs))] hz hd ?_ ?_
 refine ⟨?_, ?_, ?_, ?_, trivial⟩
 exact zMv hz (sv S5)
 exact zMv hz (sv S9)
 exact sBin rfl rfl rfl hz rfl (Gd.none_ rfl) rfl (sd 0 rfl) (sd 1 rfl) (fun w => f_sign hup hz2 w)
 exact zAs hz (sd 2 rfl)
 clear hz hd
 intro a' γ' W' hz hd hC hk hh
 replace S0 := kp hk S0
 replace S3 := kp hk S3
 replace S4 := kp hk S4
 clear S5
 replace S6 := kp hk S6
 replace S9 := kp hk S9
 replace S2 := kp hk S2
 replace S22 := kp hk S22
 replace S26 := kp hk S26
 replace S30 := kp hk S30
 replace S54 := kp hk S54
 replace S7 := kp hk S7
 replace S8 := kp hk S8
 replace S95 := kp hk S95
 replace S99 := kp hk S99
 replace S100 := kp hk S100
 replace H100 := Ty.aft _ H100 hC
 replace S101 := kp hk S101
 replace hI := Iter.aft hI hC rfl
 have S5 := gV hz 3 hh
 replace HB := aB HB hC
 clear hC hk hh
 refine wp_seq ?_
 refine wp_goto ?_
 refine jq_goto rfl ?_
 refine wp_seq ?_
 refine wp_skip ?_
 refine wp_seq ?_
 refine rt [rV (.int .i64 ((runL L 0 : Nat) : Int)), rV (.int .i64 0), rV (.int .i64 0), rV (.int .i64 (((readD X : Nat) : Int) * zs)), rV (.int .i64 ((runL L 0 : Nat) : Int)), rV (.bool (decide (0 < runL L 0))), rV (.int .i64 ((runL L 0 : Nat) : Int)), rV (.int .i64 0), rV (.int .i64 0), rV (.int .i64 (((readD X : Nat) : Int) * zs)), rV (.bool (decide (0 < runL L 0)))] hz hd ?_ ?_
 refine ⟨?_, ?_, ?_, ?_, ?_, ?_, ?_, ?_, ?_, ?_, ?_, trivial⟩
 exact zMv hz (sv S2)
 exact zMv hz (sv S3)
 exact zMv hz (sv S4)
 exact zMv hz (sv S5)
 exact zMv hz (sv S2)
 exact sBin rfl rfl rfl hz rfl (Gd.none_ rfl) rfl (sd 4 rfl) kc (fun w => n_gt0 w)
 exact zAs hz (sd 0 rfl)
 exact zAs hz (sd 1 rfl)
 exact zAs hz (sd 2 rfl)
 exact zAs hz (sd 3 rfl)
 exact zAs hz (sd 5 rfl)
 clear hz hd
 intro a' γ' W' hz hd hC hk hh
 replace S0 := kp hk S0
 clear S3
 clear S4
 clear S6
 replace S9 := kp hk S9
 clear S2
 replace S22 := kp hk S22
 replace S26 := kp hk S26
 replace S30 := kp hk S30
 replace S54 := kp hk S54
 replace S7 := kp hk S7
 replace S8 := kp hk S8
 replace S95 := kp hk S95
 replace S99 := kp hk S99
 replace S100 := kp hk S100
 replace H100 := Ty.aft _ H100 hC
 replace S101 := kp hk S101
 clear S5
 replace hI := Iter.aft hI hC rfl
 have S2 := gV hz 6 hh
 have S3 := gV hz 7 hh
 have S4 := gV hz 8 hh
 have S5 := gV hz 9 hh
 have S6 := gV hz 10 hh
 replace HB := aB HB hC
 clear hC hk hh
 refine wp_ret ?_
 refine ret_to (T := tT [tV (.int .i64 ((runL L 0 : Nat) : Int)), tV (.int .i64 0), tV (.int .i64 0), tV (.int .i64 (((readD X : Nat) : Int) * zs)), tV (.bool (decide (0 < runL L 0)))]) (rett5 (by kernel_rfl) S2 S3 S4 S5 S6 hd HB) ?_
 refine fun v w h => cut_to (c := ⟨runL L 0, 0, 0, expV L (runL L 0), true⟩) (pw_yes (cut_pw0 hc1 hc2 hc3 hc6) (pw_ok hc7 hj hc12 hc13 hc14)) v w (to5 (tV_to rfl) (tV_to rfl) (tV_to rfl) (tV_to (congrArg (Value.int .i64) (by unfold expV; rw [← hj, eX, hzs]))) (tV_to (congrArg Value.bool (decide_eq_true (by omega)))) v w h)
 rw [decide_eq_false hc6] at S30
 refine wp_cond_false S30.ev ?_
 refine wp_skip ?_
 refine wp_seq ?_
 have hr1 := run_le (L := L) (runL L 0 + 1) (by omega)
 refine rt [rV (.string (strB L)), rV (.int .i64 ((runL L 0 : Nat) : Int)), rV (.int .i64 ((runL L 0 + 1 : Nat) : Int)), rV (.int .i64 ((runL L (runL L 0 + 1) : Nat) : Int)), rV (.int .i64 ((runL L (runL L 0 + 1) : Nat) : Int))] hz hd ?_ ?_
 refine ⟨?_, ?_, ?_, ?_, ?_, trivial⟩
 exact zMv hz (sv S0)
 exact zMv hz (sv S7)
 exact sBin rfl rfl rfl hz rfl (Gd.none_ rfl) rfl (sd 1 rfl) kc (fun w => n_succ (by omega) w)
 exact zC2 hz Tryz.func107 (sd 0 rfl) (sd 2 rfl) (k11 (fun _ => c_digits hB hL (by omega)))
 exact zAs hz (sd 3 rfl)
 clear hz hd
 intro a' γ' W' hz hd hC hk hh
 replace S0 := kp hk S0
 clear S3
 replace S4 := kp hk S4
 replace S5 := kp hk S5
 replace S6 := kp hk S6
 replace S8 := kp hk S8
 replace S9 := kp hk S9
 replace S2 := kp hk S2
 replace S7 := kp hk S7
 replace S22 := kp hk S22
 replace S26 := kp hk S26
 replace S30 := kp hk S30
 have S3 := gV hz 4 hh
 replace HB := aB HB hC
 clear hC hk hh
 refine wp_seq ?_
 refine rt [rV (.int .i64 ((runL L 0 : Nat) : Int)), rV (.int .i64 ((runL L (runL L 0 + 1) : Nat) : Int)), rV (.int .i64 ((1 + (runL L (runL L 0 + 1)) : Nat) : Int)), rV (.int .i64 ((runL L 0 + (1 + (runL L (runL L 0 + 1))) : Nat) : Int)), rV (.int .i64 ((runL L 0 + (1 + (runL L (runL L 0 + 1))) : Nat) : Int))] hz hd ?_ ?_
 refine ⟨?_, ?_, ?_, ?_, ?_, trivial⟩
 exact zMv hz (sv S7)
 exact zMv hz (sv S3)
 exact sBin rfl rfl rfl hz rfl (Gd.none_ rfl) rfl kc (sd 1 rfl) (fun w => n_1add (by omega) w)
 exact sBin rfl rfl rfl hz rfl (Gd.none_ rfl) rfl (sd 0 rfl) (sd 2 rfl) (fun w => n_add (by omega) (by omega) w)
 exact zAs hz (sd 3 rfl)
 clear hz hd
 intro a' γ' W' hz hd hC hk hh
 replace S0 := kp hk S0
 replace S4 := kp hk S4
 replace S5 := kp hk S5
 replace S6 := kp hk S6
 replace S8 := kp hk S8
 replace S9 := kp hk S9
 replace S2 := kp hk S2
 clear S7
 replace S22 := kp hk S22
 replace S26 := kp hk S26
 replace S30 := kp hk S30
 replace S3 := kp hk S3
 have S7 := gV hz 4 hh
 replace HB := aB HB hC
 clear hC hk hh
 refine wp_seq ?_
 refine wp_seq ?_
 by_cases hc15 : runL L (runL L 0 + 1) = 0
 refine rt [rV (.int .i64 ((runL L (runL L 0 + 1) : Nat) : Int)), rV (.bool true), rV (.bool true), rV undef, rV undef, rV undef, rV undef, rV (.bool true)] hz hd ?_ ?_
 refine ⟨?_, ?_, ?_, ?_, ?_, ?_, ?_, ?_, trivial⟩
 exact zMv hz (sv S3)
 exact sBin rfl rfl rfl hz rfl (Gd.none_ rfl) rfl (sd 0 rfl) kc (fun w => run_t (P := runL L (runL L 0 + 1) = 0) ((fun w => n_eq0 w) w) hc15)
 exact zMv hz (sd 1 rfl)
 exact zSkU hz (gN 2 rfl)
 exact zSkU hz (gN 2 rfl)
 exact zSkU hz (gN 2 rfl)
 exact zSkU hz (gN 2 rfl)
 exact zPT hz (sd 2 rfl) kc
 clear hz hd
 intro a' γ' W' hz hd hC hk hh
 replace S0 := kp hk S0
 replace S4 := kp hk S4
 replace S5 := kp hk S5
 replace S6 := kp hk S6
 replace S8 := kp hk S8
 replace S9 := kp hk S9
 replace S2 := kp hk S2
 replace S22 := kp hk S22
 replace S26 := kp hk S26
 replace S30 := kp hk S30
 replace S3 := kp hk S3
 replace S7 := kp hk S7
 have S46 := gV hz 7 hh
 replace HB := aB HB hC
 clear hC hk hh
 refine wp_cond_true S46.ev ?_
 refine wp_seq ?_
 refine rt [rV (.int .i64 ((runL L 0 : Nat) : Int)), rV (.int .i64 ((runL L (runL L 0 + 1) : Nat) : Int)), rV (.int .i64 ((runL L (runL L 0 + 1) : Nat) : Int)), rV (.bool (decide (0 < runL L (runL L 0 + 1)))), rV (.int .i64 ((runL L 0 : Nat) : Int)), rV (.int .i64 ((runL L (runL L 0 + 1) : Nat) : Int)), rV (.int .i64 0), rV (.int .i64 0), rV (.bool (decide (0 < runL L (runL L 0 + 1))))] hz hd ?_ ?_
 refine ⟨?_, ?_, ?_, ?_, ?_, ?_, ?_, ?_, ?_, trivial⟩
 exact zMv hz (sv S2)
 exact zMv hz (sv S3)
 exact zMv hz (sv S3)
 exact sBin rfl rfl rfl hz rfl (Gd.none_ rfl) rfl (sd 2 rfl) kc (fun w => n_gt0 w)
 exact zAs hz (sd 0 rfl)
 exact zAs hz (sd 1 rfl)
 exact zAs hz kc
 exact zAs hz kc
 exact zAs hz (sd 3 rfl)
 clear hz hd
 intro a' γ' W' hz hd hC hk hh
 replace S0 := kp hk S0
 clear S4
 clear S5
 clear S6
 replace S8 := kp hk S8
 replace S9 := kp hk S9
 clear S2
 replace S22 := kp hk S22
 replace S26 := kp hk S26
 replace S30 := kp hk S30
 clear S3
 replace S7 := kp hk S7
 replace S46 := kp hk S46
 have S2 := gV hz 4 hh
 have S3 := gV hz 5 hh
 have S4 := gV hz 6 hh
 have S5 := gV hz 7 hh
 have S6 := gV hz 8 hh
 replace HB := aB HB hC
 clear hC hk hh
 refine wp_ret ?_
 refine ret_to (T := tT [tV (.int .i64 ((runL L 0 : Nat) : Int)), tV (.int .i64 ((runL L (runL L 0 + 1) : Nat) : Int)), tV (.int .i64 0), tV (.int .i64 0), tV (.bool (decide (0 < runL L (runL L 0 + 1))))]) (rett5 (by kernel_rfl) S2 S3 S4 S5 S6 hd HB) ?_
 refine fun v w h => cut_to (c := ⟨runL L 0, runL L (runL L 0 + 1), 0, 0, false⟩) (cut_part0 hc1 hc2 hc3 hc6 hc15) v w (to5 (tV_to rfl) (tV_to rfl) (tV_to rfl) (tV_to rfl) (tV_to (congrArg Value.bool (decide_eq_false (by omega)))) v w h)
 refine rt [rV (.int .i64 ((runL L (runL L 0 + 1) : Nat) : Int)), rV (.bool false), rV (.bool false), rV (.int .i64 ((runL L 0 + (1 + (runL L (runL L 0 + 1))) : Nat) : Int)), rV (.string (strB L)), rV (.int .i64 ((L.length : Nat) : Int)), rV (.bool (decide (runL L 0 + (1 + (runL L (runL L 0 + 1))) = L.length))), rV (.bool (decide (runL L 0 + (1 + (runL L (runL L 0 + 1))) = L.length)))] hz hd ?_ ?_
 refine ⟨?_, ?_, ?_, ?_, ?_, ?_, ?_, ?_, trivial⟩
 exact zMv hz (sv S3)
 exact sBin rfl rfl rfl hz rfl (Gd.none_ rfl) rfl (sd 0 rfl) kc (fun w => run_f (P := runL L (runL L 0 + 1) = 0) ((fun w => n_eq0 w) w) hc15)
 exact zMv hz (sd 1 rfl)
 exact zMv hz (sv S7) (g := gT 2 rfl)
 exact zMv hz (sv S0) (g := gT 2 rfl)
 exact zB1len hz rfl (sd 4 rfl) (fun w => s_len w) (g := gT 2 rfl)
 exact sBin rfl rfl rfl hz rfl (gT 2 rfl) rfl (sd 3 rfl) (sd 5 rfl) (fun w => n_eq w)
 exact zPF hz (sd 2 rfl) (sd 6 rfl)
 clear hz hd
 intro a' γ' W' hz hd hC hk hh
 replace S0 := kp hk S0
 replace S4 := kp hk S4
 replace S5 := kp hk S5
 replace S6 := kp hk S6
 replace S8 := kp hk S8
 replace S9 := kp hk S9
 replace S2 := kp hk S2
 replace S22 := kp hk S22
 replace S26 := kp hk S26
 replace S30 := kp hk S30
 replace S3 := kp hk S3
 replace S7 := kp hk S7
 have S46 := gV hz 7 hh
 replace HB := aB HB hC
 clear hC hk hh
 by_cases hc16 : runL L 0 + (1 + (runL L (runL L 0 + 1))) = L.length
 rw [decide_eq_true hc16] at S46
 refine wp_cond_true S46.ev ?_
 refine wp_seq ?_
 refine rt [rV (.int .i64 ((runL L 0 : Nat) : Int)), rV (.int .i64 ((runL L (runL L 0 + 1) : Nat) : Int)), rV (.int .i64 ((runL L (runL L 0 + 1) : Nat) : Int)), rV (.bool (decide (0 < runL L (runL L 0 + 1)))), rV (.int .i64 ((runL L 0 : Nat) : Int)), rV (.int .i64 ((runL L (runL L 0 + 1) : Nat) : Int)), rV (.int .i64 0), rV (.int .i64 0), rV (.bool (decide (0 < runL L (runL L 0 + 1))))] hz hd ?_ ?_
 refine ⟨?_, ?_, ?_, ?_, ?_, ?_, ?_, ?_, ?_, trivial⟩
 exact zMv hz (sv S2)
 exact zMv hz (sv S3)
 exact zMv hz (sv S3)
 exact sBin rfl rfl rfl hz rfl (Gd.none_ rfl) rfl (sd 2 rfl) kc (fun w => n_gt0 w)
 exact zAs hz (sd 0 rfl)
 exact zAs hz (sd 1 rfl)
 exact zAs hz kc
 exact zAs hz kc
 exact zAs hz (sd 3 rfl)
 clear hz hd
 intro a' γ' W' hz hd hC hk hh
 replace S0 := kp hk S0
 clear S4
 clear S5
 clear S6
 replace S8 := kp hk S8
 replace S9 := kp hk S9
 clear S2
 replace S22 := kp hk S22
 replace S26 := kp hk S26
 replace S30 := kp hk S30
 clear S3
 replace S7 := kp hk S7
 replace S46 := kp hk S46
 have S2 := gV hz 4 hh
 have S3 := gV hz 5 hh
 have S4 := gV hz 6 hh
 have S5 := gV hz 7 hh
 have S6 := gV hz 8 hh
 replace HB := aB HB hC
 clear hC hk hh
 refine wp_ret ?_
 refine ret_to (T := tT [tV (.int .i64 ((runL L 0 : Nat) : Int)), tV (.int .i64 ((runL L (runL L 0 + 1) : Nat) : Int)), tV (.int .i64 0), tV (.int .i64 0), tV (.bool (decide (0 < runL L (runL L 0 + 1))))]) (rett5 (by kernel_rfl) S2 S3 S4 S5 S6 hd HB) ?_
 refine fun v w h => cut_to (c := ⟨runL L 0, runL L (runL L 0 + 1), 0, 0, true⟩) (cut_part1 hc1 hc2 hc3 hc6 hc15 hc16) v w (to5 (tV_to rfl) (tV_to rfl) (tV_to rfl) (tV_to rfl) (tV_to (congrArg Value.bool (decide_eq_true (by omega)))) v w h)
 rw [decide_eq_false hc16] at S46
 refine wp_cond_false S46.ev ?_
 refine wp_skip ?_
 refine wp_seq ?_
 refine wp_label ?_
 refine wp_seq ?_
 refine wp_seq ?_
 refine rt [rV (.string (strB L)), rV (.int .i64 ((runL L 0 + (1 + (runL L (runL L 0 + 1))) : Nat) : Int)), rV (.int .u8 ((L.getD (runL L 0 + (1 + (runL L (runL L 0 + 1)))) 0 : Nat) : Int)), rV (.bool (decide (L.getD (runL L 0 + (1 + (runL L (runL L 0 + 1)))) 0 ≠ 101)))] hz hd ?_ ?_
 refine ⟨?_, ?_, ?_, ?_, trivial⟩
 exact zMv hz (sv S0)
 exact zMv hz (sv S7)
 exact zIx hz rfl (sd 0 rfl) (sd 1 rfl) (fun w => s_ix hB (by omega) w)
 exact sBin rfl rfl rfl hz rfl (Gd.none_ rfl) rfl (sd 2 rfl) kc (fun w => b_101n w)
 clear hz hd
 intro a' γ' W' hz hd hC hk hh
 replace S0 := kp hk S0
 replace S4 := kp hk S4
 replace S5 := kp hk S5
 replace S6 := kp hk S6
 replace S8 := kp hk S8
 replace S9 := kp hk S9
 replace S2 := kp hk S2
 replace S22 := kp hk S22
 replace S26 := kp hk S26
 replace S30 := kp hk S30
 replace S3 := kp hk S3
 replace S7 := kp hk S7
 replace S46 := kp hk S46
 have S54 := gV hz 3 hh
 replace HB := aB HB hC
 clear hC hk hh
 by_cases hc17 : L.getD (runL L 0 + (1 + (runL L (runL L 0 + 1)))) 0 ≠ 101
 rw [decide_eq_true hc17] at S54
 refine wp_cond_true S54.ev ?_
 refine wp_seq ?_
 refine rt [rV (.int .i64 0), rV (.int .i64 0), rV (.int .i64 0), rV (.int .i64 0), rV (.bool false)] hz hd ?_ ?_
 refine ⟨?_, ?_, ?_, ?_, ?_, trivial⟩
 exact zAs hz kc
 exact zAs hz kc
 exact zAs hz kc
 exact zAs hz kc
 exact zAs hz kc
 clear hz hd
 intro a' γ' W' hz hd hC hk hh
 replace S0 := kp hk S0
 clear S4
 clear S5
 clear S6
 replace S8 := kp hk S8
 replace S9 := kp hk S9
 clear S2
 replace S22 := kp hk S22
 replace S26 := kp hk S26
 replace S30 := kp hk S30
 clear S3
 replace S7 := kp hk S7
 replace S46 := kp hk S46
 replace S54 := kp hk S54
 have S2 := gV hz 0 hh
 have S3 := gV hz 1 hh
 have S4 := gV hz 2 hh
 have S5 := gV hz 3 hh
 have S6 := gV hz 4 hh
 replace HB := aB HB hC
 clear hC hk hh
 refine wp_ret ?_
 refine ret_to (T := tT [tV (.int .i64 0), tV (.int .i64 0), tV (.int .i64 0), tV (.int .i64 0), tV (.bool false)]) (rett5 (by kernel_rfl) S2 S3 S4 S5 S6 hd HB) ?_
 refine fun v w h => cut_to (c := noCut) (pw_not (cut_pw1 hc1 hc2 hc3 hc6 hc15 hc16) (pw_e hc17)) v w (to5 (tV_to rfl) (tV_to rfl) (tV_to rfl) (tV_to rfl) (tV_to rfl) v w h)
 rw [decide_eq_false hc17] at S54
 refine wp_cond_false S54.ev ?_
 refine wp_skip ?_
 refine wp_seq ?_
 refine rt [rV (.int .i64 ((runL L 0 + (1 + (runL L (runL L 0 + 1))) : Nat) : Int)), rV (.int .i64 ((runL L 0 + (1 + (runL L (runL L 0 + 1))) + 1 : Nat) : Int)), rV (.int .i64 ((runL L 0 + (1 + (runL L (runL L 0 + 1))) + 1 : Nat) : Int))] hz hd ?_ ?_
 refine ⟨?_, ?_, ?_, trivial⟩
 exact zMv hz (sv S7)
 exact sBin rfl rfl rfl hz rfl (Gd.none_ rfl) rfl (sd 0 rfl) kc (fun w => n_succ (by omega) w)
 exact zAs hz (sd 1 rfl)
 clear hz hd
 intro a' γ' W' hz hd hC hk hh
 replace S0 := kp hk S0
 replace S4 := kp hk S4
 replace S5 := kp hk S5
 replace S6 := kp hk S6
 replace S8 := kp hk S8
 replace S9 := kp hk S9
 replace S2 := kp hk S2
 replace S22 := kp hk S22
 replace S26 := kp hk S26
 replace S30 := kp hk S30
 replace S3 := kp hk S3
 clear S7
 replace S46 := kp hk S46
 replace S54 := kp hk S54
 have S7 := gV hz 2 hh
 replace HB := aB HB hC
 clear hC hk hh
 refine wp_join (fun a W => ∃ (j : Nat) (zs : Int), a.tmps.size = 133 ∧ a.defers = [] ∧ Below w.heap.size w W ∧ Sl a 0 (.string (strB L)) ∧ Sl a 2 (.int .i64 ((runL L 0 : Nat) : Int)) ∧ Sl a 3 (.int .i64 ((runL L (runL L 0 + 1) : Nat) : Int)) ∧ Sl a 4 (.int .i64 0) ∧ Sl a 5 (.int .i64 0) ∧ Sl a 6 (.bool false) ∧ Sl a 7 (.int .i64 ((j : Nat) : Int)) ∧ Sl a 8 (.int .i64 0) ∧ Sl a 9 (.int .i64 zs) ∧ Sl a 22 (.bool false) ∧ Sl a 26 (.bool false) ∧ Sl a 30 (.bool false) ∧ Sl a 46 (.bool false) ∧ Sl a 54 (.bool false) ∧ j = signJ L (runL L 0 + (1 + (runL L (runL L 0 + 1))) + 1) ∧ zs = signZ L (runL L 0 + (1 + (runL L (runL L 0 + 1))) + 1) ∧ j ≤ L.length) ?_ ?_
 refine wp_seq ?_
 by_cases hc18 : runL L 0 + (1 + (runL L (runL L 0 + 1))) + 1 < L.length
 by_cases hc19 : L.getD (runL L 0 + (1 + (runL L (runL L 0 + 1))) + 1) 0 = 43
 refine rt [rV (.int .i64 ((runL L 0 + (1 + (runL L (runL L 0 + 1))) + 1 : Nat) : Int)), rV (.string (strB L)), rV (.int .i64 ((L.length : Nat) : Int)), rV (.bool true), rV (.bool true), rV (.string (strB L)), rV (.int .i64 ((runL L 0 + (1 + (runL L (runL L 0 + 1))) + 1 : Nat) : Int)), rV (.int .u8 ((L.getD (runL L 0 + (1 + (runL L (runL L 0 + 1))) + 1) 0 : Nat) : Int)), rV (.bool true), rV (.bool true), rV undef, rV undef, rV undef, rV undef, rV (.bool true), rV (.bool true)] hz hd ?_ ?_
 refine ⟨?_, ?_, ?_, ?_, ?_, ?_, ?_, ?_, ?_, ?_, ?_, ?_, ?_, ?_, ?_, ?_, trivial⟩
 exact zMv hz (sv S7)
 exact zMv hz (sv S0)
 exact zB1len hz rfl (sd 1 rfl) (fun w => s_len w)
 exact sBin rfl rfl rfl hz rfl (Gd.none_ rfl) rfl (sd 0 rfl) (sd 2 rfl) (fun w => run_t (P := runL L 0 + (1 + (runL L (runL L 0 + 1))) + 1 < L.length) ((fun w => n_lt w) w) hc18)
 exact zMv hz (sd 3 rfl)
 exact zMv hz (sv S0) (g := gT 4 rfl)
 exact zMv hz (sv S7) (g := gT 4 rfl)
 exact zIx hz rfl (sd 5 rfl) (sd 6 rfl) (fun w => s_ix hB (by omega) w) (g := gT 4 rfl)
 exact sBin rfl rfl rfl hz rfl (gT 4 rfl) rfl (sd 7 rfl) kc (fun w => run_t (P := L.getD (runL L 0 + (1 + (runL L (runL L 0 + 1))) + 1) 0 = 43) ((fun w => b_43 w) w) hc19)
 exact zMv hz (sd 8 rfl) (g := gT 4 rfl)
 exact zSkU hz (gN 9 rfl)
 exact zSkU hz (gN 9 rfl)
 exact zSkU hz (gN 9 rfl)
 exact zSkU hz (gN 9 rfl)
 exact zPT hz (sd 9 rfl) kc (g := gT 4 rfl)
 exact zPT hz (sd 4 rfl) (sd 14 rfl)
 clear hz hd
 intro a' γ' W' hz hd hC hk hh
 replace S0 := kp hk S0
 replace S4 := kp hk S4
 replace S5 := kp hk S5
 replace S6 := kp hk S6
 replace S8 := kp hk S8
 replace S9 := kp hk S9
 replace S2 := kp hk S2
 replace S22 := kp hk S22
 replace S26 := kp hk S26
 replace S30 := kp hk S30
 replace S3 := kp hk S3
 replace S46 := kp hk S46
 replace S54 := kp hk S54
 replace S7 := kp hk S7
 have S72 := gV hz 15 hh
 replace HB := aB HB hC
 clear hC hk hh
 refine wp_cond_true S72.ev ?_
 refine wp_seq ?_
 refine wp_seq ?_
 refine rt [rV (.string (strB L)), rV (.int .i64 ((runL L 0 + (1 + (runL L (runL L 0 + 1))) + 1 : Nat) : Int)), rV (.int .u8 ((L.getD (runL L 0 + (1 + (runL L (runL L 0 + 1))) + 1) 0 : Nat) : Int)), rV (.bool (decide (L.getD (runL L 0 + (1 + (runL L (runL L 0 + 1))) + 1) 0 = 45)))] hz hd ?_ ?_
 refine ⟨?_, ?_, ?_, ?_, trivial⟩
 exact zMv hz (sv S0)
 exact zMv hz (sv S7)
 exact zIx hz rfl (sd 0 rfl) (sd 1 rfl) (fun w => s_ix hB (by omega) w)
 exact sBin rfl rfl rfl hz rfl (Gd.none_ rfl) rfl (sd 2 rfl) kc (fun w => b_45 w)
 clear hz hd
 intro a' γ' W' hz hd hC hk hh
 replace S0 := kp hk S0
 replace S4 := kp hk S4
 replace S5 := kp hk S5
 replace S6 := kp hk S6
 replace S8 := kp hk S8
 replace S9 := kp hk S9
 replace S2 := kp hk S2
 replace S22 := kp hk S22
 replace S26 := kp hk S26
 replace S30 := kp hk S30
 replace S3 := kp hk S3
 replace S46 := kp hk S46
 replace S54 := kp hk S54
 replace S7 := kp hk S7
 replace S72 := kp hk S72
 have S76 := gV hz 3 hh
 replace HB := aB HB hC
 clear hC hk hh
 by_cases hc20 : L.getD (runL L 0 + (1 + (runL L (runL L 0 + 1))) + 1) 0 = 45
 rw [decide_eq_true hc20] at S76
 refine wp_cond_true S76.ev ?_
 refine rt [rV (.int .i64 (-1))] hz hd ?_ ?_
 refine ⟨?_, trivial⟩
 exact zAs hz kc
 clear hz hd
 intro a' γ' W' hz hd hC hk hh
 replace S0 := kp hk S0
 replace S4 := kp hk S4
 replace S5 := kp hk S5
 replace S6 := kp hk S6
 replace S8 := kp hk S8
 clear S9
 replace S2 := kp hk S2
 replace S22 := kp hk S22
 replace S26 := kp hk S26
 replace S30 := kp hk S30
 replace S3 := kp hk S3
 replace S46 := kp hk S46
 replace S54 := kp hk S54
 replace S7 := kp hk S7
 replace S72 := kp hk S72
 replace S76 := kp hk S76
 have S9 := gV hz 0 hh
 replace HB := aB HB hC
 clear hC hk hh
 refine rt [rV (.int .i64 ((runL L 0 + (1 + (runL L (runL L 0 + 1))) + 1 : Nat) : Int)), rV (.int .i64 ((runL L 0 + (1 + (runL L (runL L 0 + 1))) + 1 + 1 : Nat) : Int)), rV (.int .i64 ((runL L 0 + (1 + (runL L (runL L 0 + 1))) + 1 + 1 : Nat) : Int))] hz hd ?_ ?_
 refine ⟨?_, ?_, ?_, trivial⟩
 exact zMv hz (sv S7)
 exact sBin rfl rfl rfl hz rfl (Gd.none_ rfl) rfl (sd 0 rfl) kc (fun w => n_succ (by omega) w)
 exact zAs hz (sd 1 rfl)
 clear hz hd
 intro a' γ' W' hz hd hC hk hh
 replace S0 := kp hk S0
 replace S4 := kp hk S4
 replace S5 := kp hk S5
 replace S6 := kp hk S6
 replace S8 := kp hk S8
 replace S2 := kp hk S2
 replace S22 := kp hk S22
 replace S26 := kp hk S26
 replace S30 := kp hk S30
 replace S3 := kp hk S3
 replace S46 := kp hk S46
 replace S54 := kp hk S54
 clear S7
 replace S72 := kp hk S72
 replace S76 := kp hk S76
 replace S9 := kp hk S9
 have S7 := gV hz 2 hh
 replace HB := aB HB hC
 clear hC hk hh
 refine join_n ?_
 exact ⟨runL L 0 + (1 + (runL L (runL L 0 + 1))) + 1 + 1, (-1), hz, hd, HB, S0, S2, S3, S4, S5, S6, S7, S8, S9, S22, S26, S30, S46, S54, (sign_m hc18 hc20).1, (sign_m hc18 hc20).2, (by omega)⟩
 rw [decide_eq_false hc20] at S76
 refine wp_cond_false S76.ev ?_
 refine wp_skip ?_
 refine rt [rV (.int .i64 ((runL L 0 + (1 + (runL L (runL L 0 + 1))) + 1 : Nat) : Int)), rV (.int .i64 ((runL L 0 + (1 + (runL L (runL L 0 + 1))) + 1 + 1 : Nat) : Int)), rV (.int .i64 ((runL L 0 + (1 + (runL L (runL L 0 + 1))) + 1 + 1 : Nat) : Int))] hz hd ?_ ?_
 refine ⟨?_, ?_, ?_, trivial⟩
 exact zMv hz (sv S7)
 exact sBin rfl rfl rfl hz rfl (Gd.none_ rfl) rfl (sd 0 rfl) kc (fun w => n_succ (by omega) w)
 exact zAs hz (sd 1 rfl)
 clear hz hd
 intro a' γ' W' hz hd hC hk hh
 replace S0 := kp hk S0
 replace S4 := kp hk S4
 replace S5 := kp hk S5
 replace S6 := kp hk S6
 replace S8 := kp hk S8
 replace S9 := kp hk S9
 replace S2 := kp hk S2
 replace S22 := kp hk S22
 replace S26 := kp hk S26
 replace S30 := kp hk S30
 replace S3 := kp hk S3
 replace S46 := kp hk S46
 replace S54 := kp hk S54
 clear S7
 replace S72 := kp hk S72
 replace S76 := kp hk S76
 have S7 := gV hz 2 hh
 replace HB := aB HB hC
 clear hC hk hh
 refine join_n ?_
 exact ⟨runL L 0 + (1 + (runL L (runL L 0 + 1))) + 1 + 1, 1, hz, hd, HB, S0, S2, S3, S4, S5, S6, S7, S8, S9, S22, S26, S30, S46, S54, (sign_p hc18 hc19 hc20).1, (sign_p hc18 hc19 hc20).2, (by omega)⟩
 refine rt [rV (.int .i64 ((runL L 0 + (1 + (runL L (runL L 0 + 1))) + 1 : Nat) : Int)), rV (.string (strB L)), rV (.int .i64 ((L.length : Nat) : Int)), rV (.bool true), rV (.bool true), rV (.string (strB L)), rV (.int .i64 ((runL L 0 + (1 + (runL L (runL L 0 + 1))) + 1 : Nat) : Int)), rV (.int .u8 ((L.getD (runL L 0 + (1 + (runL L (runL L 0 + 1))) + 1) 0 : Nat) : Int)), rV (.bool false), rV (.bool false), rV (.string (strB L)), rV (.int .i64 ((runL L 0 + (1 + (runL L (runL L 0 + 1))) + 1 : Nat) : Int)), rV (.int .u8 ((L.getD (runL L 0 + (1 + (runL L (runL L 0 + 1))) + 1) 0 : Nat) : Int)), rV (.bool (decide (L.getD (runL L 0 + (1 + (runL L (runL L 0 + 1))) + 1) 0 = 45))), rV (.bool (decide (L.getD (runL L 0 + (1 + (runL L (runL L 0 + 1))) + 1) 0 = 45))), rV (.bool (decide (L.getD (runL L 0 + (1 + (runL L (runL L 0 + 1))) + 1) 0 = 45)))] hz hd ?_ ?_
 refine ⟨?_, ?_, ?_, ?_, ?_, ?_, ?_, ?_, ?_, ?_, ?_, ?_, ?_, ?_, ?_, ?_, trivial⟩
 exact zMv hz (sv S7)
 exact zMv hz (sv S0)
 exact zB1len hz rfl (sd 1 rfl) (fun w => s_len w)
 exact sBin rfl rfl rfl hz rfl (Gd.none_ rfl) rfl (sd 0 rfl) (sd 2 rfl) (fun w => run_t (P := runL L 0 + (1 + (runL L (runL L 0 + 1))) + 1 < L.length) ((fun w => n_lt w) w) hc18)
 exact zMv hz (sd 3 rfl)
 exact zMv hz (sv S0) (g := gT 4 rfl)
 exact zMv hz (sv S7) (g := gT 4 rfl)
 exact zIx hz rfl (sd 5 rfl) (sd 6 rfl) (fun w => s_ix hB (by omega) w) (g := gT 4 rfl)
 exact sBin rfl rfl rfl hz rfl (gT 4 rfl) rfl (sd 7 rfl) kc (fun w => run_f (P := L.getD (runL L 0 + (1 + (runL L (runL L 0 + 1))) + 1) 0 = 43) ((fun w => b_43 w) w) hc19)
 exact zMv hz (sd 8 rfl) (g := gT 4 rfl)
 exact zMv hz (sv S0) (g := gT 9 rfl)
 exact zMv hz (sv S7) (g := gT 9 rfl)
 exact zIx hz rfl (sd 10 rfl) (sd 11 rfl) (fun w => s_ix hB (by omega) w) (g := gT 9 rfl)
 exact sBin rfl rfl rfl hz rfl (gT 9 rfl) rfl (sd 12 rfl) kc (fun w => b_45 w)
 exact zPF hz (sd 9 rfl) (sd 13 rfl) (g := gT 4 rfl)
 exact zPT hz (sd 4 rfl) (sd 14 rfl)
 clear hz hd
 intro a' γ' W' hz hd hC hk hh
 replace S0 := kp hk S0
 replace S4 := kp hk S4
 replace S5 := kp hk S5
 replace S6 := kp hk S6
 replace S8 := kp hk S8
 replace S9 := kp hk S9
 replace S2 := kp hk S2
 replace S22 := kp hk S22
 replace S26 := kp hk S26
 replace S30 := kp hk S30
 replace S3 := kp hk S3
 replace S46 := kp hk S46
 replace S54 := kp hk S54
 replace S7 := kp hk S7
 have S72 := gV hz 15 hh
 replace HB := aB HB hC
 clear hC hk hh
 by_cases hc21 : L.getD (runL L 0 + (1 + (runL L (runL L 0 + 1))) + 1) 0 = 45
 rw [decide_eq_true hc21] at S72
 refine wp_cond_true S72.ev ?_
 refine wp_seq ?_
 refine wp_seq ?_
 refine rt [rV (.string (strB L)), rV (.int .i64 ((runL L 0 + (1 + (runL L (runL L 0 + 1))) + 1 : Nat) : Int)), rV (.int .u8 ((L.getD (runL L 0 + (1 + (runL L (runL L 0 + 1))) + 1) 0 : Nat) : Int)), rV (.bool true)] hz hd ?_ ?_
 refine ⟨?_, ?_, ?_, ?_, trivial⟩
 exact zMv hz (sv S0)
 exact zMv hz (sv S7)
 exact zIx hz rfl (sd 0 rfl) (sd 1 rfl) (fun w => s_ix hB (by omega) w)
 exact sBin rfl rfl rfl hz rfl (Gd.none_ rfl) rfl (sd 2 rfl) kc (fun w => run_t (P := L.getD (runL L 0 + (1 + (runL L (runL L 0 + 1))) + 1) 0 = 45) ((fun w => b_45 w) w) hc21)
 clear hz hd
 intro a' γ' W' hz hd hC hk hh
 replace S0 := kp hk S0
 replace S4 := kp hk S4
 replace S5 := kp hk S5
 replace S6 := kp hk S6
 replace S8 := kp hk S8
 replace S9 := kp hk S9
 replace S2 := kp hk S2
 replace S22 := kp hk S22
 replace S26 := kp hk S26
 replace S30 := kp hk S30
 replace S3 := kp hk S3
 replace S46 := kp hk S46
 replace S54 := kp hk S54
 replace S7 := kp hk S7
 replace S72 := kp hk S72
 have S76 := gV hz 3 hh
 replace HB := aB HB hC
 clear hC hk hh
 refine wp_cond_true S76.ev ?_
 refine rt [rV (.int .i64 (-1))] hz hd ?_ ?_
 refine ⟨?_, trivial⟩
 exact zAs hz kc
 clear hz hd
 intro a' γ' W' hz hd hC hk hh
 replace S0 := kp hk S0
 replace S4 := kp hk S4
 replace S5 := kp hk S5
 replace S6 := kp hk S6
 replace S8 := kp hk S8
 clear S9
 replace S2 := kp hk S2
 replace S22 := kp hk S22
 replace S26 := kp hk S26
 replace S30 := kp hk S30
 replace S3 := kp hk S3
 replace S46 := kp hk S46
 replace S54 := kp hk S54
 replace S7 := kp hk S7
 replace S72 := kp hk S72
 replace S76 := kp hk S76
 have S9 := gV hz 0 hh
 replace HB := aB HB hC
 clear hC hk hh
 refine rt [rV (.int .i64 ((runL L 0 + (1 + (runL L (runL L 0 + 1))) + 1 : Nat) : Int)), rV (.int .i64 ((runL L 0 + (1 + (runL L (runL L 0 + 1))) + 1 + 1 : Nat) : Int)), rV (.int .i64 ((runL L 0 + (1 + (runL L (runL L 0 + 1))) + 1 + 1 : Nat) : Int))] hz hd ?_ ?_
 refine ⟨?_, ?_, ?_, trivial⟩
 exact zMv hz (sv S7)
 exact sBin rfl rfl rfl hz rfl (Gd.none_ rfl) rfl (sd 0 rfl) kc (fun w => n_succ (by omega) w)
 exact zAs hz (sd 1 rfl)
 clear hz hd
 intro a' γ' W' hz hd hC hk hh
 replace S0 := kp hk S0
 replace S4 := kp hk S4
 replace S5 := kp hk S5
 replace S6 := kp hk S6
 replace S8 := kp hk S8
 replace S2 := kp hk S2
 replace S22 := kp hk S22
 replace S26 := kp hk S26
 replace S30 := kp hk S30
 replace S3 := kp hk S3
 replace S46 := kp hk S46
 replace S54 := kp hk S54
 clear S7
 replace S72 := kp hk S72
 replace S76 := kp hk S76
 replace S9 := kp hk S9
 have S7 := gV hz 2 hh
 replace HB := aB HB hC
 clear hC hk hh
 refine join_n ?_
 exact ⟨runL L 0 + (1 + (runL L (runL L 0 + 1))) + 1 + 1, (-1), hz, hd, HB, S0, S2, S3, S4, S5, S6, S7, S8, S9, S22, S26, S30, S46, S54, (sign_m hc18 hc21).1, (sign_m hc18 hc21).2, (by omega)⟩
 rw [decide_eq_false hc21] at S72
 refine wp_cond_false S72.ev ?_
 refine wp_skip ?_
 refine join_n ?_
 exact ⟨runL L 0 + (1 + (runL L (runL L 0 + 1))) + 1, 1, hz, hd, HB, S0, S2, S3, S4, S5, S6, S7, S8, S9, S22, S26, S30, S46, S54, (sign_no hc18 hc19 hc21).1, (sign_no hc18 hc19 hc21).2, (by omega)⟩
 refine rt [rV (.int .i64 ((runL L 0 + (1 + (runL L (runL L 0 + 1))) + 1 : Nat) : Int)), rV (.string (strB L)), rV (.int .i64 ((L.length : Nat) : Int)), rV (.bool false), rV (.bool false), rV undef, rV undef, rV undef, rV undef, rV undef, rV undef, rV undef, rV undef, rV undef, rV undef, rV (.bool false)] hz hd ?_ ?_
 refine ⟨?_, ?_, ?_, ?_, ?_, ?_, ?_, ?_, ?_, ?_, ?_, ?_, ?_, ?_, ?_, ?_, trivial⟩
 exact zMv hz (sv S7)
 exact zMv hz (sv S0)
 exact zB1len hz rfl (sd 1 rfl) (fun w => s_len w)
 exact sBin rfl rfl rfl hz rfl (Gd.none_ rfl) rfl (sd 0 rfl) (sd 2 rfl) (fun w => run_f (P := runL L 0 + (1 + (runL L (runL L 0 + 1))) + 1 < L.length) ((fun w => n_lt w) w) hc18)
 exact zMv hz (sd 3 rfl)
 exact zSkU hz (gN 4 rfl)
 exact zSkU hz (gN 4 rfl)
 exact zSkU hz (gN 4 rfl)
 exact zSkU hz (gN 4 rfl)
 exact zSkU hz (gN 4 rfl)
 exact zSkU hz (gU 9 rfl)
 exact zSkU hz (gU 9 rfl)
 exact zSkU hz (gU 9 rfl)
 exact zSkU hz (gU 9 rfl)
 exact zSkU hz (gN 4 rfl)
 exact zPF hz (sd 4 rfl) kc
 clear hz hd
 intro a' γ' W' hz hd hC hk hh
 replace S0 := kp hk S0
 replace S4 := kp hk S4
 replace S5 := kp hk S5
 replace S6 := kp hk S6
 replace S8 := kp hk S8
 replace S9 := kp hk S9
 replace S2 := kp hk S2
 replace S22 := kp hk S22
 replace S26 := kp hk S26
 replace S30 := kp hk S30
 replace S3 := kp hk S3
 replace S46 := kp hk S46
 replace S54 := kp hk S54
 replace S7 := kp hk S7
 have S72 := gV hz 15 hh
 replace HB := aB HB hC
 clear hC hk hh
 refine wp_cond_false S72.ev ?_
 refine wp_skip ?_
 refine join_n ?_
 exact ⟨runL L 0 + (1 + (runL L (runL L 0 + 1))) + 1, 1, hz, hd, HB, S0, S2, S3, S4, S5, S6, S7, S8, S9, S22, S26, S30, S46, S54, (sign_0 hc18).1, (sign_0 hc18).2, (by omega)⟩
 clear S0 S4 S5 S6 S8 S9 S2 S22 S26 S30 S3 S46 S54 S7 hz hd HB
 rintro a W ⟨j, zs, hz, hd, HB, S0, S2, S3, S4, S5, S6, S7, S8, S9, S22, S26, S30, S46, S54, hj, hzs, hjl⟩
 have hz2 : zs = 1 ∨ zs = -1 := hzs ▸ signZ_abs
 refine wp_seq ?_
 refine rt [rV (.string (strB L)), rV (.int .i64 ((j : Nat) : Int)), rV (.int .i64 ((runL L j : Nat) : Int)), rV (.int .i64 ((runL L j : Nat) : Int))] hz hd ?_ ?_
 refine ⟨?_, ?_, ?_, ?_, trivial⟩
 exact zMv hz (sv S0)
 exact zMv hz (sv S7)
 exact zC2 hz Tryz.func107 (sd 0 rfl) (sd 1 rfl) (k11 (fun _ => c_digits hB hL (by omega)))
 exact zAs hz (sd 2 rfl)
 clear hz hd
 intro a' γ' W' hz hd hC hk hh
 replace S0 := kp hk S0
 replace S4 := kp hk S4
 replace S5 := kp hk S5
 replace S6 := kp hk S6
 clear S8
 replace S9 := kp hk S9
 replace S2 := kp hk S2
 replace S22 := kp hk S22
 replace S26 := kp hk S26
 replace S30 := kp hk S30
 replace S3 := kp hk S3
 replace S46 := kp hk S46
 replace S54 := kp hk S54
 replace S7 := kp hk S7
 have S8 := gV hz 3 hh
 replace HB := aB HB hC
 clear hC hk hh
 refine wp_seq ?_
 refine wp_seq ?_
 have hrj := run_le (L := L) j hjl
 by_cases hc22 : runL L j < 1
 refine rt [rV (.int .i64 ((runL L j : Nat) : Int)), rV (.bool true), rV (.bool true), rV undef, rV undef, rV (.bool true), rV (.bool true), rV undef, rV undef, rV undef, rV undef, rV undef, rV undef, rV (.bool true)] hz hd ?_ ?_
 refine ⟨?_, ?_, ?_, ?_, ?_, ?_, ?_, ?_, ?_, ?_, ?_, ?_, ?_, ?_, trivial⟩
 exact zMv hz (sv S8)
 exact sBin rfl rfl rfl hz rfl (Gd.none_ rfl) rfl (sd 0 rfl) kc (fun w => run_t (P := runL L j < 1) ((fun w => n_lt1 w) w) hc22)
 exact zMv hz (sd 1 rfl)
 exact zSkU hz (gN 2 rfl)
 exact zSkU hz (gN 2 rfl)
 exact zPT hz (sd 2 rfl) kc
 exact zMv hz (sd 5 rfl)
 exact zSkU hz (gN 6 rfl)
 exact zSkU hz (gN 6 rfl)
 exact zSkU hz (gN 6 rfl)
 exact zSkU hz (gN 6 rfl)
 exact zSkU hz (gN 6 rfl)
 exact zSkU hz (gN 6 rfl)
 exact zPT hz (sd 6 rfl) kc
 clear hz hd
 intro a' γ' W' hz hd hC hk hh
 replace S0 := kp hk S0
 replace S4 := kp hk S4
 replace S5 := kp hk S5
 replace S6 := kp hk S6
 replace S9 := kp hk S9
 replace S2 := kp hk S2
 replace S22 := kp hk S22
 replace S26 := kp hk S26
 replace S30 := kp hk S30
 replace S3 := kp hk S3
 replace S46 := kp hk S46
 replace S54 := kp hk S54
 replace S7 := kp hk S7
 replace S8 := kp hk S8
 have S95 := gV hz 13 hh
 replace HB := aB HB hC
 clear hC hk hh
 refine wp_cond_true S95.ev ?_
 refine wp_seq ?_
 refine rt [rV (.int .i64 0), rV (.int .i64 0), rV (.int .i64 0), rV (.int .i64 0), rV (.bool false)] hz hd ?_ ?_
 refine ⟨?_, ?_, ?_, ?_, ?_, trivial⟩
 exact zAs hz kc
 exact zAs hz kc
 exact zAs hz kc
 exact zAs hz kc
 exact zAs hz kc
 clear hz hd
 intro a' γ' W' hz hd hC hk hh
 replace S0 := kp hk S0
 clear S4
 clear S5
 clear S6
 replace S9 := kp hk S9
 clear S2
 replace S22 := kp hk S22
 replace S26 := kp hk S26
 replace S30 := kp hk S30
 clear S3
 replace S46 := kp hk S46
 replace S54 := kp hk S54
 replace S7 := kp hk S7
 replace S8 := kp hk S8
 replace S95 := kp hk S95
 have S2 := gV hz 0 hh
 have S3 := gV hz 1 hh
 have S4 := gV hz 2 hh
 have S5 := gV hz 3 hh
 have S6 := gV hz 4 hh
 replace HB := aB HB hC
 clear hC hk hh
 refine wp_ret ?_
 refine ret_to (T := tT [tV (.int .i64 0), tV (.int .i64 0), tV (.int .i64 0), tV (.int .i64 0), tV (.bool false)]) (rett5 (by kernel_rfl) S2 S3 S4 S5 S6 hd HB) ?_
 refine fun v w h => cut_to (c := noCut) (pw_not (cut_pw1 hc1 hc2 hc3 hc6 hc15 hc16) (pw_lo hj hc22)) v w (to5 (tV_to rfl) (tV_to rfl) (tV_to rfl) (tV_to rfl) (tV_to rfl) v w h)
 by_cases hc23 : 3 < runL L j
 refine rt [rV (.int .i64 ((runL L j : Nat) : Int)), rV (.bool false), rV (.bool false), rV (.int .i64 ((runL L j : Nat) : Int)), rV (.bool true), rV (.bool true), rV (.bool true), rV undef, rV undef, rV undef, rV undef, rV undef, rV undef, rV (.bool true)] hz hd ?_ ?_
 refine ⟨?_, ?_, ?_, ?_, ?_, ?_, ?_, ?_, ?_, ?_, ?_, ?_, ?_, ?_, trivial⟩
 exact zMv hz (sv S8)
 exact sBin rfl rfl rfl hz rfl (Gd.none_ rfl) rfl (sd 0 rfl) kc (fun w => run_f (P := runL L j < 1) ((fun w => n_lt1 w) w) hc22)
 exact zMv hz (sd 1 rfl)
 exact zMv hz (sv S8) (g := gT 2 rfl)
 exact sBin rfl rfl rfl hz rfl (gT 2 rfl) rfl (sd 3 rfl) kc (fun w => run_t (P := 3 < runL L j) ((fun w => n_gt3 w) w) hc23)
 exact zPF hz (sd 2 rfl) (sd 4 rfl)
 exact zMv hz (sd 5 rfl)
 exact zSkU hz (gN 6 rfl)
 exact zSkU hz (gN 6 rfl)
 exact zSkU hz (gN 6 rfl)
 exact zSkU hz (gN 6 rfl)
 exact zSkU hz (gN 6 rfl)
 exact zSkU hz (gN 6 rfl)
 exact zPT hz (sd 6 rfl) kc
 clear hz hd
 intro a' γ' W' hz hd hC hk hh
 replace S0 := kp hk S0
 replace S4 := kp hk S4
 replace S5 := kp hk S5
 replace S6 := kp hk S6
 replace S9 := kp hk S9
 replace S2 := kp hk S2
 replace S22 := kp hk S22
 replace S26 := kp hk S26
 replace S30 := kp hk S30
 replace S3 := kp hk S3
 replace S46 := kp hk S46
 replace S54 := kp hk S54
 replace S7 := kp hk S7
 replace S8 := kp hk S8
 have S95 := gV hz 13 hh
 replace HB := aB HB hC
 clear hC hk hh
 refine wp_cond_true S95.ev ?_
 refine wp_seq ?_
 refine rt [rV (.int .i64 0), rV (.int .i64 0), rV (.int .i64 0), rV (.int .i64 0), rV (.bool false)] hz hd ?_ ?_
 refine ⟨?_, ?_, ?_, ?_, ?_, trivial⟩
 exact zAs hz kc
 exact zAs hz kc
 exact zAs hz kc
 exact zAs hz kc
 exact zAs hz kc
 clear hz hd
 intro a' γ' W' hz hd hC hk hh
 replace S0 := kp hk S0
 clear S4
 clear S5
 clear S6
 replace S9 := kp hk S9
 clear S2
 replace S22 := kp hk S22
 replace S26 := kp hk S26
 replace S30 := kp hk S30
 clear S3
 replace S46 := kp hk S46
 replace S54 := kp hk S54
 replace S7 := kp hk S7
 replace S8 := kp hk S8
 replace S95 := kp hk S95
 have S2 := gV hz 0 hh
 have S3 := gV hz 1 hh
 have S4 := gV hz 2 hh
 have S5 := gV hz 3 hh
 have S6 := gV hz 4 hh
 replace HB := aB HB hC
 clear hC hk hh
 refine wp_ret ?_
 refine ret_to (T := tT [tV (.int .i64 0), tV (.int .i64 0), tV (.int .i64 0), tV (.int .i64 0), tV (.bool false)]) (rett5 (by kernel_rfl) S2 S3 S4 S5 S6 hd HB) ?_
 refine fun v w h => cut_to (c := noCut) (pw_not (cut_pw1 hc1 hc2 hc3 hc6 hc15 hc16) (pw_hi hj hc23)) v w (to5 (tV_to rfl) (tV_to rfl) (tV_to rfl) (tV_to rfl) (tV_to rfl) v w h)
 refine rt [rV (.int .i64 ((runL L j : Nat) : Int)), rV (.bool false), rV (.bool false), rV (.int .i64 ((runL L j : Nat) : Int)), rV (.bool false), rV (.bool false), rV (.bool false), rV (.int .i64 ((j : Nat) : Int)), rV (.int .i64 ((runL L j : Nat) : Int)), rV (.int .i64 ((j + (runL L j) : Nat) : Int)), rV (.string (strB L)), rV (.int .i64 ((L.length : Nat) : Int)), rV (.bool (decide (j + (runL L j) < L.length))), rV (.bool (decide (j + (runL L j) < L.length)))] hz hd ?_ ?_
 refine ⟨?_, ?_, ?_, ?_, ?_, ?_, ?_, ?_, ?_, ?_, ?_, ?_, ?_, ?_, trivial⟩
 exact zMv hz (sv S8)
 exact sBin rfl rfl rfl hz rfl (Gd.none_ rfl) rfl (sd 0 rfl) kc (fun w => run_f (P := runL L j < 1) ((fun w => n_lt1 w) w) hc22)
 exact zMv hz (sd 1 rfl)
 exact zMv hz (sv S8) (g := gT 2 rfl)
 exact sBin rfl rfl rfl hz rfl (gT 2 rfl) rfl (sd 3 rfl) kc (fun w => run_f (P := 3 < runL L j) ((fun w => n_gt3 w) w) hc23)
 exact zPF hz (sd 2 rfl) (sd 4 rfl)
 exact zMv hz (sd 5 rfl)
 exact zMv hz (sv S7) (g := gT 6 rfl)
 exact zMv hz (sv S8) (g := gT 6 rfl)
 exact sBin rfl rfl rfl hz rfl (gT 6 rfl) rfl (sd 7 rfl) (sd 8 rfl) (fun w => n_add (by omega) (by omega) w)
 exact zMv hz (sv S0) (g := gT 6 rfl)
 exact zB1len hz rfl (sd 10 rfl) (fun w => s_len w) (g := gT 6 rfl)
 exact sBin rfl rfl rfl hz rfl (gT 6 rfl) rfl (sd 9 rfl) (sd 11 rfl) (fun w => n_lt w)
 exact zPF hz (sd 6 rfl) (sd 12 rfl)
 clear hz hd
 intro a' γ' W' hz hd hC hk hh
 replace S0 := kp hk S0
 replace S4 := kp hk S4
 replace S5 := kp hk S5
 replace S6 := kp hk S6
 replace S9 := kp hk S9
 replace S2 := kp hk S2
 replace S22 := kp hk S22
 replace S26 := kp hk S26
 replace S30 := kp hk S30
 replace S3 := kp hk S3
 replace S46 := kp hk S46
 replace S54 := kp hk S54
 replace S7 := kp hk S7
 replace S8 := kp hk S8
 have S95 := gV hz 13 hh
 replace HB := aB HB hC
 clear hC hk hh
 by_cases hc24 : j + (runL L j) < L.length
 rw [decide_eq_true hc24] at S95
 refine wp_cond_true S95.ev ?_
 refine wp_seq ?_
 refine rt [rV (.int .i64 0), rV (.int .i64 0), rV (.int .i64 0), rV (.int .i64 0), rV (.bool false)] hz hd ?_ ?_
 refine ⟨?_, ?_, ?_, ?_, ?_, trivial⟩
 exact zAs hz kc
 exact zAs hz kc
 exact zAs hz kc
 exact zAs hz kc
 exact zAs hz kc
 clear hz hd
 intro a' γ' W' hz hd hC hk hh
 replace S0 := kp hk S0
 clear S4
 clear S5
 clear S6
 replace S9 := kp hk S9
 clear S2
 replace S22 := kp hk S22
 replace S26 := kp hk S26
 replace S30 := kp hk S30
 clear S3
 replace S46 := kp hk S46
 replace S54 := kp hk S54
 replace S7 := kp hk S7
 replace S8 := kp hk S8
 replace S95 := kp hk S95
 have S2 := gV hz 0 hh
 have S3 := gV hz 1 hh
 have S4 := gV hz 2 hh
 have S5 := gV hz 3 hh
 have S6 := gV hz 4 hh
 replace HB := aB HB hC
 clear hC hk hh
 refine wp_ret ?_
 refine ret_to (T := tT [tV (.int .i64 0), tV (.int .i64 0), tV (.int .i64 0), tV (.int .i64 0), tV (.bool false)]) (rett5 (by kernel_rfl) S2 S3 S4 S5 S6 hd HB) ?_
 refine fun v w h => cut_to (c := noCut) (pw_not (cut_pw1 hc1 hc2 hc3 hc6 hc15 hc16) (pw_en hj hc24)) v w (to5 (tV_to rfl) (tV_to rfl) (tV_to rfl) (tV_to rfl) (tV_to rfl) v w h)
 rw [decide_eq_false hc24] at S95
 refine wp_cond_false S95.ev ?_
 refine wp_skip ?_
 refine wp_seq ?_
 refine wp_seq ?_
 obtain ⟨hXl, hX⟩ := tail_dig (L := L) (j := j) hc24 hjl
 obtain ⟨X, eX⟩ : ∃ X, L.drop j = X := ⟨_, rfl⟩
 rw [eX] at hX hXl
 have hX3 : X.length ≤ 3 := by have := hc23; omega
 refine rt [rV (.string (strB L)), rV (.int .i64 ((j : Nat) : Int)), rV (.string (strB X)), rIt 3 (strB X) 0] hz hd ?_ ?_
 refine ⟨?_, ?_, ?_, ?_, trivial⟩
 exact zMv hz (sv S0)
 exact zMv hz (sv S7)
 exact zSlFrom hz rfl (sd 0 rfl) (sd 1 rfl) (fun w => eX ▸ s_from hjl w)
 exact zRange hz rfl (by kernel_rfl) (sd 2 rfl)
 clear hz hd
 intro a' γ' W' hz hd hC hk hh
 replace S0 := kp hk S0
 replace S4 := kp hk S4
 replace S5 := kp hk S5
 replace S6 := kp hk S6
 replace S9 := kp hk S9
 replace S2 := kp hk S2
 replace S22 := kp hk S22
 replace S26 := kp hk S26
 replace S30 := kp hk S30
 replace S3 := kp hk S3
 replace S46 := kp hk S46
 replace S54 := kp hk S54
 replace S7 := kp hk S7
 replace S8 := kp hk S8
 replace S95 := kp hk S95
 obtain ⟨pI, S99, hI, lI⟩ := gotIt hz 3 hC hh rfl rfl rfl rfl rfl
 have bI : w.heap.size ≤ pI := Nat.le_trans HB.size lI
 clear lI
 replace HB := aB HB hC
 clear hC hk hh
 refine wp_block ?_
 refine wp_loop_ghost (fun k a W => ∃ (c : Nat), k = X.length - c ∧ a.tmps.size = 133 ∧ a.defers = [] ∧ Below w.heap.size w W ∧ Sl a 0 (.string (strB L)) ∧ Sl a 2 (.int .i64 ((runL L 0 : Nat) : Int)) ∧ Sl a 3 (.int .i64 ((runL L (runL L 0 + 1) : Nat) : Int)) ∧ Sl a 4 (.int .i64 0) ∧ Sl a 5 (.int .i64 ((readD (X.take c) : Nat) : Int)) ∧ Sl a 6 (.bool false) ∧ Sl a 7 (.int .i64 ((j : Nat) : Int)) ∧ Sl a 8 (.int .i64 ((runL L j : Nat) : Int)) ∧ Sl a 9 (.int .i64 zs) ∧ Sl a 22 (.bool false) ∧ Sl a 26 (.bool false) ∧ Sl a 30 (.bool false) ∧ Sl a 46 (.bool false) ∧ Sl a 54 (.bool false) ∧ Sl a 95 (.bool false) ∧ Sl a 99 (.pointer (some ⟨pI, 0, none⟩)) ∧ Iter (strB X) c pI W ∧ c ≤ X.length) _ ⟨0, rfl, hz, hd, HB, S0, S2, S3, S4, S5, S6, S7, S8, S9, S22, S26, S30, S46, S54, S95, S99, hI, (Nat.zero_le _)⟩ ?_
 clear S0 S4 S5 S6 S9 S2 S22 S26 S30 S3 S46 S54 S7 S8 S95 S99 hI hz hd HB
 rintro k a W ⟨c, rfl, hz, hd, HB, S0, S2, S3, S4, S5, S6, S7, S8, S9, S22, S26, S30, S46, S54, S95, S99, hI, hc⟩
 have hrc := readD_le (mem_take_le hX c) (by rw [List.length_take]; omega)
 refine wp_seq ?_
 by_cases hcl : c < X.length
 refine region_text (M := [pI]) [rItE 0 (tT [tV (.bool true), tV (.int .i64 ((c : Nat) : Int)), tV (.int .i32 ((X.getD c 0 : Nat) : Int))]) (strB X) (c + 1) pI, rV (.bool true)] hz hd (by kernel_rfl) ?_ ?_
 refine ⟨?_, ?_, trivial⟩
 exact zNext (T := tT [tV (.bool true), tV (.int .i64 ((c : Nat) : Int)), tV (.int .i32 ((X.getD c 0 : Nat) : Int))]) (k := 0) hz rfl hI (by rw [strB_size]; exact hcl) (by rw [strB_at hX hcl]; have := getD_dig hX hcl; omega) (by simp [tagOf]) (by kernel_rfl) (fun w => ⟨[.bool true, .int .i64 ((c : Nat) : Int), .int .i32 (((strB X)[c]'(by rw [strB_size]; exact hcl)).toNat : Nat)], rfl, rfl, rfl, (by show Value.int .i32 _ = Value.int .i32 _; rw [strB_at hX hcl]), trivial⟩) (sv S99)
 exact zExt hz (sdI 0 rfl)
 clear hz hd
 intro a' γ' W' hz hd hC hk hh
 replace S0 := kp hk S0
 replace S4 := kp hk S4
 replace S5 := kp hk S5
 replace S6 := kp hk S6
 replace S9 := kp hk S9
 replace S2 := kp hk S2
 replace S22 := kp hk S22
 replace S26 := kp hk S26
 replace S30 := kp hk S30
 replace S3 := kp hk S3
 replace S46 := kp hk S46
 replace S54 := kp hk S54
 replace S7 := kp hk S7
 replace S8 := kp hk S8
 replace S95 := kp hk S95
 replace S99 := kp hk S99
 obtain ⟨⟨v100, S100, H100⟩, hI2⟩ := gotNx hz 0 hh rfl rfl rfl rfl rfl
 clear hI
 have S101 := gV hz 1 hh
 replace HB := aM HB hC
 clear hC hk hh
 refine wp_seq ?_
 refine wp_cond_true S101.ev ?_
 refine wp_skip ?_
 refine wp_block ?_
 refine wp_seq ?_
 refine rt [rV (.int .i32 ((X.getD c 0 : Nat) : Int)), rV (.int .i32 ((X.getD c 0 : Nat) : Int))] hz hd ?_ ?_
 refine ⟨?_, ?_, trivial⟩
 exact zExt hz (so S100 H100)
 exact zAs hz (sd 0 rfl)
 clear hz hd
 intro a' γ' W' hz hd hC hk hh
 replace S0 := kp hk S0
 replace S4 := kp hk S4
 replace S5 := kp hk S5
 replace S6 := kp hk S6
 replace S9 := kp hk S9
 replace S2 := kp hk S2
 replace S22 := kp hk S22
 replace S26 := kp hk S26
 replace S30 := kp hk S30
 replace S3 := kp hk S3
 replace S46 := kp hk S46
 replace S54 := kp hk S54
 replace S7 := kp hk S7
 replace S8 := kp hk S8
 replace S95 := kp hk S95
 replace S99 := kp hk S99
 replace S100 := kp hk S100
 replace H100 := Ty.aft _ H100 hC
 replace S101 := kp hk S101
 replace hI2 := Iter.aft hI2 hC
 have S11 := gV hz 1 hh
 replace HB := aB HB hC
 clear hC hk hh
 have hcl2 := getD_dig hX hcl
 have hr3 := readD_le (mem_take_le hX c) (by rw [List.length_take]; omega)
 refine rt [rV (.int .i64 ((readD (X.take c) : Nat) : Int)), rV (.int .i64 ((10 * (readD (X.take c)) : Nat) : Int)), rV (.int .i32 ((X.getD c 0 : Nat) : Int)), rV (.int .i32 ((X.getD c 0 - 48 : Nat) : Int)), rV (.int .i64 ((X.getD c 0 - 48 : Nat) : Int)), rV (.int .i64 ((10 * (readD (X.take c)) + (X.getD c 0 - 48) : Nat) : Int)), rV (.int .i64 ((10 * (readD (X.take c)) + (X.getD c 0 - 48) : Nat) : Int))] hz hd ?_ ?_
 refine ⟨?_, ?_, ?_, ?_, ?_, ?_, ?_, trivial⟩
 exact zMv hz (sv S5)
 exact sBin rfl rfl rfl hz rfl (Gd.none_ rfl) rfl kc (sd 0 rfl) (fun w => n_mul10 (by omega) w)
 exact zMv hz (sv S11)
 exact sBin rfl rfl rfl hz rfl (Gd.none_ rfl) rfl (sd 2 rfl) kc (fun w => d_sub48 (getD_dig hX hcl) w)
 exact sConv (T' := tV (.int .i32 ((X.getD c 0 - 48 : Nat) : Int))) rfl rfl rfl hz rfl (Gd.none_ rfl) rfl (sd 3 rfl) (fun v_ w_ h_ => by have h_ : v_ = .int .i32 ((X.getD c 0 - 48 : Nat) : Int) := h_; subst h_; exact ⟨_, by exact cv_i32 (by have := getD_dig hX hcl; omega) _, rfl⟩)
 exact sBin rfl rfl rfl hz rfl (Gd.none_ rfl) rfl (sd 1 rfl) (sd 4 rfl) (fun w => n_add (by omega) (by omega) w)
 exact zAs hz (sd 5 rfl)
 clear hz hd
 intro a' γ' W' hz hd hC hk hh
 replace S0 := kp hk S0
 replace S4 := kp hk S4
 clear S5
 replace S6 := kp hk S6
 replace S9 := kp hk S9
 replace S2 := kp hk S2
 replace S22 := kp hk S22
 replace S26 := kp hk S26
 replace S30 := kp hk S30
 replace S3 := kp hk S3
 replace S46 := kp hk S46
 replace S54 := kp hk S54
 replace S7 := kp hk S7
 replace S8 := kp hk S8
 replace S95 := kp hk S95
 replace S99 := kp hk S99
 replace S100 := kp hk S100
 replace H100 := Ty.aft _ H100 hC
 replace S101 := kp hk S101
 replace S11 := kp hk S11
 replace hI2 := Iter.aft hI2 hC
 have S5 := gV hz 6 hh
 replace HB := aB HB hC
 clear hC hk hh
 rw [← readD_take hcl] at S5
 show ∃ n', n' < _ ∧ _
 refine ⟨_, ?_, c + 1, rfl, hz, hd, HB, S0, S2, S3, S4, S5, S6, S7, S8, S9, S22, S26, S30, S46, S54, S95, S99, hI2, hcl⟩
 omega
 refine rt [rT (tT [tV (.bool false)]), rV (.bool false)] hz hd ?_ ?_
 refine ⟨?_, ?_, trivial⟩
 exact zNextEnd hz rfl hI (by rw [strB_size]; exact hcl) rfl (sv S99)
 exact zExt hz (sd 0 rfl)
 clear hz hd
 intro a' γ' W' hz hd hC hk hh
 replace S0 := kp hk S0
 replace S4 := kp hk S4
 replace S5 := kp hk S5
 replace S6 := kp hk S6
 replace S9 := kp hk S9
 replace S2 := kp hk S2
 replace S22 := kp hk S22
 replace S26 := kp hk S26
 replace S30 := kp hk S30
 replace S3 := kp hk S3
 replace S46 := kp hk S46
 replace S54 := kp hk S54
 replace S7 := kp hk S7
 replace S8 := kp hk S8
 replace S95 := kp hk S95
 replace S99 := kp hk S99
 replace hI := Iter.aft hI hC rfl
 obtain ⟨v100, S100, H100⟩ := got hz 0 hh rfl rfl rfl rfl
 have S101 := gV hz 1 hh
 replace HB := aB HB hC
 clear hC hk hh
 refine wp_seq ?_
 refine wp_cond_false S101.ev ?_
 refine wp_exit ?_
 refine wp_seq ?_
 have hcX : c = X.length := by have := hcl; omega
 have eup : readD (X.take c) = readD X := by rw [hcX, List.take_length]
 have hup := readD_le hX hX3
 rw [eup] at S5
 refine rt [rV (.int .i64 ((readD X : Nat) : Int)), rV (.int .i64 zs), rV (.int .i64 (((readD X : Nat) : Int) * zs)), rV (.int .i64 (((readD X : Nat) : Int) * zs))] hz hd ?_ ?_
 refine ⟨?_, ?_, ?_, ?_, trivial⟩
 exact zMv hz (sv S5)
 exact zMv hz (sv S9)
 exact sBin rfl rfl rfl hz rfl (Gd.none_ rfl) rfl (sd 0 rfl) (sd 1 rfl) (fun w => f_sign hup hz2 w)
 exact zAs hz (sd 2 rfl)
 clear hz hd
 intro a' γ' W' hz hd hC hk hh
 replace S0 := kp hk S0
 replace S4 := kp hk S4
 clear S5
 replace S6 := kp hk S6
 replace S9 := kp hk S9
 replace S2 := kp hk S2
 replace S22 := kp hk S22
 replace S26 := kp hk S26
 replace S30 := kp hk S30
 replace S3 := kp hk S3
 replace S46 := kp hk S46
 replace S54 := kp hk S54
 replace S7 := kp hk S7
 replace S8 := kp hk S8
 replace S95 := kp hk S95
 replace S99 := kp hk S99
 replace S100 := kp hk S100
 replace H100 := Ty.aft _ H100 hC
 replace S101 := kp hk S101
 replace hI := Iter.aft hI hC rfl
 have S5 := gV hz 3 hh
 replace HB := aB HB hC
 clear hC hk hh
 refine wp_seq ?_
 refine wp_goto ?_
 refine jq_goto rfl ?_
 refine wp_seq ?_
 refine wp_skip ?_
 refine wp_seq ?_
 refine rt [rV (.int .i64 ((runL L 0 : Nat) : Int)), rV (.int .i64 ((runL L (runL L 0 + 1) : Nat) : Int)), rV (.int .i64 0), rV (.int .i64 (((readD X : Nat) : Int) * zs)), rV (.int .i64 ((runL L 0 : Nat) : Int)), rV (.bool (decide (0 < runL L 0))), rV (.int .i64 ((runL L 0 : Nat) : Int)), rV (.int .i64 ((runL L (runL L 0 + 1) : Nat) : Int)), rV (.int .i64 0), rV (.int .i64 (((readD X : Nat) : Int) * zs)), rV (.bool (decide (0 < runL L 0)))] hz hd ?_ ?_
 refine ⟨?_, ?_, ?_, ?_, ?_, ?_, ?_, ?_, ?_, ?_, ?_, trivial⟩
 exact zMv hz (sv S2)
 exact zMv hz (sv S3)
 exact zMv hz (sv S4)
 exact zMv hz (sv S5)
 exact zMv hz (sv S2)
 exact sBin rfl rfl rfl hz rfl (Gd.none_ rfl) rfl (sd 4 rfl) kc (fun w => n_gt0 w)
 exact zAs hz (sd 0 rfl)
 exact zAs hz (sd 1 rfl)
 exact zAs hz (sd 2 rfl)
 exact zAs hz (sd 3 rfl)
 exact zAs hz (sd 5 rfl)
 clear hz hd
 intro a' γ' W' hz hd hC hk hh
 replace S0 := kp hk S0
 clear S4
 clear S6
 replace S9 := kp hk S9
 clear S2
 replace S22 := kp hk S22
 replace S26 := kp hk S26
 replace S30 := kp hk S30
 clear S3
 replace S46 := kp hk S46
 replace S54 := kp hk S54
 replace S7 := kp hk S7
 replace S8 := kp hk S8
 replace S95 := kp hk S95
 replace S99 := kp hk S99
 replace S100 := kp hk S100
 replace H100 := Ty.aft _ H100 hC
 replace S101 := kp hk S101
 clear S5
 replace hI := Iter.aft hI hC rfl
 have S2 := gV hz 6 hh
 have S3 := gV hz 7 hh
 have S4 := gV hz 8 hh
 have S5 := gV hz 9 hh
 have S6 := gV hz 10 hh
 replace HB := aB HB hC
 clear hC hk hh
 refine wp_ret ?_
 refine ret_to (T := tT [tV (.int .i64 ((runL L 0 : Nat) : Int)), tV (.int .i64 ((runL L (runL L 0 + 1) : Nat) : Int)), tV (.int .i64 0), tV (.int .i64 (((readD X : Nat) : Int) * zs)), tV (.bool (decide (0 < runL L 0)))]) (rett5 (by kernel_rfl) S2 S3 S4 S5 S6 hd HB) ?_
 refine fun v w h => cut_to (c := ⟨runL L 0, runL L (runL L 0 + 1), 0, expV L (runL L 0 + (1 + (runL L (runL L 0 + 1)))), true⟩) (pw_yes (cut_pw1 hc1 hc2 hc3 hc6 hc15 hc16) (pw_ok hc17 hj hc22 hc23 hc24)) v w (to5 (tV_to rfl) (tV_to rfl) (tV_to rfl) (tV_to (congrArg (Value.int .i64) (by unfold expV; rw [← hj, eX, hzs]))) (tV_to (congrArg Value.bool (decide_eq_true (by omega)))) v w h)


structure CutOk (L : List Nat) (c : Cut) : Prop where
  whole : c.whole ≤ L.length
  over : 0 < c.over → c.whole + 1 ≤ L.length
  part : 0 < c.part → c.whole + 1 + c.part ≤ L.length
  up : -999 ≤ c.up ∧ c.up ≤ 999
theorem expV_le {L : List Nat} {i : Nat} (hi : i + 1 ≤ L.length) (h : ExpOk L i) : -999 ≤ expV L i ∧ expV L i ≤ 999 := by
  have hj := signJ_le (L := L) hi
  obtain ⟨h1, h2⟩ := tail_dig (L := L) (j := signJ L (i + 1)) (by have := h.en; omega) hj
  have h3 := readD_le h2 (by have := h.hi; omega)
  unfold expV
  rcases signZ_abs (L := L) (j := i + 1) with e | e <;> rw [e] <;> omega
theorem up_0 : -999 ≤ (0 : Int) ∧ (0 : Int) ≤ 999 := by decide
theorem noCut_ok (L : List Nat) : CutOk L noCut := ⟨Nat.zero_le _, fun h => absurd h (Nat.lt_irrefl _), fun h => absurd h (Nat.lt_irrefl _), up_0⟩

theorem pwL_ok {L : List Nat} {w p i : Nat} (hw : w ≤ L.length) (hp : 0 < p → w + 1 + p ≤ L.length) (hi : i + 1 ≤ L.length) : CutOk L (pwL L w p i) := by
  unfold pwL
  split
  · rename_i h
    exact ⟨hw, fun h => absurd h (Nat.lt_irrefl _), hp, expV_le hi h⟩
  · exact noCut_ok L
theorem cutL_ok (L : List Nat) : CutOk L (cutL L) := by
  have h0 := run_le (L := L) 0 (Nat.zero_le _)
  unfold cutL
  split
  · exact noCut_ok L
  · split
    · exact ⟨by dsimp only; omega, fun h => absurd h (Nat.lt_irrefl _), fun h => absurd h (Nat.lt_irrefl _), up_0⟩
    · have h1 := run_le (L := L) (runL L 0 + 1) (by omega)
      split
      · split
        · exact noCut_ok L
        · exact ⟨by dsimp only; omega, fun _ => by dsimp only; omega, fun h => absurd h (Nat.lt_irrefl _), up_0⟩
      · split
        · split
          · exact ⟨by dsimp only; omega, fun h => absurd h (Nat.lt_irrefl _), fun h => absurd h (Nat.lt_irrefl _), up_0⟩
          · split
            · exact ⟨by dsimp only; omega, fun h => absurd h (Nat.lt_irrefl _), fun _ => by dsimp only; omega, up_0⟩
            · exact pwL_ok (by omega) (fun _ => by omega) (by omega)
        · exact pwL_ok (by omega) (fun h => absurd h (Nat.lt_irrefl _)) (by omega)
def sclQ (p : Nat) (n : Int) : Rat := if n < 0 then mkRat ((p : Nat) : Int) (10 ^ (-n).toNat) else mkRat ((p * 10 ^ n.toNat : Nat) : Int) 1
theorem c_scaled {l : Nat} {n : Int} {L : List Nat} {w : World} (hB : ∀ d ∈ L, d < 256) (hn : -2000 ≤ n ∧ n ≤ 2000) (hl : 9602 ≤ l) : Calls Tryz.prog 72 #[.string (strB L), .int .i64 n] w (Ret (tQ B64 l (sclQ (parseV L) n)) w) := by
  unfold sclQ
  by_cases h : n < 0
  · rw [if_pos h]
    have := c_scaled_neg (l := l) (m := (-n).toNat) (w := w) hB (by omega) (by omega) (by omega)
    rw [show (-(((-n).toNat : Nat) : Int)) = n by omega] at this
    exact this
  · rw [if_neg h]
    have := c_scaled_pos (l := l) (m := n.toNat) (w := w) hB (by omega) (by omega)
    rw [show ((n.toNat : Nat) : Int) = n by omega] at this
    exact this
def parseC (L : List Nat) (c : Cut) : Option Rat :=
  if 400 < L.length ∨ c.ok = false then none
  else if 0 < c.over then (if parseV (L.drop (c.whole + 1)) = 0 then none else some (mkRat ((parseV (L.take c.whole) : Nat) : Int) (parseV (L.drop (c.whole + 1)))))
  else if 0 < c.part then some (sclQ (parseV (L.take c.whole ++ (L.drop (c.whole + 1)).take c.part)) (c.up - ((c.part : Nat) : Int)))
  else some (sclQ (parseV (L.take c.whole)) c.up)
def parseR (L : List Nat) : Option Rat := parseC L (cutL L)
def resX (o : Option Rat) : Rat := o.getD 0
def resE (o : Option Rat) : Int := if o.isNone then 30 else 0
section

variable {L : List Nat} {C : Cut}
theorem by_take (hB : ∀ d ∈ L, d < 256) (n : Nat) : ∀ d ∈ L.take n, d < 256 := fun d h => hB d (List.mem_of_mem_take h)
theorem by_drop (hB : ∀ d ∈ L, d < 256) (n : Nat) : ∀ d ∈ L.drop n, d < 256 := fun d h => hB d (List.mem_of_mem_drop h)
theorem by_app {M : List Nat} (hB : ∀ d ∈ L, d < 256) (hC : ∀ d ∈ M, d < 256) : ∀ d ∈ L ++ M, d < 256 := fun d h => (List.mem_append.1 h).elim (hB d) (hC d)
theorem pr_long (h : 400 < L.length) : parseC L C = none := by unfold parseC; rw [if_pos (Or.inl h)]
theorem pr_bad (h : ¬ C.ok = true) : parseC L C = none := by unfold parseC; rw [if_pos (Or.inr (by simpa using h))]
theorem pr_over (h : ¬ 400 < L.length) (h1 : C.ok = true) (h2 : 0 < C.over) : mkRat ((parseV (L.take C.whole) : Nat) : Int) (parseV (L.drop (C.whole + 1))) = resX (parseC L C) ∧ (if parseV (L.drop (C.whole + 1)) = 0 then (30 : Int) else 0) = resE (parseC L C) := by
  unfold parseC
  rw [if_neg (fun c => c.elim h (by rw [h1]; decide)), if_pos h2]
  split
  · rename_i e; rw [e]; exact ⟨Rat.mkRat_zero _, rfl⟩
  · exact ⟨rfl, rfl⟩
theorem pr_part (h : ¬ 400 < L.length) (h1 : C.ok = true) (h2 : ¬ 0 < C.over) (h3 : 0 < C.part) : parseC L C = some (sclQ (parseV (L.take C.whole ++ (L.drop (C.whole + 1)).take C.part)) (C.up - ((C.part : Nat) : Int))) := by
  unfold parseC
  rw [if_neg (fun c => c.elim h (by rw [h1]; decide)), if_neg h2, if_pos h3]
theorem pr_whole (h : ¬ 400 < L.length) (h1 : C.ok = true) (h2 : ¬ 0 < C.over) (h3 : ¬ 0 < C.part) : parseC L C = some (sclQ (parseV (L.take C.whole)) C.up) := by
  unfold parseC
  rw [if_neg (fun c => c.elim h (by rw [h1]; decide)), if_neg h2, if_neg h3]
theorem pr_to {l m : Nat} {x : Rat} {e : Int} (hx : x = resX (parseC L C)) (he : e = resE (parseC L C)) (hl : l ≤ m) : ∀ v w, (tT [tQ B64 l x, tV (.int .i64 e)]).p v w → (tT [tQ B64 m (resX (parseC L C)), tV (.int .i64 (resE (parseC L C)))]).p v w :=
  to2 (tQ_to (by decide) hx hl) (tV_to (congrArg (Value.int .i64) he))
theorem c_cut_c {w : World} (hB : ∀ d ∈ L, d < 256) (hL : L.length ≤ 1000000000000000) (hC : cutL L = C) : Calls Tryz.prog 70 #[.string (strB L)] w (Ret (tT [tV (.int .i64 ((C.whole : Nat) : Int)), tV (.int .i64 ((C.part : Nat) : Int)), tV (.int .i64 ((C.over : Nat) : Int)), tV (.int .i64 C.up), tV (.bool (decide (C.ok = true)))]) w) := by
  have h := c_cut (w := w) hB hL
  rw [hC] at h
  rw [Bool.decide_eq_true]
  exact h
end
theorem n_gt400 {i : Nat} {ox oy : Operand} {id : TypeId}  (w : World) : (do eqGuard .gtr id ox oy (.int .i64 ((i : Nat) : Int)) (.int .i64 400); binOp .gtr id (.int .i64 ((i : Nat) : Int)) (.int .i64 400) : Sem Value).run Tryz.prog w = .ok (.bool (decide (400 < i))) w := by
  have e : decide (400 < ((i : Nat) : Int)) = decide (400 < i) := by rw [decide_eq_decide]; omega
  rw [← e]
  simp only [eqGuard]; simp [go_sem]
theorem f_up {z : Int} {p : Nat} {ox oy : Operand} {id : TypeId} (hz : -999 ≤ z ∧ z ≤ 999) (hp : p ≤ 400) (w : World) : (do eqGuard .sub id ox oy (.int .i64 z) (.int .i64 ((p : Nat) : Int)); binOp .sub id (.int .i64 z) (.int .i64 ((p : Nat) : Int)) : Sem Value).run Tryz.prog w = .ok (.int .i64 (z - ((p : Nat) : Int))) w := by
  have e : IntKind.i64.wrap (z - ((p : Nat) : Int)) = z - ((p : Nat) : Int) := by rw [IntKind.wrap_i64]; omega
  simp [go_sem, e]
set_option maxRecDepth 10000 in
set_option maxHeartbeats 2000000 in
theorem c_nparse {L : List Nat} {w : World}  (hB : ∀ d ∈ L, d < 256) (hL : L.length ≤ 1000000000000000) :
    Calls Tryz.prog 23 #[.string (strB L)] w (Ret (tT [tQ B64 10000 (resX (parseR L)), tV (.int .i64 (resE (parseR L)))]) w) := by
 refine enter Tryz.func23 rfl Tryz.ntmps23 (by simp) ?_
 intro a hz hd ha
 have S0 := ha 0 _ rfl
 clear ha
 have HB : Below w.heap.size w w := Below.refl _ _
 unfold parseR
 obtain ⟨C, eC⟩ : ∃ C, cutL L = C := ⟨_, rfl⟩
 rw [eC]
 have hok := cutL_ok L
 rw [eC] at hok
 have hwh := hok.whole
 have hup := hok.up
 refine wp_seq ?_
 refine rt [rB 0 28 (tQ B64 1 0) none 0, rV (.int .i64 0)] hz hd ?_ ?_
 refine ⟨?_, ?_, trivial⟩
 exact zNew hz (fun _ => tQ_nil) al_r64
 exact zAs hz kc
 clear hz hd
 intro a' γ' W' hz hd hC hk hh
 replace S0 := kp hk S0
 obtain ⟨p1, S2, Cp1, lp1, gp1⟩ := gotB hz 0 hC hh rfl rfl rfl rfl rfl rfl
 have S3 := gV hz 1 hh
 have bp1 := Nat.le_trans HB.size lp1
 clear lp1 gp1
 replace HB := aB HB hC
 clear hC hk hh
 refine wp_seq ?_
 refine rt [rV (.string (strB L)), rT (tT [tV (.int .i64 ((C.whole : Nat) : Int)), tV (.int .i64 ((C.part : Nat) : Int)), tV (.int .i64 ((C.over : Nat) : Int)), tV (.int .i64 (C.up)), tV (.bool (decide (C.ok = true)))]), rT (tT [tV (.int .i64 ((C.whole : Nat) : Int)), tV (.int .i64 ((C.part : Nat) : Int)), tV (.int .i64 ((C.over : Nat) : Int)), tV (.int .i64 (C.up)), tV (.bool (decide (C.ok = true)))]), rV (.int .i64 ((C.whole : Nat) : Int)), rV (.int .i64 ((C.part : Nat) : Int)), rV (.int .i64 ((C.over : Nat) : Int)), rV (.int .i64 (C.up)), rV (.bool (decide (C.ok = true))), rV (.int .i64 ((C.whole : Nat) : Int)), rV (.int .i64 ((C.part : Nat) : Int)), rV (.int .i64 ((C.over : Nat) : Int)), rV (.int .i64 (C.up)), rV (.bool (decide (C.ok = true)))] hz hd ?_ ?_
 refine ⟨?_, ?_, ?_, ?_, ?_, ?_, ?_, ?_, ?_, ?_, ?_, ?_, ?_, trivial⟩
 exact zMv hz (sv S0)
 exact zC1 hz Tryz.func70 (sd 0 rfl) (k1 (fun _ => c_cut_c hB hL eC))
 exact zMv hz (sd 1 rfl)
 exact zExt hz (sd 2 rfl)
 exact zExt hz (sd 2 rfl)
 exact zExt hz (sd 2 rfl)
 exact zExt hz (sd 2 rfl)
 exact zExt hz (sd 2 rfl)
 exact zAs hz (sd 3 rfl)
 exact zAs hz (sd 4 rfl)
 exact zAs hz (sd 5 rfl)
 exact zAs hz (sd 6 rfl)
 exact zAs hz (sd 7 rfl)
 clear hz hd
 intro a' γ' W' hz hd hC hk hh
 have tp1 := Cp1.lt
 replace Cp1 := kC hC Cp1
 replace S0 := kp hk S0
 replace S2 := kp hk S2
 replace S3 := kp hk S3
 have S4 := gV hz 8 hh
 have S5 := gV hz 9 hh
 have S6 := gV hz 10 hh
 have S7 := gV hz 11 hh
 have S8 := gV hz 12 hh
 clear tp1
 replace HB := aB HB hC
 clear hC hk hh
 refine wp_seq ?_
 refine wp_block ?_
 refine wp_seq ?_
 by_cases hc2 : 400 < L.length
 refine rt [rV (.string (strB L)), rV (.int .i64 ((L.length : Nat) : Int)), rV (.bool true), rV (.bool true), rV undef, rV undef, rV (.bool true), rV (.bool true)] hz hd ?_ ?_
 refine ⟨?_, ?_, ?_, ?_, ?_, ?_, ?_, ?_, trivial⟩
 exact zMv hz (sv S0)
 exact zB1len hz rfl (sd 0 rfl) (fun w => s_len w)
 exact sBin rfl rfl rfl hz rfl (Gd.none_ rfl) rfl (sd 1 rfl) kc (fun w => run_t (P := 400 < L.length) ((fun w => n_gt400 w) w) hc2)
 exact zMv hz (sd 2 rfl)
 exact zSkU hz (gN 3 rfl)
 exact zSkU hz (gN 3 rfl)
 exact zPT hz (sd 3 rfl) kc
 exact zAs hz (sd 6 rfl)
 clear hz hd
 intro a' γ' W' hz hd hC hk hh
 have tp1 := Cp1.lt
 replace Cp1 := kC hC Cp1
 replace S0 := kp hk S0
 replace S2 := kp hk S2
 replace S3 := kp hk S3
 replace S4 := kp hk S4
 replace S5 := kp hk S5
 replace S6 := kp hk S6
 replace S7 := kp hk S7
 clear S8
 have S17 := gV hz 7 hh
 clear tp1
 replace HB := aB HB hC
 clear hC hk hh
 refine wp_cond_true S17.ev ?_
 refine wp_seq ?_
 refine region_text (M := [p1]) [rT (tQ B64 1 0), rE 0 28 (tQ B64 1 0) p1, rV (.int .i64 30)] hz hd (by kernel_rfl) ?_ ?_
 refine ⟨?_, ?_, ?_, trivial⟩
 exact sBuild0 rfl rfl rfl hz rfl (Gd.none_ rfl) rfl bd_r64 (fun _ => tQ_nil)
 exact zSE rfl (sv S2) (by simp [tagOf]) (Cp1.var tQ_nd) (sd 0 rfl) st_q64
 exact zAs hz kc
 clear hz hd
 intro a' γ' W' hz hd hC hk hh
 replace Cp1 := gotE (T := tQ B64 1 0) (id := 28) (p := p1) 1 hh rfl rfl
 replace S0 := kp hk S0
 replace S2 := kp hk S2
 clear S3
 replace S4 := kp hk S4
 clear S5
 clear S6
 replace S7 := kp hk S7
 clear S17
 have S3 := gV hz 2 hh
 replace HB := aM HB hC
 clear hC hk hh
 refine wp_ret ?_
 refine ret_to (T := tT [tQ B64 1 0, tV (.int .i64 30)]) (retct_q64 (by kernel_rfl) S2 S3 hd Cp1 HB) ?_
 exact pr_to (by rw [pr_long hc2]; rfl) (by rw [pr_long hc2]; rfl) (by decide)
 by_cases hc3 : C.ok = true
 rw [decide_eq_true hc3] at S8
 refine rt [rV (.string (strB L)), rV (.int .i64 ((L.length : Nat) : Int)), rV (.bool false), rV (.bool false), rV (.bool true), rV (.bool false), rV (.bool false), rV (.bool false)] hz hd ?_ ?_
 refine ⟨?_, ?_, ?_, ?_, ?_, ?_, ?_, ?_, trivial⟩
 exact zMv hz (sv S0)
 exact zB1len hz rfl (sd 0 rfl) (fun w => s_len w)
 exact sBin rfl rfl rfl hz rfl (Gd.none_ rfl) rfl (sd 1 rfl) kc (fun w => run_f (P := 400 < L.length) ((fun w => n_gt400 w) w) hc2)
 exact zMv hz (sd 2 rfl)
 exact zMv hz (sv S8) (g := gT 3 rfl)
 exact zNot hz (sd 4 rfl) (g := gT 3 rfl)
 exact zPF hz (sd 3 rfl) (sd 5 rfl)
 exact zAs hz (sd 6 rfl)
 clear hz hd
 intro a' γ' W' hz hd hC hk hh
 have tp1 := Cp1.lt
 replace Cp1 := kC hC Cp1
 replace S0 := kp hk S0
 replace S2 := kp hk S2
 replace S3 := kp hk S3
 replace S4 := kp hk S4
 replace S5 := kp hk S5
 replace S6 := kp hk S6
 replace S7 := kp hk S7
 clear S8
 have S17 := gV hz 7 hh
 clear tp1
 replace HB := aB HB hC
 clear hC hk hh
 refine wp_cond_false S17.ev ?_
 refine wp_seq ?_
 refine rt [rV (.int .i64 ((C.over : Nat) : Int)), rV (.bool (decide (0 < C.over))), rV (.bool (decide (0 < C.over)))] hz hd ?_ ?_
 refine ⟨?_, ?_, ?_, trivial⟩
 exact zMv hz (sv S6)
 exact sBin rfl rfl rfl hz rfl (Gd.none_ rfl) rfl (sd 0 rfl) kc (fun w => n_gt0 w)
 exact zAs hz (sd 1 rfl)
 clear hz hd
 intro a' γ' W' hz hd hC hk hh
 have tp1 := Cp1.lt
 replace Cp1 := kC hC Cp1
 replace S0 := kp hk S0
 replace S2 := kp hk S2
 replace S3 := kp hk S3
 replace S4 := kp hk S4
 replace S5 := kp hk S5
 clear S6
 replace S7 := kp hk S7
 clear S17
 have S26 := gV hz 2 hh
 clear tp1
 replace HB := aB HB hC
 clear hC hk hh
 by_cases hc4 : 0 < C.over
 have hov := hok.over hc4
 rw [decide_eq_true hc4] at S26
 refine wp_cond_true S26.ev ?_
 refine wp_seq ?_
 refine region_drawn (M := [p1]) (
  rT (tV (.string (strB L))) ::
  rT (tV (.int .i64 ((C.whole : Nat) : Int))) ::
  rT (tV (.string (strB (L.take C.whole)))) ::
  rT (tV (.string (strB L))) ::
  rT (tV (.int .i64 ((C.whole : Nat) : Int))) ::
  rT (tV (.int .i64 ((C.whole + 1 : Nat) : Int))) ::
  rT (tV (.string (strB (L.drop (C.whole + 1))))) ::
  rT (tT [tQ B64 10000 (mkRat ((parseV (L.take C.whole) : Nat) : Int) (parseV (L.drop (C.whole + 1)))), tV (.int .i64 (if parseV (L.drop (C.whole + 1)) = 0 then 30 else 0))]) ::
  rT (tQ B64 10000 (mkRat ((parseV (L.take C.whole) : Nat) : Int) (parseV (L.drop (C.whole + 1))))) ::
  rT (tV (.int .i64 (if parseV (L.drop (C.whole + 1)) = 0 then 30 else 0))) ::
  rE 0 28 (tQ B64 10000 (mkRat ((parseV (L.take C.whole) : Nat) : Int) (parseV (L.drop (C.whole + 1))))) p1 ::
  rT (tV (.int .i64 (if parseV (L.drop (C.whole + 1)) = 0 then 30 else 0))) ::
  []) hz hd (by kernel_rfl) (by kernel_rfl) ?_ ?_
 refine ⟨?_, ?_, ?_, ?_, ?_, ?_, ?_, ?_, ?_, ?_, ?_, ?_, trivial⟩
 exact zMv hz (sv S0)
 exact zMv hz (sv S4)
 exact zSlTo hz rfl (sd 0 rfl) (sd 1 rfl) (fun w => s_to (by omega) w)
 exact zMv hz (sv S0)
 exact zMv hz (sv S4)
 exact sBin rfl rfl rfl hz rfl (Gd.none_ rfl) rfl (sd 4 rfl) kc (fun w => n_succ (by omega) w)
 exact zSlFrom hz rfl (sd 3 rfl) (sd 5 rfl) (fun w => s_from (by omega) w)
 exact zC2 hz Tryz.func71 (sd 2 rfl) (sd 6 rfl) (k11 (fun _ => c_quotient (l := 10000) (by_take hB C.whole) (by_drop hB (C.whole + 1)) (by decide)))
 exact zExt hz (sd 7 rfl)
 exact zExt hz (sd 7 rfl)
 exact zSE rfl (sv S2) (by simp [tagOf]) (Cp1.var tQ_nd) (sd 8 rfl) st_q64
 exact zAs hz (sd 9 rfl)
 clear hz hd
 intro a' γ' W' hz hd hC hk hh
 replace Cp1 := gotE (T := tQ B64 10000 (mkRat ((parseV (L.take C.whole) : Nat) : Int) (parseV (L.drop (C.whole + 1))))) (id := 28) (p := p1) 10 hh rfl rfl
 replace S0 := kp hk S0
 replace S2 := kp hk S2
 clear S3
 replace S4 := kp hk S4
 clear S5
 replace S7 := kp hk S7
 clear S26
 have S3 := gV hz 11 hh
 replace HB := aM HB hC
 clear hC hk hh
 refine wp_ret ?_
 refine ret_to (T := tT [tQ B64 10000 (mkRat ((parseV (L.take C.whole) : Nat) : Int) (parseV (L.drop (C.whole + 1)))), tV (.int .i64 (if parseV (L.drop (C.whole + 1)) = 0 then 30 else 0))]) (retct_q64 (by kernel_rfl) S2 S3 hd Cp1 HB) ?_
 exact pr_to (pr_over hc2 hc3 hc4).1 (pr_over hc2 hc3 hc4).2 (by decide)
 rw [decide_eq_false hc4] at S26
 refine wp_cond_false S26.ev ?_
 refine wp_seq ?_
 refine rt [rV (.int .i64 ((C.part : Nat) : Int)), rV (.bool (decide (0 < C.part))), rV (.bool (decide (0 < C.part)))] hz hd ?_ ?_
 refine ⟨?_, ?_, ?_, trivial⟩
 exact zMv hz (sv S5)
 exact sBin rfl rfl rfl hz rfl (Gd.none_ rfl) rfl (sd 0 rfl) kc (fun w => n_gt0 w)
 exact zAs hz (sd 1 rfl)
 clear hz hd
 intro a' γ' W' hz hd hC hk hh
 have tp1 := Cp1.lt
 replace Cp1 := kC hC Cp1
 replace S0 := kp hk S0
 replace S2 := kp hk S2
 replace S3 := kp hk S3
 replace S4 := kp hk S4
 replace S5 := kp hk S5
 replace S7 := kp hk S7
 clear S26
 have S39 := gV hz 2 hh
 clear tp1
 replace HB := aB HB hC
 clear hC hk hh
 by_cases hc5 : 0 < C.part
 have hpt := hok.part hc5
 rw [decide_eq_true hc5] at S39
 refine wp_cond_true S39.ev ?_
 refine wp_seq ?_
 refine region_drawn (M := [p1]) (
  rT (tV (.string (strB L))) ::
  rT (tV (.int .i64 ((C.whole : Nat) : Int))) ::
  rT (tV (.string (strB (L.take C.whole)))) ::
  rT (tV (.string (strB L))) ::
  rT (tV (.int .i64 ((C.whole : Nat) : Int))) ::
  rT (tV (.int .i64 ((C.whole + 1 : Nat) : Int))) ::
  rT (tV (.int .i64 ((C.whole : Nat) : Int))) ::
  rT (tV (.int .i64 ((C.whole + 1 : Nat) : Int))) ::
  rT (tV (.int .i64 ((C.part : Nat) : Int))) ::
  rT (tV (.int .i64 ((C.whole + 1 + C.part : Nat) : Int))) ::
  rT (tV (.string (strB ((L.drop (C.whole + 1)).take C.part)))) ::
  rT (tV (.string (strB ((L.take C.whole) ++ ((L.drop (C.whole + 1)).take C.part))))) ::
  rT (tV (.int .i64 (C.up))) ::
  rT (tV (.int .i64 ((C.part : Nat) : Int))) ::
  rT (tV (.int .i64 (C.up - ((C.part : Nat) : Int)))) ::
  rT (tQ B64 10000 (sclQ (parseV ((L.take C.whole) ++ ((L.drop (C.whole + 1)).take C.part))) (C.up - ((C.part : Nat) : Int)))) ::
  rE 0 28 (tQ B64 10000 (sclQ (parseV ((L.take C.whole) ++ ((L.drop (C.whole + 1)).take C.part))) (C.up - ((C.part : Nat) : Int)))) p1 ::
  rT (tV (.int .i64 0)) ::
  []) hz hd (by kernel_rfl) (by kernel_rfl) ?_ ?_
 refine ⟨?_, ?_, ?_, ?_, ?_, ?_, ?_, ?_, ?_, ?_, ?_, ?_, ?_, ?_, ?_, ?_, ?_, ?_, trivial⟩
 exact zMv hz (sv S0)
 exact zMv hz (sv S4)
 exact zSlTo hz rfl (sd 0 rfl) (sd 1 rfl) (fun w => s_to (by omega) w)
 exact zMv hz (sv S0)
 exact zMv hz (sv S4)
 exact sBin rfl rfl rfl hz rfl (Gd.none_ rfl) rfl (sd 4 rfl) kc (fun w => n_succ (by omega) w)
 exact zMv hz (sv S4)
 exact sBin rfl rfl rfl hz rfl (Gd.none_ rfl) rfl (sd 6 rfl) kc (fun w => n_succ (by omega) w)
 exact zMv hz (sv S5)
 exact sBin rfl rfl rfl hz rfl (Gd.none_ rfl) rfl (sd 7 rfl) (sd 8 rfl) (fun w => n_add (by omega) (by omega) w)
 exact zSlMid hz rfl (sd 3 rfl) (sd 5 rfl) (sd 9 rfl) (fun w => by have hq := s_mid (L := L) (i := C.whole + 1) (j := C.whole + 1 + C.part) (by omega) (by omega) w; rw [Nat.add_sub_cancel_left] at hq; exact hq)
 exact sBin rfl rfl rfl hz rfl (Gd.none_ rfl) rfl (sd 2 rfl) (sd 10 rfl) (fun w => s_cat (L := L.take C.whole) (M := (L.drop (C.whole + 1)).take C.part) (by rw [List.length_take, List.length_take]; omega) rfl w)
 exact zMv hz (sv S7)
 exact zMv hz (sv S5)
 exact sBin rfl rfl rfl hz rfl (Gd.none_ rfl) rfl (sd 12 rfl) (sd 13 rfl) (fun w => f_up hup (by omega) w)
 exact zC2 hz Tryz.func72 (sd 11 rfl) (sd 14 rfl) (k11 (fun _ => c_scaled (l := 10000) (by_app (by_take hB C.whole) (by_take (by_drop hB (C.whole + 1)) C.part)) (by omega) (by decide)))
 exact zSE rfl (sv S2) (by simp [tagOf]) (Cp1.var tQ_nd) (sd 15 rfl) st_q64
 exact zAs hz kc
 clear hz hd
 intro a' γ' W' hz hd hC hk hh
 replace Cp1 := gotE (T := tQ B64 10000 (sclQ (parseV ((L.take C.whole) ++ ((L.drop (C.whole + 1)).take C.part))) (C.up - ((C.part : Nat) : Int)))) (id := 28) (p := p1) 16 hh rfl rfl
 replace S0 := kp hk S0
 replace S2 := kp hk S2
 clear S3
 replace S4 := kp hk S4
 clear S5
 replace S7 := kp hk S7
 clear S39
 have S3 := gV hz 17 hh
 replace HB := aM HB hC
 clear hC hk hh
 refine wp_ret ?_
 refine ret_to (T := tT [tQ B64 10000 (sclQ (parseV ((L.take C.whole) ++ ((L.drop (C.whole + 1)).take C.part))) (C.up - ((C.part : Nat) : Int))), tV (.int .i64 0)]) (retct_q64 (by kernel_rfl) S2 S3 hd Cp1 HB) ?_
 exact pr_to (by rw [pr_part hc2 hc3 hc4 hc5]; rfl) (by rw [pr_part hc2 hc3 hc4 hc5]; rfl) (by decide)
 rw [decide_eq_false hc5] at S39
 refine wp_cond_false S39.ev ?_
 refine wp_skip ?_
 refine wp_seq ?_
 refine region_text (M := [p1]) [rV (.string (strB L)), rV (.int .i64 ((C.whole : Nat) : Int)), rV (.string (strB (L.take C.whole))), rV (.int .i64 (C.up)), rT (tQ B64 10000 (sclQ (parseV (L.take C.whole)) (C.up))), rE 0 28 (tQ B64 10000 (sclQ (parseV (L.take C.whole)) (C.up))) p1, rV (.int .i64 0)] hz hd (by kernel_rfl) ?_ ?_
 refine ⟨?_, ?_, ?_, ?_, ?_, ?_, ?_, trivial⟩
 exact zMv hz (sv S0)
 exact zMv hz (sv S4)
 exact zSlTo hz rfl (sd 0 rfl) (sd 1 rfl) (fun w => s_to (by omega) w)
 exact zMv hz (sv S7)
 exact zC2 hz Tryz.func72 (sd 2 rfl) (sd 3 rfl) (k11 (fun _ => c_scaled (l := 10000) (by_take hB C.whole) (by omega) (by decide)))
 exact zSE rfl (sv S2) (by simp [tagOf]) (Cp1.var tQ_nd) (sd 4 rfl) st_q64
 exact zAs hz kc
 clear hz hd
 intro a' γ' W' hz hd hC hk hh
 replace Cp1 := gotE (T := tQ B64 10000 (sclQ (parseV (L.take C.whole)) (C.up))) (id := 28) (p := p1) 5 hh rfl rfl
 clear S0
 replace S2 := kp hk S2
 clear S3
 clear S4
 clear S5
 clear S7
 clear S39
 have S3 := gV hz 6 hh
 replace HB := aM HB hC
 clear hC hk hh
 refine wp_ret ?_
 refine ret_to (T := tT [tQ B64 10000 (sclQ (parseV (L.take C.whole)) (C.up)), tV (.int .i64 0)]) (retct_q64 (by kernel_rfl) S2 S3 hd Cp1 HB) ?_
 exact pr_to (by rw [pr_whole hc2 hc3 hc4 hc5]; rfl) (by rw [pr_whole hc2 hc3 hc4 hc5]; rfl) (by decide)
 rw [decide_eq_false hc3] at S8
 refine rt [rV (.string (strB L)), rV (.int .i64 ((L.length : Nat) : Int)), rV (.bool false), rV (.bool false), rV (.bool false), rV (.bool true), rV (.bool true), rV (.bool true)] hz hd ?_ ?_
 refine ⟨?_, ?_, ?_, ?_, ?_, ?_, ?_, ?_, trivial⟩
 exact zMv hz (sv S0)
 exact zB1len hz rfl (sd 0 rfl) (fun w => s_len w)
 exact sBin rfl rfl rfl hz rfl (Gd.none_ rfl) rfl (sd 1 rfl) kc (fun w => run_f (P := 400 < L.length) ((fun w => n_gt400 w) w) hc2)
 exact zMv hz (sd 2 rfl)
 exact zMv hz (sv S8) (g := gT 3 rfl)
 exact zNot hz (sd 4 rfl) (g := gT 3 rfl)
 exact zPF hz (sd 3 rfl) (sd 5 rfl)
 exact zAs hz (sd 6 rfl)
 clear hz hd
 intro a' γ' W' hz hd hC hk hh
 have tp1 := Cp1.lt
 replace Cp1 := kC hC Cp1
 replace S0 := kp hk S0
 replace S2 := kp hk S2
 replace S3 := kp hk S3
 replace S4 := kp hk S4
 replace S5 := kp hk S5
 replace S6 := kp hk S6
 replace S7 := kp hk S7
 clear S8
 have S17 := gV hz 7 hh
 clear tp1
 replace HB := aB HB hC
 clear hC hk hh
 refine wp_cond_true S17.ev ?_
 refine wp_seq ?_
 refine region_text (M := [p1]) [rT (tQ B64 1 0), rE 0 28 (tQ B64 1 0) p1, rV (.int .i64 30)] hz hd (by kernel_rfl) ?_ ?_
 refine ⟨?_, ?_, ?_, trivial⟩
 exact sBuild0 rfl rfl rfl hz rfl (Gd.none_ rfl) rfl bd_r64 (fun _ => tQ_nil)
 exact zSE rfl (sv S2) (by simp [tagOf]) (Cp1.var tQ_nd) (sd 0 rfl) st_q64
 exact zAs hz kc
 clear hz hd
 intro a' γ' W' hz hd hC hk hh
 replace Cp1 := gotE (T := tQ B64 1 0) (id := 28) (p := p1) 1 hh rfl rfl
 replace S0 := kp hk S0
 replace S2 := kp hk S2
 clear S3
 replace S4 := kp hk S4
 clear S5
 clear S6
 replace S7 := kp hk S7
 clear S17
 have S3 := gV hz 2 hh
 replace HB := aM HB hC
 clear hC hk hh
 refine wp_ret ?_
 refine ret_to (T := tT [tQ B64 1 0, tV (.int .i64 30)]) (retct_q64 (by kernel_rfl) S2 S3 hd Cp1 HB) ?_
 exact pr_to (by rw [pr_bad hc3]; rfl) (by rw [pr_bad hc3]; rfl) (by decide)

end Go.Proofs.YtfgnleoaibcegaaGreat.Rg

namespace Go.Proofs.YtfgnleoaibcegaaGreat.Rg

open Go.RowKit
section

variable {u : Nat} {ox oy : Operand} {id : TypeId}
theorem f_shl1 (hu : u < 18446744073709551616) (w : World) : (do eqGuard .shl id ox oy (.int .u64 (u : Int)) (.int .u64 1); binOp .shl id (.int .u64 (u : Int)) (.int .u64 1) : Sem Value).run Tryz.prog w = .ok (.int .u64 ((2 * (u % 9223372036854775808) : Nat) : Int)) w := by
  have e : IntKind.u64.wrap ((u : Int) * 2) = ((2 * (u % 9223372036854775808) : Nat) : Int) := by rw [IntKind.wrap_u64]; omega
  simp [go_sem, e]
theorem f_sh0 {k : Nat} (w : World) : (do eqGuard .eql id ox oy (.int .u64 ((2 * k : Nat) : Int)) (.int .u64 0); binOp .eql id (.int .u64 ((2 * k : Nat) : Int)) (.int .u64 0) : Sem Value).run Tryz.prog w = .ok (.bool (decide (k = 0))) w := by
  by_cases hc : k = 0
  · subst hc; simp [go_sem]
  · have : ¬ ((2 * k : Nat) : Int) = 0 := by omega
    have h2 : ¬ (2 * (k : Int)) = 0 := by omega
    simp [go_sem, hc, this, h2]
theorem f_sh63 (w : World) : (do eqGuard .shr id ox oy (.int .u64 (u : Int)) (.int .u64 63); binOp .shr id (.int .u64 (u : Int)) (.int .u64 63) : Sem Value).run Tryz.prog w = .ok (.int .u64 ((u / 9223372036854775808 : Nat) : Int)) w := by
  simp [go_sem]
theorem f_m52 (w : World) : (do eqGuard .add id ox oy (.int .u64 ((ma u : Nat) : Int)) (.int .u64 4503599627370496); binOp .add id (.int .u64 ((ma u : Nat) : Int)) (.int .u64 4503599627370496) : Sem Value).run Tryz.prog w = .ok (.int .u64 ((ma u + 4503599627370496 : Nat) : Int)) w := by
  have hm := ma_lt u
  have e : IntKind.u64.wrap (((ma u : Nat) : Int) + 4503599627370496) = ((ma u + 4503599627370496 : Nat) : Int) := by rw [IntKind.wrap_u64]; omega
  simp [go_sem, e]
theorem f_e1 (h : 0 < ex u) (w : World) : (do eqGuard .sub id ox oy (.int .i64 ((ex u : Nat) : Int)) (.int .i64 1); binOp .sub id (.int .i64 ((ex u : Nat) : Int)) (.int .i64 1) : Sem Value).run Tryz.prog w = .ok (.int .i64 ((ex u - 1 : Nat) : Int)) w := by
  have hm := ex_lt u
  have e : IntKind.i64.wrap (((ex u : Nat) : Int) - 1) = ((ex u - 1 : Nat) : Int) := by rw [IntKind.wrap_i64]; omega
  simp [go_sem, e]
theorem cv_ex (w : World) : (convert 23 3 (.int .u64 ((ex u : Nat) : Int))).run Tryz.prog w = .ok (.int .i64 ((ex u : Nat) : Int)) w := by
  have hm := ex_lt u
  have e : IntKind.i64.wrap ((ex u : Nat) : Int) = ((ex u : Nat) : Int) := by rw [IntKind.wrap_i64]; omega
  simp [go_sem, e]
end

section

variable {u l : Nat}
theorem fk_0 (h : u % 9223372036854775808 = 0) (hu : u < 18446744073709551616) : FOk u ∧ flQ u = 0 := by
  have e1 : ex u = 0 := by unfold ex; omega
  have e2 : ma u = 0 := by unfold ma; omega
  have hF : FOk u := ⟨by rw [e1]; decide, by omega⟩
  refine ⟨hF, ?_⟩
  unfold flQ fl
  rw [if_pos hF, if_pos (by rw [e1]; rfl), e2]
  exact Rat.zero_mkRat _
theorem fb_p1 {n l : Nat} (h : n < l) : 1 * 2 ^ n < 2 ^ l := by rw [Nat.one_mul]; exact fb_p h
end
end Go.Proofs.YtfgnleoaibcegaaGreat.Rg

namespace Go.Proofs.YtfgnleoaibcegaaGreat.Rg

open Go.RowKit

theorem st_fl : flQ 4604930618986332160 = mkRat 3 4 ∧ decide (FOk 4604930618986332160) = true := by decide +kernel
theorem st_pa : resX (parseR [55, 53, 101, 45, 50]) = mkRat 3 4 ∧ resE (parseR [55, 53, 101, 45, 50]) = 0 := by decide +kernel
theorem st_p0 : resX (parseR [49, 47, 48]) = 0 ∧ resE (parseR [49, 47, 48]) = 30 := by decide +kernel
theorem st_of : ofQ 1 3 = mkRat 1 3 ∧ decide (OfOk 1 3) = true := by decide +kernel
theorem st_to : flN (tfD 1 3) = 4599676419421066581 ∧ decide (tfD 1 3 < 9218868437227405312) = true := by decide +kernel
theorem st_de : decS (rn (3 * 10 ^ 1) 4) 1 = [48, 46, 56] := by decide +kernel
theorem st_fm : fmtT 3 4 = [51, 47, 52] := by decide +kernel
section

variable {l : Nat} {v : Value} {w : World}
theorem c_st_fl : Calls Tryz.prog 31 #[.float FloatKind.f64 4604930618986332160] w (Ret (tT [tQ B64 1100 (mkRat 3 4), tV (.bool true)]) w) := by
  have := c_fromfloat (l := 1100) (u := 4604930618986332160) (w := w) (by decide) (by decide)
  rw [st_fl.1, st_fl.2] at this; exact this
theorem c_st_pa : Calls Tryz.prog 23 #[.string (strB [55, 53, 101, 45, 50])] w (Ret (tT [tQ B64 10000 (mkRat 3 4), tV (.int .i64 0)]) w) := by
  have := c_nparse (L := [55, 53, 101, 45, 50]) (w := w) (by decide) (by decide)
  rw [st_pa.1, st_pa.2] at this; exact this
theorem c_st_p0 : Calls Tryz.prog 23 #[.string (strB [49, 47, 48])] w (Ret (tT [tQ B64 10000 0, tV (.int .i64 30)]) w) := by
  have := c_nparse (L := [49, 47, 48]) (w := w) (by decide) (by decide)
  rw [st_p0.1, st_p0.2] at this; exact this
theorem c_st_of : Calls Tryz.prog 35 #[.int .i64 1, .int .i64 3] w (Ret (tT [tQ B64 63 (mkRat 1 3), tV (.bool true)]) w) := by
  have := cq_of (a := 1) (b := 3) (w := w) (by decide) (by decide)
  rw [st_of.1, st_of.2] at this; exact this
theorem c_st_to (h : (tQ B64 l (mkRat 1 3)).p v w) (hl : l ≤ 1000000) : Calls Tryz.prog 8 #[v] w (Ret (tT [tV (.float .f64 4599676419421066581), tV (.bool true)]) w) := by
  have := c_tofloat_pq (p := 1) (q := 3) (w := w) h (by decide +kernel) (by decide +kernel) hl
  rw [st_to.1, st_to.2] at this; exact this
theorem c_st_de (h : (tQ B64 l (mkRat 3 4)).p v w) (hl : l ≤ 1000000) : Calls Tryz.prog 29 #[v, .int .i64 1] w (Ret (tT [tV (.string (strB [48, 46, 56])), tV (.bool true)]) w) := by
  have := c_decimal (p := 3) (q := 4) (n := 1) (w := w) h (by decide +kernel) (by decide +kernel) hl (by decide)
  rw [st_de] at this; exact this
theorem c_st_fm (h : (tQ B64 l (mkRat 3 4)).p v w) (hl : l ≤ 1000000) : Calls Tryz.prog 27 #[v] w (Ret (tV (.string (strB [51, 47, 52]))) w) := by
  have := c_format (p := 3) (q := 4) (w := w) h (by decide +kernel) (by decide +kernel) hl
  rw [st_fm] at this; exact this
end
set_option maxRecDepth 10000 in
set_option maxHeartbeats 2000000 in
theorem l_errno {e : Int} {w : World}   :
    Calls Tryz.prog 25 #[.int .i64 e] w (Ret (tV (.int .i64 e)) w) := by
 refine enter Tryz.func25 rfl Tryz.ntmps25 (by simp) ?_
 intro a hz hd ha
 have S0 := ha 0 _ rfl
 clear ha
 have HB : Below w.heap.size w w := Below.refl _ _
 refine wp_seq ?_
 refine rt [rV (.int .i64 0)] hz hd ?_ ?_
 refine ⟨?_, trivial⟩
 exact zAs hz kc
 clear hz hd
 intro a' γ' W' hz hd hC hk hh
 replace S0 := kp hk S0
 have S2 := gV hz 0 hh
 replace HB := aB HB hC
 clear hC hk hh
 refine wp_seq ?_
 refine rt [rV (.int .i64 e), rV (.int .i64 e)] hz hd ?_ ?_
 refine ⟨?_, ?_, trivial⟩
 exact zMv hz (sv S0)
 exact zAs hz (sd 0 rfl)
 clear hz hd
 intro a' γ' W' hz hd hC hk hh
 clear S0
 clear S2
 have S2 := gV hz 1 hh
 replace HB := aB HB hC
 clear hC hk hh
 refine wp_ret ?_
 refine ret_to (T := tV (.int .i64 e)) (ret1 (by kernel_rfl) S2 hd ⟨_, rfl, rfl, HB⟩) ?_
 exact fun _ _ h => h

set_option maxRecDepth 10000 in
set_option maxHeartbeats 2000000 in
theorem l_started  {w : World}   :
    Calls Tryz.prog 12 #[] w (Ret (tV (.bool true)) w) := by
 refine enter Tryz.func12 rfl Tryz.ntmps12 (by simp) ?_
 intro a hz hd ha
 clear ha
 have HB : Below w.heap.size w w := Below.refl _ _
 refine wp_seq ?_
 refine rt [rV (.bool false)] hz hd ?_ ?_
 refine ⟨?_, trivial⟩
 exact zAs hz kc
 clear hz hd
 intro a' γ' W' hz hd hC hk hh
 have S0 := gV hz 0 hh
 replace HB := aB HB hC
 clear hC hk hh
 refine wp_seq ?_
 refine rt [rT (tT [tQ B64 1100 (mkRat 3 4), tV (.bool true)]), rT (tT [tQ B64 1100 (mkRat 3 4), tV (.bool true)]), rT (tQ B64 1100 (mkRat 3 4)), rV (.bool true), rVar 4 28 2, rB 4 28 (tQ B64 1100 (mkRat 3 4)) (some 4) 5, rV (.bool true)] hz hd ?_ ?_
 refine ⟨?_, ?_, ?_, ?_, ?_, ?_, ?_, trivial⟩
 exact zC1 hz Tryz.func31 (kc (v := .float FloatKind.f64 4604930618986332160)) (k1 (fun _ => c_st_fl))
 exact zMv hz (sd 0 rfl)
 exact zExt hz (sd 1 rfl)
 exact zExt hz (sd 1 rfl)
 exact zAl hz nd_rat al_r64
 exact zSt (sd 2 rfl) st_q64
 exact zAs hz (sd 3 rfl)
 clear hz hd
 intro a' γ' W' hz hd hC hk hh
 replace S0 := kp hk S0
 obtain ⟨p1, S1, Cp1, lp1, gp1⟩ := gotB hz 5 hC hh rfl rfl rfl rfl rfl rfl
 have S2 := gV hz 6 hh
 clear lp1 gp1
 replace HB := aB HB hC
 clear hC hk hh
 refine wp_seq ?_
 refine rt [rT (tT [tQ B64 10000 (mkRat 3 4), tV (.int .i64 0)]), rT (tT [tQ B64 10000 (mkRat 3 4), tV (.int .i64 0)]), rT (tQ B64 10000 (mkRat 3 4)), rV (.int .i64 0), rVar 4 28 2, rB 4 28 (tQ B64 10000 (mkRat 3 4)) (some 4) 5, rV (.int .i64 0)] hz hd ?_ ?_
 refine ⟨?_, ?_, ?_, ?_, ?_, ?_, ?_, trivial⟩
 exact zC1 hz Tryz.func23 (kc (v := .string ⟨#[55, 53, 101, 45, 50]⟩)) (k1 (fun _ => c_st_pa))
 exact zMv hz (sd 0 rfl)
 exact zExt hz (sd 1 rfl)
 exact zExt hz (sd 1 rfl)
 exact zAl hz nd_rat al_r64
 exact zSt (sd 2 rfl) st_q64
 exact zAs hz (sd 3 rfl)
 clear hz hd
 intro a' γ' W' hz hd hC hk hh
 replace Cp1 := kC hC Cp1
 replace S0 := kp hk S0
 replace S1 := kp hk S1
 replace S2 := kp hk S2
 obtain ⟨p2, S3, Cp2, lp2, gp2⟩ := gotB hz 5 hC hh rfl rfl rfl rfl rfl rfl
 have S4 := gV hz 6 hh
 clear lp2 gp2
 replace HB := aB HB hC
 clear hC hk hh
 refine wp_seq ?_
 refine rt [rT (tT [tQ B64 63 (mkRat 1 3), tV (.bool true)]), rT (tT [tQ B64 63 (mkRat 1 3), tV (.bool true)]), rT (tQ B64 63 (mkRat 1 3)), rV (.bool true), rVar 4 28 2, rB 4 28 (tQ B64 63 (mkRat 1 3)) (some 4) 5, rV (.bool true)] hz hd ?_ ?_
 refine ⟨?_, ?_, ?_, ?_, ?_, ?_, ?_, trivial⟩
 exact zC2 hz Tryz.func35 (kc (v := .int .i64 1)) (kc (v := .int .i64 3)) (k11 (fun _ => c_st_of))
 exact zMv hz (sd 0 rfl)
 exact zExt hz (sd 1 rfl)
 exact zExt hz (sd 1 rfl)
 exact zAl hz nd_rat al_r64
 exact zSt (sd 2 rfl) st_q64
 exact zAs hz (sd 3 rfl)
 clear hz hd
 intro a' γ' W' hz hd hC hk hh
 replace Cp1 := kC hC Cp1
 replace Cp2 := kC hC Cp2
 replace S0 := kp hk S0
 replace S1 := kp hk S1
 replace S2 := kp hk S2
 replace S3 := kp hk S3
 replace S4 := kp hk S4
 obtain ⟨p3, S5, Cp3, lp3, gp3⟩ := gotB hz 5 hC hh rfl rfl rfl rfl rfl rfl
 have S6 := gV hz 6 hh
 clear lp3 gp3
 replace HB := aB HB hC
 clear hC hk hh
 refine wp_seq ?_
 refine rt [rT (tQ B64 63 (mkRat 1 3)), rT (tT [tV (.float .f64 4599676419421066581), tV (.bool true)]), rT (tT [tV (.float .f64 4599676419421066581), tV (.bool true)]), rV (.float .f64 4599676419421066581), rV (.bool true), rV (.float .f64 4599676419421066581), rV (.bool true)] hz hd ?_ ?_
 refine ⟨?_, ?_, ?_, ?_, ?_, ?_, ?_, trivial⟩
 exact zLd hz (sv S5) Cp3 ld_q64
 exact zC1 hz Tryz.func8 (sd 0 rfl) (fun _ _ h0 => c_st_to h0 (by decide))
 exact zMv hz (sd 1 rfl)
 exact zExt hz (sd 2 rfl)
 exact zExt hz (sd 2 rfl)
 exact zAs hz (sd 3 rfl)
 exact zAs hz (sd 4 rfl)
 clear hz hd
 intro a' γ' W' hz hd hC hk hh
 replace Cp1 := kC hC Cp1
 replace Cp2 := kC hC Cp2
 clear Cp3
 replace S0 := kp hk S0
 replace S1 := kp hk S1
 replace S2 := kp hk S2
 replace S3 := kp hk S3
 replace S4 := kp hk S4
 clear S5
 replace S6 := kp hk S6
 have S7 := gV hz 5 hh
 have S8 := gV hz 6 hh
 replace HB := aB HB hC
 clear hC hk hh
 refine wp_seq ?_
 refine rt [rT (tQ B64 1100 (mkRat 3 4)), rT (tT [tV (.string (strB ([48, 46, 56]))), tV (.bool true)]), rT (tT [tV (.string (strB ([48, 46, 56]))), tV (.bool true)]), rV (.string (strB ([48, 46, 56]))), rV (.bool true), rV (.string (strB ([48, 46, 56]))), rV (.bool true)] hz hd ?_ ?_
 refine ⟨?_, ?_, ?_, ?_, ?_, ?_, ?_, trivial⟩
 exact zLd hz (sv S1) Cp1 ld_q64
 exact zC2 hz Tryz.func29 (sd 0 rfl) (kc (v := .int .i64 1)) (k01 (fun _ _ h0 => c_st_de h0 (by decide)))
 exact zMv hz (sd 1 rfl)
 exact zExt hz (sd 2 rfl)
 exact zExt hz (sd 2 rfl)
 exact zAs hz (sd 3 rfl)
 exact zAs hz (sd 4 rfl)
 clear hz hd
 intro a' γ' W' hz hd hC hk hh
 replace Cp1 := kC hC Cp1
 replace Cp2 := kC hC Cp2
 replace S0 := kp hk S0
 replace S1 := kp hk S1
 replace S2 := kp hk S2
 replace S3 := kp hk S3
 replace S4 := kp hk S4
 replace S6 := kp hk S6
 replace S7 := kp hk S7
 replace S8 := kp hk S8
 have S9 := gV hz 5 hh
 have S10 := gV hz 6 hh
 replace HB := aB HB hC
 clear hC hk hh
 refine wp_seq ?_
 refine rt [rT (tT [tQ B64 10000 0, tV (.int .i64 30)]), rT (tT [tQ B64 10000 0, tV (.int .i64 30)]), rT (tQ B64 10000 0), rV (.int .i64 30), rVar 4 28 2, rB 4 28 (tQ B64 10000 0) (some 4) 5, rV (.int .i64 30)] hz hd ?_ ?_
 refine ⟨?_, ?_, ?_, ?_, ?_, ?_, ?_, trivial⟩
 exact zC1 hz Tryz.func23 (kc (v := .string ⟨#[49, 47, 48]⟩)) (k1 (fun _ => c_st_p0))
 exact zMv hz (sd 0 rfl)
 exact zExt hz (sd 1 rfl)
 exact zExt hz (sd 1 rfl)
 exact zAl hz nd_rat al_r64
 exact zSt (sd 2 rfl) st_q64
 exact zAs hz (sd 3 rfl)
 clear hz hd
 intro a' γ' W' hz hd hC hk hh
 replace Cp1 := kC hC Cp1
 replace Cp2 := kC hC Cp2
 replace S0 := kp hk S0
 replace S1 := kp hk S1
 replace S2 := kp hk S2
 replace S3 := kp hk S3
 replace S4 := kp hk S4
 replace S6 := kp hk S6
 replace S7 := kp hk S7
 replace S8 := kp hk S8
 replace S9 := kp hk S9
 replace S10 := kp hk S10
 have S12 := gV hz 6 hh
 replace HB := aB HB hC
 clear hC hk hh
 refine wp_seq ?_
 have hc4 : mkRat 3 4 = mkRat 3 4 := (by rfl)
 refine rt [rV (.bool true), rV (.bool true), rV (.int .i64 0), rV (.int .i64 0), rV (.bool true), rV (.bool true), rV (.bool true), rT (tQ B64 1100 (mkRat 3 4)), rT (tQ B64 10000 (mkRat 3 4)), rV (.int .i64 (cmpQ (mkRat 3 4) (mkRat 3 4))), rV (.bool true), rV (.bool true), rV (.bool true), rV (.bool true), rV (.bool true), rV (.bool true), rV (.bool true), rV (.bool true), rV (.bool true), rV (.float .f64 4599676419421066581), rV (.int .u64 4599676419421066581), rV (.bool true), rV (.bool true), rV (.bool true), rV (.bool true), rV (.bool true), rV (.bool true), rV (.string (strB ([48, 46, 56]))), rV (.bool true), rV (.bool true), rV (.bool true), rT (tQ B64 1100 (mkRat 3 4)), rV (.string (strB ([51, 47, 52]))), rV (.bool true), rV (.bool true), rV (.bool true), rV (.int .i64 30), rV (.int .i64 30), rV (.bool true), rV (.bool true), rV (.bool true)] hz hd ?_ ?_
 refine ⟨?_, ?_, ?_, ?_, ?_, ?_, ?_, ?_, ?_, ?_, ?_, ?_, ?_, ?_, ?_, ?_, ?_, ?_, ?_, ?_, ?_, ?_, ?_, ?_, ?_, ?_, ?_, ?_, ?_, ?_, ?_, ?_, ?_, ?_, ?_, ?_, ?_, ?_, ?_, ?_, ?_, trivial⟩
 exact zMv hz (sv S2)
 exact zMv hz (sd 0 rfl)
 exact zMv hz (sv S4) (g := gT 1 rfl)
 exact zC1 hz Tryz.func25 (sd 2 rfl) (k1 (fun _ => l_errno)) (g := gT 1 rfl)
 exact sBin rfl rfl rfl hz rfl (gT 1 rfl) rfl (sd 3 rfl) kc (fun w => by simp [go_sem])
 exact zPT hz (sd 1 rfl) (sd 4 rfl)
 exact zMv hz (sd 5 rfl)
 exact zLd hz (sv S1) Cp1 ld_q64 (g := gT 6 rfl)
 exact zLd hz (sv S3) Cp2 ld_q64 (g := gT 6 rfl)
 exact zC2 hz Tryz.func33 (sd 7 rfl) (sd 8 rfl) (fun _ _ _ h0 h1 => cq_cmp h0 h1 (by decide) (by decide)) (g := gT 6 rfl)
 exact sBin rfl rfl rfl hz rfl (gT 6 rfl) rfl (sd 9 rfl) kc (fun w => run_t (P := mkRat 3 4 = mkRat 3 4) ((fun w => run_cQ_eql (mkRat 3 4) (mkRat 3 4) w) w) hc4)
 exact zPT hz (sd 6 rfl) (sd 10 rfl)
 exact zMv hz (sd 11 rfl)
 exact zMv hz (sv S6) (g := gT 12 rfl)
 exact zPT hz (sd 12 rfl) (sd 13 rfl)
 exact zMv hz (sd 14 rfl)
 exact zMv hz (sv S8) (g := gT 15 rfl)
 exact zPT hz (sd 15 rfl) (sd 16 rfl)
 exact zMv hz (sd 17 rfl)
 exact zMv hz (sv S7) (g := gT 18 rfl)
 exact zC1 hz Tryz.func10 (sd 19 rfl) (k1 (fun _ => c_bits)) (g := gT 18 rfl)
 exact sBin rfl rfl rfl hz rfl (gT 18 rfl) rfl (sd 20 rfl) kc (fun w => by simp [go_sem])
 exact zPT hz (sd 18 rfl) (sd 21 rfl)
 exact zMv hz (sd 22 rfl)
 exact zMv hz (sv S10) (g := gT 23 rfl)
 exact zPT hz (sd 23 rfl) (sd 24 rfl)
 exact zMv hz (sd 25 rfl)
 exact zMv hz (sv S9) (g := gT 26 rfl)
 exact sBin rfl rfl rfl hz rfl (gT 26 rfl) rfl (sd 27 rfl) kc (fun w => by kernel_rfl)
 exact zPT hz (sd 26 rfl) (sd 28 rfl)
 exact zMv hz (sd 29 rfl)
 exact zLd hz (sv S1) Cp1 ld_q64 (g := gT 30 rfl)
 exact zC1 hz Tryz.func27 (sd 31 rfl) (fun _ _ h0 => c_st_fm h0 (by decide)) (g := gT 30 rfl)
 exact sBin rfl rfl rfl hz rfl (gT 30 rfl) rfl (sd 32 rfl) kc (fun w => by kernel_rfl)
 exact zPT hz (sd 30 rfl) (sd 33 rfl)
 exact zMv hz (sd 34 rfl)
 exact zMv hz (sv S12) (g := gT 35 rfl)
 exact zC1 hz Tryz.func25 (sd 36 rfl) (k1 (fun _ => l_errno)) (g := gT 35 rfl)
 exact sBin rfl rfl rfl hz rfl (gT 35 rfl) rfl (sd 37 rfl) kc (fun w => by simp [go_sem])
 exact zPT hz (sd 35 rfl) (sd 38 rfl)
 exact zAs hz (sd 39 rfl)
 clear hz hd
 intro a' γ' W' hz hd hC hk hh
 clear Cp1
 clear Cp2
 clear S0
 clear S1
 clear S2
 clear S3
 clear S4
 clear S6
 clear S7
 clear S8
 clear S9
 clear S10
 clear S12
 have S0 := gV hz 40 hh
 replace HB := aB HB hC
 clear hC hk hh
 refine wp_ret ?_
 refine ret_to (T := tV (.bool true)) (ret1 (by kernel_rfl) S0 hd ⟨_, rfl, rfl, HB⟩) ?_
 exact fun _ _ h => h

end Go.Proofs.YtfgnleoaibcegaaGreat.Rg
