/-
  Walks and plain laws, put together: OH OI OQ OM.
-/
import Derived.Test.YtojpiiboikomfaaQh
import Derived.Test.YtojpiiboikomfaaQc
import Derived.Test.YtojpiiboikomfaaQf
import Derived.Test.YtojpiiboikomfaaFr
set_option linter.unusedVariables false
set_option linter.unusedSimpArgs false
namespace Go.Proofs.Ytojpiiboikomfaa.Rg

open Go.RowKit
def rtQ (u : Nat) : Rat := if RtOk u then flQ u else 0
theorem d_left1 {l x k : Nat} {v : Value} {w : World} (h : (tN B32 l x).p v w) (hl : l ≤ big) (hk : k ≤ 2048) :
    Calls Try.prog 36 #[v, .int .i64 (k : Int)] w (Ret (tN B32 (l + 65) (x * 2 ^ k)) w) := by
  obtain ⟨A, n, c, rfl, hx, hn⟩ := h
  rw [big_eq] at hl
  refine (Go.Proofs.Ytojpiiboikomfaa.Ref.left_any A n c x k w hx (by omega) (by omega)).mono ?_
  rintro e w' ⟨A3, n3, c3, rfl, hd, hb⟩
  refine ⟨_, rfl, ⟨A3, n3, c3, rfl, hd, hd.le (by decide) ?_⟩, hb⟩
  have h1 := hx.lt (by decide)
  have h2 : B32 ^ n ≤ B32 ^ l := Nat.pow_le_pow_right (by decide) hn
  have h3 : 2 ^ k ≤ B32 ^ 65 := by
    have hb : B32 = 2 ^ 32 := rfl
    rw [hb, ← Nat.pow_mul]
    generalize hj : 32 * 65 = j
    exact Nat.pow_le_pow_right (by decide) (by omega)
  rw [Nat.pow_add]
  exact Nat.lt_of_lt_of_le (Nat.mul_lt_mul_of_pos_right (Nat.lt_of_lt_of_le h1 h2) (Nat.two_pow_pos k)) (Nat.mul_le_mul_left _ h3)
theorem fr_p {n l : Nat} (h : n < l) : 1 * 2 ^ n < 2 ^ l := by rw [Nat.one_mul]; exact fb_p h
theorem fr_ne (n : Nat) : 1 * 2 ^ n ≠ 0 := by rw [Nat.one_mul]; have := Nat.two_pow_pos n; omega
section

variable {u : Nat} {ox oy : Operand} {id : TypeId}
theorem f_shr63 (w : World) : (do eqGuard .shr id ox oy (.int .u64 (u : Int)) (.int .u64 63); binOp .shr id (.int .u64 (u : Int)) (.int .u64 63) : Sem Value).run Try.prog w = .ok (.int .u64 ((u / 9223372036854775808 : Nat) : Int)) w := by
  simp [go_sem]
theorem f_shl1 (w : World) : (do eqGuard .shl id ox oy (.int .u64 (u : Int)) (.int .u64 1); binOp .shl id (.int .u64 (u : Int)) (.int .u64 1) : Sem Value).run Try.prog w = .ok (.int .u64 ((u * 2 % 18446744073709551616 : Nat) : Int)) w := by
  have e : IntKind.u64.wrap ((u : Int) * 2) = ((u * 2 % 18446744073709551616 : Nat) : Int) := by rw [IntKind.wrap_u64]; omega
  simp [go_sem, e]
theorem run_nequ {a b : Int} {w : World} : (do eqGuard .neq 22 ox oy (.int .u64 a) (.int .u64 b); binOp .neq 22 (.int .u64 a) (.int .u64 b) : Sem Value).run Try.prog w = .ok (.bool (decide (a ≠ b))) w := by
  have e : (a != b) = decide (a ≠ b) := by rw [Bool.eq_iff_iff]; simp
  simp [go_sem, e]
theorem mk_lt {a d : Nat} {b : Nat} (hd : 0 < d) : ((b : Nat) : Rat) < mkRat (a : Int) d ↔ b * d < a := by
  rw [Rat.mkRat_eq_div]
  have hd0 : (0 : Rat) < (d : Rat) := Rat.natCast_pos.2 hd
  rw [Rat.lt_div_iff hd0, Rat.intCast_natCast, ← Rat.natCast_mul, Rat.natCast_lt_natCast]
theorem fl_big (hF : FOk u) : ((1048576 : Int) : Rat) < flQ u ↔ (1043 < ex u ∨ (ex u = 1043 ∧ 0 < ma u)) := by
  have hm := ma_lt u
  have he := ex_lt u
  have e0 : ((1048576 : Int) : Rat) = ((1048576 : Nat) : Rat) := rfl
  rw [e0]
  unfold flQ; rw [if_pos hF]; unfold fl
  by_cases h0 : ((ex u : Nat) : Int) = 0
  · rw [if_pos h0]
    generalize hk : 1074 = k
    rw [mk_lt (Nat.two_pow_pos k)]
    have : 2 ^ 33 ≤ 2 ^ k := Nat.pow_le_pow_right (by decide) (by omega)
    have e : (2 : Nat) ^ 33 = 8589934592 := rfl
    omega
  · rw [if_neg h0]
    by_cases h1 : ((ex u : Nat) : Int) < 1075
    · rw [if_pos h1, mk_lt (Nat.two_pow_pos _)]
      rcases Nat.lt_trichotomy (ex u) 1043 with h | h | h
      · have : 2 ^ 33 ≤ 2 ^ (1075 - ex u) := Nat.pow_le_pow_right (by decide) (by omega)
        have e : (2 : Nat) ^ 33 = 8589934592 := rfl
        omega
      · have e : (2 : Nat) ^ (1075 - ex u) = 4294967296 := by rw [h]
        rw [e]; omega
      · have : 2 ^ (1075 - ex u) ≤ 2 ^ 31 := Nat.pow_le_pow_right (by decide) (by omega)
        have e : (2 : Nat) ^ 31 = 2147483648 := rfl
        omega
    · rw [if_neg h1, mk_lt (by decide)]
      have := Nat.two_pow_pos (ex u - 1075)
      have h2 : (ma u + 4503599627370496) * 1 ≤ (ma u + 4503599627370496) * 2 ^ (ex u - 1075) := Nat.mul_le_mul_left _ this
      omega
theorem rt_iff (hu : u < 18446744073709551616) : RtOk u ↔ (¬ ((ex u : Nat) : Int) = 2047 ∧ ¬ (((u / 9223372036854775808 : Nat) : Int) = 1 ∧ ((u * 2 % 18446744073709551616 : Nat) : Int) ≠ 0) ∧ ¬ ((ex u : Nat) : Int) > 1043 ∧ ¬ (((ex u : Nat) : Int) = 1043 ∧ ((ma u : Nat) : Int) > 0)) := by
  unfold RtOk
  constructor
  · rintro ⟨h1, h2⟩
    rw [fl_big h1] at h2
    obtain ⟨h3, h4⟩ := h1
    exact ⟨h3, by omega, by omega, by omega⟩
  · rintro ⟨h1, h2, h3, h4⟩
    have hF : FOk u := ⟨h1, by omega⟩
    refine ⟨hF, ?_⟩
    rw [fl_big hF]
    omega
theorem one_pow_mk (a : Int) (k : Nat) : mkRat a (1 * 2 ^ k) = mkRat a (2 ^ k) := by rw [Nat.one_mul]
theorem rt_v0 (h : ((ex u : Nat) : Int) = 0) (hr : RtOk u) : rtQ u = mkRat ((ma u : Nat) : Int) (1 * 2 ^ 1074) := by
  have h1 : rtQ u = fl u := by unfold rtQ flQ; rw [if_pos hr, if_pos hr.1]
  have h2 : fl u = mkRat ((ma u : Nat) : Int) (2 ^ 1074) := if_pos h
  exact h1.trans (h2.trans (one_pow_mk _ 1074).symm)
theorem rt_v1 (h : ¬ ((ex u : Nat) : Int) = 0) (h1 : ((ex u : Nat) : Int) < 1075) (hr : RtOk u) : rtQ u = mkRat ((ma u + 4503599627370496 : Nat) : Int) (1 * 2 ^ (1075 - ex u)) := by
  unfold rtQ flQ fl; rw [if_pos hr, if_pos hr.1, if_neg h, if_pos h1, Nat.one_mul]
end
section

variable {l m : Nat} {bn t n : Int} {h r x : Rat}
end

end Go.Proofs.Ytojpiiboikomfaa.Rg

namespace Go.Proofs.Ytojpiiboikomfaa.Rg

open Go.RowKit

/-- What few makes of a number. -/
def fewV (n m : Int) : Int := (if n < 0 then -(n + 1) else n) % (m + 1)
theorem few0 (n : Int) {m : Int} (h : 0 ≤ m) : 0 ≤ fewV n m := Int.emod_nonneg _ (by omega)
theorem few1 (n : Int) {m : Int} (h : 0 ≤ m) : fewV n m ≤ m := by
  have := Int.emod_lt_of_pos (if n < 0 then -(n + 1) else n) (show 0 < m + 1 by omega)
  unfold fewV; omega
section

variable {ox oy : Operand} {id : TypeId} {n m x : Int}
theorem run_inc (h0 : -9223372036854775808 ≤ n) (h : n < 9223372036854775807) (w : World) : (do eqGuard .add id ox oy (.int .i64 n) (.int .i64 1); binOp .add id (.int .i64 n) (.int .i64 1) : Sem Value).run Try.prog w = .ok (.int .i64 (n + 1)) w := by
  have e : IntKind.i64.wrap (n + 1) = n + 1 := by rw [IntKind.wrap_i64]; omega
  simp [go_sem, e]
theorem run_nega (h0 : -9223372036854775808 < n) (h : n < 9223372036854775808) (w : World) : (Op.unary .neg (.int .i64 n)).run Try.prog w = .ok (.int .i64 (-n)) w := by
  have e : IntKind.i64.wrap (-n) = -n := by rw [IntKind.wrap_i64]; omega
  simp [go_sem, e]
theorem run_remn (h0 : 0 ≤ x) (h1 : x < 9223372036854775808) (h : 1 ≤ m) (w : World) : (do eqGuard .rem id ox oy (.int .i64 x) (.int .i64 m); binOp .rem id (.int .i64 x) (.int .i64 m) : Sem Value).run Try.prog w = .ok (.int .i64 (x % m)) w := by
  have e1 : x.tmod m = x % m := Int.tmod_eq_emod_of_nonneg h0
  have h2 := Int.emod_nonneg x (show m ≠ 0 by omega)
  have h3 : x % m ≤ x := by
    have := Int.mul_nonneg (show 0 ≤ m by omega) (Int.ediv_nonneg h0 (show 0 ≤ m by omega)); have := Int.mul_ediv_add_emod x m; omega
  have e : IntKind.i64.wrap (x % m) = x % m := by rw [IntKind.wrap_i64]; omega
  simp [go_sem, e, e1, show m ≠ 0 by omega]
end

section

variable {ox oy : Operand} {a b : Int} {w : World}
theorem run_eqlE : (do eqGuard .eql 26 ox oy (.int .i64 a) (.int .i64 b); binOp .eql 26 (.int .i64 a) (.int .i64 b) : Sem Value).run Try.prog w = .ok (.bool (decide (a = b))) w := by
  have e : (a == b) = decide (a = b) := by rw [Bool.eq_iff_iff]; simp
  simp [go_sem, e]
end
theorem told_R : RtOk 4602678819172646912 := (rt_iff (by decide)).2 (by decide)
theorem told_E : newE 10 4602678819172646912 1 100 = 0 := newE_0 (by decide) (by decide) told_R (by decide) (by decide) (by decide) (by decide)
theorem told_r : divI (flQ 4602678819172646912) 1 = mkRat 1 2 := by
  have h1 : flQ 4602678819172646912 = fl 4602678819172646912 := if_pos told_R.1
  have h2 : fl 4602678819172646912 = mkRat 1 2 := by decide +kernel
  rw [h1, h2]; decide +kernel

set_option maxRecDepth 10000 in
set_option maxHeartbeats 2000000 in
theorem l_few {n m : Int} {w : World}  (h1 : -9223372036854775808 ≤ n) (h2 : n < 9223372036854775808) (h3 : 0 ≤ m) (h4 : m < 9223372036854775807) :
    Calls Try.prog 8 #[.int .i64 n, .int .i64 m] w (Ret (tV (.int .i64 (fewV n m))) w) := by
 refine enter Try.func8 rfl Try.ntmps8 (by simp) ?_
 intro a hz hd ha
 have S0 := ha 0 _ rfl
 have S1 := ha 1 _ rfl
 clear ha
 have HB : Below w.heap.size w w := Below.refl _ _
 refine wp_seq ?_
 refine region_text (M := []) (
  rT (tV (.int .i64 0)) ::
  []) hz hd (by kernel_rfl) ?_ ?_
 refine ⟨?_, trivial⟩
 exact zAs hz kc
 intro a' γ' W' hz' hd' hC hk hh
 replace S0 := kp hk S0
 replace S1 := kp hk S1
 have S4 := gotV hz' 0 hh rfl rfl rfl rfl
 replace HB := aft_call HB (RelC.below_nil hC)
 clear hC hk hh; replace hz := hz'; replace hd := hd'; clear hz' hd'
 refine wp_seq ?_
 refine wp_seq ?_
 refine region_text (M := []) (
  rT (tV (.int .i64 n)) ::
  rT (tV (.bool (decide (n < 0)))) ::
  []) hz hd (by kernel_rfl) ?_ ?_
 refine ⟨?_, ?_, trivial⟩
 exact zMv hz (sv S0)
 exact sBin rfl rfl rfl hz rfl (Gd.none_ rfl) rfl (sd 0 rfl) kc (fun w => run_lss)
 intro a' γ' W' hz' hd' hC hk hh
 replace S0 := kp hk S0
 replace S1 := kp hk S1
 replace S4 := kp hk S4
 have S6 := gotV hz' 1 hh rfl rfl rfl rfl
 replace HB := aft_call HB (RelC.below_nil hC)
 clear hC hk hh; replace hz := hz'; replace hd := hd'; clear hz' hd'
 by_cases hc1 : n < 0
 rw [decide_eq_true hc1] at S6
 refine wp_cond_true S6.ev ?_
 refine region_text (M := []) (
  rT (tV (.int .i64 n)) ::
  rT (tV (.int .i64 (n + 1))) ::
  rT (tV (.int .i64 (-(n + 1)))) ::
  rT (tV (.int .i64 (-(n + 1)))) ::
  []) hz hd (by kernel_rfl) ?_ ?_
 refine ⟨?_, ?_, ?_, ?_, trivial⟩
 exact zMv hz (sv S0)
 exact sBin rfl rfl rfl hz rfl (Gd.none_ rfl) rfl (sd 0 rfl) kc (fun w => run_inc (by omega) (by omega) w)
 exact sUn rfl rfl rfl hz rfl (Gd.none_ rfl) rfl (sd 1 rfl) (fun w => run_nega (by omega) (by omega) w)
 exact zAs hz (sd 2 rfl)
 intro a' γ' W' hz' hd' hC hk hh
 clear S0
 replace S1 := kp hk S1
 replace S4 := kp hk S4
 clear S6
 have S0 := gotV hz' 3 hh rfl rfl rfl rfl
 replace HB := aft_call HB (RelC.below_nil hC)
 clear hC hk hh; replace hz := hz'; replace hd := hd'; clear hz' hd'
 refine wp_seq ?_
 refine region_text (M := []) (
  rT (tV (.int .i64 (-(n + 1)))) ::
  rT (tV (.int .i64 m)) ::
  rT (tV (.int .i64 (m + 1))) ::
  rT (tV (.int .i64 ((-(n + 1)) % (m + 1)))) ::
  rT (tV (.int .i64 ((-(n + 1)) % (m + 1)))) ::
  []) hz hd (by kernel_rfl) ?_ ?_
 refine ⟨?_, ?_, ?_, ?_, ?_, trivial⟩
 exact zMv hz (sv S0)
 exact zMv hz (sv S1)
 exact sBin rfl rfl rfl hz rfl (Gd.none_ rfl) rfl (sd 1 rfl) kc (fun w => run_inc (by omega) (by omega) w)
 exact sBin rfl rfl rfl hz rfl (Gd.none_ rfl) rfl (sd 0 rfl) (sd 2 rfl) (fun w => run_remn (by omega) (by omega) (by omega) w)
 exact zAs hz (sd 3 rfl)
 intro a' γ' W' hz' hd' hC hk hh
 clear S1
 clear S4
 clear S0
 have S4 := gotV hz' 4 hh rfl rfl rfl rfl
 replace HB := aft_call HB (RelC.below_nil hC)
 clear hC hk hh; replace hz := hz'; replace hd := hd'; clear hz' hd'
 refine wp_ret ?_
 refine ret_to (T := tV (.int .i64 ((-(n + 1)) % (m + 1)))) (ret1 (by kernel_rfl) S4 hd ⟨_, rfl, rfl, HB⟩) ?_
 exact tV_to (by unfold fewV; rw [if_pos hc1])
 rw [decide_eq_false hc1] at S6
 refine wp_cond_false S6.ev ?_
 refine wp_skip ?_
 refine wp_seq ?_
 refine region_text (M := []) (
  rT (tV (.int .i64 n)) ::
  rT (tV (.int .i64 m)) ::
  rT (tV (.int .i64 (m + 1))) ::
  rT (tV (.int .i64 (n % (m + 1)))) ::
  rT (tV (.int .i64 (n % (m + 1)))) ::
  []) hz hd (by kernel_rfl) ?_ ?_
 refine ⟨?_, ?_, ?_, ?_, ?_, trivial⟩
 exact zMv hz (sv S0)
 exact zMv hz (sv S1)
 exact sBin rfl rfl rfl hz rfl (Gd.none_ rfl) rfl (sd 1 rfl) kc (fun w => run_inc (by omega) (by omega) w)
 exact sBin rfl rfl rfl hz rfl (Gd.none_ rfl) rfl (sd 0 rfl) (sd 2 rfl) (fun w => run_remn (by omega) (by omega) (by omega) w)
 exact zAs hz (sd 3 rfl)
 intro a' γ' W' hz' hd' hC hk hh
 clear S0
 clear S1
 clear S4
 clear S6
 have S4 := gotV hz' 4 hh rfl rfl rfl rfl
 replace HB := aft_call HB (RelC.below_nil hC)
 clear hC hk hh; replace hz := hz'; replace hd := hd'; clear hz' hd'
 refine wp_ret ?_
 refine ret_to (T := tV (.int .i64 (n % (m + 1)))) (ret1 (by kernel_rfl) S4 hd ⟨_, rfl, rfl, HB⟩) ?_
 exact tV_to (by unfold fewV; rw [if_neg hc1])

set_option maxRecDepth 10000 in
set_option maxHeartbeats 2000000 in
theorem l_told0 {l : Nat} {w : World} (hl : 1100 ≤ l) (hl2 : l ≤ 9000) :
    Calls Try.prog 12 #[] w (Ret (tV (.bool true)) w) := by
 refine enter Try.func12 rfl Try.ntmps12 (by simp) ?_
 intro a hz hd ha
 clear ha
 have HB : Below w.heap.size w w := Below.refl _ _
 refine wp_seq ?_
 refine region_text (M := []) (
  rT (tV (.bool false)) ::
  []) hz hd (by kernel_rfl) ?_ ?_
 refine ⟨?_, trivial⟩
 exact zAs hz kc
 intro a' γ' W' hz' hd' hC hk hh
 have S0 := gotV hz' 0 hh rfl rfl rfl rfl
 replace HB := aft_call HB (RelC.below_nil hC)
 clear hC hk hh; replace hz := hz'; replace hd := hd'; clear hz' hd'
 refine wp_seq ?_
 have hc1 : newE 10 4602678819172646912 1 100 = 0 := told_E
 refine region_text (M := []) (
  rN 0 80 (tO [tV (.int .i64 100), tQ B64 (l + 64 + 41) 0, tQ B64 42 (((10 : Int) : Rat)), tQ B64 (l + 64) (divI (flQ 4602678819172646912) 1)] [1, 2, 2, 2]) (.int .i64 0) ::
  rN 0 80 (tO [tV (.int .i64 100), tQ B64 (l + 64 + 41) 0, tQ B64 42 (((10 : Int) : Rat)), tQ B64 (l + 64) (divI (flQ 4602678819172646912) 1)] [1, 2, 2, 2]) (.int .i64 0) ::
  rB 0 80 (tO [tV (.int .i64 100), tQ B64 (l + 64 + 41) 0, tQ B64 42 (((10 : Int) : Rat)), tQ B64 (l + 64) (divI (flQ 4602678819172646912) 1)] [1, 2, 2, 2]) none 0 ::
  rT (tV (.int .i64 0)) ::
  rB 0 80 (tO [tV (.int .i64 100), tQ B64 (l + 64 + 41) 0, tQ B64 42 (((10 : Int) : Rat)), tQ B64 (l + 64) (divI (flQ 4602678819172646912) 1)] [1, 2, 2, 2]) none 0 ::
  rT (tV (.int .i64 0)) ::
  []) hz hd (by kernel_rfl) ?_ ?_
 refine ⟨?_, ?_, ?_, ?_, ?_, ?_, trivial⟩
 exact zCN hz rfl Try.func9 (fun a γ w U => (by show Calls _ _ #[.int .i64 10, .float FloatKind.f64 4602678819172646912, .int .i64 1, .int .i64 100] _ _; exact c_new_ok (l := l) hl (by omega) (by decide) (by decide) hc1))
 exact zMvN 0 0 rfl rfl hz rfl ⟨_, rfl, rfl⟩
 exact zExP 0 1 rfl rfl hz rfl ⟨_, rfl, rfl⟩
 exact zExU 0 1 rfl hz rfl ⟨_, rfl, rfl⟩
 exact zPP 0 2 rfl rfl hz (.inr rfl) ⟨_, rfl, rfl⟩
 exact zAs hz (sd 3 rfl)
 intro a' γ' W' hz' hd' hC hk hh
 replace S0 := kp hk S0
 obtain ⟨p2, S1, Cp2, lp2, gp2⟩ := gotP hz' 4 hC hh rfl rfl rfl rfl rfl
 have S2 := gotV hz' 5 hh rfl rfl rfl rfl
 have bp2 : w.heap.size ≤ p2 := Nat.le_trans HB.size lp2
 clear lp2 gp2
 replace HB := aft_call HB (RelC.below_nil hC)
 clear hC hk hh; replace hz := hz'; replace hd := hd'; clear hz' hd'
 refine wp_seq ?_
 refine wp_seq ?_
 refine region_text (M := []) (
  rT (tV (.int .i64 0)) ::
  rT (tV (.bool false)) ::
  rT (tV (.bool false)) ::
  rT (tV (.pointer (some ⟨p2, 0, none⟩))) ::
  rT (tV (.bool false)) ::
  rT (tV (.bool false)) ::
  []) hz hd (by kernel_rfl) ?_ ?_
 refine ⟨?_, ?_, ?_, ?_, ?_, ?_, trivial⟩
 exact zMv hz (sv S2)
 exact sBin rfl rfl rfl hz rfl (Gd.none_ rfl) rfl (sd 0 rfl) kc (fun w => by simp [go_sem])
 exact zMv hz (sd 1 rfl)
 exact zMv hz (sv S1) (g := gT 2 rfl)
 exact sBin rfl rfl rfl hz rfl (gT 2 rfl) rfl (sd 3 rfl) kc (fun w => by simp [go_sem])
 exact zPF hz (sd 2 rfl) (sd 4 rfl)
 intro a' γ' W' hz' hd' hC hk hh
 have tp2 := Cp2.lt
 replace Cp2 := kC hC Cp2
 replace S0 := kp hk S0
 replace S1 := kp hk S1
 clear S2
 have S15 := gotV hz' 5 hh rfl rfl rfl rfl
 clear tp2
 replace HB := aft_call HB (RelC.below_nil hC)
 clear hC hk hh; replace hz := hz'; replace hd := hd'; clear hz' hd'
 refine wp_cond_false S15.ev ?_
 refine wp_skip ?_
 refine wp_seq ?_
 refine region_text (M := []) (
  rT (tT [tQ B32 63 (ofQ 3 2), tV (.bool (decide (OfOk 3 2)))]) ::
  rT (tT [tQ B32 63 (ofQ 3 2), tV (.bool (decide (OfOk 3 2)))]) ::
  rT (tQ B32 63 (ofQ 3 2)) ::
  rT (tV (.bool (decide (OfOk 3 2)))) ::
  rVar 4 35 2 ::
  rB 4 35 (tQ B32 63 (ofQ 3 2)) (some 4) 5 ::
  rT (tV (.bool (decide (OfOk 3 2)))) ::
  []) hz hd (by kernel_rfl) ?_ ?_
 refine ⟨?_, ?_, ?_, ?_, ?_, ?_, ?_, trivial⟩
 exact zC2 hz Try.func38 (kc (v := .int .i64 3)) (kc (v := .int .i64 2)) (k11 (fun _ => dq_of (a1 := 3) (a2 := 2) (by decide) (by decide)))
 exact zMv hz (sd 0 rfl)
 exact zExt hz (sd 1 rfl)
 exact zExt hz (sd 1 rfl)
 exact zAl hz nd_rat al_r32
 exact zSt (sd 2 rfl) st_q32
 exact zAs hz (sd 3 rfl)
 intro a' γ' W' hz' hd' hC hk hh
 have ep2 := Cp2.lt
 have tp2 := Cp2.lt
 replace Cp2 := kC hC Cp2
 replace S0 := kp hk S0
 replace S1 := kp hk S1
 clear S15
 obtain ⟨p3, S3, Cp3, lp3, gp3⟩ := gotB hz' 5 hC hh rfl rfl rfl rfl rfl rfl
 have n_p3_p2 : p3 ≠ p2 := by omega
 have n_p2_p3 : p2 ≠ p3 := by have := ep2; omega
 have bp3 : w.heap.size ≤ p3 := Nat.le_trans HB.size lp3
 clear lp3 gp3
 clear tp2
 clear ep2
 replace HB := aft_call HB (RelC.below_nil hC)
 clear hC hk hh; replace hz := hz'; replace hd := hd'; clear hz' hd'
 refine wp_seq ?_
 have hc4 : atH 100 0 (((10 : Int) : Rat)) (divI (flQ 4602678819172646912) 1) 100 = 0 := by simp only [told_r]; decide +kernel
 refine region_drawn (M := [p2]) (
  rT (tV (.pointer (some ⟨p2, 0, none⟩))) ::
  rCM 0 (tQ B64 (l + 64 + 41) (atH 100 0 (((10 : Int) : Rat)) (divI (flQ 4602678819172646912) 1) 100)) 80 (tO [tV (.int .i64 (TT 100 100)), tQ B64 (l + 64 + 41) (atH 100 0 (((10 : Int) : Rat)) (divI (flQ 4602678819172646912) 1) 100), tQ B64 42 (((10 : Int) : Rat)), tQ B64 (l + 64) (divI (flQ 4602678819172646912) 1)] [1, 2, 2, 2]) p2 ::
  rT (tQ B32 1 0) ::
  rT (tV (.bool true)) ::
  rT (tV (.bool true)) ::
  rT (tV (.pointer (some ⟨p2, 0, none⟩))) ::
  rCM 0 (tQ B64 (l + 64 + 41) (atH (TT 100 100) (atH 100 0 (((10 : Int) : Rat)) (divI (flQ 4602678819172646912) 1) 100) (((10 : Int) : Rat)) (divI (flQ 4602678819172646912) 1) 103)) 80 (tO [tV (.int .i64 (TT (TT 100 100) 103)), tQ B64 (l + 64 + 41) (atH (TT 100 100) (atH 100 0 (((10 : Int) : Rat)) (divI (flQ 4602678819172646912) 1) 100) (((10 : Int) : Rat)) (divI (flQ 4602678819172646912) 1) 103), tQ B64 42 (((10 : Int) : Rat)), tQ B64 (l + 64) (divI (flQ 4602678819172646912) 1)] [1, 2, 2, 2]) p2 ::
  rT (tQ B32 63 (ofQ 3 2)) ::
  rT (tV (.bool (decide (atH (TT 100 100) (atH 100 0 (((10 : Int) : Rat)) (divI (flQ 4602678819172646912) 1) 100) (((10 : Int) : Rat)) (divI (flQ 4602678819172646912) 1) 103 = ofQ 3 2)))) ::
  rT (tV (.bool (decide (atH (TT 100 100) (atH 100 0 (((10 : Int) : Rat)) (divI (flQ 4602678819172646912) 1) 100) (((10 : Int) : Rat)) (divI (flQ 4602678819172646912) 1) 103 = ofQ 3 2)))) ::
  rT (tV (.bool (decide (atH (TT 100 100) (atH 100 0 (((10 : Int) : Rat)) (divI (flQ 4602678819172646912) 1) 100) (((10 : Int) : Rat)) (divI (flQ 4602678819172646912) 1) 103 = ofQ 3 2)))) ::
  []) hz hd (by kernel_rfl) (by kernel_rfl) ?_ ?_
 refine ⟨?_, ?_, ?_, ?_, ?_, ?_, ?_, ?_, ?_, ?_, ?_, trivial⟩
 exact zMv hz (sv S1)
 exact zCM (k := 0) (p := p2) (sid := 80) (T1 := tO [tV (.int .i64 100), tQ B64 (l + 64 + 41) 0, tQ B64 42 (((10 : Int) : Rat)), tQ B64 (l + 64) (divI (flQ 4602678819172646912) 1)] [1, 2, 2, 2]) (T := tO [tV (.int .i64 (TT 100 100)), tQ B64 (l + 64 + 41) (atH 100 0 (((10 : Int) : Rat)) (divI (flQ 4602678819172646912) 1) 100), tQ B64 42 (((10 : Int) : Rat)), tQ B64 (l + 64) (divI (flQ 4602678819172646912) 1)] [1, 2, 2, 2]) (T0 := tQ B64 (l + 64 + 41) (atH 100 0 (((10 : Int) : Rat)) (divI (flQ 4602678819172646912) 1) 100)) hz rfl Try.func23 (by simp [tagOf]) Cp2.lt (clM (k := 0) Cp2 (by simp [tagOf])) (tO_nd (nd_c nd_int (nd_c nd_q (nd_c nd_q (nd_c nd_q nd_nil))))) (tO_nd (nd_c nd_int (nd_c nd_q (nd_c nd_q (nd_c nd_q nd_nil))))) (fun a γ w U hcell => (by show Calls _ _ #[a.eval (.tmp 20), .int .i64 100] _ _; rw [show a.eval (.tmp 20) = .pointer (some ⟨p2, 0, none⟩) from Src.at_ (sd 0 rfl) U]; exact c_at (n := 100) hcell (BInv.new (l := l) hl hc1) (by omega)))
 exact zC0 hz Try.func35 (fun _ => dq_zero)
 exact zC2 hz Try.func22 (sdM 1 rfl) (sd 2 rfl) (fun _ _ _ h0 h1 => (by have hq := l_same h0 h1 (by omega) (by decide); simp only [decide_eq_true hc4] at hq; exact hq))
 exact zMv hz (sd 3 rfl)
 exact zMv hz (sv S1) (g := gT 4 rfl)
 exact zCM (k := 0) (p := p2) (sid := 80) (T1 := tO [tV (.int .i64 (TT 100 100)), tQ B64 (l + 64 + 41) (atH 100 0 (((10 : Int) : Rat)) (divI (flQ 4602678819172646912) 1) 100), tQ B64 42 (((10 : Int) : Rat)), tQ B64 (l + 64) (divI (flQ 4602678819172646912) 1)] [1, 2, 2, 2]) (T := tO [tV (.int .i64 (TT (TT 100 100) 103)), tQ B64 (l + 64 + 41) (atH (TT 100 100) (atH 100 0 (((10 : Int) : Rat)) (divI (flQ 4602678819172646912) 1) 100) (((10 : Int) : Rat)) (divI (flQ 4602678819172646912) 1) 103), tQ B64 42 (((10 : Int) : Rat)), tQ B64 (l + 64) (divI (flQ 4602678819172646912) 1)] [1, 2, 2, 2]) (T0 := tQ B64 (l + 64 + 41) (atH (TT 100 100) (atH 100 0 (((10 : Int) : Rat)) (divI (flQ 4602678819172646912) 1) 100) (((10 : Int) : Rat)) (divI (flQ 4602678819172646912) 1) 103)) hz rfl Try.func23 (by simp [tagOf]) Cp2.lt (clCT 1 rfl) (tO_nd (nd_c nd_int (nd_c nd_q (nd_c nd_q (nd_c nd_q nd_nil))))) (tO_nd (nd_c nd_int (nd_c nd_q (nd_c nd_q (nd_c nd_q nd_nil))))) (fun a γ w U hcell => (by show Calls _ _ #[a.eval (.tmp 25), .int .i64 103] _ _; rw [show a.eval (.tmp 25) = .pointer (some ⟨p2, 0, none⟩) from Src.at_ (sd 5 rfl) U]; exact c_at (n := 103) hcell (BInv.at_ (BInv.new (l := l) hl hc1) 100) (by omega))) (g := gT 4 rfl)
 exact zLd hz (sv S3) Cp3 ld_q32 (by simp [tagOf, n_p3_p2]) (g := gT 4 rfl)
 exact zC2 hz Try.func22 (sdM 6 rfl) (sd 7 rfl) (fun _ _ _ h0 h1 => l_same h0 h1 (by omega) (by decide)) (g := gT 4 rfl)
 exact zPT hz (sd 4 rfl) (sd 8 rfl)
 exact zAs hz (sd 9 rfl)
 intro a' γ' W' hz' hd' hC hk hh
 replace Cp2 := gotM (T := tO [tV (.int .i64 (TT (TT 100 100) 103)), tQ B64 (l + 64 + 41) (atH (TT 100 100) (atH 100 0 (((10 : Int) : Rat)) (divI (flQ 4602678819172646912) 1) 100) (((10 : Int) : Rat)) (divI (flQ 4602678819172646912) 1) 103), tQ B64 42 (((10 : Int) : Rat)), tQ B64 (l + 64) (divI (flQ 4602678819172646912) 1)] [1, 2, 2, 2]) (T0 := tQ B64 (l + 64 + 41) (atH (TT 100 100) (atH 100 0 (((10 : Int) : Rat)) (divI (flQ 4602678819172646912) 1) 100) (((10 : Int) : Rat)) (divI (flQ 4602678819172646912) 1) 103)) (sid := 80) (k := 0) (p := p2) hz' 6 hh rfl rfl
 have tp3 := Cp3.lt
 clear Cp3
 replace S0 := kp hk S0
 replace S1 := kp hk S1
 clear S3
 have S5 := gotV hz' 10 hh rfl rfl rfl rfl
 clear tp3
 replace HB := RelC.aftM HB hC (by intro m hm; simp at hm; rcases hm with rfl <;> assumption)
 clear hC hk hh; replace hz := hz'; replace hd := hd'; clear hz' hd'
 refine wp_seq ?_
 have hc5 : atH (TT 100 100) (atH 100 0 (((10 : Int) : Rat)) (divI (flQ 4602678819172646912) 1) 100) (((10 : Int) : Rat)) (divI (flQ 4602678819172646912) 1) 103 = ofQ 3 2 := by simp only [told_r]; decide +kernel
 rw [decide_eq_true hc5] at S5
 have hc6 : tkE (atH (TT (TT 100 100) 103) (atH (TT 100 100) (atH 100 0 (((10 : Int) : Rat)) (divI (flQ 4602678819172646912) 1) 100) (((10 : Int) : Rat)) (divI (flQ 4602678819172646912) 1) 103) (((10 : Int) : Rat)) (divI (flQ 4602678819172646912) 1) 104) 3 = 80 := by simp only [told_r]; decide +kernel
 refine region_text (M := [p2]) (
  rT (tV (.bool true)) ::
  rT (tV (.bool true)) ::
  rT (tV (.pointer (some ⟨p2, 0, none⟩))) ::
  rCM 0 (tV (.int .i64 (tkE (atH (TT (TT 100 100) 103) (atH (TT 100 100) (atH 100 0 (((10 : Int) : Rat)) (divI (flQ 4602678819172646912) 1) 100) (((10 : Int) : Rat)) (divI (flQ 4602678819172646912) 1) 103) (((10 : Int) : Rat)) (divI (flQ 4602678819172646912) 1) 104) 3))) 80 (tO [tV (.int .i64 (TT (TT (TT 100 100) 103) 104)), tQ B64 (l + 64 + 41) (tkH (atH (TT (TT 100 100) 103) (atH (TT 100 100) (atH 100 0 (((10 : Int) : Rat)) (divI (flQ 4602678819172646912) 1) 100) (((10 : Int) : Rat)) (divI (flQ 4602678819172646912) 1) 103) (((10 : Int) : Rat)) (divI (flQ 4602678819172646912) 1) 104) 3), tQ B64 42 (((10 : Int) : Rat)), tQ B64 (l + 64) (divI (flQ 4602678819172646912) 1)] [1, 2, 2, 2]) p2 ::
  rT (tV (.bool true)) ::
  rT (tV (.bool true)) ::
  rT (tV (.bool true)) ::
  rT (tV (.pointer (some ⟨p2, 0, none⟩))) ::
  rCM 0 (tV (.int .i64 (tkE (atH (TT (TT (TT 100 100) 103) 104) (tkH (atH (TT (TT 100 100) 103) (atH (TT 100 100) (atH 100 0 (((10 : Int) : Rat)) (divI (flQ 4602678819172646912) 1) 100) (((10 : Int) : Rat)) (divI (flQ 4602678819172646912) 1) 103) (((10 : Int) : Rat)) (divI (flQ 4602678819172646912) 1) 104) 3) (((10 : Int) : Rat)) (divI (flQ 4602678819172646912) 1) 104) 2))) 80 (tO [tV (.int .i64 (TT (TT (TT (TT 100 100) 103) 104) 104)), tQ B64 (l + 64 + 41) (tkH (atH (TT (TT (TT 100 100) 103) 104) (tkH (atH (TT (TT 100 100) 103) (atH (TT 100 100) (atH 100 0 (((10 : Int) : Rat)) (divI (flQ 4602678819172646912) 1) 100) (((10 : Int) : Rat)) (divI (flQ 4602678819172646912) 1) 103) (((10 : Int) : Rat)) (divI (flQ 4602678819172646912) 1) 104) 3) (((10 : Int) : Rat)) (divI (flQ 4602678819172646912) 1) 104) 2), tQ B64 42 (((10 : Int) : Rat)), tQ B64 (l + 64) (divI (flQ 4602678819172646912) 1)] [1, 2, 2, 2]) p2 ::
  rT (tV (.bool (decide (tkE (atH (TT (TT (TT 100 100) 103) 104) (tkH (atH (TT (TT 100 100) 103) (atH (TT 100 100) (atH 100 0 (((10 : Int) : Rat)) (divI (flQ 4602678819172646912) 1) 100) (((10 : Int) : Rat)) (divI (flQ 4602678819172646912) 1) 103) (((10 : Int) : Rat)) (divI (flQ 4602678819172646912) 1) 104) 3) (((10 : Int) : Rat)) (divI (flQ 4602678819172646912) 1) 104) 2 = 0)))) ::
  rT (tV (.bool (decide (tkE (atH (TT (TT (TT 100 100) 103) 104) (tkH (atH (TT (TT 100 100) 103) (atH (TT 100 100) (atH 100 0 (((10 : Int) : Rat)) (divI (flQ 4602678819172646912) 1) 100) (((10 : Int) : Rat)) (divI (flQ 4602678819172646912) 1) 103) (((10 : Int) : Rat)) (divI (flQ 4602678819172646912) 1) 104) 3) (((10 : Int) : Rat)) (divI (flQ 4602678819172646912) 1) 104) 2 = 0)))) ::
  rT (tV (.bool (decide (tkE (atH (TT (TT (TT 100 100) 103) 104) (tkH (atH (TT (TT 100 100) 103) (atH (TT 100 100) (atH 100 0 (((10 : Int) : Rat)) (divI (flQ 4602678819172646912) 1) 100) (((10 : Int) : Rat)) (divI (flQ 4602678819172646912) 1) 103) (((10 : Int) : Rat)) (divI (flQ 4602678819172646912) 1) 104) 3) (((10 : Int) : Rat)) (divI (flQ 4602678819172646912) 1) 104) 2 = 0)))) ::
  []) hz hd (by kernel_rfl) ?_ ?_
 refine ⟨?_, ?_, ?_, ?_, ?_, ?_, ?_, ?_, ?_, ?_, ?_, ?_, trivial⟩
 exact zMv hz (sv S5)
 exact zMv hz (sd 0 rfl)
 exact zMv hz (sv S1) (g := gT 1 rfl)
 exact zCM (k := 0) (p := p2) (sid := 80) (T1 := tO [tV (.int .i64 (TT (TT 100 100) 103)), tQ B64 (l + 64 + 41) (atH (TT 100 100) (atH 100 0 (((10 : Int) : Rat)) (divI (flQ 4602678819172646912) 1) 100) (((10 : Int) : Rat)) (divI (flQ 4602678819172646912) 1) 103), tQ B64 42 (((10 : Int) : Rat)), tQ B64 (l + 64) (divI (flQ 4602678819172646912) 1)] [1, 2, 2, 2]) (T := tO [tV (.int .i64 (TT (TT (TT 100 100) 103) 104)), tQ B64 (l + 64 + 41) (tkH (atH (TT (TT 100 100) 103) (atH (TT 100 100) (atH 100 0 (((10 : Int) : Rat)) (divI (flQ 4602678819172646912) 1) 100) (((10 : Int) : Rat)) (divI (flQ 4602678819172646912) 1) 103) (((10 : Int) : Rat)) (divI (flQ 4602678819172646912) 1) 104) 3), tQ B64 42 (((10 : Int) : Rat)), tQ B64 (l + 64) (divI (flQ 4602678819172646912) 1)] [1, 2, 2, 2]) (T0 := tV (.int .i64 (tkE (atH (TT (TT 100 100) 103) (atH (TT 100 100) (atH 100 0 (((10 : Int) : Rat)) (divI (flQ 4602678819172646912) 1) 100) (((10 : Int) : Rat)) (divI (flQ 4602678819172646912) 1) 103) (((10 : Int) : Rat)) (divI (flQ 4602678819172646912) 1) 104) 3))) hz rfl Try.func14 (by simp [tagOf]) Cp2.lt (clM (k := 0) Cp2 (by simp [tagOf])) (tO_nd (nd_c nd_int (nd_c nd_q (nd_c nd_q (nd_c nd_q nd_nil))))) (tO_nd (nd_c nd_int (nd_c nd_q (nd_c nd_q (nd_c nd_q nd_nil))))) (fun a γ w U hcell => (by show Calls _ _ #[a.eval (.tmp 32), .int .i64 104, .int .i64 3] _ _; rw [show a.eval (.tmp 32) = .pointer (some ⟨p2, 0, none⟩) from Src.at_ (sd 2 rfl) U]; exact c_take (n := 104) (m := 3) hcell (BInv.at_ (BInv.at_ (BInv.new (l := l) hl hc1) 100) 103) (by omega) (by decide))) (g := gT 1 rfl)
 exact sBin rfl rfl rfl hz rfl (gT 1 rfl) rfl (sdM 3 rfl) kc (fun w => run_t (P := tkE (atH (TT (TT 100 100) 103) (atH (TT 100 100) (atH 100 0 (((10 : Int) : Rat)) (divI (flQ 4602678819172646912) 1) 100) (((10 : Int) : Rat)) (divI (flQ 4602678819172646912) 1) 103) (((10 : Int) : Rat)) (divI (flQ 4602678819172646912) 1) 104) 3 = 80) ((fun w => run_eql) w) hc6)
 exact zPT hz (sd 1 rfl) (sd 4 rfl)
 exact zMv hz (sd 5 rfl)
 exact zMv hz (sv S1) (g := gT 6 rfl)
 exact zCM (k := 0) (p := p2) (sid := 80) (T1 := tO [tV (.int .i64 (TT (TT (TT 100 100) 103) 104)), tQ B64 (l + 64 + 41) (tkH (atH (TT (TT 100 100) 103) (atH (TT 100 100) (atH 100 0 (((10 : Int) : Rat)) (divI (flQ 4602678819172646912) 1) 100) (((10 : Int) : Rat)) (divI (flQ 4602678819172646912) 1) 103) (((10 : Int) : Rat)) (divI (flQ 4602678819172646912) 1) 104) 3), tQ B64 42 (((10 : Int) : Rat)), tQ B64 (l + 64) (divI (flQ 4602678819172646912) 1)] [1, 2, 2, 2]) (T := tO [tV (.int .i64 (TT (TT (TT (TT 100 100) 103) 104) 104)), tQ B64 (l + 64 + 41) (tkH (atH (TT (TT (TT 100 100) 103) 104) (tkH (atH (TT (TT 100 100) 103) (atH (TT 100 100) (atH 100 0 (((10 : Int) : Rat)) (divI (flQ 4602678819172646912) 1) 100) (((10 : Int) : Rat)) (divI (flQ 4602678819172646912) 1) 103) (((10 : Int) : Rat)) (divI (flQ 4602678819172646912) 1) 104) 3) (((10 : Int) : Rat)) (divI (flQ 4602678819172646912) 1) 104) 2), tQ B64 42 (((10 : Int) : Rat)), tQ B64 (l + 64) (divI (flQ 4602678819172646912) 1)] [1, 2, 2, 2]) (T0 := tV (.int .i64 (tkE (atH (TT (TT (TT 100 100) 103) 104) (tkH (atH (TT (TT 100 100) 103) (atH (TT 100 100) (atH 100 0 (((10 : Int) : Rat)) (divI (flQ 4602678819172646912) 1) 100) (((10 : Int) : Rat)) (divI (flQ 4602678819172646912) 1) 103) (((10 : Int) : Rat)) (divI (flQ 4602678819172646912) 1) 104) 3) (((10 : Int) : Rat)) (divI (flQ 4602678819172646912) 1) 104) 2))) hz rfl Try.func14 (by simp [tagOf]) Cp2.lt (clCT 3 rfl) (tO_nd (nd_c nd_int (nd_c nd_q (nd_c nd_q (nd_c nd_q nd_nil))))) (tO_nd (nd_c nd_int (nd_c nd_q (nd_c nd_q (nd_c nd_q nd_nil))))) (fun a γ w U hcell => (by show Calls _ _ #[a.eval (.tmp 37), .int .i64 104, .int .i64 2] _ _; rw [show a.eval (.tmp 37) = .pointer (some ⟨p2, 0, none⟩) from Src.at_ (sd 7 rfl) U]; exact c_take (n := 104) (m := 2) hcell (BInv.take (BInv.at_ (BInv.at_ (BInv.at_ (BInv.new (l := l) hl hc1) 100) 103) 104) 3) (by omega) (by decide))) (g := gT 6 rfl)
 exact sBin rfl rfl rfl hz rfl (gT 6 rfl) rfl (sdM 8 rfl) kc (fun w => run_eqlE)
 exact zPT hz (sd 6 rfl) (sd 9 rfl)
 exact zAs hz (sd 10 rfl)
 intro a' γ' W' hz' hd' hC hk hh
 replace Cp2 := gotM (T := tO [tV (.int .i64 (TT (TT (TT (TT 100 100) 103) 104) 104)), tQ B64 (l + 64 + 41) (tkH (atH (TT (TT (TT 100 100) 103) 104) (tkH (atH (TT (TT 100 100) 103) (atH (TT 100 100) (atH 100 0 (((10 : Int) : Rat)) (divI (flQ 4602678819172646912) 1) 100) (((10 : Int) : Rat)) (divI (flQ 4602678819172646912) 1) 103) (((10 : Int) : Rat)) (divI (flQ 4602678819172646912) 1) 104) 3) (((10 : Int) : Rat)) (divI (flQ 4602678819172646912) 1) 104) 2), tQ B64 42 (((10 : Int) : Rat)), tQ B64 (l + 64) (divI (flQ 4602678819172646912) 1)] [1, 2, 2, 2]) (T0 := tV (.int .i64 (tkE (atH (TT (TT (TT 100 100) 103) 104) (tkH (atH (TT (TT 100 100) 103) (atH (TT 100 100) (atH 100 0 (((10 : Int) : Rat)) (divI (flQ 4602678819172646912) 1) 100) (((10 : Int) : Rat)) (divI (flQ 4602678819172646912) 1) 103) (((10 : Int) : Rat)) (divI (flQ 4602678819172646912) 1) 104) 3) (((10 : Int) : Rat)) (divI (flQ 4602678819172646912) 1) 104) 2))) (sid := 80) (k := 0) (p := p2) hz' 8 hh rfl rfl
 clear S0
 clear S1
 clear S5
 have S0 := gotV hz' 11 hh rfl rfl rfl rfl
 replace HB := RelC.aftM HB hC (by intro m hm; simp at hm; rcases hm with rfl <;> assumption)
 clear hC hk hh; replace hz := hz'; replace hd := hd'; clear hz' hd'
 refine wp_ret ?_
 have hc7 : tkE (atH (TT (TT (TT 100 100) 103) 104) (tkH (atH (TT (TT 100 100) 103) (atH (TT 100 100) (atH 100 0 (((10 : Int) : Rat)) (divI (flQ 4602678819172646912) 1) 100) (((10 : Int) : Rat)) (divI (flQ 4602678819172646912) 1) 103) (((10 : Int) : Rat)) (divI (flQ 4602678819172646912) 1) 104) 3) (((10 : Int) : Rat)) (divI (flQ 4602678819172646912) 1) 104) 2 = 0 := by simp only [told_r]; decide +kernel
 rw [decide_eq_true hc7] at S0
 exact ret1 (by kernel_rfl) S0 hd ⟨_, rfl, rfl, HB⟩

theorem l_told8 {w : World} : Calls Try.prog 12 #[] w (Ret (tV (.bool true)) w) := l_told0 (l := 1100) (by omega) (by omega)
end Go.Proofs.Ytojpiiboikomfaa.Rg

namespace Go.Proofs.Ytojpiiboikomfaa.Rg

open Go.RowKit Go.ChangeShapes Go.WideShapes Go.ChangeAt Go.Deep

theorem ret_out8 {P : Program} {f : FuncId} {args : Array Value} {w : World} {v : Value} (h : Calls P f args w (Ret (tV v) w)) : Calls P f args w fun e w' => e = .returned v ∧ Below w.heap.size w w' := by
  refine h.mono ?_
  rintro e w' ⟨u, rfl, h1, h2⟩
  have h1 : u = v := h1
  exact ⟨by rw [h1], h2⟩
theorem i64_r {a : Int} (h : (Lit.int .i64 a).wf = true) : -9223372036854775808 ≤ a ∧ a < 9223372036854775808 := by
  simp only [Lit.wf, decide_eq_true_eq, Bool.and_eq_true] at h
  have e1 : IntKind.i64.max = 9223372036854775807 := by decide
  have e2 : IntKind.i64.min = -9223372036854775808 := by decide
  rw [e1, e2] at h; omega
theorem u64_r {a : Int} (h : (Lit.int .u64 a).wf = true) : ∃ u : Nat, a = (u : Int) ∧ u < 18446744073709551616 := by
  simp only [Lit.wf, decide_eq_true_eq, Bool.and_eq_true] at h
  have e1 : IntKind.u64.max = 18446744073709551615 := by decide
  have e2 : IntKind.u64.min = 0 := by decide
  rw [e1, e2] at h
  exact ⟨a.toNat, by omega, by omega⟩
end Go.Proofs.Ytojpiiboikomfaa.Rg

namespace Go.Proofs.Ytojpiiboikomfaa.Rg

open Go.RowKit
theorem TT_of {t y : Int} (h0 : t ≤ y) (h1 : y ≤ 4611686018427387904) : TT t y = y := by
  unfold TT mnT; repeat' split
  all_goals omega
section

variable {l : Nat} {T n : Int} {H B R : Rat}
theorem at_of {y : Int} (h0 : T ≤ y) (h1 : y ≤ 4611686018427387904) : atH T H B R y = minQ (H + R * ((y - T : Int) : Rat)) B := by
  unfold atH; rw [TT_of h0 h1]
end

end Go.Proofs.Ytojpiiboikomfaa.Rg
