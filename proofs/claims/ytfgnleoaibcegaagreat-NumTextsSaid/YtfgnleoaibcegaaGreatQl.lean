/-
  Walks and plain laws, put together: VL VM.
-/
import Derived.Test.YtfgnleoaibcegaaGreatQj
set_option linter.unusedVariables false
set_option linter.unusedSimpArgs false
namespace Go.Proofs.YtfgnleoaibcegaaGreat.Rg

open Go.RowKit

theorem tM_ten0 {n : Nat} : ∀ v w, (tN B32 2 1).p v w → (tN B32 (n + 2) (10 ^ 0)).p v w := fun v w h => tN_le (by omega) _ _ h
theorem tM_ten1 {n i l : Nat} (hi : i < n) : ∀ v w, (tN B32 l (10 ^ i * 10)).p v w → (tN B32 (n + 2) (10 ^ (i + 1))).p v w := by
  rintro v w ⟨A, m, c, e, hd, hm⟩
  rw [← Nat.pow_succ] at hd
  refine ⟨A, m, c, e, hd, hd.le (by decide) ?_⟩
  exact Nat.lt_of_le_of_lt (Nat.pow_le_pow_left (by decide : 10 ≤ B32) _) (Nat.pow_lt_pow_right (by decide) (by omega))
theorem tM_ten2 {n i : Nat} (h1 : i ≤ n) (h2 : ¬ i < n) : ∀ v w, (tN B32 (n + 2) (10 ^ i)).p v w → (tN B32 (n + 2) (10 ^ n)).p v w := by
  obtain rfl : i = n := by omega
  exact fun _ _ h => h
section

variable {L : List Nat} {i : Nat}
end
set_option maxRecDepth 10000 in
set_option maxHeartbeats 2000000 in
theorem d_ten {n : Nat} {w : World}  (hn : n ≤ 3000) :
    Calls Tryz.prog 76 #[.int .i64 ((n : Nat) : Int)] w (Ret (tN B32 (n + 2) (10 ^ n)) w) := by
 refine enter Tryz.func76 rfl Tryz.ntmps76 (by simp) ?_
 intro a hz hd ha
 have S0 := ha 0 _ rfl
 clear ha
 have HB : Below w.heap.size w w := Below.refl _ _
 refine wp_seq ?_
 refine region_text (M := []) (
  rB 0 30 (tN B32 0 0) none 0 ::
  []) hz hd (by kernel_rfl) ?_ ?_
 refine ⟨?_, trivial⟩
 exact zNew hz (fun _ => tN_nil) al_n32
 intro a' γ' W' hz' hd' hC hk hh
 replace S0 := kp hk S0
 obtain ⟨p1, S2, Cp1, lp1, gp1⟩ := gotB hz' 0 hC hh rfl rfl rfl rfl rfl rfl
 have bp1 : w.heap.size ≤ p1 := Nat.le_trans HB.size lp1
 clear lp1 gp1
 replace HB := aft_call HB (RelC.below_nil hC)
 clear hC hk hh; replace hz := hz'; replace hd := hd'; clear hz' hd'
 refine wp_seq ?_
 refine region_text (M := []) (
  rT (tN B32 2 1) ::
  rVar 1 30 1 ::
  rB 1 30 (tN B32 2 1) (some 1) 2 ::
  []) hz hd (by kernel_rfl) ?_ ?_
 refine ⟨?_, ?_, ?_, trivial⟩
 exact zC1 hz Tryz.func16 (kc (v := .int .u64 1)) (k1 (fun _ => d_of (by decide)))
 exact zAl hz nd_slice al_n32
 exact zSt (sd 0 rfl) st_n32
 intro a' γ' W' hz' hd' hC hk hh
 have ep1 := Cp1.lt
 have tp1 := Cp1.lt
 replace Cp1 := kC hC Cp1
 replace S0 := kp hk S0
 replace S2 := kp hk S2
 obtain ⟨p2, S3, Cp2, lp2, gp2⟩ := gotB hz' 2 hC hh rfl rfl rfl rfl rfl rfl
 have n_p2_p1 : p2 ≠ p1 := by omega
 have n_p1_p2 : p1 ≠ p2 := by have := ep1; omega
 have bp2 : w.heap.size ≤ p2 := Nat.le_trans HB.size lp2
 clear lp2 gp2
 clear tp1
 clear ep1
 replace HB := aft_call HB (RelC.below_nil hC)
 clear hC hk hh; replace hz := hz'; replace hd := hd'; clear hz' hd'
 refine wp_seq ?_
 refine wp_seq ?_
 refine region_text (M := []) (
  rT (tV (.int .i64 0)) ::
  []) hz hd (by kernel_rfl) ?_ ?_
 refine ⟨?_, trivial⟩
 exact zAs hz kc
 intro a' γ' W' hz' hd' hC hk hh
 have tp1 := Cp1.lt
 replace Cp1 := kC hC Cp1
 have tp2 := Cp2.lt
 replace Cp2 := kC hC Cp2
 replace S0 := kp hk S0
 replace S2 := kp hk S2
 replace S3 := kp hk S3
 have S4 := gotV hz' 0 hh rfl rfl rfl rfl
 clear tp1 tp2
 replace HB := aft_call HB (RelC.below_nil hC)
 clear hC hk hh; replace hz := hz'; replace hd := hd'; clear hz' hd'
 refine wp_block ?_
 replace Cp2 : Cell 30 (tN B32 (n + 2) (10 ^ 0)) p2 _ := Cell.toN Cp2 (tM_ten0)
 refine wp_loop_ghost (fun k a W => ∃ (i : Nat), k = n - i ∧ a.tmps.size = 15 ∧ a.defers = [] ∧ Below w.heap.size w W ∧ Sl a 0 (.int .i64 ((n : Nat) : Int)) ∧ Sl a 2 (.pointer (some ⟨p1, 0, none⟩)) ∧ Sl a 3 (.pointer (some ⟨p2, 0, none⟩)) ∧ Sl a 4 (.int .i64 ((i : Nat) : Int)) ∧ Cell 30 (tN B32 0 0) p1 W ∧ Cell 30 (tN B32 (n + 2) (10 ^ i)) p2 W ∧ i ≤ n) _ ⟨0, rfl, hz, hd, HB, S0, S2, S3, S4, Cp1, Cp2, (Nat.zero_le _)⟩ ?_
 clear S0 S2 S3 S4 Cp1 Cp2 hz hd HB
 rintro k a W ⟨i, rfl, hz, hd, HB, S0, S2, S3, S4, Cp1, Cx, hi⟩
 refine wp_seq ?_
 refine wp_seq ?_
 refine region_text (M := []) (
  rT (tV (.int .i64 ((i : Nat) : Int))) ::
  rT (tV (.int .i64 ((n : Nat) : Int))) ::
  rT (tV (.bool (decide (i < n)))) ::
  []) hz hd (by kernel_rfl) ?_ ?_
 refine ⟨?_, ?_, ?_, trivial⟩
 exact zMv hz (sv S4)
 exact zMv hz (sv S0)
 exact sBin rfl rfl rfl hz rfl (Gd.none_ rfl) rfl (sd 0 rfl) (sd 1 rfl) (fun w => n_lt w)
 intro a' γ' W' hz' hd' hC hk hh
 have tp1 := Cp1.lt
 replace Cp1 := kC hC Cp1
 have tp2 := Cx.lt
 replace Cx := kC hC Cx
 replace S0 := kp hk S0
 replace S2 := kp hk S2
 replace S3 := kp hk S3
 replace S4 := kp hk S4
 have S8 := gotV hz' 2 hh rfl rfl rfl rfl
 clear tp1 tp2
 replace HB := aft_call HB (RelC.below_nil hC)
 clear hC hk hh; replace hz := hz'; replace hd := hd'; clear hz' hd'
 by_cases hc3 : i < n
 rw [decide_eq_true hc3] at S8
 refine wp_cond_true S8.ev ?_
 refine wp_skip ?_
 refine wp_seq ?_
 refine wp_block ?_
 refine region_drawn (M := [p2]) (
  rT (tN B32 (n + 2) (10 ^ i)) ::
  rT (tN B32 2 10) ::
  rT (tN B32 ((n + 2) + 2) ((10 ^ i) * 10)) ::
  rE 0 30 (tN B32 ((n + 2) + 2) ((10 ^ i) * 10)) p2 ::
  []) hz hd (by kernel_rfl) (by kernel_rfl) ?_ ?_
 refine ⟨?_, ?_, ?_, ?_, trivial⟩
 exact sLoadM rfl rfl rfl hz rfl (Gd.none_ rfl) rfl (sv S3) Cx (k := 0) (by simp [tagOf]) (by kernel_rfl) ld_n32
 exact zC1 hz Tryz.func16 (kc (v := .int .u64 10)) (k1 (fun _ => d_of (by decide)))
 exact zC2 hz Tryz.func63 (sd 0 rfl) (sd 1 rfl) (fun _ _ _ h0 h1 => d_mul h0 h1 (by rw [big_eq]; omega) (by decide))
 exact zSE rfl (sv S3) (by simp [tagOf]) (Cx.var tN_nd) (sd 2 rfl) st_n32
 intro a' γ' W' hz' hd' hC hk hh
 have tp1 := Cp1.lt
 replace Cp1 := kC hC Cp1 (by simp [tagOf, n_p1_p2])
 replace Cx := gotE (T := tN B32 ((n + 2) + 2) ((10 ^ i) * 10)) (id := 30) (p := p2) 3 hh rfl rfl
 replace S0 := kp hk S0
 replace S2 := kp hk S2
 replace S3 := kp hk S3
 replace S4 := kp hk S4
 replace S8 := kp hk S8
 clear tp1
 replace HB := RelC.aftM HB hC (by intro m hm; simp at hm; rcases hm with rfl <;> assumption)
 clear hC hk hh; replace hz := hz'; replace hd := hd'; clear hz' hd'
 refine region_text (M := []) (
  rT (tV (.int .i64 ((i : Nat) : Int))) ::
  rT (tV (.int .i64 ((i + 1 : Nat) : Int))) ::
  rT (tV (.int .i64 ((i + 1 : Nat) : Int))) ::
  []) hz hd (by kernel_rfl) ?_ ?_
 refine ⟨?_, ?_, ?_, trivial⟩
 exact zMv hz (sv S4)
 exact sBin rfl rfl rfl hz rfl (Gd.none_ rfl) rfl (sd 0 rfl) kc (fun w => n_succ (by omega) w)
 exact zAs hz (sd 1 rfl)
 intro a' γ' W' hz' hd' hC hk hh
 have tp1 := Cp1.lt
 replace Cp1 := kC hC Cp1
 have tp2 := Cx.lt
 replace Cx := kC hC Cx
 replace S0 := kp hk S0
 replace S2 := kp hk S2
 replace S3 := kp hk S3
 clear S4
 replace S8 := kp hk S8
 have S4 := gotV hz' 2 hh rfl rfl rfl rfl
 clear tp1 tp2
 replace HB := aft_call HB (RelC.below_nil hC)
 clear hC hk hh; replace hz := hz'; replace hd := hd'; clear hz' hd'
 replace Cx : Cell 30 (tN B32 (n + 2) (10 ^ (i + 1))) p2 _ := Cell.toN Cx (tM_ten1 hc3)
 show ∃ n', n' < _ ∧ _
 refine ⟨_, ?_, i + 1, rfl, hz, hd, HB, S0, S2, S3, S4, Cp1, Cx, (by have := hc3; omega)⟩
 omega
 rw [decide_eq_false hc3] at S8
 refine wp_cond_false S8.ev ?_
 refine wp_exit ?_
 refine wp_seq ?_
 refine region_text (M := [p1]) (
  rT (tN B32 (n + 2) (10 ^ i)) ::
  rE 0 30 (tN B32 (n + 2) (10 ^ i)) p1 ::
  []) hz hd (by kernel_rfl) ?_ ?_
 refine ⟨?_, ?_, trivial⟩
 exact zLd hz (sv S3) Cx ld_n32 (by simp [tagOf, n_p2_p1])
 exact zSE rfl (sv S2) (by simp [tagOf]) (Cp1.var tN_nd) (sd 0 rfl) st_n32
 intro a' γ' W' hz' hd' hC hk hh
 replace Cp1 := gotE (T := tN B32 (n + 2) (10 ^ i)) (id := 30) (p := p1) 1 hh rfl rfl
 have tp2 := Cx.lt
 clear Cx
 clear S0
 replace S2 := kp hk S2
 clear S3
 clear S4
 clear S8
 clear tp2
 replace HB := RelC.aftM HB hC (by intro m hm; simp at hm; rcases hm with rfl <;> assumption)
 clear hC hk hh; replace hz := hz'; replace hd := hd'; clear hz' hd'
 refine wp_ret ?_
 refine ret_to (T := tN B32 (n + 2) (10 ^ i)) (ret1_n32 (by kernel_rfl) S2 hd Cp1 HB) ?_
 exact tM_ten2 hi hc3

end Go.Proofs.YtfgnleoaibcegaaGreat.Rg

namespace Go.Proofs.YtfgnleoaibcegaaGreat.Rg

open Go.RowKit
section

variable {L : List Nat} {W P : Nat}
variable {D : List Nat} {pl i : Nat} {n : Int}
variable {w : World}
theorem d_ten_z {z : Int} (h0 : 0 ≤ z) (h : z ≤ 1000) : Calls Tryz.prog 76 #[.int .i64 z] w (Ret (tN B32 1002 (10 ^ z.toNat)) w) := by
  have := d_ten (n := z.toNat) (w := w) (by omega)
  rw [show ((z.toNat : Nat) : Int) = z by omega] at this
  refine this.mono ?_
  rintro e w' ⟨v, h1, h2, h3⟩
  exact ⟨v, h1, tN_le (by omega) _ _ h2, h3⟩
theorem d_ten_n (h : pl ≤ 1000) : Calls Tryz.prog 76 #[.int .i64 ((pl : Nat) : Int)] w (Ret (tN B32 1002 (10 ^ pl)) w) := by
  have := d_ten_z (z := ((pl : Nat) : Int)) (w := w) (by omega) (by omega)
  rwa [Int.toNat_natCast] at this
end
end Go.Proofs.YtfgnleoaibcegaaGreat.Rg
