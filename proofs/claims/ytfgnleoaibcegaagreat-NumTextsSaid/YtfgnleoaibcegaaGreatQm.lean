/-
  Walks and plain laws, put together: VOH VO VT VU VWH VR.
-/
import Derived.Test.YtfgnleoaibcegaaGreatQl
import Derived.Test.YtfgnleoaibcegaaGreatQj
import Derived.Test.YtfgnleoaibcegaaGreatFr
set_option linter.unusedVariables false
set_option linter.unusedSimpArgs false
namespace Go.Proofs.YtfgnleoaibcegaaGreat.Rg

open Go.RowKit
/-- How what is left stands to a half. -/
def hf (p q : Nat) : Int := if p % q = 0 then -2 else cmpI (p % q * 2 ^ 1) q
section

variable {p q s : Nat} {e : Int}
end

end Go.Proofs.YtfgnleoaibcegaaGreat.Rg

namespace Go.Proofs.YtfgnleoaibcegaaGreat.Rg

open Go.RowKit

section

variable {l x q : Nat} {v v1 v2 : Value} {w : World}
variable {p : Nat} {e : Int}
end
def ds1 (p q : Nat) : Int := ((bl p : Nat) : Int) - ((bl q : Nat) : Int)
def ds2 (p q : Nat) : Int := ds1 p q - 54
end Go.Proofs.YtfgnleoaibcegaaGreat.Rg

namespace Go.Proofs.YtfgnleoaibcegaaGreat.Rg

open Go.RowKit

theorem d_bit0 {l1 x : Nat} {v1 : Value} {w : World} (h1 : (tN B32 l1 x).p v1 w) (b1 : l1 ≤ big) : Calls Tryz.prog 83 #[v1, .int .i64 0] w (Ret (tV (.bool (decide (x % 2 = 1)))) w) := by
  have e : bitOf x 0 = decide (x % 2 = 1) := by unfold bitOf; simp [Nat.testBit_zero]
  have := d_bit h1 b1 (i := 0) (by decide)
  rw [e] at this; exact this
theorem d_text_to {l1 z N : Nat} {v1 : Value} {w : World} (e : N = z) (h1 : (tN B32 l1 z).p v1 w) (b1 : l1 ≤ big) : Calls Tryz.prog 79 #[v1] w (Ret (tV (.string (strB (txt N)))) w) := by rw [e]; exact d_text h1 b1
section

variable {a q N n k : Nat} {X : List Nat}
theorem rn_up1' (h : q < a % q * 2 ^ 1) : rn a q = a / q + 1 := rn_up1 (by omega)
theorem rn_up2' (h : a % q * 2 ^ 1 = q) (h2 : a / q % 2 = 1) : rn a q = a / q + 1 := rn_up2 (by omega) h2
theorem rn_no1' (h : ¬ q < a % q * 2 ^ 1) (h2 : ¬ a % q * 2 ^ 1 = q) : rn a q = a / q := rn_no1 (by omega) (by omega)
theorem rn_no2' (h : ¬ q < a % q * 2 ^ 1) (h2 : ¬ a / q % 2 = 1) : rn a q = a / q := rn_no2 (by omega) h2
theorem rep_next : [48] ++ (List.replicate k 48 ++ X) = List.replicate (k + 1) 48 ++ X := rfl
theorem pad_is (h : k = 0 ∨ k + (txt N).length ≤ n + 1) (h2 : ¬ (List.replicate k 48 ++ txt N).length ≤ n) : List.replicate k 48 ++ txt N = padT N n := by
  rw [List.length_append, List.length_replicate] at h2
  unfold padT
  split
  · rename_i hc
    rw [show k = n + 1 - (txt N).length by omega]
  · rw [show k = 0 by omega]; rfl
theorem pad_len (h : k = 0 ∨ k + (txt N).length ≤ n + 1) (hn : n ≤ 100) (hT : (txt N).length ≤ 2000000) : (List.replicate k 48 ++ txt N).length ≤ 3000000 := by
  rw [List.length_append, List.length_replicate]; omega
end
/-- A text with places. -/
def decR (p q : Nat) (z : Int) : List Nat := if z < 0 ∨ 100 < z then [] else decS (rn (p * 10 ^ z.toNat) q) z.toNat
def decOk (z : Int) : Bool := !decide (z < 0 ∨ 100 < z)
set_option maxRecDepth 10000 in
set_option maxHeartbeats 2000000 in
theorem d_format {l p q : Nat} {v0 : Value} {w : World} (h0 : (tR B32 l l p q).p v0 w) (hl : l ≤ 1000000) (hpl : bl p ≤ l) (hql : bl q ≤ l) :
    Calls Tryz.prog 28 #[v0] w (Ret (tV (.string (strB (fmtT p q)))) w) := by
 refine enter Tryz.func28 rfl Tryz.ntmps28 (by simp) ?_
 intro a hz hd ha
 have S0 := ha 0 _ rfl
 have H0 := h0
 clear ha
 have HB : Below w.heap.size w w := Below.refl _ _
 have htp := txt_bl p
 have htq := txt_bl q
 refine wp_seq ?_
 refine region_text (M := []) (
  rB 0 32 (tR B32 l l p q) none 0 ::
  rT (tV (.string ⟨#[]⟩)) ::
  []) hz hd (by kernel_rfl) ?_ ?_
 refine ⟨?_, ?_, trivial⟩
 exact zBox hz (so S0 H0) box_r32
 exact zAs hz kc
 intro a' γ' W' hz' hd' hC hk hh
 clear S0 H0
 obtain ⟨p1, S1, Cp1, lp1, gp1⟩ := gotB hz' 0 hC hh rfl rfl rfl rfl rfl rfl
 have S2 := gotV hz' 1 hh rfl rfl rfl rfl
 clear lp1 gp1
 replace HB := aft_call HB (RelC.below_nil hC)
 clear hC hk hh; replace hz := hz'; replace hd := hd'; clear hz' hd'
 refine wp_seq ?_
 refine wp_seq ?_
 refine region_drawn (M := []) (
  rT (tV (.pointer (some ⟨p1, 1, none⟩))) ::
  rT (tN B32 l q) ::
  rT (tN B32 2 1) ::
  rT (tV (.int .i64 (cmpI q 1))) ::
  rT (tV (.bool (decide (q = 1)))) ::
  []) hz hd (by kernel_rfl) (by kernel_rfl) ?_ ?_
 refine ⟨?_, ?_, ?_, ?_, ?_, trivial⟩
 exact sFA rfl rfl rfl hz rfl (Gd.none_ rfl) rfl (sv S1) (fun w => by simp [go_sem])
 exact zLdP hz (sd 0 rfl) Cp1 ldq_r32
 exact zC1 hz Tryz.func16 (kc (v := .int .u64 1)) (k1 (fun _ => d_of (by decide)))
 exact zC2 hz Tryz.func66 (sd 1 rfl) (sd 2 rfl) (fun _ _ _ h0 h1 => d_cmp h0 h1 (by rw [big_eq]; omega) (by rw [big_eq]; omega))
 exact sBin rfl rfl rfl hz rfl (Gd.none_ rfl) rfl (sd 3 rfl) kc (fun w => run_cI_eql q 1 w)
 intro a' γ' W' hz' hd' hC hk hh
 replace Cp1 := kC hC Cp1
 replace S1 := kp hk S1
 replace S2 := kp hk S2
 have S7 := gotV hz' 4 hh rfl rfl rfl rfl
 replace HB := aft_call HB (RelC.below_nil hC)
 clear hC hk hh; replace hz := hz'; replace hd := hd'; clear hz' hd'
 by_cases hc2 : q = 1
 rw [decide_eq_true hc2] at S7
 refine wp_cond_true S7.ev ?_
 refine wp_seq ?_
 refine region_text (M := []) (
  rT (tV (.pointer (some ⟨p1, 0, none⟩))) ::
  rT (tN B32 l p) ::
  rT (tV (.string (strB (txt p)))) ::
  rT (tV (.string (strB (txt p)))) ::
  []) hz hd (by kernel_rfl) ?_ ?_
 refine ⟨?_, ?_, ?_, ?_, trivial⟩
 exact sFA rfl rfl rfl hz rfl (Gd.none_ rfl) rfl (sv S1) (fun w => by simp [go_sem])
 exact zLdP hz (sd 0 rfl) Cp1 ldp_r32
 exact zC1 hz Tryz.func79 (sd 1 rfl) (fun _ _ h0 => d_text h0 (by rw [big_eq]; omega))
 exact zAs hz (sd 2 rfl)
 intro a' γ' W' hz' hd' hC hk hh
 replace Cp1 := kC hC Cp1
 replace S1 := kp hk S1
 clear S2
 clear S7
 have S2 := gotV hz' 3 hh rfl rfl rfl rfl
 replace HB := aft_call HB (RelC.below_nil hC)
 clear hC hk hh; replace hz := hz'; replace hd := hd'; clear hz' hd'
 refine wp_ret ?_
 refine ret_to (T := tV (.string (strB (txt p)))) (ret1 (by kernel_rfl) S2 hd ⟨_, rfl, rfl, HB⟩) ?_
 exact tV_to (congrArg (fun l => Value.string (strB l)) (by unfold fmtT; rw [if_pos hc2]))
 rw [decide_eq_false hc2] at S7
 refine wp_cond_false S7.ev ?_
 refine wp_skip ?_
 refine wp_seq ?_
 refine region_drawn (M := []) (
  rT (tV (.pointer (some ⟨p1, 0, none⟩))) ::
  rT (tN B32 l p) ::
  rT (tV (.string (strB (txt p)))) ::
  rT (tV (.string (strB ((txt p) ++ ([47]))))) ::
  rT (tV (.pointer (some ⟨p1, 1, none⟩))) ::
  rT (tN B32 l q) ::
  rT (tV (.string (strB (txt q)))) ::
  rT (tV (.string (strB (((txt p) ++ ([47])) ++ (txt q))))) ::
  rT (tV (.string (strB (((txt p) ++ ([47])) ++ (txt q))))) ::
  []) hz hd (by kernel_rfl) (by kernel_rfl) ?_ ?_
 refine ⟨?_, ?_, ?_, ?_, ?_, ?_, ?_, ?_, ?_, trivial⟩
 exact sFA rfl rfl rfl hz rfl (Gd.none_ rfl) rfl (sv S1) (fun w => by simp [go_sem])
 exact zLdP hz (sd 0 rfl) Cp1 ldp_r32
 exact zC1 hz Tryz.func79 (sd 1 rfl) (fun _ _ h0 => d_text h0 (by rw [big_eq]; omega))
 exact sBin rfl rfl rfl hz rfl (Gd.none_ rfl) rfl (sd 2 rfl) kc (fun w => s_cat (L := txt p) (M := [47]) (by (try simp only [List.length_append, List.length_singleton, List.length_replicate, List.length_take, List.length_drop, List.length_cons, List.length_nil]); omega) rfl w)
 exact sFA rfl rfl rfl hz rfl (Gd.none_ rfl) rfl (sv S1) (fun w => by simp [go_sem])
 exact zLdP hz (sd 4 rfl) Cp1 ldq_r32
 exact zC1 hz Tryz.func79 (sd 5 rfl) (fun _ _ h0 => d_text h0 (by rw [big_eq]; omega))
 exact sBin rfl rfl rfl hz rfl (Gd.none_ rfl) rfl (sd 3 rfl) (sd 6 rfl) (fun w => s_cat (L := (txt p) ++ ([47])) (M := txt q) (by (try simp only [List.length_append, List.length_singleton, List.length_replicate, List.length_take, List.length_drop, List.length_cons, List.length_nil]); omega) rfl w)
 exact zAs hz (sd 7 rfl)
 intro a' γ' W' hz' hd' hC hk hh
 clear Cp1
 clear S1
 clear S2
 clear S7
 have S2 := gotV hz' 8 hh rfl rfl rfl rfl
 replace HB := aft_call HB (RelC.below_nil hC)
 clear hC hk hh; replace hz := hz'; replace hd := hd'; clear hz' hd'
 refine wp_ret ?_
 refine ret_to (T := tV (.string (strB (((txt p) ++ ([47])) ++ (txt q))))) (ret1 (by kernel_rfl) S2 hd ⟨_, rfl, rfl, HB⟩) ?_
 exact tV_to (congrArg (fun l => Value.string (strB l)) (by unfold fmtT; rw [if_neg hc2]))

set_option maxRecDepth 10000 in
set_option maxHeartbeats 2000000 in
theorem d_decimal {l p q n : Nat} {v0 : Value} {w : World} (h0 : (tR B32 l l p q).p v0 w) (hq : 0 < q) (hl : l ≤ 1000000) (hpl : bl p ≤ l) (hn : n ≤ 100) :
    Calls Tryz.prog 30 #[v0, .int .i64 ((n : Nat) : Int)] w (Ret (tT [tV (.string (strB (decS (rn (p * 10 ^ n) q) n))), tV (.bool true)]) w) := by
 refine enter Tryz.func30 rfl Tryz.ntmps30 (by simp) ?_
 intro a hz hd ha
 have S0 := ha 0 _ rfl
 have H0 := h0
 have S1 := ha 1 _ rfl
 clear ha
 have HB : Below w.heap.size w w := Below.refl _ _
 have htd := dec_len p q n
 have hT := dl_t (b := bl p) (by omega) hn htd
 clear htd
 refine wp_seq ?_
 refine region_text (M := []) (
  rB 0 32 (tR B32 l l p q) none 0 ::
  rT (tV (.string ⟨#[]⟩)) ::
  rT (tV (.bool false)) ::
  []) hz hd (by kernel_rfl) ?_ ?_
 refine ⟨?_, ?_, ?_, trivial⟩
 exact zBox hz (so S0 H0) box_r32
 exact zAs hz kc
 exact zAs hz kc
 intro a' γ' W' hz' hd' hC hk hh
 clear S0 H0
 replace S1 := kp hk S1
 obtain ⟨p1, S2, Cp1, lp1, gp1⟩ := gotB hz' 0 hC hh rfl rfl rfl rfl rfl rfl
 have S4 := gotV hz' 1 hh rfl rfl rfl rfl
 have S5 := gotV hz' 2 hh rfl rfl rfl rfl
 clear lp1 gp1
 replace HB := aft_call HB (RelC.below_nil hC)
 clear hC hk hh; replace hz := hz'; replace hd := hd'; clear hz' hd'
 refine wp_seq ?_
 refine wp_seq ?_
 refine region_text (M := []) (
  rT (tV (.int .i64 ((n : Nat) : Int))) ::
  rT (tV (.bool false)) ::
  rT (tV (.bool false)) ::
  rT (tV (.int .i64 ((n : Nat) : Int))) ::
  rT (tV (.bool false)) ::
  rT (tV (.bool false)) ::
  []) hz hd (by kernel_rfl) ?_ ?_
 refine ⟨?_, ?_, ?_, ?_, ?_, ?_, trivial⟩
 exact zMv hz (sv S1)
 exact sBin rfl rfl rfl hz rfl (Gd.none_ rfl) rfl (sd 0 rfl) kc (fun w => n_neg w)
 exact zMv hz (sd 1 rfl)
 exact zMv hz (sv S1) (g := gT 2 rfl)
 exact sBin rfl rfl rfl hz rfl (gT 2 rfl) rfl (sd 3 rfl) kc (fun w => n_gt100 hn w)
 exact zPF hz (sd 2 rfl) (sd 4 rfl)
 intro a' γ' W' hz' hd' hC hk hh
 replace Cp1 := kC hC Cp1
 replace S1 := kp hk S1
 replace S2 := kp hk S2
 replace S4 := kp hk S4
 replace S5 := kp hk S5
 have S15 := gotV hz' 5 hh rfl rfl rfl rfl
 replace HB := aft_call HB (RelC.below_nil hC)
 clear hC hk hh; replace hz := hz'; replace hd := hd'; clear hz' hd'
 refine wp_cond_false S15.ev ?_
 refine wp_skip ?_
 refine wp_seq ?_
 refine region_drawn (M := []) (
  rT (tV (.pointer (some ⟨p1, 0, none⟩))) ::
  rT (tN B32 l p) ::
  rT (tV (.int .i64 ((n : Nat) : Int))) ::
  rT (tN B32 1002 (10 ^ n)) ::
  rT (tN B32 (l + 1002) (p * (10 ^ n))) ::
  rT (tV (.pointer (some ⟨p1, 1, none⟩))) ::
  rT (tN B32 l q) ::
  rT (tT [tN B32 (l + 1002) (p * 10 ^ n / q), tN B32 (l + 1002) (p * 10 ^ n % q)]) ::
  rT (tT [tN B32 (l + 1002) (p * 10 ^ n / q), tN B32 (l + 1002) (p * 10 ^ n % q)]) ::
  rT (tN B32 (l + 1002) (p * 10 ^ n / q)) ::
  rT (tN B32 (l + 1002) (p * 10 ^ n % q)) ::
  rVar 11 30 1 ::
  rVar 12 30 1 ::
  rB 11 30 (tN B32 (l + 1002) (p * 10 ^ n / q)) (some 11) 12 ::
  rB 12 30 (tN B32 (l + 1002) (p * 10 ^ n % q)) (some 12) 13 ::
  []) hz hd (by kernel_rfl) (by kernel_rfl) ?_ ?_
 refine ⟨?_, ?_, ?_, ?_, ?_, ?_, ?_, ?_, ?_, ?_, ?_, ?_, ?_, ?_, ?_, trivial⟩
 exact sFA rfl rfl rfl hz rfl (Gd.none_ rfl) rfl (sv S2) (fun w => by simp [go_sem])
 exact zLdP hz (sd 0 rfl) Cp1 ldp_r32
 exact zMv hz (sv S1)
 exact zC1 hz Tryz.func76 (sd 2 rfl) (k1 (fun _ => d_ten_n (by omega)))
 exact zC2 hz Tryz.func63 (sd 1 rfl) (sd 3 rfl) (fun _ _ _ h0 h1 => d_mul h0 h1 (by rw [big_eq]; omega) (by decide))
 exact sFA rfl rfl rfl hz rfl (Gd.none_ rfl) rfl (sv S2) (fun w => by simp [go_sem])
 exact zLdP hz (sd 5 rfl) Cp1 ldq_r32
 exact zC2 hz Tryz.func82 (sd 4 rfl) (sd 6 rfl) (fun _ _ _ h0 h1 => d_divmod h0 h1 (by rw [big_eq]; omega) (by rw [big_eq]; omega) hq)
 exact zMv hz (sd 7 rfl)
 exact zExt hz (sd 8 rfl)
 exact zExt hz (sd 8 rfl)
 exact zAl hz nd_slice al_n32
 exact zAl hz nd_slice al_n32
 exact zSt (sd 9 rfl) st_n32
 exact zSt (sd 10 rfl) st_n32
 intro a' γ' W' hz' hd' hC hk hh
 have ep1 := Cp1.lt
 replace Cp1 := kC hC Cp1
 replace S1 := kp hk S1
 replace S2 := kp hk S2
 replace S4 := kp hk S4
 replace S5 := kp hk S5
 clear S15
 obtain ⟨p2, S6, Cp2, lp2, gp2⟩ := gotB hz' 13 hC hh rfl rfl rfl rfl rfl rfl
 obtain ⟨p3, S7, Cp3, lp3, gp3⟩ := gotB hz' 14 hC hh rfl rfl rfl rfl rfl rfl
 have n_p2_p3 : p2 ≠ p3 := by intro e; rw [e, gp3] at gp2; omega
 have n_p3_p2 : p3 ≠ p2 := by intro e; rw [e, gp2] at gp3; omega
 have n_p1_p2 : p1 ≠ p2 := by have := ep1; omega
 have n_p1_p3 : p1 ≠ p3 := by have := ep1; omega
 have bp2 : w.heap.size ≤ p2 := Nat.le_trans HB.size lp2
 have bp3 : w.heap.size ≤ p3 := Nat.le_trans HB.size lp3
 clear lp2 gp2 lp3 gp3
 clear ep1
 replace HB := aft_call HB (RelC.below_nil hC)
 clear hC hk hh; replace hz := hz'; replace hd := hd'; clear hz' hd'
 refine wp_seq ?_
 refine region_drawn (M := []) (
  rT (tN B32 (l + 1002) (p * 10 ^ n % q)) ::
  rT (tN B32 ((l + 1002) + 1) ((p * 10 ^ n % q) * 2 ^ 1)) ::
  rT (tV (.pointer (some ⟨p1, 1, none⟩))) ::
  rT (tN B32 l q) ::
  rT (tV (.int .i64 (cmpI ((p * 10 ^ n % q) * 2 ^ 1) q))) ::
  rT (tV (.int .i64 (cmpI ((p * 10 ^ n % q) * 2 ^ 1) q))) ::
  []) hz hd (by kernel_rfl) (by kernel_rfl) ?_ ?_
 refine ⟨?_, ?_, ?_, ?_, ?_, ?_, trivial⟩
 exact zLd hz (sv S7) Cp3 ld_n32
 exact zC2 hz Tryz.func17 (sd 0 rfl) (kc (v := .int .i64 1)) (k01 (fun _ _ h0 => d_leftK 1 (k := 1) h0 (by rw [big_eq]; omega) (by decide) (by decide)))
 exact sFA rfl rfl rfl hz rfl (Gd.none_ rfl) rfl (sv S2) (fun w => by simp [go_sem])
 exact zLdP hz (sd 2 rfl) Cp1 ldq_r32
 exact zC2 hz Tryz.func66 (sd 1 rfl) (sd 3 rfl) (fun _ _ _ h0 h1 => d_cmp h0 h1 (by rw [big_eq]; omega) (by rw [big_eq]; omega))
 exact zAs hz (sd 4 rfl)
 intro a' γ' W' hz' hd' hC hk hh
 clear Cp1
 have tp2 := Cp2.lt
 replace Cp2 := kC hC Cp2
 have tp3 := Cp3.lt
 clear Cp3
 replace S1 := kp hk S1
 clear S2
 replace S4 := kp hk S4
 replace S5 := kp hk S5
 replace S6 := kp hk S6
 clear S7
 have S8 := gotV hz' 5 hh rfl rfl rfl rfl
 clear tp2 tp3
 replace HB := aft_call HB (RelC.below_nil hC)
 clear hC hk hh; replace hz := hz'; replace hd := hd'; clear hz' hd'
 refine wp_seq ?_
 refine wp_seq ?_
 by_cases hc4 : q < (p * 10 ^ n % q) * 2 ^ 1
 refine region_text (M := []) (
  rT (tV (.int .i64 (cmpI ((p * 10 ^ n % q) * 2 ^ 1) q))) ::
  rT (tV (.bool true)) ::
  rT (tV (.bool true)) ::
  rT (tV undef) ::
  rT (tV undef) ::
  rT (tV undef) ::
  rT (tV undef) ::
  rT (tV undef) ::
  rT (tV undef) ::
  rT (tV (.bool true)) ::
  []) hz hd (by kernel_rfl) ?_ ?_
 refine ⟨?_, ?_, ?_, ?_, ?_, ?_, ?_, ?_, ?_, ?_, trivial⟩
 exact zMv hz (sv S8)
 exact sBin rfl rfl rfl hz rfl (Gd.none_ rfl) rfl (sd 0 rfl) kc (fun w => run_t (P := q < (p * 10 ^ n % q) * 2 ^ 1) ((fun w => run_cI_gtr ((p * 10 ^ n % q) * 2 ^ 1) q w) w) hc4)
 exact zMv hz (sd 1 rfl)
 exact zSkU hz (gN 2 rfl)
 exact zSkU hz (gN 2 rfl)
 exact zSkU hz (gN 2 rfl)
 exact zSkU hz (gU 5 rfl)
 exact zSkU hz (gU 5 rfl)
 exact zSkU hz (gN 2 rfl)
 exact zPT hz (sd 2 rfl) kc
 intro a' γ' W' hz' hd' hC hk hh
 have tp2 := Cp2.lt
 replace Cp2 := kC hC Cp2
 replace S1 := kp hk S1
 replace S4 := kp hk S4
 replace S5 := kp hk S5
 replace S6 := kp hk S6
 clear S8
 have S41 := gotV hz' 9 hh rfl rfl rfl rfl
 clear tp2
 replace HB := aft_call HB (RelC.below_nil hC)
 clear hC hk hh; replace hz := hz'; replace hd := hd'; clear hz' hd'
 refine wp_cond_true S41.ev ?_
 refine region_drawn (M := [p2]) (
  rT (tN B32 (l + 1002) (p * 10 ^ n / q)) ::
  rT (tN B32 2 1) ::
  rT (tN B32 ((max (l + 1002) 2) + 1) ((p * 10 ^ n / q) + 1)) ::
  rE 0 30 (tN B32 ((max (l + 1002) 2) + 1) ((p * 10 ^ n / q) + 1)) p2 ::
  []) hz hd (by kernel_rfl) (by kernel_rfl) ?_ ?_
 refine ⟨?_, ?_, ?_, ?_, trivial⟩
 exact sLoadM rfl rfl rfl hz rfl (Gd.none_ rfl) rfl (sv S6) Cp2 (k := 0) (by simp [tagOf]) (by kernel_rfl) ld_n32
 exact zC1 hz Tryz.func16 (kc (v := .int .u64 1)) (k1 (fun _ => d_of (by decide)))
 exact zC2 hz Tryz.func62 (sd 0 rfl) (sd 1 rfl) (fun _ _ _ h0 h1 => d_add h0 h1 (by rw [big_eq]; omega) (by decide))
 exact zSE rfl (sv S6) (by simp [tagOf]) (Cp2.var tN_nd) (sd 2 rfl) st_n32
 intro a' γ' W' hz' hd' hC hk hh
 replace Cp2 := gotE (T := tN B32 ((max (l + 1002) 2) + 1) ((p * 10 ^ n / q) + 1)) (id := 30) (p := p2) 3 hh rfl rfl
 replace S1 := kp hk S1
 replace S4 := kp hk S4
 replace S5 := kp hk S5
 replace S6 := kp hk S6
 clear S41
 replace HB := RelC.aftM HB hC (by intro m hm; simp at hm; rcases hm with rfl <;> assumption)
 clear hC hk hh; replace hz := hz'; replace hd := hd'; clear hz' hd'
 refine wp_seq ?_
 refine region_text (M := []) (
  rT (tN B32 ((max (l + 1002) 2) + 1) ((p * 10 ^ n / q) + 1)) ::
  rT (tV (.string (strB (txt (rn (p * 10 ^ n) q))))) ::
  rT (tV (.string (strB (txt (rn (p * 10 ^ n) q))))) ::
  []) hz hd (by kernel_rfl) ?_ ?_
 refine ⟨?_, ?_, ?_, trivial⟩
 exact zLd hz (sv S6) Cp2 ld_n32
 exact zC1 hz Tryz.func79 (sd 0 rfl) (fun _ _ h0 => d_text_to (rn_up1' hc4) h0 (by rw [big_eq]; omega))
 exact zAs hz (sd 1 rfl)
 intro a' γ' W' hz' hd' hC hk hh
 have tp2 := Cp2.lt
 clear Cp2
 replace S1 := kp hk S1
 replace S4 := kp hk S4
 replace S5 := kp hk S5
 clear S6
 have S9 := gotV hz' 2 hh rfl rfl rfl rfl
 clear tp2
 replace HB := aft_call HB (RelC.below_nil hC)
 clear hC hk hh; replace hz := hz'; replace hd := hd'; clear hz' hd'
 refine wp_seq ?_
 refine wp_seq ?_
 refine region_text (M := []) (
  rT (tV (.int .i64 ((n : Nat) : Int))) ::
  rT (tV (.bool (decide (n = 0)))) ::
  []) hz hd (by kernel_rfl) ?_ ?_
 refine ⟨?_, ?_, trivial⟩
 exact zMv hz (sv S1)
 exact sBin rfl rfl rfl hz rfl (Gd.none_ rfl) rfl (sd 0 rfl) kc (fun w => n_eq0 w)
 intro a' γ' W' hz' hd' hC hk hh
 replace S1 := kp hk S1
 replace S4 := kp hk S4
 replace S5 := kp hk S5
 replace S9 := kp hk S9
 have S48 := gotV hz' 1 hh rfl rfl rfl rfl
 replace HB := aft_call HB (RelC.below_nil hC)
 clear hC hk hh; replace hz := hz'; replace hd := hd'; clear hz' hd'
 by_cases hc5 : n = 0
 rw [decide_eq_true hc5] at S48
 refine wp_cond_true S48.ev ?_
 refine wp_seq ?_
 refine region_text (M := []) (
  rT (tV (.string (strB (txt (rn (p * 10 ^ n) q))))) ::
  rT (tV (.string (strB (txt (rn (p * 10 ^ n) q))))) ::
  rT (tV (.bool true)) ::
  []) hz hd (by kernel_rfl) ?_ ?_
 refine ⟨?_, ?_, ?_, trivial⟩
 exact zMv hz (sv S9)
 exact zAs hz (sd 0 rfl)
 exact zAs hz kc
 intro a' γ' W' hz' hd' hC hk hh
 replace S1 := kp hk S1
 clear S4
 clear S5
 replace S9 := kp hk S9
 clear S48
 have S4 := gotV hz' 1 hh rfl rfl rfl rfl
 have S5 := gotV hz' 2 hh rfl rfl rfl rfl
 replace HB := aft_call HB (RelC.below_nil hC)
 clear hC hk hh; replace hz := hz'; replace hd := hd'; clear hz' hd'
 refine wp_ret ?_
 refine ret_to (T := tT [tV (.string (strB (txt (rn (p * 10 ^ n) q)))), tV (.bool true)]) (rett2 (by kernel_rfl) S4 S5 hd HB) ?_
 exact to2 (tV_to (congrArg (fun l => Value.string (strB l)) (by unfold decS; rw [if_pos hc5]))) (tV_to rfl)
 rw [decide_eq_false hc5] at S48
 refine wp_cond_false S48.ev ?_
 refine wp_skip ?_
 refine wp_seq ?_
 refine wp_block ?_
 rw [show txt (rn (p * 10 ^ n) q) = List.replicate 0 48 ++ txt (rn (p * 10 ^ n) q) from rfl] at S9
 refine wp_loop_ghost (fun k a W => ∃ (j : Nat), k = n + 1 - j ∧ a.tmps.size = 70 ∧ a.defers = [] ∧ Below w.heap.size w W ∧ Sl a 1 (.int .i64 ((n : Nat) : Int)) ∧ Sl a 4 (.string ⟨#[]⟩) ∧ Sl a 5 (.bool false) ∧ Sl a 9 (.string (strB (List.replicate j 48 ++ txt (rn (p * 10 ^ n) q)))) ∧ (j = 0 ∨ j + (txt (rn (p * 10 ^ n) q)).length ≤ n + 1)) _ ⟨0, rfl, hz, hd, HB, S1, S4, S5, S9, (Or.inl rfl)⟩ ?_
 clear S1 S4 S5 S9 S48 hz hd HB
 rintro k a W ⟨j, rfl, hz, hd, HB, S1, S4, S5, S9, hk⟩
 refine wp_seq ?_
 refine wp_seq ?_
 refine region_text (M := []) (
  rT (tV (.string (strB (List.replicate j 48 ++ txt (rn (p * 10 ^ n) q))))) ::
  rT (tV (.int .i64 (((List.replicate j 48 ++ txt (rn (p * 10 ^ n) q)).length : Nat) : Int))) ::
  rT (tV (.int .i64 ((n : Nat) : Int))) ::
  rT (tV (.bool (decide ((List.replicate j 48 ++ txt (rn (p * 10 ^ n) q)).length ≤ n)))) ::
  []) hz hd (by kernel_rfl) ?_ ?_
 refine ⟨?_, ?_, ?_, ?_, trivial⟩
 exact zMv hz (sv S9)
 exact zB1len hz rfl (sd 0 rfl) (fun w => s_len w)
 exact zMv hz (sv S1)
 exact sBin rfl rfl rfl hz rfl (Gd.none_ rfl) rfl (sd 1 rfl) (sd 2 rfl) (fun w => n_le w)
 intro a' γ' W' hz' hd' hC hk hh
 replace S1 := kp hk S1
 replace S4 := kp hk S4
 replace S5 := kp hk S5
 replace S9 := kp hk S9
 have S53 := gotV hz' 3 hh rfl rfl rfl rfl
 replace HB := aft_call HB (RelC.below_nil hC)
 clear hC hk hh; replace hz := hz'; replace hd := hd'; clear hz' hd'
 by_cases hc6 : (List.replicate j 48 ++ txt (rn (p * 10 ^ n) q)).length ≤ n
 rw [decide_eq_true hc6] at S53
 refine wp_cond_true S53.ev ?_
 refine wp_skip ?_
 refine wp_block ?_
 refine region_text (M := []) (
  rT (tV (.string (strB (List.replicate j 48 ++ txt (rn (p * 10 ^ n) q))))) ::
  rT (tV (.string (strB (([48]) ++ (List.replicate j 48 ++ txt (rn (p * 10 ^ n) q)))))) ::
  rT (tV (.string (strB (([48]) ++ (List.replicate j 48 ++ txt (rn (p * 10 ^ n) q)))))) ::
  []) hz hd (by kernel_rfl) ?_ ?_
 refine ⟨?_, ?_, ?_, trivial⟩
 exact zMv hz (sv S9)
 exact sBin rfl rfl rfl hz rfl (Gd.none_ rfl) rfl kc (sd 0 rfl) (fun w => s_cat (L := [48]) (M := List.replicate j 48 ++ txt (rn (p * 10 ^ n) q)) (by have := pad_len hk hn hT; rw [List.length_singleton]; omega) rfl w)
 exact zAs hz (sd 1 rfl)
 intro a' γ' W' hz' hd' hC hk hh
 replace S1 := kp hk S1
 replace S4 := kp hk S4
 replace S5 := kp hk S5
 clear S9
 replace S53 := kp hk S53
 have S9 := gotV hz' 2 hh rfl rfl rfl rfl
 replace HB := aft_call HB (RelC.below_nil hC)
 clear hC hk hh; replace hz := hz'; replace hd := hd'; clear hz' hd'
 rw [rep_next] at S9
 have hk2 := hc6
 rw [List.length_append, List.length_replicate] at hk2
 show ∃ n', n' < _ ∧ _
 refine ⟨_, ?_, j + 1, rfl, hz, hd, HB, S1, S4, S5, S9, (by omega)⟩
 have hk2 := (by assumption : (List.replicate j 48 ++ txt (rn (p * 10 ^ n) q)).length ≤ n); rw [List.length_append, List.length_replicate] at hk2; omega
 rw [decide_eq_false hc6] at S53
 refine wp_cond_false S53.ev ?_
 refine wp_exit ?_
 refine wp_seq ?_
 have hpad := pad_is hk hc6
 have hX3 := pad_len hk hn hT
 rw [hpad] at S9 hX3
 obtain ⟨X, eX⟩ : ∃ X, padT (rn (p * 10 ^ n) q) n = X := ⟨_, rfl⟩
 have hXn : n ≤ X.length := by rw [← eX]; exact Nat.le_of_lt (padT_len _ _)
 rw [eX] at S9 hX3
 clear hpad
 refine region_drawn (M := []) (
  rT (tV (.string (strB X))) ::
  rT (tV (.string (strB X))) ::
  rT (tV (.int .i64 ((X.length : Nat) : Int))) ::
  rT (tV (.int .i64 ((n : Nat) : Int))) ::
  rT (tV (.int .i64 ((X.length - n : Nat) : Int))) ::
  rT (tV (.string (strB (X.take (X.length - n))))) ::
  rT (tV (.string (strB ((X.take (X.length - n)) ++ ([46]))))) ::
  rT (tV (.string (strB X))) ::
  rT (tV (.string (strB X))) ::
  rT (tV (.int .i64 ((X.length : Nat) : Int))) ::
  rT (tV (.int .i64 ((n : Nat) : Int))) ::
  rT (tV (.int .i64 ((X.length - n : Nat) : Int))) ::
  rT (tV (.string (strB (X.drop (X.length - n))))) ::
  rT (tV (.string (strB (((X.take (X.length - n)) ++ ([46])) ++ (X.drop (X.length - n)))))) ::
  rT (tV (.string (strB (((X.take (X.length - n)) ++ ([46])) ++ (X.drop (X.length - n)))))) ::
  rT (tV (.bool true)) ::
  []) hz hd (by kernel_rfl) (by kernel_rfl) ?_ ?_
 refine ⟨?_, ?_, ?_, ?_, ?_, ?_, ?_, ?_, ?_, ?_, ?_, ?_, ?_, ?_, ?_, ?_, trivial⟩
 exact zMv hz (sv S9)
 exact zMv hz (sv S9)
 exact zB1len hz rfl (sd 1 rfl) (fun w => s_len w)
 exact zMv hz (sv S1)
 exact sBin rfl rfl rfl hz rfl (Gd.none_ rfl) rfl (sd 2 rfl) (sd 3 rfl) (fun w => n_sub hXn (dl_big hX3) w)
 exact zSlTo hz rfl (sd 0 rfl) (sd 4 rfl) (fun w => s_to (Nat.sub_le _ _) w)
 exact sBin rfl rfl rfl hz rfl (Gd.none_ rfl) rfl (sd 5 rfl) kc (fun w => s_cat (L := X.take (X.length - n)) (M := [46]) (dl_b hX3) rfl w)
 exact zMv hz (sv S9)
 exact zMv hz (sv S9)
 exact zB1len hz rfl (sd 8 rfl) (fun w => s_len w)
 exact zMv hz (sv S1)
 exact sBin rfl rfl rfl hz rfl (Gd.none_ rfl) rfl (sd 9 rfl) (sd 10 rfl) (fun w => n_sub hXn (dl_big hX3) w)
 exact zSlFrom hz rfl (sd 7 rfl) (sd 11 rfl) (fun w => s_from (Nat.sub_le _ _) w)
 exact sBin rfl rfl rfl hz rfl (Gd.none_ rfl) rfl (sd 6 rfl) (sd 12 rfl) (fun w => s_cat (L := (X.take (X.length - n)) ++ ([46])) (M := X.drop (X.length - n)) (dl_c hX3) rfl w)
 exact zAs hz (sd 13 rfl)
 exact zAs hz kc
 intro a' γ' W' hz' hd' hC hk hh
 clear S1
 clear S4
 clear S5
 clear S9
 clear S53
 have S4 := gotV hz' 14 hh rfl rfl rfl rfl
 have S5 := gotV hz' 15 hh rfl rfl rfl rfl
 replace HB := aft_call HB (RelC.below_nil hC)
 clear hC hk hh; replace hz := hz'; replace hd := hd'; clear hz' hd'
 refine wp_ret ?_
 refine ret_to (T := tT [tV (.string (strB (((X.take (X.length - n)) ++ ([46])) ++ (X.drop (X.length - n))))), tV (.bool true)]) (rett2 (by kernel_rfl) S4 S5 hd HB) ?_
 exact to2 (tV_to (congrArg (fun l => Value.string (strB l)) (by unfold decS; rw [if_neg hc5, eX]))) (tV_to rfl)
 by_cases hc7 : (p * 10 ^ n % q) * 2 ^ 1 = q
 refine region_text (M := []) (
  rT (tV (.int .i64 (cmpI ((p * 10 ^ n % q) * 2 ^ 1) q))) ::
  rT (tV (.bool false)) ::
  rT (tV (.bool false)) ::
  rT (tV (.int .i64 (cmpI ((p * 10 ^ n % q) * 2 ^ 1) q))) ::
  rT (tV (.bool true)) ::
  rT (tV (.bool true)) ::
  rT (tN B32 (l + 1002) (p * 10 ^ n / q)) ::
  rT (tV (.bool (decide (p * 10 ^ n / q % 2 = 1)))) ::
  rT (tV (.bool (decide (p * 10 ^ n / q % 2 = 1)))) ::
  rT (tV (.bool (decide (p * 10 ^ n / q % 2 = 1)))) ::
  []) hz hd (by kernel_rfl) ?_ ?_
 refine ⟨?_, ?_, ?_, ?_, ?_, ?_, ?_, ?_, ?_, ?_, trivial⟩
 exact zMv hz (sv S8)
 exact sBin rfl rfl rfl hz rfl (Gd.none_ rfl) rfl (sd 0 rfl) kc (fun w => run_f (P := q < (p * 10 ^ n % q) * 2 ^ 1) ((fun w => run_cI_gtr ((p * 10 ^ n % q) * 2 ^ 1) q w) w) hc4)
 exact zMv hz (sd 1 rfl)
 exact zMv hz (sv S8) (g := gT 2 rfl)
 exact sBin rfl rfl rfl hz rfl (gT 2 rfl) rfl (sd 3 rfl) kc (fun w => run_t (P := (p * 10 ^ n % q) * 2 ^ 1 = q) ((fun w => run_cI_eql ((p * 10 ^ n % q) * 2 ^ 1) q w) w) hc7)
 exact zMv hz (sd 4 rfl) (g := gT 2 rfl)
 exact zLd hz (sv S6) Cp2 ld_n32 (g := gT 5 rfl)
 exact zC2 hz Tryz.func83 (sd 6 rfl) (kc (v := .int .i64 0)) (k01 (fun _ _ h0 => d_bit0 h0 (by rw [big_eq]; omega))) (g := gT 5 rfl)
 exact zPT hz (sd 5 rfl) (sd 7 rfl) (g := gT 2 rfl)
 exact zPF hz (sd 2 rfl) (sd 8 rfl)
 intro a' γ' W' hz' hd' hC hk hh
 have tp2 := Cp2.lt
 replace Cp2 := kC hC Cp2
 replace S1 := kp hk S1
 replace S4 := kp hk S4
 replace S5 := kp hk S5
 replace S6 := kp hk S6
 clear S8
 have S41 := gotV hz' 9 hh rfl rfl rfl rfl
 clear tp2
 replace HB := aft_call HB (RelC.below_nil hC)
 clear hC hk hh; replace hz := hz'; replace hd := hd'; clear hz' hd'
 by_cases hc8 : p * 10 ^ n / q % 2 = 1
 rw [decide_eq_true hc8] at S41
 refine wp_cond_true S41.ev ?_
 refine region_drawn (M := [p2]) (
  rT (tN B32 (l + 1002) (p * 10 ^ n / q)) ::
  rT (tN B32 2 1) ::
  rT (tN B32 ((max (l + 1002) 2) + 1) ((p * 10 ^ n / q) + 1)) ::
  rE 0 30 (tN B32 ((max (l + 1002) 2) + 1) ((p * 10 ^ n / q) + 1)) p2 ::
  []) hz hd (by kernel_rfl) (by kernel_rfl) ?_ ?_
 refine ⟨?_, ?_, ?_, ?_, trivial⟩
 exact sLoadM rfl rfl rfl hz rfl (Gd.none_ rfl) rfl (sv S6) Cp2 (k := 0) (by simp [tagOf]) (by kernel_rfl) ld_n32
 exact zC1 hz Tryz.func16 (kc (v := .int .u64 1)) (k1 (fun _ => d_of (by decide)))
 exact zC2 hz Tryz.func62 (sd 0 rfl) (sd 1 rfl) (fun _ _ _ h0 h1 => d_add h0 h1 (by rw [big_eq]; omega) (by decide))
 exact zSE rfl (sv S6) (by simp [tagOf]) (Cp2.var tN_nd) (sd 2 rfl) st_n32
 intro a' γ' W' hz' hd' hC hk hh
 replace Cp2 := gotE (T := tN B32 ((max (l + 1002) 2) + 1) ((p * 10 ^ n / q) + 1)) (id := 30) (p := p2) 3 hh rfl rfl
 replace S1 := kp hk S1
 replace S4 := kp hk S4
 replace S5 := kp hk S5
 replace S6 := kp hk S6
 clear S41
 replace HB := RelC.aftM HB hC (by intro m hm; simp at hm; rcases hm with rfl <;> assumption)
 clear hC hk hh; replace hz := hz'; replace hd := hd'; clear hz' hd'
 refine wp_seq ?_
 refine region_text (M := []) (
  rT (tN B32 ((max (l + 1002) 2) + 1) ((p * 10 ^ n / q) + 1)) ::
  rT (tV (.string (strB (txt (rn (p * 10 ^ n) q))))) ::
  rT (tV (.string (strB (txt (rn (p * 10 ^ n) q))))) ::
  []) hz hd (by kernel_rfl) ?_ ?_
 refine ⟨?_, ?_, ?_, trivial⟩
 exact zLd hz (sv S6) Cp2 ld_n32
 exact zC1 hz Tryz.func79 (sd 0 rfl) (fun _ _ h0 => d_text_to (rn_up2' hc7 hc8) h0 (by rw [big_eq]; omega))
 exact zAs hz (sd 1 rfl)
 intro a' γ' W' hz' hd' hC hk hh
 have tp2 := Cp2.lt
 clear Cp2
 replace S1 := kp hk S1
 replace S4 := kp hk S4
 replace S5 := kp hk S5
 clear S6
 have S9 := gotV hz' 2 hh rfl rfl rfl rfl
 clear tp2
 replace HB := aft_call HB (RelC.below_nil hC)
 clear hC hk hh; replace hz := hz'; replace hd := hd'; clear hz' hd'
 refine wp_seq ?_
 refine wp_seq ?_
 refine region_text (M := []) (
  rT (tV (.int .i64 ((n : Nat) : Int))) ::
  rT (tV (.bool (decide (n = 0)))) ::
  []) hz hd (by kernel_rfl) ?_ ?_
 refine ⟨?_, ?_, trivial⟩
 exact zMv hz (sv S1)
 exact sBin rfl rfl rfl hz rfl (Gd.none_ rfl) rfl (sd 0 rfl) kc (fun w => n_eq0 w)
 intro a' γ' W' hz' hd' hC hk hh
 replace S1 := kp hk S1
 replace S4 := kp hk S4
 replace S5 := kp hk S5
 replace S9 := kp hk S9
 have S48 := gotV hz' 1 hh rfl rfl rfl rfl
 replace HB := aft_call HB (RelC.below_nil hC)
 clear hC hk hh; replace hz := hz'; replace hd := hd'; clear hz' hd'
 by_cases hc9 : n = 0
 rw [decide_eq_true hc9] at S48
 refine wp_cond_true S48.ev ?_
 refine wp_seq ?_
 refine region_text (M := []) (
  rT (tV (.string (strB (txt (rn (p * 10 ^ n) q))))) ::
  rT (tV (.string (strB (txt (rn (p * 10 ^ n) q))))) ::
  rT (tV (.bool true)) ::
  []) hz hd (by kernel_rfl) ?_ ?_
 refine ⟨?_, ?_, ?_, trivial⟩
 exact zMv hz (sv S9)
 exact zAs hz (sd 0 rfl)
 exact zAs hz kc
 intro a' γ' W' hz' hd' hC hk hh
 replace S1 := kp hk S1
 clear S4
 clear S5
 replace S9 := kp hk S9
 clear S48
 have S4 := gotV hz' 1 hh rfl rfl rfl rfl
 have S5 := gotV hz' 2 hh rfl rfl rfl rfl
 replace HB := aft_call HB (RelC.below_nil hC)
 clear hC hk hh; replace hz := hz'; replace hd := hd'; clear hz' hd'
 refine wp_ret ?_
 refine ret_to (T := tT [tV (.string (strB (txt (rn (p * 10 ^ n) q)))), tV (.bool true)]) (rett2 (by kernel_rfl) S4 S5 hd HB) ?_
 exact to2 (tV_to (congrArg (fun l => Value.string (strB l)) (by unfold decS; rw [if_pos hc9]))) (tV_to rfl)
 rw [decide_eq_false hc9] at S48
 refine wp_cond_false S48.ev ?_
 refine wp_skip ?_
 refine wp_seq ?_
 refine wp_block ?_
 rw [show txt (rn (p * 10 ^ n) q) = List.replicate 0 48 ++ txt (rn (p * 10 ^ n) q) from rfl] at S9
 refine wp_loop_ghost (fun k a W => ∃ (j : Nat), k = n + 1 - j ∧ a.tmps.size = 70 ∧ a.defers = [] ∧ Below w.heap.size w W ∧ Sl a 1 (.int .i64 ((n : Nat) : Int)) ∧ Sl a 4 (.string ⟨#[]⟩) ∧ Sl a 5 (.bool false) ∧ Sl a 9 (.string (strB (List.replicate j 48 ++ txt (rn (p * 10 ^ n) q)))) ∧ (j = 0 ∨ j + (txt (rn (p * 10 ^ n) q)).length ≤ n + 1)) _ ⟨0, rfl, hz, hd, HB, S1, S4, S5, S9, (Or.inl rfl)⟩ ?_
 clear S1 S4 S5 S9 S48 hz hd HB
 rintro k a W ⟨j, rfl, hz, hd, HB, S1, S4, S5, S9, hk⟩
 refine wp_seq ?_
 refine wp_seq ?_
 refine region_text (M := []) (
  rT (tV (.string (strB (List.replicate j 48 ++ txt (rn (p * 10 ^ n) q))))) ::
  rT (tV (.int .i64 (((List.replicate j 48 ++ txt (rn (p * 10 ^ n) q)).length : Nat) : Int))) ::
  rT (tV (.int .i64 ((n : Nat) : Int))) ::
  rT (tV (.bool (decide ((List.replicate j 48 ++ txt (rn (p * 10 ^ n) q)).length ≤ n)))) ::
  []) hz hd (by kernel_rfl) ?_ ?_
 refine ⟨?_, ?_, ?_, ?_, trivial⟩
 exact zMv hz (sv S9)
 exact zB1len hz rfl (sd 0 rfl) (fun w => s_len w)
 exact zMv hz (sv S1)
 exact sBin rfl rfl rfl hz rfl (Gd.none_ rfl) rfl (sd 1 rfl) (sd 2 rfl) (fun w => n_le w)
 intro a' γ' W' hz' hd' hC hk hh
 replace S1 := kp hk S1
 replace S4 := kp hk S4
 replace S5 := kp hk S5
 replace S9 := kp hk S9
 have S53 := gotV hz' 3 hh rfl rfl rfl rfl
 replace HB := aft_call HB (RelC.below_nil hC)
 clear hC hk hh; replace hz := hz'; replace hd := hd'; clear hz' hd'
 by_cases hc10 : (List.replicate j 48 ++ txt (rn (p * 10 ^ n) q)).length ≤ n
 rw [decide_eq_true hc10] at S53
 refine wp_cond_true S53.ev ?_
 refine wp_skip ?_
 refine wp_block ?_
 refine region_text (M := []) (
  rT (tV (.string (strB (List.replicate j 48 ++ txt (rn (p * 10 ^ n) q))))) ::
  rT (tV (.string (strB (([48]) ++ (List.replicate j 48 ++ txt (rn (p * 10 ^ n) q)))))) ::
  rT (tV (.string (strB (([48]) ++ (List.replicate j 48 ++ txt (rn (p * 10 ^ n) q)))))) ::
  []) hz hd (by kernel_rfl) ?_ ?_
 refine ⟨?_, ?_, ?_, trivial⟩
 exact zMv hz (sv S9)
 exact sBin rfl rfl rfl hz rfl (Gd.none_ rfl) rfl kc (sd 0 rfl) (fun w => s_cat (L := [48]) (M := List.replicate j 48 ++ txt (rn (p * 10 ^ n) q)) (by have := pad_len hk hn hT; rw [List.length_singleton]; omega) rfl w)
 exact zAs hz (sd 1 rfl)
 intro a' γ' W' hz' hd' hC hk hh
 replace S1 := kp hk S1
 replace S4 := kp hk S4
 replace S5 := kp hk S5
 clear S9
 replace S53 := kp hk S53
 have S9 := gotV hz' 2 hh rfl rfl rfl rfl
 replace HB := aft_call HB (RelC.below_nil hC)
 clear hC hk hh; replace hz := hz'; replace hd := hd'; clear hz' hd'
 rw [rep_next] at S9
 have hk2 := hc10
 rw [List.length_append, List.length_replicate] at hk2
 show ∃ n', n' < _ ∧ _
 refine ⟨_, ?_, j + 1, rfl, hz, hd, HB, S1, S4, S5, S9, (by omega)⟩
 have hk2 := (by assumption : (List.replicate j 48 ++ txt (rn (p * 10 ^ n) q)).length ≤ n); rw [List.length_append, List.length_replicate] at hk2; omega
 rw [decide_eq_false hc10] at S53
 refine wp_cond_false S53.ev ?_
 refine wp_exit ?_
 refine wp_seq ?_
 have hpad := pad_is hk hc10
 have hX3 := pad_len hk hn hT
 rw [hpad] at S9 hX3
 obtain ⟨X, eX⟩ : ∃ X, padT (rn (p * 10 ^ n) q) n = X := ⟨_, rfl⟩
 have hXn : n ≤ X.length := by rw [← eX]; exact Nat.le_of_lt (padT_len _ _)
 rw [eX] at S9 hX3
 clear hpad
 refine region_drawn (M := []) (
  rT (tV (.string (strB X))) ::
  rT (tV (.string (strB X))) ::
  rT (tV (.int .i64 ((X.length : Nat) : Int))) ::
  rT (tV (.int .i64 ((n : Nat) : Int))) ::
  rT (tV (.int .i64 ((X.length - n : Nat) : Int))) ::
  rT (tV (.string (strB (X.take (X.length - n))))) ::
  rT (tV (.string (strB ((X.take (X.length - n)) ++ ([46]))))) ::
  rT (tV (.string (strB X))) ::
  rT (tV (.string (strB X))) ::
  rT (tV (.int .i64 ((X.length : Nat) : Int))) ::
  rT (tV (.int .i64 ((n : Nat) : Int))) ::
  rT (tV (.int .i64 ((X.length - n : Nat) : Int))) ::
  rT (tV (.string (strB (X.drop (X.length - n))))) ::
  rT (tV (.string (strB (((X.take (X.length - n)) ++ ([46])) ++ (X.drop (X.length - n)))))) ::
  rT (tV (.string (strB (((X.take (X.length - n)) ++ ([46])) ++ (X.drop (X.length - n)))))) ::
  rT (tV (.bool true)) ::
  []) hz hd (by kernel_rfl) (by kernel_rfl) ?_ ?_
 refine ⟨?_, ?_, ?_, ?_, ?_, ?_, ?_, ?_, ?_, ?_, ?_, ?_, ?_, ?_, ?_, ?_, trivial⟩
 exact zMv hz (sv S9)
 exact zMv hz (sv S9)
 exact zB1len hz rfl (sd 1 rfl) (fun w => s_len w)
 exact zMv hz (sv S1)
 exact sBin rfl rfl rfl hz rfl (Gd.none_ rfl) rfl (sd 2 rfl) (sd 3 rfl) (fun w => n_sub hXn (dl_big hX3) w)
 exact zSlTo hz rfl (sd 0 rfl) (sd 4 rfl) (fun w => s_to (Nat.sub_le _ _) w)
 exact sBin rfl rfl rfl hz rfl (Gd.none_ rfl) rfl (sd 5 rfl) kc (fun w => s_cat (L := X.take (X.length - n)) (M := [46]) (dl_b hX3) rfl w)
 exact zMv hz (sv S9)
 exact zMv hz (sv S9)
 exact zB1len hz rfl (sd 8 rfl) (fun w => s_len w)
 exact zMv hz (sv S1)
 exact sBin rfl rfl rfl hz rfl (Gd.none_ rfl) rfl (sd 9 rfl) (sd 10 rfl) (fun w => n_sub hXn (dl_big hX3) w)
 exact zSlFrom hz rfl (sd 7 rfl) (sd 11 rfl) (fun w => s_from (Nat.sub_le _ _) w)
 exact sBin rfl rfl rfl hz rfl (Gd.none_ rfl) rfl (sd 6 rfl) (sd 12 rfl) (fun w => s_cat (L := (X.take (X.length - n)) ++ ([46])) (M := X.drop (X.length - n)) (dl_c hX3) rfl w)
 exact zAs hz (sd 13 rfl)
 exact zAs hz kc
 intro a' γ' W' hz' hd' hC hk hh
 clear S1
 clear S4
 clear S5
 clear S9
 clear S53
 have S4 := gotV hz' 14 hh rfl rfl rfl rfl
 have S5 := gotV hz' 15 hh rfl rfl rfl rfl
 replace HB := aft_call HB (RelC.below_nil hC)
 clear hC hk hh; replace hz := hz'; replace hd := hd'; clear hz' hd'
 refine wp_ret ?_
 refine ret_to (T := tT [tV (.string (strB (((X.take (X.length - n)) ++ ([46])) ++ (X.drop (X.length - n))))), tV (.bool true)]) (rett2 (by kernel_rfl) S4 S5 hd HB) ?_
 exact to2 (tV_to (congrArg (fun l => Value.string (strB l)) (by unfold decS; rw [if_neg hc9, eX]))) (tV_to rfl)
 rw [decide_eq_false hc8] at S41
 refine wp_cond_false S41.ev ?_
 refine wp_skip ?_
 refine wp_seq ?_
 refine region_text (M := []) (
  rT (tN B32 (l + 1002) (p * 10 ^ n / q)) ::
  rT (tV (.string (strB (txt (rn (p * 10 ^ n) q))))) ::
  rT (tV (.string (strB (txt (rn (p * 10 ^ n) q))))) ::
  []) hz hd (by kernel_rfl) ?_ ?_
 refine ⟨?_, ?_, ?_, trivial⟩
 exact zLd hz (sv S6) Cp2 ld_n32
 exact zC1 hz Tryz.func79 (sd 0 rfl) (fun _ _ h0 => d_text_to (rn_no2' hc4 hc8) h0 (by rw [big_eq]; omega))
 exact zAs hz (sd 1 rfl)
 intro a' γ' W' hz' hd' hC hk hh
 have tp2 := Cp2.lt
 clear Cp2
 replace S1 := kp hk S1
 replace S4 := kp hk S4
 replace S5 := kp hk S5
 clear S6
 clear S41
 have S9 := gotV hz' 2 hh rfl rfl rfl rfl
 clear tp2
 replace HB := aft_call HB (RelC.below_nil hC)
 clear hC hk hh; replace hz := hz'; replace hd := hd'; clear hz' hd'
 refine wp_seq ?_
 refine wp_seq ?_
 refine region_text (M := []) (
  rT (tV (.int .i64 ((n : Nat) : Int))) ::
  rT (tV (.bool (decide (n = 0)))) ::
  []) hz hd (by kernel_rfl) ?_ ?_
 refine ⟨?_, ?_, trivial⟩
 exact zMv hz (sv S1)
 exact sBin rfl rfl rfl hz rfl (Gd.none_ rfl) rfl (sd 0 rfl) kc (fun w => n_eq0 w)
 intro a' γ' W' hz' hd' hC hk hh
 replace S1 := kp hk S1
 replace S4 := kp hk S4
 replace S5 := kp hk S5
 replace S9 := kp hk S9
 have S48 := gotV hz' 1 hh rfl rfl rfl rfl
 replace HB := aft_call HB (RelC.below_nil hC)
 clear hC hk hh; replace hz := hz'; replace hd := hd'; clear hz' hd'
 by_cases hc11 : n = 0
 rw [decide_eq_true hc11] at S48
 refine wp_cond_true S48.ev ?_
 refine wp_seq ?_
 refine region_text (M := []) (
  rT (tV (.string (strB (txt (rn (p * 10 ^ n) q))))) ::
  rT (tV (.string (strB (txt (rn (p * 10 ^ n) q))))) ::
  rT (tV (.bool true)) ::
  []) hz hd (by kernel_rfl) ?_ ?_
 refine ⟨?_, ?_, ?_, trivial⟩
 exact zMv hz (sv S9)
 exact zAs hz (sd 0 rfl)
 exact zAs hz kc
 intro a' γ' W' hz' hd' hC hk hh
 replace S1 := kp hk S1
 clear S4
 clear S5
 replace S9 := kp hk S9
 clear S48
 have S4 := gotV hz' 1 hh rfl rfl rfl rfl
 have S5 := gotV hz' 2 hh rfl rfl rfl rfl
 replace HB := aft_call HB (RelC.below_nil hC)
 clear hC hk hh; replace hz := hz'; replace hd := hd'; clear hz' hd'
 refine wp_ret ?_
 refine ret_to (T := tT [tV (.string (strB (txt (rn (p * 10 ^ n) q)))), tV (.bool true)]) (rett2 (by kernel_rfl) S4 S5 hd HB) ?_
 exact to2 (tV_to (congrArg (fun l => Value.string (strB l)) (by unfold decS; rw [if_pos hc11]))) (tV_to rfl)
 rw [decide_eq_false hc11] at S48
 refine wp_cond_false S48.ev ?_
 refine wp_skip ?_
 refine wp_seq ?_
 refine wp_block ?_
 rw [show txt (rn (p * 10 ^ n) q) = List.replicate 0 48 ++ txt (rn (p * 10 ^ n) q) from rfl] at S9
 refine wp_loop_ghost (fun k a W => ∃ (j : Nat), k = n + 1 - j ∧ a.tmps.size = 70 ∧ a.defers = [] ∧ Below w.heap.size w W ∧ Sl a 1 (.int .i64 ((n : Nat) : Int)) ∧ Sl a 4 (.string ⟨#[]⟩) ∧ Sl a 5 (.bool false) ∧ Sl a 9 (.string (strB (List.replicate j 48 ++ txt (rn (p * 10 ^ n) q)))) ∧ (j = 0 ∨ j + (txt (rn (p * 10 ^ n) q)).length ≤ n + 1)) _ ⟨0, rfl, hz, hd, HB, S1, S4, S5, S9, (Or.inl rfl)⟩ ?_
 clear S1 S4 S5 S9 S48 hz hd HB
 rintro k a W ⟨j, rfl, hz, hd, HB, S1, S4, S5, S9, hk⟩
 refine wp_seq ?_
 refine wp_seq ?_
 refine region_text (M := []) (
  rT (tV (.string (strB (List.replicate j 48 ++ txt (rn (p * 10 ^ n) q))))) ::
  rT (tV (.int .i64 (((List.replicate j 48 ++ txt (rn (p * 10 ^ n) q)).length : Nat) : Int))) ::
  rT (tV (.int .i64 ((n : Nat) : Int))) ::
  rT (tV (.bool (decide ((List.replicate j 48 ++ txt (rn (p * 10 ^ n) q)).length ≤ n)))) ::
  []) hz hd (by kernel_rfl) ?_ ?_
 refine ⟨?_, ?_, ?_, ?_, trivial⟩
 exact zMv hz (sv S9)
 exact zB1len hz rfl (sd 0 rfl) (fun w => s_len w)
 exact zMv hz (sv S1)
 exact sBin rfl rfl rfl hz rfl (Gd.none_ rfl) rfl (sd 1 rfl) (sd 2 rfl) (fun w => n_le w)
 intro a' γ' W' hz' hd' hC hk hh
 replace S1 := kp hk S1
 replace S4 := kp hk S4
 replace S5 := kp hk S5
 replace S9 := kp hk S9
 have S53 := gotV hz' 3 hh rfl rfl rfl rfl
 replace HB := aft_call HB (RelC.below_nil hC)
 clear hC hk hh; replace hz := hz'; replace hd := hd'; clear hz' hd'
 by_cases hc12 : (List.replicate j 48 ++ txt (rn (p * 10 ^ n) q)).length ≤ n
 rw [decide_eq_true hc12] at S53
 refine wp_cond_true S53.ev ?_
 refine wp_skip ?_
 refine wp_block ?_
 refine region_text (M := []) (
  rT (tV (.string (strB (List.replicate j 48 ++ txt (rn (p * 10 ^ n) q))))) ::
  rT (tV (.string (strB (([48]) ++ (List.replicate j 48 ++ txt (rn (p * 10 ^ n) q)))))) ::
  rT (tV (.string (strB (([48]) ++ (List.replicate j 48 ++ txt (rn (p * 10 ^ n) q)))))) ::
  []) hz hd (by kernel_rfl) ?_ ?_
 refine ⟨?_, ?_, ?_, trivial⟩
 exact zMv hz (sv S9)
 exact sBin rfl rfl rfl hz rfl (Gd.none_ rfl) rfl kc (sd 0 rfl) (fun w => s_cat (L := [48]) (M := List.replicate j 48 ++ txt (rn (p * 10 ^ n) q)) (by have := pad_len hk hn hT; rw [List.length_singleton]; omega) rfl w)
 exact zAs hz (sd 1 rfl)
 intro a' γ' W' hz' hd' hC hk hh
 replace S1 := kp hk S1
 replace S4 := kp hk S4
 replace S5 := kp hk S5
 clear S9
 replace S53 := kp hk S53
 have S9 := gotV hz' 2 hh rfl rfl rfl rfl
 replace HB := aft_call HB (RelC.below_nil hC)
 clear hC hk hh; replace hz := hz'; replace hd := hd'; clear hz' hd'
 rw [rep_next] at S9
 have hk2 := hc12
 rw [List.length_append, List.length_replicate] at hk2
 show ∃ n', n' < _ ∧ _
 refine ⟨_, ?_, j + 1, rfl, hz, hd, HB, S1, S4, S5, S9, (by omega)⟩
 have hk2 := (by assumption : (List.replicate j 48 ++ txt (rn (p * 10 ^ n) q)).length ≤ n); rw [List.length_append, List.length_replicate] at hk2; omega
 rw [decide_eq_false hc12] at S53
 refine wp_cond_false S53.ev ?_
 refine wp_exit ?_
 refine wp_seq ?_
 have hpad := pad_is hk hc12
 have hX3 := pad_len hk hn hT
 rw [hpad] at S9 hX3
 obtain ⟨X, eX⟩ : ∃ X, padT (rn (p * 10 ^ n) q) n = X := ⟨_, rfl⟩
 have hXn : n ≤ X.length := by rw [← eX]; exact Nat.le_of_lt (padT_len _ _)
 rw [eX] at S9 hX3
 clear hpad
 refine region_drawn (M := []) (
  rT (tV (.string (strB X))) ::
  rT (tV (.string (strB X))) ::
  rT (tV (.int .i64 ((X.length : Nat) : Int))) ::
  rT (tV (.int .i64 ((n : Nat) : Int))) ::
  rT (tV (.int .i64 ((X.length - n : Nat) : Int))) ::
  rT (tV (.string (strB (X.take (X.length - n))))) ::
  rT (tV (.string (strB ((X.take (X.length - n)) ++ ([46]))))) ::
  rT (tV (.string (strB X))) ::
  rT (tV (.string (strB X))) ::
  rT (tV (.int .i64 ((X.length : Nat) : Int))) ::
  rT (tV (.int .i64 ((n : Nat) : Int))) ::
  rT (tV (.int .i64 ((X.length - n : Nat) : Int))) ::
  rT (tV (.string (strB (X.drop (X.length - n))))) ::
  rT (tV (.string (strB (((X.take (X.length - n)) ++ ([46])) ++ (X.drop (X.length - n)))))) ::
  rT (tV (.string (strB (((X.take (X.length - n)) ++ ([46])) ++ (X.drop (X.length - n)))))) ::
  rT (tV (.bool true)) ::
  []) hz hd (by kernel_rfl) (by kernel_rfl) ?_ ?_
 refine ⟨?_, ?_, ?_, ?_, ?_, ?_, ?_, ?_, ?_, ?_, ?_, ?_, ?_, ?_, ?_, ?_, trivial⟩
 exact zMv hz (sv S9)
 exact zMv hz (sv S9)
 exact zB1len hz rfl (sd 1 rfl) (fun w => s_len w)
 exact zMv hz (sv S1)
 exact sBin rfl rfl rfl hz rfl (Gd.none_ rfl) rfl (sd 2 rfl) (sd 3 rfl) (fun w => n_sub hXn (dl_big hX3) w)
 exact zSlTo hz rfl (sd 0 rfl) (sd 4 rfl) (fun w => s_to (Nat.sub_le _ _) w)
 exact sBin rfl rfl rfl hz rfl (Gd.none_ rfl) rfl (sd 5 rfl) kc (fun w => s_cat (L := X.take (X.length - n)) (M := [46]) (dl_b hX3) rfl w)
 exact zMv hz (sv S9)
 exact zMv hz (sv S9)
 exact zB1len hz rfl (sd 8 rfl) (fun w => s_len w)
 exact zMv hz (sv S1)
 exact sBin rfl rfl rfl hz rfl (Gd.none_ rfl) rfl (sd 9 rfl) (sd 10 rfl) (fun w => n_sub hXn (dl_big hX3) w)
 exact zSlFrom hz rfl (sd 7 rfl) (sd 11 rfl) (fun w => s_from (Nat.sub_le _ _) w)
 exact sBin rfl rfl rfl hz rfl (Gd.none_ rfl) rfl (sd 6 rfl) (sd 12 rfl) (fun w => s_cat (L := (X.take (X.length - n)) ++ ([46])) (M := X.drop (X.length - n)) (dl_c hX3) rfl w)
 exact zAs hz (sd 13 rfl)
 exact zAs hz kc
 intro a' γ' W' hz' hd' hC hk hh
 clear S1
 clear S4
 clear S5
 clear S9
 clear S53
 have S4 := gotV hz' 14 hh rfl rfl rfl rfl
 have S5 := gotV hz' 15 hh rfl rfl rfl rfl
 replace HB := aft_call HB (RelC.below_nil hC)
 clear hC hk hh; replace hz := hz'; replace hd := hd'; clear hz' hd'
 refine wp_ret ?_
 refine ret_to (T := tT [tV (.string (strB (((X.take (X.length - n)) ++ ([46])) ++ (X.drop (X.length - n))))), tV (.bool true)]) (rett2 (by kernel_rfl) S4 S5 hd HB) ?_
 exact to2 (tV_to (congrArg (fun l => Value.string (strB l)) (by unfold decS; rw [if_neg hc11, eX]))) (tV_to rfl)
 refine region_text (M := []) (
  rT (tV (.int .i64 (cmpI ((p * 10 ^ n % q) * 2 ^ 1) q))) ::
  rT (tV (.bool false)) ::
  rT (tV (.bool false)) ::
  rT (tV (.int .i64 (cmpI ((p * 10 ^ n % q) * 2 ^ 1) q))) ::
  rT (tV (.bool false)) ::
  rT (tV (.bool false)) ::
  rT (tV undef) ::
  rT (tV undef) ::
  rT (tV (.bool false)) ::
  rT (tV (.bool false)) ::
  []) hz hd (by kernel_rfl) ?_ ?_
 refine ⟨?_, ?_, ?_, ?_, ?_, ?_, ?_, ?_, ?_, ?_, trivial⟩
 exact zMv hz (sv S8)
 exact sBin rfl rfl rfl hz rfl (Gd.none_ rfl) rfl (sd 0 rfl) kc (fun w => run_f (P := q < (p * 10 ^ n % q) * 2 ^ 1) ((fun w => run_cI_gtr ((p * 10 ^ n % q) * 2 ^ 1) q w) w) hc4)
 exact zMv hz (sd 1 rfl)
 exact zMv hz (sv S8) (g := gT 2 rfl)
 exact sBin rfl rfl rfl hz rfl (gT 2 rfl) rfl (sd 3 rfl) kc (fun w => run_f (P := (p * 10 ^ n % q) * 2 ^ 1 = q) ((fun w => run_cI_eql ((p * 10 ^ n % q) * 2 ^ 1) q w) w) hc7)
 exact zMv hz (sd 4 rfl) (g := gT 2 rfl)
 exact zSkU hz (gN 5 rfl)
 exact zSkU hz (gN 5 rfl)
 exact zPF hz (sd 5 rfl) kc (g := gT 2 rfl)
 exact zPF hz (sd 2 rfl) (sd 8 rfl)
 intro a' γ' W' hz' hd' hC hk hh
 have tp2 := Cp2.lt
 replace Cp2 := kC hC Cp2
 replace S1 := kp hk S1
 replace S4 := kp hk S4
 replace S5 := kp hk S5
 replace S6 := kp hk S6
 clear S8
 have S41 := gotV hz' 9 hh rfl rfl rfl rfl
 clear tp2
 replace HB := aft_call HB (RelC.below_nil hC)
 clear hC hk hh; replace hz := hz'; replace hd := hd'; clear hz' hd'
 refine wp_cond_false S41.ev ?_
 refine wp_skip ?_
 refine wp_seq ?_
 refine region_text (M := []) (
  rT (tN B32 (l + 1002) (p * 10 ^ n / q)) ::
  rT (tV (.string (strB (txt (rn (p * 10 ^ n) q))))) ::
  rT (tV (.string (strB (txt (rn (p * 10 ^ n) q))))) ::
  []) hz hd (by kernel_rfl) ?_ ?_
 refine ⟨?_, ?_, ?_, trivial⟩
 exact zLd hz (sv S6) Cp2 ld_n32
 exact zC1 hz Tryz.func79 (sd 0 rfl) (fun _ _ h0 => d_text_to (rn_no1' hc4 hc7) h0 (by rw [big_eq]; omega))
 exact zAs hz (sd 1 rfl)
 intro a' γ' W' hz' hd' hC hk hh
 have tp2 := Cp2.lt
 clear Cp2
 replace S1 := kp hk S1
 replace S4 := kp hk S4
 replace S5 := kp hk S5
 clear S6
 clear S41
 have S9 := gotV hz' 2 hh rfl rfl rfl rfl
 clear tp2
 replace HB := aft_call HB (RelC.below_nil hC)
 clear hC hk hh; replace hz := hz'; replace hd := hd'; clear hz' hd'
 refine wp_seq ?_
 refine wp_seq ?_
 refine region_text (M := []) (
  rT (tV (.int .i64 ((n : Nat) : Int))) ::
  rT (tV (.bool (decide (n = 0)))) ::
  []) hz hd (by kernel_rfl) ?_ ?_
 refine ⟨?_, ?_, trivial⟩
 exact zMv hz (sv S1)
 exact sBin rfl rfl rfl hz rfl (Gd.none_ rfl) rfl (sd 0 rfl) kc (fun w => n_eq0 w)
 intro a' γ' W' hz' hd' hC hk hh
 replace S1 := kp hk S1
 replace S4 := kp hk S4
 replace S5 := kp hk S5
 replace S9 := kp hk S9
 have S48 := gotV hz' 1 hh rfl rfl rfl rfl
 replace HB := aft_call HB (RelC.below_nil hC)
 clear hC hk hh; replace hz := hz'; replace hd := hd'; clear hz' hd'
 by_cases hc13 : n = 0
 rw [decide_eq_true hc13] at S48
 refine wp_cond_true S48.ev ?_
 refine wp_seq ?_
 refine region_text (M := []) (
  rT (tV (.string (strB (txt (rn (p * 10 ^ n) q))))) ::
  rT (tV (.string (strB (txt (rn (p * 10 ^ n) q))))) ::
  rT (tV (.bool true)) ::
  []) hz hd (by kernel_rfl) ?_ ?_
 refine ⟨?_, ?_, ?_, trivial⟩
 exact zMv hz (sv S9)
 exact zAs hz (sd 0 rfl)
 exact zAs hz kc
 intro a' γ' W' hz' hd' hC hk hh
 replace S1 := kp hk S1
 clear S4
 clear S5
 replace S9 := kp hk S9
 clear S48
 have S4 := gotV hz' 1 hh rfl rfl rfl rfl
 have S5 := gotV hz' 2 hh rfl rfl rfl rfl
 replace HB := aft_call HB (RelC.below_nil hC)
 clear hC hk hh; replace hz := hz'; replace hd := hd'; clear hz' hd'
 refine wp_ret ?_
 refine ret_to (T := tT [tV (.string (strB (txt (rn (p * 10 ^ n) q)))), tV (.bool true)]) (rett2 (by kernel_rfl) S4 S5 hd HB) ?_
 exact to2 (tV_to (congrArg (fun l => Value.string (strB l)) (by unfold decS; rw [if_pos hc13]))) (tV_to rfl)
 rw [decide_eq_false hc13] at S48
 refine wp_cond_false S48.ev ?_
 refine wp_skip ?_
 refine wp_seq ?_
 refine wp_block ?_
 rw [show txt (rn (p * 10 ^ n) q) = List.replicate 0 48 ++ txt (rn (p * 10 ^ n) q) from rfl] at S9
 refine wp_loop_ghost (fun k a W => ∃ (j : Nat), k = n + 1 - j ∧ a.tmps.size = 70 ∧ a.defers = [] ∧ Below w.heap.size w W ∧ Sl a 1 (.int .i64 ((n : Nat) : Int)) ∧ Sl a 4 (.string ⟨#[]⟩) ∧ Sl a 5 (.bool false) ∧ Sl a 9 (.string (strB (List.replicate j 48 ++ txt (rn (p * 10 ^ n) q)))) ∧ (j = 0 ∨ j + (txt (rn (p * 10 ^ n) q)).length ≤ n + 1)) _ ⟨0, rfl, hz, hd, HB, S1, S4, S5, S9, (Or.inl rfl)⟩ ?_
 clear S1 S4 S5 S9 S48 hz hd HB
 rintro k a W ⟨j, rfl, hz, hd, HB, S1, S4, S5, S9, hk⟩
 refine wp_seq ?_
 refine wp_seq ?_
 refine region_text (M := []) (
  rT (tV (.string (strB (List.replicate j 48 ++ txt (rn (p * 10 ^ n) q))))) ::
  rT (tV (.int .i64 (((List.replicate j 48 ++ txt (rn (p * 10 ^ n) q)).length : Nat) : Int))) ::
  rT (tV (.int .i64 ((n : Nat) : Int))) ::
  rT (tV (.bool (decide ((List.replicate j 48 ++ txt (rn (p * 10 ^ n) q)).length ≤ n)))) ::
  []) hz hd (by kernel_rfl) ?_ ?_
 refine ⟨?_, ?_, ?_, ?_, trivial⟩
 exact zMv hz (sv S9)
 exact zB1len hz rfl (sd 0 rfl) (fun w => s_len w)
 exact zMv hz (sv S1)
 exact sBin rfl rfl rfl hz rfl (Gd.none_ rfl) rfl (sd 1 rfl) (sd 2 rfl) (fun w => n_le w)
 intro a' γ' W' hz' hd' hC hk hh
 replace S1 := kp hk S1
 replace S4 := kp hk S4
 replace S5 := kp hk S5
 replace S9 := kp hk S9
 have S53 := gotV hz' 3 hh rfl rfl rfl rfl
 replace HB := aft_call HB (RelC.below_nil hC)
 clear hC hk hh; replace hz := hz'; replace hd := hd'; clear hz' hd'
 by_cases hc14 : (List.replicate j 48 ++ txt (rn (p * 10 ^ n) q)).length ≤ n
 rw [decide_eq_true hc14] at S53
 refine wp_cond_true S53.ev ?_
 refine wp_skip ?_
 refine wp_block ?_
 refine region_text (M := []) (
  rT (tV (.string (strB (List.replicate j 48 ++ txt (rn (p * 10 ^ n) q))))) ::
  rT (tV (.string (strB (([48]) ++ (List.replicate j 48 ++ txt (rn (p * 10 ^ n) q)))))) ::
  rT (tV (.string (strB (([48]) ++ (List.replicate j 48 ++ txt (rn (p * 10 ^ n) q)))))) ::
  []) hz hd (by kernel_rfl) ?_ ?_
 refine ⟨?_, ?_, ?_, trivial⟩
 exact zMv hz (sv S9)
 exact sBin rfl rfl rfl hz rfl (Gd.none_ rfl) rfl kc (sd 0 rfl) (fun w => s_cat (L := [48]) (M := List.replicate j 48 ++ txt (rn (p * 10 ^ n) q)) (by have := pad_len hk hn hT; rw [List.length_singleton]; omega) rfl w)
 exact zAs hz (sd 1 rfl)
 intro a' γ' W' hz' hd' hC hk hh
 replace S1 := kp hk S1
 replace S4 := kp hk S4
 replace S5 := kp hk S5
 clear S9
 replace S53 := kp hk S53
 have S9 := gotV hz' 2 hh rfl rfl rfl rfl
 replace HB := aft_call HB (RelC.below_nil hC)
 clear hC hk hh; replace hz := hz'; replace hd := hd'; clear hz' hd'
 rw [rep_next] at S9
 have hk2 := hc14
 rw [List.length_append, List.length_replicate] at hk2
 show ∃ n', n' < _ ∧ _
 refine ⟨_, ?_, j + 1, rfl, hz, hd, HB, S1, S4, S5, S9, (by omega)⟩
 have hk2 := (by assumption : (List.replicate j 48 ++ txt (rn (p * 10 ^ n) q)).length ≤ n); rw [List.length_append, List.length_replicate] at hk2; omega
 rw [decide_eq_false hc14] at S53
 refine wp_cond_false S53.ev ?_
 refine wp_exit ?_
 refine wp_seq ?_
 have hpad := pad_is hk hc14
 have hX3 := pad_len hk hn hT
 rw [hpad] at S9 hX3
 obtain ⟨X, eX⟩ : ∃ X, padT (rn (p * 10 ^ n) q) n = X := ⟨_, rfl⟩
 have hXn : n ≤ X.length := by rw [← eX]; exact Nat.le_of_lt (padT_len _ _)
 rw [eX] at S9 hX3
 clear hpad
 refine region_drawn (M := []) (
  rT (tV (.string (strB X))) ::
  rT (tV (.string (strB X))) ::
  rT (tV (.int .i64 ((X.length : Nat) : Int))) ::
  rT (tV (.int .i64 ((n : Nat) : Int))) ::
  rT (tV (.int .i64 ((X.length - n : Nat) : Int))) ::
  rT (tV (.string (strB (X.take (X.length - n))))) ::
  rT (tV (.string (strB ((X.take (X.length - n)) ++ ([46]))))) ::
  rT (tV (.string (strB X))) ::
  rT (tV (.string (strB X))) ::
  rT (tV (.int .i64 ((X.length : Nat) : Int))) ::
  rT (tV (.int .i64 ((n : Nat) : Int))) ::
  rT (tV (.int .i64 ((X.length - n : Nat) : Int))) ::
  rT (tV (.string (strB (X.drop (X.length - n))))) ::
  rT (tV (.string (strB (((X.take (X.length - n)) ++ ([46])) ++ (X.drop (X.length - n)))))) ::
  rT (tV (.string (strB (((X.take (X.length - n)) ++ ([46])) ++ (X.drop (X.length - n)))))) ::
  rT (tV (.bool true)) ::
  []) hz hd (by kernel_rfl) (by kernel_rfl) ?_ ?_
 refine ⟨?_, ?_, ?_, ?_, ?_, ?_, ?_, ?_, ?_, ?_, ?_, ?_, ?_, ?_, ?_, ?_, trivial⟩
 exact zMv hz (sv S9)
 exact zMv hz (sv S9)
 exact zB1len hz rfl (sd 1 rfl) (fun w => s_len w)
 exact zMv hz (sv S1)
 exact sBin rfl rfl rfl hz rfl (Gd.none_ rfl) rfl (sd 2 rfl) (sd 3 rfl) (fun w => n_sub hXn (dl_big hX3) w)
 exact zSlTo hz rfl (sd 0 rfl) (sd 4 rfl) (fun w => s_to (Nat.sub_le _ _) w)
 exact sBin rfl rfl rfl hz rfl (Gd.none_ rfl) rfl (sd 5 rfl) kc (fun w => s_cat (L := X.take (X.length - n)) (M := [46]) (dl_b hX3) rfl w)
 exact zMv hz (sv S9)
 exact zMv hz (sv S9)
 exact zB1len hz rfl (sd 8 rfl) (fun w => s_len w)
 exact zMv hz (sv S1)
 exact sBin rfl rfl rfl hz rfl (Gd.none_ rfl) rfl (sd 9 rfl) (sd 10 rfl) (fun w => n_sub hXn (dl_big hX3) w)
 exact zSlFrom hz rfl (sd 7 rfl) (sd 11 rfl) (fun w => s_from (Nat.sub_le _ _) w)
 exact sBin rfl rfl rfl hz rfl (Gd.none_ rfl) rfl (sd 6 rfl) (sd 12 rfl) (fun w => s_cat (L := (X.take (X.length - n)) ++ ([46])) (M := X.drop (X.length - n)) (dl_c hX3) rfl w)
 exact zAs hz (sd 13 rfl)
 exact zAs hz kc
 intro a' γ' W' hz' hd' hC hk hh
 clear S1
 clear S4
 clear S5
 clear S9
 clear S53
 have S4 := gotV hz' 14 hh rfl rfl rfl rfl
 have S5 := gotV hz' 15 hh rfl rfl rfl rfl
 replace HB := aft_call HB (RelC.below_nil hC)
 clear hC hk hh; replace hz := hz'; replace hd := hd'; clear hz' hd'
 refine wp_ret ?_
 refine ret_to (T := tT [tV (.string (strB (((X.take (X.length - n)) ++ ([46])) ++ (X.drop (X.length - n))))), tV (.bool true)]) (rett2 (by kernel_rfl) S4 S5 hd HB) ?_
 exact to2 (tV_to (congrArg (fun l => Value.string (strB l)) (by unfold decS; rw [if_neg hc13, eX]))) (tV_to rfl)

set_option maxRecDepth 10000 in
set_option maxHeartbeats 2000000 in
theorem c_decimal_no1 {l : Nat} {n : Int} {x : Rat} {v0 : Value} {w : World} (h0 : (tQ B64 l x).p v0 w) (hn : n < 0) :
    Calls Tryz.prog 29 #[v0, .int .i64 (n)] w (Ret (tT [tV (.string (strB [])), tV (.bool false)]) w) := by
 refine enter Tryz.func29 rfl Tryz.ntmps29 (by simp) ?_
 intro a hz hd ha
 have S0 := ha 0 _ rfl
 have H0 := h0
 have S1 := ha 1 _ rfl
 clear ha
 have HB : Below w.heap.size w w := Below.refl _ _
 refine wp_seq ?_
 refine region_text (M := []) (
  rB 0 28 (tQ B64 l x) none 0 ::
  rT (tV (.string ⟨#[]⟩)) ::
  rT (tV (.bool false)) ::
  []) hz hd (by kernel_rfl) ?_ ?_
 refine ⟨?_, ?_, ?_, trivial⟩
 exact zBox hz (so S0 H0) box_q64
 exact zAs hz kc
 exact zAs hz kc
 intro a' γ' W' hz' hd' hC hk hh
 clear S0 H0
 replace S1 := kp hk S1
 obtain ⟨p1, S2, Cp1, lp1, gp1⟩ := gotB hz' 0 hC hh rfl rfl rfl rfl rfl rfl
 have S4 := gotV hz' 1 hh rfl rfl rfl rfl
 have S5 := gotV hz' 2 hh rfl rfl rfl rfl
 clear lp1 gp1
 replace HB := aft_call HB (RelC.below_nil hC)
 clear hC hk hh; replace hz := hz'; replace hd := hd'; clear hz' hd'
 refine wp_seq ?_
 refine wp_seq ?_
 have hc2 : n < 0 := hn
 refine region_text (M := []) (
  rT (tV (.int .i64 (n))) ::
  rT (tV (.bool true)) ::
  rT (tV (.bool true)) ::
  rT (tV undef) ::
  rT (tV undef) ::
  rT (tV (.bool true)) ::
  []) hz hd (by kernel_rfl) ?_ ?_
 refine ⟨?_, ?_, ?_, ?_, ?_, ?_, trivial⟩
 exact zMv hz (sv S1)
 exact sBin rfl rfl rfl hz rfl (Gd.none_ rfl) rfl (sd 0 rfl) kc (fun w => run_t (P := n < 0) ((fun w => run_lss) w) hc2)
 exact zMv hz (sd 1 rfl)
 exact zSkU hz (gN 2 rfl)
 exact zSkU hz (gN 2 rfl)
 exact zPT hz (sd 2 rfl) kc
 intro a' γ' W' hz' hd' hC hk hh
 replace Cp1 := kC hC Cp1
 replace S1 := kp hk S1
 replace S2 := kp hk S2
 replace S4 := kp hk S4
 replace S5 := kp hk S5
 have S18 := gotV hz' 5 hh rfl rfl rfl rfl
 replace HB := aft_call HB (RelC.below_nil hC)
 clear hC hk hh; replace hz := hz'; replace hd := hd'; clear hz' hd'
 refine wp_cond_true S18.ev ?_
 refine wp_seq ?_
 refine region_text (M := []) (
  rT (tV (.string ⟨#[]⟩)) ::
  rT (tV (.bool false)) ::
  []) hz hd (by kernel_rfl) ?_ ?_
 refine ⟨?_, ?_, trivial⟩
 exact zAs hz kc
 exact zAs hz kc
 intro a' γ' W' hz' hd' hC hk hh
 replace Cp1 := kC hC Cp1
 replace S1 := kp hk S1
 replace S2 := kp hk S2
 clear S4
 clear S5
 clear S18
 have S4 := gotV hz' 0 hh rfl rfl rfl rfl
 have S5 := gotV hz' 1 hh rfl rfl rfl rfl
 replace HB := aft_call HB (RelC.below_nil hC)
 clear hC hk hh; replace hz := hz'; replace hd := hd'; clear hz' hd'
 refine wp_ret ?_
 refine ret_to (T := tT [tV (.string ⟨#[]⟩), tV (.bool false)]) (rett2 (by kernel_rfl) S4 S5 hd HB) ?_
 exact to2 (tV_to rfl) (tV_to rfl)

set_option maxRecDepth 10000 in
set_option maxHeartbeats 2000000 in
theorem c_decimal_no2 {l : Nat} {n : Int} {x : Rat} {v0 : Value} {w : World} (h0 : (tQ B64 l x).p v0 w) (hn : 100 < n) :
    Calls Tryz.prog 29 #[v0, .int .i64 (n)] w (Ret (tT [tV (.string (strB [])), tV (.bool false)]) w) := by
 refine enter Tryz.func29 rfl Tryz.ntmps29 (by simp) ?_
 intro a hz hd ha
 have S0 := ha 0 _ rfl
 have H0 := h0
 have S1 := ha 1 _ rfl
 clear ha
 have HB : Below w.heap.size w w := Below.refl _ _
 refine wp_seq ?_
 refine region_text (M := []) (
  rB 0 28 (tQ B64 l x) none 0 ::
  rT (tV (.string ⟨#[]⟩)) ::
  rT (tV (.bool false)) ::
  []) hz hd (by kernel_rfl) ?_ ?_
 refine ⟨?_, ?_, ?_, trivial⟩
 exact zBox hz (so S0 H0) box_q64
 exact zAs hz kc
 exact zAs hz kc
 intro a' γ' W' hz' hd' hC hk hh
 clear S0 H0
 replace S1 := kp hk S1
 obtain ⟨p1, S2, Cp1, lp1, gp1⟩ := gotB hz' 0 hC hh rfl rfl rfl rfl rfl rfl
 have S4 := gotV hz' 1 hh rfl rfl rfl rfl
 have S5 := gotV hz' 2 hh rfl rfl rfl rfl
 clear lp1 gp1
 replace HB := aft_call HB (RelC.below_nil hC)
 clear hC hk hh; replace hz := hz'; replace hd := hd'; clear hz' hd'
 refine wp_seq ?_
 refine wp_seq ?_
 have hc2 : ¬ (n < 0) := (by omega)
 refine region_text (M := []) (
  rT (tV (.int .i64 (n))) ::
  rT (tV (.bool false)) ::
  rT (tV (.bool false)) ::
  rT (tV (.int .i64 (n))) ::
  rT (tV (.bool (decide (100 < n)))) ::
  rT (tV (.bool (decide (100 < n)))) ::
  []) hz hd (by kernel_rfl) ?_ ?_
 refine ⟨?_, ?_, ?_, ?_, ?_, ?_, trivial⟩
 exact zMv hz (sv S1)
 exact sBin rfl rfl rfl hz rfl (Gd.none_ rfl) rfl (sd 0 rfl) kc (fun w => run_f (P := n < 0) ((fun w => run_lss) w) hc2)
 exact zMv hz (sd 1 rfl)
 exact zMv hz (sv S1) (g := gT 2 rfl)
 exact sBin rfl rfl rfl hz rfl (gT 2 rfl) rfl (sd 3 rfl) kc (fun w => run_gtr)
 exact zPF hz (sd 2 rfl) (sd 4 rfl)
 intro a' γ' W' hz' hd' hC hk hh
 replace Cp1 := kC hC Cp1
 replace S1 := kp hk S1
 replace S2 := kp hk S2
 replace S4 := kp hk S4
 replace S5 := kp hk S5
 have S18 := gotV hz' 5 hh rfl rfl rfl rfl
 replace HB := aft_call HB (RelC.below_nil hC)
 clear hC hk hh; replace hz := hz'; replace hd := hd'; clear hz' hd'
 have hc3 : 100 < n := hn
 rw [decide_eq_true hc3] at S18
 refine wp_cond_true S18.ev ?_
 refine wp_seq ?_
 refine region_text (M := []) (
  rT (tV (.string ⟨#[]⟩)) ::
  rT (tV (.bool false)) ::
  []) hz hd (by kernel_rfl) ?_ ?_
 refine ⟨?_, ?_, trivial⟩
 exact zAs hz kc
 exact zAs hz kc
 intro a' γ' W' hz' hd' hC hk hh
 replace Cp1 := kC hC Cp1
 replace S1 := kp hk S1
 replace S2 := kp hk S2
 clear S4
 clear S5
 clear S18
 have S4 := gotV hz' 0 hh rfl rfl rfl rfl
 have S5 := gotV hz' 1 hh rfl rfl rfl rfl
 replace HB := aft_call HB (RelC.below_nil hC)
 clear hC hk hh; replace hz := hz'; replace hd := hd'; clear hz' hd'
 refine wp_ret ?_
 refine ret_to (T := tT [tV (.string ⟨#[]⟩), tV (.bool false)]) (rett2 (by kernel_rfl) S4 S5 hd HB) ?_
 exact to2 (tV_to rfl) (tV_to rfl)

set_option maxRecDepth 10000 in
set_option maxHeartbeats 2000000 in
theorem d_decimal_no1 {l p q : Nat} {n : Int} {v0 : Value} {w : World} (h0 : (tR B32 l l p q).p v0 w) (hn : n < 0) :
    Calls Tryz.prog 30 #[v0, .int .i64 (n)] w (Ret (tT [tV (.string (strB [])), tV (.bool false)]) w) := by
 refine enter Tryz.func30 rfl Tryz.ntmps30 (by simp) ?_
 intro a hz hd ha
 have S0 := ha 0 _ rfl
 have H0 := h0
 have S1 := ha 1 _ rfl
 clear ha
 have HB : Below w.heap.size w w := Below.refl _ _
 refine wp_seq ?_
 refine region_text (M := []) (
  rB 0 32 (tR B32 l l p q) none 0 ::
  rT (tV (.string ⟨#[]⟩)) ::
  rT (tV (.bool false)) ::
  []) hz hd (by kernel_rfl) ?_ ?_
 refine ⟨?_, ?_, ?_, trivial⟩
 exact zBox hz (so S0 H0) box_r32
 exact zAs hz kc
 exact zAs hz kc
 intro a' γ' W' hz' hd' hC hk hh
 clear S0 H0
 replace S1 := kp hk S1
 obtain ⟨p1, S2, Cp1, lp1, gp1⟩ := gotB hz' 0 hC hh rfl rfl rfl rfl rfl rfl
 have S4 := gotV hz' 1 hh rfl rfl rfl rfl
 have S5 := gotV hz' 2 hh rfl rfl rfl rfl
 clear lp1 gp1
 replace HB := aft_call HB (RelC.below_nil hC)
 clear hC hk hh; replace hz := hz'; replace hd := hd'; clear hz' hd'
 refine wp_seq ?_
 refine wp_seq ?_
 have hc2 : n < 0 := hn
 refine region_text (M := []) (
  rT (tV (.int .i64 (n))) ::
  rT (tV (.bool true)) ::
  rT (tV (.bool true)) ::
  rT (tV undef) ::
  rT (tV undef) ::
  rT (tV (.bool true)) ::
  []) hz hd (by kernel_rfl) ?_ ?_
 refine ⟨?_, ?_, ?_, ?_, ?_, ?_, trivial⟩
 exact zMv hz (sv S1)
 exact sBin rfl rfl rfl hz rfl (Gd.none_ rfl) rfl (sd 0 rfl) kc (fun w => run_t (P := n < 0) ((fun w => run_lss) w) hc2)
 exact zMv hz (sd 1 rfl)
 exact zSkU hz (gN 2 rfl)
 exact zSkU hz (gN 2 rfl)
 exact zPT hz (sd 2 rfl) kc
 intro a' γ' W' hz' hd' hC hk hh
 replace Cp1 := kC hC Cp1
 replace S1 := kp hk S1
 replace S2 := kp hk S2
 replace S4 := kp hk S4
 replace S5 := kp hk S5
 have S15 := gotV hz' 5 hh rfl rfl rfl rfl
 replace HB := aft_call HB (RelC.below_nil hC)
 clear hC hk hh; replace hz := hz'; replace hd := hd'; clear hz' hd'
 refine wp_cond_true S15.ev ?_
 refine wp_seq ?_
 refine region_text (M := []) (
  rT (tV (.string ⟨#[]⟩)) ::
  rT (tV (.bool false)) ::
  []) hz hd (by kernel_rfl) ?_ ?_
 refine ⟨?_, ?_, trivial⟩
 exact zAs hz kc
 exact zAs hz kc
 intro a' γ' W' hz' hd' hC hk hh
 replace Cp1 := kC hC Cp1
 replace S1 := kp hk S1
 replace S2 := kp hk S2
 clear S4
 clear S5
 clear S15
 have S4 := gotV hz' 0 hh rfl rfl rfl rfl
 have S5 := gotV hz' 1 hh rfl rfl rfl rfl
 replace HB := aft_call HB (RelC.below_nil hC)
 clear hC hk hh; replace hz := hz'; replace hd := hd'; clear hz' hd'
 refine wp_ret ?_
 refine ret_to (T := tT [tV (.string ⟨#[]⟩), tV (.bool false)]) (rett2 (by kernel_rfl) S4 S5 hd HB) ?_
 exact to2 (tV_to rfl) (tV_to rfl)

set_option maxRecDepth 10000 in
set_option maxHeartbeats 2000000 in
theorem d_decimal_no2 {l p q : Nat} {n : Int} {v0 : Value} {w : World} (h0 : (tR B32 l l p q).p v0 w) (hn : 100 < n) :
    Calls Tryz.prog 30 #[v0, .int .i64 (n)] w (Ret (tT [tV (.string (strB [])), tV (.bool false)]) w) := by
 refine enter Tryz.func30 rfl Tryz.ntmps30 (by simp) ?_
 intro a hz hd ha
 have S0 := ha 0 _ rfl
 have H0 := h0
 have S1 := ha 1 _ rfl
 clear ha
 have HB : Below w.heap.size w w := Below.refl _ _
 refine wp_seq ?_
 refine region_text (M := []) (
  rB 0 32 (tR B32 l l p q) none 0 ::
  rT (tV (.string ⟨#[]⟩)) ::
  rT (tV (.bool false)) ::
  []) hz hd (by kernel_rfl) ?_ ?_
 refine ⟨?_, ?_, ?_, trivial⟩
 exact zBox hz (so S0 H0) box_r32
 exact zAs hz kc
 exact zAs hz kc
 intro a' γ' W' hz' hd' hC hk hh
 clear S0 H0
 replace S1 := kp hk S1
 obtain ⟨p1, S2, Cp1, lp1, gp1⟩ := gotB hz' 0 hC hh rfl rfl rfl rfl rfl rfl
 have S4 := gotV hz' 1 hh rfl rfl rfl rfl
 have S5 := gotV hz' 2 hh rfl rfl rfl rfl
 clear lp1 gp1
 replace HB := aft_call HB (RelC.below_nil hC)
 clear hC hk hh; replace hz := hz'; replace hd := hd'; clear hz' hd'
 refine wp_seq ?_
 refine wp_seq ?_
 have hc2 : ¬ (n < 0) := (by omega)
 refine region_text (M := []) (
  rT (tV (.int .i64 (n))) ::
  rT (tV (.bool false)) ::
  rT (tV (.bool false)) ::
  rT (tV (.int .i64 (n))) ::
  rT (tV (.bool (decide (100 < n)))) ::
  rT (tV (.bool (decide (100 < n)))) ::
  []) hz hd (by kernel_rfl) ?_ ?_
 refine ⟨?_, ?_, ?_, ?_, ?_, ?_, trivial⟩
 exact zMv hz (sv S1)
 exact sBin rfl rfl rfl hz rfl (Gd.none_ rfl) rfl (sd 0 rfl) kc (fun w => run_f (P := n < 0) ((fun w => run_lss) w) hc2)
 exact zMv hz (sd 1 rfl)
 exact zMv hz (sv S1) (g := gT 2 rfl)
 exact sBin rfl rfl rfl hz rfl (gT 2 rfl) rfl (sd 3 rfl) kc (fun w => run_gtr)
 exact zPF hz (sd 2 rfl) (sd 4 rfl)
 intro a' γ' W' hz' hd' hC hk hh
 replace Cp1 := kC hC Cp1
 replace S1 := kp hk S1
 replace S2 := kp hk S2
 replace S4 := kp hk S4
 replace S5 := kp hk S5
 have S15 := gotV hz' 5 hh rfl rfl rfl rfl
 replace HB := aft_call HB (RelC.below_nil hC)
 clear hC hk hh; replace hz := hz'; replace hd := hd'; clear hz' hd'
 have hc3 : 100 < n := hn
 rw [decide_eq_true hc3] at S15
 refine wp_cond_true S15.ev ?_
 refine wp_seq ?_
 refine region_text (M := []) (
  rT (tV (.string ⟨#[]⟩)) ::
  rT (tV (.bool false)) ::
  []) hz hd (by kernel_rfl) ?_ ?_
 refine ⟨?_, ?_, trivial⟩
 exact zAs hz kc
 exact zAs hz kc
 intro a' γ' W' hz' hd' hC hk hh
 replace Cp1 := kC hC Cp1
 replace S1 := kp hk S1
 replace S2 := kp hk S2
 clear S4
 clear S5
 clear S15
 have S4 := gotV hz' 0 hh rfl rfl rfl rfl
 have S5 := gotV hz' 1 hh rfl rfl rfl rfl
 replace HB := aft_call HB (RelC.below_nil hC)
 clear hC hk hh; replace hz := hz'; replace hd := hd'; clear hz' hd'
 refine wp_ret ?_
 refine ret_to (T := tT [tV (.string ⟨#[]⟩), tV (.bool false)]) (rett2 (by kernel_rfl) S4 S5 hd HB) ?_
 exact to2 (tV_to rfl) (tV_to rfl)

section

variable {l p q : Nat} {x : Rat} {v : Value} {w : World} {z : Int}
theorem c_decimal_z (h : (tQ B64 l x).p v w) (hp : x.num.toNat = p) (hq : x.den = q) (hl : l ≤ 1000000) : Calls Tryz.prog 29 #[v, .int .i64 z] w (Ret (tT [tV (.string (strB (decR p q z))), tV (.bool (decOk z))]) w) := by
  unfold decR decOk
  by_cases h1 : z < 0
  · rw [if_pos (Or.inl h1), decide_eq_true (Or.inl h1)]; exact c_decimal_no1 h h1
  · by_cases h2 : 100 < z
    · rw [if_pos (Or.inr h2), decide_eq_true (Or.inr h2)]; exact c_decimal_no2 h h2
    · rw [if_neg (by omega), decide_eq_false (by omega)]
      have := c_decimal (n := z.toNat) h hp hq hl (by omega)
      rw [show ((z.toNat : Nat) : Int) = z by omega] at this; exact this
theorem d_decimal_z (h : (tR B32 l l p q).p v w) (hq : 0 < q) (hl : l ≤ 1000000) (hpl : bl p ≤ l) : Calls Tryz.prog 30 #[v, .int .i64 z] w (Ret (tT [tV (.string (strB (decR p q z))), tV (.bool (decOk z))]) w) := by
  unfold decR decOk
  by_cases h1 : z < 0
  · rw [if_pos (Or.inl h1), decide_eq_true (Or.inl h1)]; exact d_decimal_no1 h h1
  · by_cases h2 : 100 < z
    · rw [if_pos (Or.inr h2), decide_eq_true (Or.inr h2)]; exact d_decimal_no2 h h2
    · rw [if_neg (by omega), decide_eq_false (by omega)]
      have := d_decimal (n := z.toNat) h hq hl hpl (by omega)
      rw [show ((z.toNat : Nat) : Int) = z by omega] at this; exact this
end

end Go.Proofs.YtfgnleoaibcegaaGreat.Rg

namespace Go.Proofs.YtfgnleoaibcegaaGreat.Rg

open Go.RowKit

theorem bat_take3 {w : World} {A : Option Addr} {n c k : Nat} {l : List Nat} (h : BAt w A n c l) (hk : k ≤ n) : BAt w A k c (l.take k) := by
  refine ⟨⟨by rw [bv_length, List.length_take, h.len]; omega, fun hk0 => ?_⟩, fun d hd => h.byte d (List.mem_of_mem_take hd)⟩
  obtain ⟨ad, e, hlt, hc⟩ := h.reads.2 (by omega)
  refine ⟨ad, e, hlt, fun j u hu => hc j u ?_⟩
  have hj : j < k := by have := (List.getElem?_eq_some_iff.1 hu).1; rw [bv_length, List.length_take] at this; omega
  unfold bv at hu ⊢
  rw [List.map_take, List.getElem?_take_of_lt hj] at hu
  exact hu
set_option maxHeartbeats 400000 in
theorem cut3_any (A : Option Addr) (n c : Nat) (l : List Nat) (w : World) (h : BAt w A n c l) (hnc : n ≤ c) :
    Calls Tryz.prog 38 #[.slice A n c] w fun e w' => ∃ n1, e = .returned (.slice A n1 c) ∧ BAt w' A n1 c (l.take 300) ∧ n1 ≤ 300 ∧ n1 ≤ c ∧ w = w' := by
  by_cases hn : n ≤ 300
  · have hl : l.take 300 = l := List.take_of_length_le (by rw [h.len]; exact hn)
    have b1 : decide ((300 : Int) < (n : Int)) = false := decide_eq_false (by omega)
    rw [hl]
    have H := Lib.hid h
    clear h
    go_enter Tryz.func38, Tryz.ntmps38
    go_wp2_with fail
    go_ret
    exact ⟨n, rfl, H.out, hn, hnc, rfl⟩
  · have hb := bat_take3 h (show 300 ≤ n by omega)
    have b1 : decide ((300 : Int) < (n : Int)) = true := decide_eq_true (by omega)
    have b2 : (300 : Int) ≤ (c : Int) := by omega
    have H := Lib.hid hb
    clear hb h
    go_enter Tryz.func38, Tryz.ntmps38
    go_wp2_with fail
    go_ret
    exact ⟨300, rfl, H.out, by omega, by omega, rfl⟩
theorem l_cut3 {lim : Nat} {l : List Nat} {v1 : Value} {w : World} (h1 : (tBy lim l).p v1 w) :
    Calls Tryz.prog 38 #[v1] w (Ret (tBy 300 (l.take 300)) w) := by
  obtain ⟨A, n, c, rfl, h, h2, -⟩ := h1
  refine (cut3_any A n c l w h h2).mono ?_
  rintro e w' ⟨k, rfl, hd, hk, hkc, rfl⟩
  exact ⟨_, rfl, ⟨A, k, c, rfl, hd, hkc, hk⟩, Below.refl _ _⟩
theorem bev_bits3 {l : List Nat} {m : Nat} (hm : 2400 ≤ m) (h : ∀ d ∈ l, d < 256) : bev (l.take 300) < 2 ^ m := by
  refine Nat.lt_of_lt_of_le (bev_lt fun d hd => h d (List.mem_of_mem_take hd)) ?_
  rw [show (256 : Nat) = 2 ^ 8 from rfl, ← Nat.pow_mul]
  exact Nat.pow_le_pow_right (by omega) (by have := List.length_take_le 300 l; omega)
theorem tBy_bits3 {v : Value} {w : World} {m lim : Nat} {l : List Nat} (hm : 2400 ≤ m) (h : (tBy lim l).p v w) : bev (l.take 300) < 2 ^ m := by
  obtain ⟨A, n, c, rfl, h, -, -⟩ := h
  exact bev_bits3 hm h.byte
theorem one_2400 {m : Nat} (hm : 2400 ≤ m) : 1 < 2 ^ m := Nat.one_lt_two_pow (by omega)
/-- The fraction that is made of two rows of bytes. -/
def mk3 (l k : List Nat) : Rat := mkRat (bev (l.take 300)) (und (bev (k.take 300)))
theorem ret2_q {fn : Func} {w0 : World} {a : Act} {w : World} {t1 t2 p1 p2 l1 l2 : Nat} {x1 x2 : Rat} (h : fn.results = #[.cell t1 28, .cell t2 32]) (s1 : Sl a t1 (.pointer (some ⟨p1, 0, none⟩))) (s2 : Sl a t2 (.pointer (some ⟨p2, 0, none⟩))) (hdf : a.defers = [])
    (c1 : Cell 28 (tQ B64 l1 x1) p1 w) (c2 : Cell 32 (tQ B32 l2 x2) p2 w) (hb : Below w0.heap.size w0 w) : bodyPost Tryz.prog fn (Ret (tT [tQ B64 l1 x1, tQ B32 l2 x2]) w0) .ret a w := by
  obtain ⟨v1, b1, h1⟩ := c1
  obtain ⟨v2, b2, h2⟩ := c2
  refine bodyPost_ret (v := .tuple #[v1, v2]) ?_ hdf ⟨_, rfl, ⟨[v1, v2], rfl, h1, h2, trivial⟩, hb⟩
  obtain ⟨p, q, ⟨A, n, c, A2, n2, c2, rfl, -⟩, -⟩ := h1
  obtain ⟨p', q', ⟨A', n', c', A3, n3, c3, rfl, -⟩, -⟩ := h2
  have e1 := b1.cell 0
  have e2 := b2.cell 0
  have e3 := b1.cell 1
  have e4 := b2.cell 1
  unfold Sl at s1 s2
  simp [Value.cells] at e1 e2 e3 e4
  simp [results, h, go_sem, s1, s2, e1, e2, e3, e4]

set_option maxRecDepth 10000 in
set_option maxHeartbeats 2000000 in
theorem l_made3 {m : Nat} {l k : List Nat} {v0 v1 : Value} {w : World} (h0 : (tBy 9223372036854775807 l).p v0 w) (h1 : (tBy 9223372036854775807 k).p v1 w) (hm : 2400 ≤ m) :
    Calls Tryz.prog 7 #[v0, v1] w (Ret (tT [tQ B64 m (mk3 l k), tQ B32 m (mk3 l k)]) w) := by
 refine enter Tryz.func7 rfl Tryz.ntmps7 (by simp) ?_
 intro a hz hd ha
 have S0 := ha 0 _ rfl
 have H0 := h0
 have S1 := ha 1 _ rfl
 have H1 := h1
 clear ha
 have HB : Below w.heap.size w w := Below.refl _ _
 have hP := Lib.hid (tBy_bits3 hm h0)
 have hQ := Lib.hid (tBy_bits3 hm h1)
 refine wp_seq ?_
 refine region_text (M := []) (
  rB 0 28 (tQ B64 1 0) none 0 ::
  rB 1 32 (tR B32 0 0 0 0) none 0 ::
  []) hz hd (by kernel_rfl) ?_ ?_
 refine ⟨?_, ?_, trivial⟩
 exact zNew hz (fun _ => tQ_nil) al_r64
 exact zNew hz (fun _ => tR_nil) al_r32
 intro a' γ' W' hz' hd' hC hk hh
 replace S0 := kp hk S0
 replace H0 := Ty.aft _ H0 hC
 replace S1 := kp hk S1
 replace H1 := Ty.aft _ H1 hC
 obtain ⟨p1, S4, Cp1, lp1, gp1⟩ := gotB hz' 0 hC hh rfl rfl rfl rfl rfl rfl
 obtain ⟨p2, S5, Cp2, lp2, gp2⟩ := gotB hz' 1 hC hh rfl rfl rfl rfl rfl rfl
 have n_p1_p2 : p1 ≠ p2 := by intro e; rw [e, gp2] at gp1; omega
 have n_p2_p1 : p2 ≠ p1 := by intro e; rw [e, gp1] at gp2; omega
 have bp1 : w.heap.size ≤ p1 := Nat.le_trans HB.size lp1
 have bp2 : w.heap.size ≤ p2 := Nat.le_trans HB.size lp2
 clear lp1 gp1 lp2 gp2
 replace HB := aft_call HB (RelC.below_nil hC)
 clear hC hk hh; replace hz := hz'; replace hd := hd'; clear hz' hd'
 refine wp_seq ?_
 refine region_text (M := []) (
  rT (tBy 9223372036854775807 l) ::
  rT (tBy 300 (l.take 300)) ::
  rT (tBy 9223372036854775807 k) ::
  rT (tBy 300 (k.take 300)) ::
  rT (tBy 300 (l.take 300)) ::
  rT (tBy 300 (k.take 300)) ::
  []) hz hd (by kernel_rfl) ?_ ?_
 refine ⟨?_, ?_, ?_, ?_, ?_, ?_, trivial⟩
 exact zMv hz (so S0 H0)
 exact zC1 hz Tryz.func38 (sd 0 rfl) (fun _ _ h0 => l_cut3 h0)
 exact zMv hz (so S1 H1)
 exact zC1 hz Tryz.func38 (sd 2 rfl) (fun _ _ h0 => l_cut3 h0)
 exact zAs hz (sd 1 rfl)
 exact zAs hz (sd 3 rfl)
 intro a' γ' W' hz' hd' hC hk hh
 have tp1 := Cp1.lt
 replace Cp1 := kC hC Cp1
 have tp2 := Cp2.lt
 replace Cp2 := kC hC Cp2
 clear S0 H0
 clear S1 H1
 replace S4 := kp hk S4
 replace S5 := kp hk S5
 obtain ⟨v0, S0, H0⟩ := got hz' 4 hh rfl rfl rfl rfl
 obtain ⟨v1, S1, H1⟩ := got hz' 5 hh rfl rfl rfl rfl
 clear tp1 tp2
 replace HB := aft_call HB (RelC.below_nil hC)
 clear hC hk hh; replace hz := hz'; replace hd := hd'; clear hz' hd'
 refine wp_seq ?_
 refine region_text (M := []) (
  rT (tBy 300 (l.take 300)) ::
  rT (tN B64 300 (bev (l.take 300))) ::
  rT (tBy 300 (k.take 300)) ::
  rT (tN B64 300 (bev (k.take 300))) ::
  rT (tT [tQ B64 m (mkRat (bev (l.take 300)) (bev (k.take 300))), tV (.bool (decide (bev (k.take 300) ≠ 0)))]) ::
  rT (tT [tQ B64 m (mkRat (bev (l.take 300)) (bev (k.take 300))), tV (.bool (decide (bev (k.take 300) ≠ 0)))]) ::
  rT (tQ B64 m (mkRat (bev (l.take 300)) (bev (k.take 300)))) ::
  rT (tV (.bool (decide (bev (k.take 300) ≠ 0)))) ::
  rVar 8 28 2 ::
  rB 8 28 (tQ B64 m (mkRat (bev (l.take 300)) (bev (k.take 300)))) (some 8) 9 ::
  rT (tV (.bool (decide (bev (k.take 300) ≠ 0)))) ::
  []) hz hd (by kernel_rfl) ?_ ?_
 refine ⟨?_, ?_, ?_, ?_, ?_, ?_, ?_, ?_, ?_, ?_, ?_, trivial⟩
 exact zMv hz (so S0 H0)
 exact zC1 hz Tryz.func21 (sd 0 rfl) (fun _ _ h0 => c_fb h0 (by decide))
 exact zMv hz (so S1 H1)
 exact zC1 hz Tryz.func21 (sd 2 rfl) (fun _ _ h0 => c_fb h0 (by decide))
 exact zC2 hz Tryz.func20 (sd 1 rfl) (sd 3 rfl) (fun _ _ _ h0 h1 => cq_from (l := m) h0 h1 (by decide) (by decide) hP.out hQ.out (by omega))
 exact zMv hz (sd 4 rfl)
 exact zExt hz (sd 5 rfl)
 exact zExt hz (sd 5 rfl)
 exact zAl hz nd_rat al_r64
 exact zSt (sd 6 rfl) st_q64
 exact zAs hz (sd 7 rfl)
 intro a' γ' W' hz' hd' hC hk hh
 have ep1 := Cp1.lt
 have ep2 := Cp2.lt
 have tp1 := Cp1.lt
 replace Cp1 := kC hC Cp1
 have tp2 := Cp2.lt
 replace Cp2 := kC hC Cp2
 replace S4 := kp hk S4
 replace S5 := kp hk S5
 replace S0 := kp hk S0
 replace H0 := Ty.aft _ H0 hC
 replace S1 := kp hk S1
 replace H1 := Ty.aft _ H1 hC
 obtain ⟨p3, S6, Cp3, lp3, gp3⟩ := gotB hz' 9 hC hh rfl rfl rfl rfl rfl rfl
 have S7 := gotV hz' 10 hh rfl rfl rfl rfl
 have n_p3_p1 : p3 ≠ p1 := by omega
 have n_p3_p2 : p3 ≠ p2 := by omega
 have n_p1_p3 : p1 ≠ p3 := by have := ep1; omega
 have n_p2_p3 : p2 ≠ p3 := by have := ep2; omega
 have bp3 : w.heap.size ≤ p3 := Nat.le_trans HB.size lp3
 clear lp3 gp3
 clear tp1 tp2
 clear ep1 ep2
 replace HB := aft_call HB (RelC.below_nil hC)
 clear hC hk hh; replace hz := hz'; replace hd := hd'; clear hz' hd'
 refine wp_seq ?_
 refine region_text (M := []) (
  rT (tBy 300 (l.take 300)) ::
  rT (tN B32 300 (bev (l.take 300))) ::
  rT (tBy 300 (k.take 300)) ::
  rT (tN B32 300 (bev (k.take 300))) ::
  rT (tT [tQ B32 m (mkRat (bev (l.take 300)) (bev (k.take 300))), tV (.bool (decide (bev (k.take 300) ≠ 0)))]) ::
  rT (tT [tQ B32 m (mkRat (bev (l.take 300)) (bev (k.take 300))), tV (.bool (decide (bev (k.take 300) ≠ 0)))]) ::
  rT (tQ B32 m (mkRat (bev (l.take 300)) (bev (k.take 300)))) ::
  rT (tV (.bool (decide (bev (k.take 300) ≠ 0)))) ::
  rVar 8 32 2 ::
  rB 8 32 (tQ B32 m (mkRat (bev (l.take 300)) (bev (k.take 300)))) (some 8) 9 ::
  rT (tV (.bool (decide (bev (k.take 300) ≠ 0)))) ::
  []) hz hd (by kernel_rfl) ?_ ?_
 refine ⟨?_, ?_, ?_, ?_, ?_, ?_, ?_, ?_, ?_, ?_, ?_, trivial⟩
 exact zMv hz (so S0 H0)
 exact zC1 hz Tryz.func39 (sd 0 rfl) (fun _ _ h0 => d_fb h0 (by decide))
 exact zMv hz (so S1 H1)
 exact zC1 hz Tryz.func39 (sd 2 rfl) (fun _ _ h0 => d_fb h0 (by decide))
 exact zC2 hz Tryz.func15 (sd 1 rfl) (sd 3 rfl) (fun _ _ _ h0 h1 => dq_from (l := m) h0 h1 (by decide) (by decide) hP.out hQ.out (by omega))
 exact zMv hz (sd 4 rfl)
 exact zExt hz (sd 5 rfl)
 exact zExt hz (sd 5 rfl)
 exact zAl hz nd_rat al_r32
 exact zSt (sd 6 rfl) st_q32
 exact zAs hz (sd 7 rfl)
 intro a' γ' W' hz' hd' hC hk hh
 have ep1 := Cp1.lt
 have ep2 := Cp2.lt
 have ep3 := Cp3.lt
 have tp1 := Cp1.lt
 replace Cp1 := kC hC Cp1
 have tp2 := Cp2.lt
 replace Cp2 := kC hC Cp2
 have tp3 := Cp3.lt
 replace Cp3 := kC hC Cp3
 replace S4 := kp hk S4
 replace S5 := kp hk S5
 replace S0 := kp hk S0
 replace H0 := Ty.aft _ H0 hC
 clear S1 H1
 replace S6 := kp hk S6
 replace S7 := kp hk S7
 obtain ⟨p4, S8, Cp4, lp4, gp4⟩ := gotB hz' 9 hC hh rfl rfl rfl rfl rfl rfl
 have S9 := gotV hz' 10 hh rfl rfl rfl rfl
 have n_p4_p1 : p4 ≠ p1 := by omega
 have n_p4_p2 : p4 ≠ p2 := by omega
 have n_p4_p3 : p4 ≠ p3 := by omega
 have n_p1_p4 : p1 ≠ p4 := by have := ep1; omega
 have n_p2_p4 : p2 ≠ p4 := by have := ep2; omega
 have n_p3_p4 : p3 ≠ p4 := by have := ep3; omega
 have bp4 : w.heap.size ≤ p4 := Nat.le_trans HB.size lp4
 clear lp4 gp4
 clear tp1 tp2 tp3
 clear ep1 ep2 ep3
 replace HB := aft_call HB (RelC.below_nil hC)
 clear hC hk hh; replace hz := hz'; replace hd := hd'; clear hz' hd'
 refine wp_seq ?_
 refine wp_seq ?_
 by_cases hc5 : bev (k.take 300) ≠ 0
 rw [decide_eq_true hc5] at S7
 rw [decide_eq_true hc5] at S9
 refine region_text (M := []) (
  rT (tV (.bool true)) ::
  rT (tV (.bool false)) ::
  []) hz hd (by kernel_rfl) ?_ ?_
 refine ⟨?_, ?_, trivial⟩
 exact zMv hz (sv S7)
 exact zNot hz (sd 0 rfl)
 intro a' γ' W' hz' hd' hC hk hh
 have tp1 := Cp1.lt
 replace Cp1 := kC hC Cp1
 have tp2 := Cp2.lt
 replace Cp2 := kC hC Cp2
 have tp3 := Cp3.lt
 replace Cp3 := kC hC Cp3
 have tp4 := Cp4.lt
 replace Cp4 := kC hC Cp4
 replace S4 := kp hk S4
 replace S5 := kp hk S5
 replace S0 := kp hk S0
 replace H0 := Ty.aft _ H0 hC
 replace S6 := kp hk S6
 clear S7
 replace S8 := kp hk S8
 replace S9 := kp hk S9
 have S31 := gotV hz' 1 hh rfl rfl rfl rfl
 clear tp1 tp2 tp3 tp4
 replace HB := aft_call HB (RelC.below_nil hC)
 clear hC hk hh; replace hz := hz'; replace hd := hd'; clear hz' hd'
 refine wp_cond_false S31.ev ?_
 refine wp_skip ?_
 refine wp_seq ?_
 refine wp_seq ?_
 refine region_text (M := []) (
  rT (tV (.bool true)) ::
  rT (tV (.bool false)) ::
  []) hz hd (by kernel_rfl) ?_ ?_
 refine ⟨?_, ?_, trivial⟩
 exact zMv hz (sv S9)
 exact zNot hz (sd 0 rfl)
 intro a' γ' W' hz' hd' hC hk hh
 have tp1 := Cp1.lt
 replace Cp1 := kC hC Cp1
 have tp2 := Cp2.lt
 replace Cp2 := kC hC Cp2
 have tp3 := Cp3.lt
 replace Cp3 := kC hC Cp3
 have tp4 := Cp4.lt
 replace Cp4 := kC hC Cp4
 replace S4 := kp hk S4
 replace S5 := kp hk S5
 replace S0 := kp hk S0
 replace H0 := Ty.aft _ H0 hC
 replace S6 := kp hk S6
 replace S8 := kp hk S8
 clear S9
 clear S31
 have S40 := gotV hz' 1 hh rfl rfl rfl rfl
 clear tp1 tp2 tp3 tp4
 replace HB := aft_call HB (RelC.below_nil hC)
 clear hC hk hh; replace hz := hz'; replace hd := hd'; clear hz' hd'
 refine wp_cond_false S40.ev ?_
 refine wp_skip ?_
 refine wp_seq ?_
 refine region_drawn (M := [p1, p2]) (
  rT (tQ B64 m (mkRat (bev (l.take 300)) (bev (k.take 300)))) ::
  rT (tQ B32 m (mkRat (bev (l.take 300)) (bev (k.take 300)))) ::
  rE 0 28 (tQ B64 m (mkRat (bev (l.take 300)) (bev (k.take 300)))) p1 ::
  rE 1 32 (tQ B32 m (mkRat (bev (l.take 300)) (bev (k.take 300)))) p2 ::
  []) hz hd (by kernel_rfl) (by kernel_rfl) ?_ ?_
 refine ⟨?_, ?_, ?_, ?_, trivial⟩
 exact zLd hz (sv S6) Cp3 ld_q64 (by simp [tagOf, n_p3_p1, n_p3_p2])
 exact zLd hz (sv S8) Cp4 ld_q32 (by simp [tagOf, n_p4_p1, n_p4_p2])
 exact zSE rfl (sv S4) (by simp [tagOf]) (Cp1.var tQ_nd) (sd 0 rfl) st_q64
 exact zSE rfl (sv S5) (by simp [tagOf, n_p2_p1]) (Cp2.var tR_nd) (sd 1 rfl) st_q32
 intro a' γ' W' hz' hd' hC hk hh
 replace Cp1 := gotE (T := tQ B64 m (mkRat (bev (l.take 300)) (bev (k.take 300)))) (id := 28) (p := p1) 2 hh rfl rfl
 replace Cp2 := gotE (T := tQ B32 m (mkRat (bev (l.take 300)) (bev (k.take 300)))) (id := 32) (p := p2) 3 hh rfl rfl
 have tp3 := Cp3.lt
 clear Cp3
 have tp4 := Cp4.lt
 clear Cp4
 replace S4 := kp hk S4
 replace S5 := kp hk S5
 clear S0 H0
 clear S6
 clear S8
 clear S40
 clear tp3 tp4
 replace HB := RelC.aftM HB hC (by intro m hm; simp at hm; rcases hm with rfl | rfl <;> assumption)
 clear hC hk hh; replace hz := hz'; replace hd := hd'; clear hz' hd'
 refine wp_ret ?_
 refine ret_to (T := tT [tQ B64 m (mkRat (bev (l.take 300)) (bev (k.take 300))), tQ B32 m (mkRat (bev (l.take 300)) (bev (k.take 300)))]) (ret2_q (by kernel_rfl) S4 S5 hd Cp1 Cp2 HB) ?_
 exact to2 (tQ_to (by decide) (by unfold mk3; rw [und_of hc5]) (by omega)) (tQ_to (by decide) (by unfold mk3; rw [und_of hc5]) (by omega))
 rw [decide_eq_false hc5] at S7
 rw [decide_eq_false hc5] at S9
 refine region_text (M := []) (
  rT (tV (.bool false)) ::
  rT (tV (.bool true)) ::
  []) hz hd (by kernel_rfl) ?_ ?_
 refine ⟨?_, ?_, trivial⟩
 exact zMv hz (sv S7)
 exact zNot hz (sd 0 rfl)
 intro a' γ' W' hz' hd' hC hk hh
 have tp1 := Cp1.lt
 replace Cp1 := kC hC Cp1
 have tp2 := Cp2.lt
 replace Cp2 := kC hC Cp2
 have tp3 := Cp3.lt
 replace Cp3 := kC hC Cp3
 have tp4 := Cp4.lt
 replace Cp4 := kC hC Cp4
 replace S4 := kp hk S4
 replace S5 := kp hk S5
 replace S0 := kp hk S0
 replace H0 := Ty.aft _ H0 hC
 replace S6 := kp hk S6
 clear S7
 replace S8 := kp hk S8
 replace S9 := kp hk S9
 have S31 := gotV hz' 1 hh rfl rfl rfl rfl
 clear tp1 tp2 tp3 tp4
 replace HB := aft_call HB (RelC.below_nil hC)
 clear hC hk hh; replace hz := hz'; replace hd := hd'; clear hz' hd'
 refine wp_cond_true S31.ev ?_
 refine region_text (M := [p3]) (
  rT (tBy 300 (l.take 300)) ::
  rT (tN B64 300 (bev (l.take 300))) ::
  rT (tN B64 1 1) ::
  rT (tT [tQ B64 m (mkRat (bev (l.take 300)) 1), tV (.bool (decide (1 ≠ 0)))]) ::
  rT (tT [tQ B64 m (mkRat (bev (l.take 300)) 1), tV (.bool (decide (1 ≠ 0)))]) ::
  rT (tQ B64 m (mkRat (bev (l.take 300)) 1)) ::
  rT (tV (.bool (decide (1 ≠ 0)))) ::
  rE 0 28 (tQ B64 m (mkRat (bev (l.take 300)) 1)) p3 ::
  []) hz hd (by kernel_rfl) ?_ ?_
 refine ⟨?_, ?_, ?_, ?_, ?_, ?_, ?_, ?_, trivial⟩
 exact zMv hz (so S0 H0)
 exact zC1 hz Tryz.func21 (sd 0 rfl) (fun _ _ h0 => c_fb h0 (by decide))
 exact zC1 hz Tryz.func40 (kc (v := .int .u64 1)) (k1 (fun _ => c_of (by decide)))
 exact zC2 hz Tryz.func20 (sd 1 rfl) (sd 2 rfl) (fun _ _ _ h0 h1 => cq_from (l := m) h0 h1 (by decide) (by decide) hP.out (one_2400 hm) (by omega))
 exact zMv hz (sd 3 rfl)
 exact zExt hz (sd 4 rfl)
 exact zExt hz (sd 4 rfl)
 exact zSE rfl (sv S6) (by simp [tagOf]) (Cp3.var tQ_nd) (sd 5 rfl) st_q64
 intro a' γ' W' hz' hd' hC hk hh
 have tp1 := Cp1.lt
 replace Cp1 := kC hC Cp1 (by simp [tagOf, n_p1_p3])
 have tp2 := Cp2.lt
 replace Cp2 := kC hC Cp2 (by simp [tagOf, n_p2_p3])
 replace Cp3 := gotE (T := tQ B64 m (mkRat (bev (l.take 300)) 1)) (id := 28) (p := p3) 7 hh rfl rfl
 have tp4 := Cp4.lt
 replace Cp4 := kC hC Cp4 (by simp [tagOf, n_p4_p3])
 replace S4 := kp hk S4
 replace S5 := kp hk S5
 replace S0 := kp hk S0
 replace H0 := Ty.aft _ H0 hC
 replace S6 := kp hk S6
 replace S8 := kp hk S8
 replace S9 := kp hk S9
 clear S31
 clear tp1 tp2 tp4
 replace HB := RelC.aftM HB hC (by intro m hm; simp at hm; rcases hm with rfl <;> assumption)
 clear hC hk hh; replace hz := hz'; replace hd := hd'; clear hz' hd'
 refine wp_seq ?_
 refine wp_seq ?_
 refine region_text (M := []) (
  rT (tV (.bool false)) ::
  rT (tV (.bool true)) ::
  []) hz hd (by kernel_rfl) ?_ ?_
 refine ⟨?_, ?_, trivial⟩
 exact zMv hz (sv S9)
 exact zNot hz (sd 0 rfl)
 intro a' γ' W' hz' hd' hC hk hh
 have tp1 := Cp1.lt
 replace Cp1 := kC hC Cp1
 have tp2 := Cp2.lt
 replace Cp2 := kC hC Cp2
 have tp3 := Cp3.lt
 replace Cp3 := kC hC Cp3
 have tp4 := Cp4.lt
 replace Cp4 := kC hC Cp4
 replace S4 := kp hk S4
 replace S5 := kp hk S5
 replace S0 := kp hk S0
 replace H0 := Ty.aft _ H0 hC
 replace S6 := kp hk S6
 replace S8 := kp hk S8
 clear S9
 have S40 := gotV hz' 1 hh rfl rfl rfl rfl
 clear tp1 tp2 tp3 tp4
 replace HB := aft_call HB (RelC.below_nil hC)
 clear hC hk hh; replace hz := hz'; replace hd := hd'; clear hz' hd'
 refine wp_cond_true S40.ev ?_
 refine region_text (M := [p4]) (
  rT (tBy 300 (l.take 300)) ::
  rT (tN B32 300 (bev (l.take 300))) ::
  rT (tN B32 2 1) ::
  rT (tT [tQ B32 m (mkRat (bev (l.take 300)) 1), tV (.bool (decide (1 ≠ 0)))]) ::
  rT (tT [tQ B32 m (mkRat (bev (l.take 300)) 1), tV (.bool (decide (1 ≠ 0)))]) ::
  rT (tQ B32 m (mkRat (bev (l.take 300)) 1)) ::
  rT (tV (.bool (decide (1 ≠ 0)))) ::
  rE 0 32 (tQ B32 m (mkRat (bev (l.take 300)) 1)) p4 ::
  []) hz hd (by kernel_rfl) ?_ ?_
 refine ⟨?_, ?_, ?_, ?_, ?_, ?_, ?_, ?_, trivial⟩
 exact zMv hz (so S0 H0)
 exact zC1 hz Tryz.func39 (sd 0 rfl) (fun _ _ h0 => d_fb h0 (by decide))
 exact zC1 hz Tryz.func16 (kc (v := .int .u64 1)) (k1 (fun _ => d_of (by decide)))
 exact zC2 hz Tryz.func15 (sd 1 rfl) (sd 2 rfl) (fun _ _ _ h0 h1 => dq_from (l := m) h0 h1 (by decide) (by decide) hP.out (one_2400 hm) (by omega))
 exact zMv hz (sd 3 rfl)
 exact zExt hz (sd 4 rfl)
 exact zExt hz (sd 4 rfl)
 exact zSE rfl (sv S8) (by simp [tagOf]) (Cp4.var tQ_nd) (sd 5 rfl) st_q32
 intro a' γ' W' hz' hd' hC hk hh
 have tp1 := Cp1.lt
 replace Cp1 := kC hC Cp1 (by simp [tagOf, n_p1_p4])
 have tp2 := Cp2.lt
 replace Cp2 := kC hC Cp2 (by simp [tagOf, n_p2_p4])
 have tp3 := Cp3.lt
 replace Cp3 := kC hC Cp3 (by simp [tagOf, n_p3_p4])
 replace Cp4 := gotE (T := tQ B32 m (mkRat (bev (l.take 300)) 1)) (id := 32) (p := p4) 7 hh rfl rfl
 replace S4 := kp hk S4
 replace S5 := kp hk S5
 clear S0 H0
 replace S6 := kp hk S6
 replace S8 := kp hk S8
 clear S40
 clear tp1 tp2 tp3
 replace HB := RelC.aftM HB hC (by intro m hm; simp at hm; rcases hm with rfl <;> assumption)
 clear hC hk hh; replace hz := hz'; replace hd := hd'; clear hz' hd'
 refine wp_seq ?_
 refine region_drawn (M := [p1, p2]) (
  rT (tQ B64 m (mkRat (bev (l.take 300)) 1)) ::
  rT (tQ B32 m (mkRat (bev (l.take 300)) 1)) ::
  rE 0 28 (tQ B64 m (mkRat (bev (l.take 300)) 1)) p1 ::
  rE 1 32 (tQ B32 m (mkRat (bev (l.take 300)) 1)) p2 ::
  []) hz hd (by kernel_rfl) (by kernel_rfl) ?_ ?_
 refine ⟨?_, ?_, ?_, ?_, trivial⟩
 exact zLd hz (sv S6) Cp3 ld_q64 (by simp [tagOf, n_p3_p1, n_p3_p2])
 exact zLd hz (sv S8) Cp4 ld_q32 (by simp [tagOf, n_p4_p1, n_p4_p2])
 exact zSE rfl (sv S4) (by simp [tagOf]) (Cp1.var tQ_nd) (sd 0 rfl) st_q64
 exact zSE rfl (sv S5) (by simp [tagOf, n_p2_p1]) (Cp2.var tR_nd) (sd 1 rfl) st_q32
 intro a' γ' W' hz' hd' hC hk hh
 replace Cp1 := gotE (T := tQ B64 m (mkRat (bev (l.take 300)) 1)) (id := 28) (p := p1) 2 hh rfl rfl
 replace Cp2 := gotE (T := tQ B32 m (mkRat (bev (l.take 300)) 1)) (id := 32) (p := p2) 3 hh rfl rfl
 have tp3 := Cp3.lt
 clear Cp3
 have tp4 := Cp4.lt
 clear Cp4
 replace S4 := kp hk S4
 replace S5 := kp hk S5
 clear S6
 clear S8
 clear tp3 tp4
 replace HB := RelC.aftM HB hC (by intro m hm; simp at hm; rcases hm with rfl | rfl <;> assumption)
 clear hC hk hh; replace hz := hz'; replace hd := hd'; clear hz' hd'
 refine wp_ret ?_
 refine ret_to (T := tT [tQ B64 m (mkRat (bev (l.take 300)) 1), tQ B32 m (mkRat (bev (l.take 300)) 1)]) (ret2_q (by kernel_rfl) S4 S5 hd Cp1 Cp2 HB) ?_
 exact to2 (tQ_to (by decide) (by unfold mk3; rw [Decidable.not_not.1 hc5]; rfl) (by omega)) (tQ_to (by decide) (by unfold mk3; rw [Decidable.not_not.1 hc5]; rfl) (by omega))

end Go.Proofs.YtfgnleoaibcegaaGreat.Rg

namespace Go.Proofs.YtfgnleoaibcegaaGreat.Rg

open Go.RowKit

/-- A new list that holds something (operation j). -/
def rSl (j : Nat) (id : TypeId) (T : Ty) (n : Nat) : Rel :=
  ⟨none, 0, j + 1, fun v γ w => ∃ p, v = .slice (some ⟨p, 0, none⟩) n n ∧ γ p = j + 1 ∧ Cell id T p w,
    fun t γ w γ' w' v ht g ⟨p, e, hγ, h⟩ => ⟨p, e, by rw [g.tag p h.lt]; exact hγ, h.grow g (by omega)⟩⟩
section

variable {P : Program} {ops : Array Oper} {Q : Exit → Act → World → Prop} {a0 : Act} {M : List Nat} {W : World} {rels : List Rel} {i : Nat} {o : Oper} {T : Ty} {N d : Nat} {x y : Operand}
theorem zSl2 {tid id : TypeId} {u v : Value} (hz : a0.tmps.size = N) (s1 : Src ops a0 M W rels i o x (tV u)) (s2 : Src ops a0 M W rels i o y (tV v)) (hu : u.cells = #[u]) (hv : v.cells = #[v])
    (hrun : ∀ w, (Instr.buildSlice tid 2 #[(0, u), (1, v)]).run P w = .ok (.slice (some ⟨w.heap.size, 0, none⟩) 2 2) (w.alloc (.cells #[u, v] id)))
    (ho : ops[i]? = some o := by rfl) (hop : o.op = .buildSlice tid 2 #[(0, x), (1, y)] := by rfl) (hr : rels[i]? = some (rSl i id (tO [tV u, tV v] [1, 1]) 2) := by rfl) (hd : o.dst = some d := by rfl) (hlt : decide (d < N) = true := by rfl) (hg : o.guard = none := by rfl) : StepOk P ops a0 M W Q rels i o := by
  intro a γ w K hc hag hearly hdep hkp hK
  rw [if_pos (by simp [Region.wanted, hg])]
  have U : Up ops a0 M W rels i o a γ w := ⟨hc, hag, hearly, hdep, hkp⟩
  have h1 : a.eval x = u := s1 a γ w U
  have h2 : a.eval y = v := s2 a γ w U
  have hrun' : (execOp a.eval o).run P w = .ok (.value (.slice (some ⟨w.heap.size, 0, none⟩) 2 2)) (w.alloc (.cells #[u, v] id)) := by
    unfold execOp
    rw [hop]
    have := hrun w
    simp only [List.map_toArray, List.map_cons, List.map_nil, h1, h2, Sem.run_bind, this, Result.andThen, Sem.run_pure]
  unfold Oper.wp
  rw [hrun']
  have hcat : (cat [u, v]).toArray = #[u, v] := by simp [cat, hu, hv]
  exact hK _ (newTag γ w (i + 1)) _ (by unfold effOf; rw [hr]; exact Grow.alloc γ w _ _) (holds_put ho hr rfl hd (lt_of hz hlt hag)
    ⟨w.heap.size, rfl, by simp [newTag], .agg #[u, v], by have := Blk.new w id (#[u, v]); simpa [Value.cells] using this, [u, v], by rw [hcat], ⟨rfl, rfl, trivial⟩, by simp [hu, hv]⟩)
theorem sLenK {id : TypeId} {A : Option Addr} {n c : Nat} (hz : a0.tmps.size = N) (hop : o.op = .call { callee := .builtin .len, args := #[x], argTypes := #[id] }) (s : Src ops a0 M W rels i o x (tV (.slice A n c))) (hid : ∀ w, (Builtin.len_ #[id] o.type #[.slice A n c]).run P w = .ok (.int .i64 n) w) (g : Gd ops a0 M W rels i o true := by exact Gd.none_ rfl)
    (ho : ops[i]? = some o := by rfl) (hr : rels[i]? = some (rT (tV (.int .i64 (n : Int)))) := by rfl) (hd : o.dst = some d := by rfl) (hlt : decide (d < N) = true := by rfl) : StepOk P ops a0 M W Q rels i o :=
  sOp ho hr hd hz hlt g fun a γ w U => by
    have e : a.eval x = .slice A n c := s a γ w U
    refine ⟨_, ?_, rfl⟩
    generalize a.eval = ρ at e ⊢
    unfold execOp; rw [hop]; simp [go_sem, e, hid]
theorem zSlAs {j t n : Nat} {id : TypeId} (hz : a0.tmps.size = N) (hrj : rels[j]? = some (rSl j id T n)) (hop : o.op = .assign (.tmp t) := by rfl) (hj : (ops[j]?).bind (·.dst) = some t := by rfl) (hw : waitsD o j = true := by rfl)
    (ho : ops[i]? = some o := by rfl) (hr : rels[i]? = some (rSl j id T n) := by rfl) (hd : o.dst = some d := by rfl) (hlt : decide (d < N) = true := by rfl) (hg : o.guard = none := by rfl) : StepOk P ops a0 M W Q rels i o := by
  intro a γ w K hc hag hearly hdep hkp hK
  rw [if_pos (by simp [Region.wanted, hg])]
  have h := hdep j (.inl hw)
  unfold Holds at h
  rw [hrj] at h
  have e : valOf ops a j = a.eval (.tmp t) := by simp only [valOf, hj]; rfl
  have h' : (rSl j id T n).p (a.eval (.tmp t)) γ w := by rw [← e]; exact h
  have hrun' : (execOp a.eval o).run P w = .ok (.value (a.eval (.tmp t))) w := by
    unfold execOp
    rw [hop]; rfl
  unfold Oper.wp
  rw [hrun']
  exact hK _ γ w (by unfold effOf; rw [hr]; exact Grow.refl_ γ w) (holds_put ho hr rfl hd (lt_of hz hlt hag) h')
end

section

variable {a : Act} {γ : Nat → Nat} {w : World} {t N : Nat} {l : List Oper} {rels : List Rel} {M : List Nat} {W : World} {T : Ty}
theorem gotSl {j n : Nat} {id : TypeId} (hz : a.tmps.size = N) (i : Nat) (hc : RelC M W γ w) (hh : ∀ i, i < l.length → alive l.toArray rels i = true → Holds l.toArray rels i a γ w) (hi : decide (i < l.length) = true) (hr : rels[i]? = some (rSl j id T n)) (hj : decide (j < 999) = true) (hd : (l.toArray[i]?).bind (·.dst) = some t) (hlt : decide (t < N) = true) (hal : alive l.toArray rels i = true := by kernel_rfl) :
    ∃ p, Sl a t (.slice (some ⟨p, 0, none⟩) n n) ∧ Cell id T p w ∧ W.heap.size ≤ p := by
  have h := hh i (of_decide_eq_true hi) hal
  unfold Holds at h
  rw [hr] at h
  have e : valOf l.toArray a i = a.eval (.tmp t) := by simp only [valOf, hd]; rfl
  obtain ⟨p, h1, h2, h3⟩ : (rSl j id T n).p (valOf l.toArray a i) γ w := h
  rw [e] at h1
  refine ⟨p, by rw [← h1]; exact Sl.of hz hlt, h3, ?_⟩
  rcases Nat.lt_or_ge p W.heap.size with hp | hp
  · have h4 := hc.2 p hp
    rw [h2] at h4
    have hj := of_decide_eq_true hj
    have key : ∀ (M : List Nat) (k : Nat), tagOf M k p = 0 ∨ k ≤ tagOf M k p := by
      intro M
      induction M with
      | nil => exact fun _ => .inl rfl
      | cons m M ih =>
        intro k
        unfold tagOf
        split
        · exact .inr (Nat.le_refl _)
        · rcases ih (k + 1) with h | h
          · exact .inl h
          · exact .inr (by omega)
    rcases key M 1000 with h | h <;> omega
  · exact hp
end
theorem bl_two {x y : Int} (w : World) : (Instr.buildSlice 65 2 #[(0, .int .i64 x), (1, .int .i64 y)]).run Tryz.prog w = .ok (.slice (some ⟨w.heap.size, 0, none⟩) 2 2) (w.alloc (.cells #[.int .i64 x, .int .i64 y] 3)) := by
  simp [go_sem, Value.cells]
theorem ix_two {g j : Nat} (hj : j < 2) (w : World) : (Instr.indexAt 65 (.slice (some ⟨g, 0, none⟩) 2 2) (.int .i64 (j : Int))).run Tryz.prog w = .ok (.pointer (some ⟨g, j, none⟩)) w := by
  have h2 : ¬ (2 : Int) ≤ (j : Int) := by omega
  simp [go_sem, hj, h2]
section

variable {l p q : Nat} {x : Rat} {v : Value} {w : World} {z : Int}
theorem tQ_pq (h : (tQ B32 l x).p v w) (hp : x.num.toNat = p) (hq : x.den = q) : (tR B32 l l p q).p v w ∧ 0 < q ∧ bl p ≤ l ∧ bl q ≤ l := by
  obtain ⟨p', q', h1, e1, e2, h3, h4, h5⟩ := tQ32 h
  have ep : p' = p := by rw [e1] at hp; simpa using hp
  have eq : q' = q := by rw [← e2, hq]
  subst ep; subst eq
  exact ⟨h1, h3, bl_le h4, bl_le h5⟩
theorem dq_format (h : (tQ B32 l x).p v w) (hp : x.num.toNat = p) (hq : x.den = q) (hl : l ≤ 1000000) : Calls Tryz.prog 28 #[v] w (Ret (tV (.string (strB (fmtT p q)))) w) := by
  obtain ⟨h1, h2, h3, h4⟩ := tQ_pq h hp hq
  exact d_format h1 hl h3 h4
theorem dq_decimal (h : (tQ B32 l x).p v w) (hp : x.num.toNat = p) (hq : x.den = q) (hl : l ≤ 1000000) : Calls Tryz.prog 30 #[v, .int .i64 z] w (Ret (tT [tV (.string (strB (decR p q z))), tV (.bool (decOk z))]) w) := by
  obtain ⟨h1, h2, h3, h4⟩ := tQ_pq h hp hq
  exact d_decimal_z h1 h2 hl h3
end
theorem o_strne {L : List Nat} {ox oy : Operand} (w : World) : (do eqGuard .neq 9 ox oy (.string (strB L)) (.string (strB L)); binOp .neq 9 (.string (strB L)) (.string (strB L)) : Sem Value).run Tryz.prog w = .ok (.bool false) w := by
  simp [go_sem]
end Go.Proofs.YtfgnleoaibcegaaGreat.Rg

namespace Go.Proofs.YtfgnleoaibcegaaGreat.Rg

open Go.RowKit Go.ChangeShapes Go.WideShapes Go.ChangeAt Go.Deep

theorem ret_out3 {P : Program} {f : FuncId} {args : Array Value} {w : World} {v : Value} (h : Calls P f args w (Ret (tV v) w)) : Calls P f args w fun e w' => e = .returned v ∧ Below w.heap.size w w' := by
  refine h.mono ?_
  rintro e w' ⟨u, rfl, h1, h2⟩
  have h1 : u = v := h1
  exact ⟨by rw [h1], h2⟩
end Go.Proofs.YtfgnleoaibcegaaGreat.Rg
