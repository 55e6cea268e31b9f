/-
  Walks and plain laws, put together: VZ VYN NnRow.
-/
import Derived.Test.YtfgnleoaibcegaaGreatQm
import Derived.Test.YtfgnleoaibcegaaGreatXBC
import Derived.Test.YtfgnleoaibcegaaGreatRows
import Derived.Test.YtfgnleoaibcegaaGreatXFr
import Derived.ProofKit
import Derived.OpenShut
import Derived.ShutString
import Derived.ChangeOld
import Derived.Below
import Derived.SizedLaws
set_option linter.unusedVariables false
set_option linter.unusedSimpArgs false
namespace Go.Proofs.YtfgnleoaibcegaaGreat.Rg

open Go.RowKit

theorem o_andnot {u : Nat} {ox oy : Operand} {id : TypeId} (hu : u < 18446744073709551616) (w : World) : (do eqGuard .andNot id ox oy (.int .u64 (u : Int)) (.int .u64 9223372036854775808); binOp .andNot id (.int .u64 (u : Int)) (.int .u64 9223372036854775808) : Sem Value).run Tryz.prog w = .ok (.int .u64 ((u % 9223372036854775808 : Nat) : Int)) w := by
  have h1 : (BitVec.ofInt 64 (u : Int)).toNat = u := by rw [BitVec.ofInt_natCast, BitVec.toNat_ofNat]; exact Nat.mod_eq_of_lt hu
  have hn : ~~~ BitVec.ofInt 64 9223372036854775808 = BitVec.ofInt 64 9223372036854775807 := by decide
  have h2 : (BitVec.ofInt 64 9223372036854775807).toNat = 2 ^ 63 - 1 := by decide
  have e : bits .andNot .u64 (u : Int) 9223372036854775808 = ((u % 9223372036854775808 : Nat) : Int) := by
    show IntKind.u64.wrap ((BitVec.ofInt 64 (u : Int) &&& ~~~ BitVec.ofInt 64 9223372036854775808).toNat : Int) = _
    rw [hn, BitVec.toNat_and, h1, h2, Nat.and_two_pow_sub_one_eq_mod, IntKind.wrap_u64]
    have : (2 : Nat) ^ 63 = 9223372036854775808 := rfl
    omega
  simp [go_sem, e]
theorem o_and1023 {z : Int} {N : Nat} {ox oy : Operand} {id : TypeId} (e : bits .and .i64 z ((2 ^ 10 - 1 : Nat) : Int) = (N : Int)) (w : World) : (do eqGuard .and id ox oy (.int .i64 z) (.int .i64 1023); binOp .and id (.int .i64 z) (.int .i64 1023) : Sem Value).run Tryz.prog w = .ok (.int .i64 ((N : Nat) : Int)) w := by
  have e2 : bits .and .i64 z 1023 = (N : Int) := e
  simp [go_sem, e2]
theorem o_1100 {i : Nat} {ox oy : Operand} {id : TypeId} (h : i < 1024) (w : World) : (do eqGuard .add id ox oy (.int .i64 1100) (.int .i64 ((i : Nat) : Int)); binOp .add id (.int .i64 1100) (.int .i64 ((i : Nat) : Int)) : Sem Value).run Tryz.prog w = .ok (.int .i64 ((1100 + i : Nat) : Int)) w := by
  have e : IntKind.i64.wrap (1100 + ((i : Nat) : Int)) = ((1100 + i : Nat) : Int) := by rw [IntKind.wrap_i64]; omega
  simp [go_sem, e]
theorem o_u1' {r : Nat} {ox oy : Operand} {id : TypeId} (hr : r < 9223372036854775808) (w : World) : (do eqGuard .add id ox oy (.int .u64 ((r : Nat) : Int)) (.int .u64 1); binOp .add id (.int .u64 ((r : Nat) : Int)) (.int .u64 1) : Sem Value).run Tryz.prog w = .ok (.int .u64 ((r + 1 : Nat) : Int)) w := by
  have e : IntKind.u64.wrap (((r : Nat) : Int) + 1) = ((r + 1 : Nat) : Int) := by rw [IntKind.wrap_u64]; omega
  simp [go_sem, e]
section

variable {l m a b : Nat} {x : Rat} {v v1 v2 : Value} {w : World}
theorem tQ_bits (h : (tQ B32 l x).p v w) : 0 ≤ x ∧ x.num.toNat < 2 ^ l ∧ x.den < 2 ^ l := by
  obtain ⟨p, q, h1, e1, e2, h3, h4, h5⟩ := tQ32 h
  exact ⟨tQ_nonneg h, by rw [e1]; simpa using h4, by rw [e2]; exact h5⟩
theorem mkRat_self (h : 0 ≤ x) : mkRat ((x.num.toNat : Nat) : Int) x.den = x := by
  rw [num_i h]; exact Rat.mkRat_self x
theorem c_from_b (hx : 0 ≤ x) (hp : x.num.toNat < 2 ^ l) (hq : x.den < 2 ^ l) (hl : 1 ≤ l) (h1 : (tN B64 a (bev (bytesOf x.num.toNat))).p v1 w) (h2 : (tN B64 b (bev (bytesOf x.den))).p v2 w) (b1 : a ≤ 100000000) (b2 : b ≤ 100000000) : Calls Tryz.prog 20 #[v1, v2] w (Ret (tT [tQ B64 l x, tV (.bool true)]) w) := by
  rw [bev_bytesOf] at h1 h2
  have := cq_from (l := l) h1 h2 b1 b2 hp hq hl
  rw [mkRat_self hx, decide_eq_true x.den_nz] at this
  exact this
theorem dq_small {k : Nat} (hk : k ≤ 2200) (h1 : (tN B32 a 1).p v1 w) (h2 : (tN B32 b (1 * 2 ^ k)).p v2 w) (b1 : a ≤ 100000000) (b2 : b ≤ 100000000) (hl : 2300 ≤ l) : Calls Tryz.prog 15 #[v1, v2] w (Ret (tT [tQ B32 l (mkRat 1 (1 * 2 ^ k)), tV (.bool true)]) w) := by
  have hz : 1 * 2 ^ k ≠ 0 := Nat.ne_of_gt (Nat.mul_pos (by decide) (Nat.two_pow_pos k))
  have := dq_from (l := l) h1 h2 b1 b2 (fb_one (by omega)) (fb_p1 (by omega)) (by omega)
  rw [decide_eq_true hz] at this
  exact this
end
theorem cell_bits {id : TypeId} {l p : Nat} {x : Rat} {w : World} (h : Cell id (tQ B32 l x) p w) : 0 ≤ x ∧ x.num.toNat < 2 ^ l ∧ x.den < 2 ^ l := by
  obtain ⟨v, _, h2⟩ := h; exact tQ_bits h2
set_option maxRecDepth 10000 in
set_option maxHeartbeats 2000000 in
theorem numNears_ret {l k : List Nat} {u : Nat} {hb : Bool} {by_ : Int} {v0 v1 : Value} {w : World} (h0 : (tBy 9223372036854775807 l).p v0 w) (h1 : (tBy 9223372036854775807 k).p v1 w) (hu : u < 18446744073709551616) :
    Calls Tryz.prog 3 #[v0, v1, .int .u64 (u : Int), .bool (decide (hb = true)), .int .i64 (by_)] w (Ret (tV (.bool true)) w) := by
 refine enter Tryz.func3 rfl Tryz.ntmps3 (by simp) ?_
 intro a hz hd ha
 have S0 := ha 0 _ rfl
 have H0 := h0
 have S1 := ha 1 _ rfl
 have H1 := h1
 have S2 := ha 2 _ rfl
 have S3 := ha 3 _ rfl
 have S4 := ha 4 _ rfl
 clear ha
 have HB : Below w.heap.size w w := Below.refl _ _
 obtain ⟨N, hN, eN⟩ := and_i64 by_ 10 (by decide)
 refine wp_seq ?_
 refine rt [rV (.bool false)] hz hd ?_ ?_
 refine ⟨?_, trivial⟩
 exact zAs hz kc
 clear hz hd
 intro a' γ' W' hz hd hC hk hh
 replace S0 := kp hk S0
 replace H0 := Ty.aft _ H0 hC
 replace S1 := kp hk S1
 replace H1 := Ty.aft _ H1 hC
 replace S2 := kp hk S2
 replace S3 := kp hk S3
 replace S4 := kp hk S4
 have S10 := gV hz 0 hh
 replace HB := aB HB hC
 clear hC hk hh
 refine wp_seq ?_
 refine rt [rT (tBy 9223372036854775807 l), rT (tBy 9223372036854775807 k), rT (tT [tQ B64 2400 (mk3 l k), tQ B32 2400 (mk3 l k)]), rT (tT [tQ B64 2400 (mk3 l k), tQ B32 2400 (mk3 l k)]), rT (tQ B64 2400 (mk3 l k)), rT (tQ B32 2400 (mk3 l k)), rVar 6 28 2, rVar 7 32 2, rB 6 28 (tQ B64 2400 (mk3 l k)) (some 6) 7, rB 7 32 (tQ B32 2400 (mk3 l k)) (some 7) 8] hz hd ?_ ?_
 refine ⟨?_, ?_, ?_, ?_, ?_, ?_, ?_, ?_, ?_, ?_, trivial⟩
 exact zMv hz (so S0 H0)
 exact zMv hz (so S1 H1)
 exact zC2 hz Tryz.func7 (sd 0 rfl) (sd 1 rfl) (fun _ _ _ h0 h1 => l_made3 (m := 2400) h0 h1 (by decide))
 exact zMv hz (sd 2 rfl)
 exact zExt hz (sd 3 rfl)
 exact zExt hz (sd 3 rfl)
 exact zAl hz nd_rat al_r64
 exact zAl hz nd_rat al_r32
 exact zSt (sd 4 rfl) st_q64
 exact zSt (sd 5 rfl) st_q32
 clear hz hd
 intro a' γ' W' hz hd hC hk hh
 clear S0 H0
 clear S1 H1
 replace S2 := kp hk S2
 replace S3 := kp hk S3
 replace S4 := kp hk S4
 replace S10 := kp hk S10
 obtain ⟨p1, S11, Cp1, lp1, gp1⟩ := gotB hz 8 hC hh rfl rfl rfl rfl rfl rfl
 obtain ⟨p2, S12, Cp2, lp2, gp2⟩ := gotB hz 9 hC hh rfl rfl rfl rfl rfl rfl
 have n_p1_p2 : p1 ≠ p2 := by intro e; rw [e, gp2] at gp1; omega
 have n_p2_p1 : p2 ≠ p1 := by intro e; rw [e, gp1] at gp2; omega
 have bp1 := Nat.le_trans HB.size lp1
 have bp2 := Nat.le_trans HB.size lp2
 clear lp1 gp1 lp2 gp2
 replace HB := aB HB hC
 clear hC hk hh
 refine wp_seq ?_
 refine rt [rT (tQ B64 2400 (mk3 l k)), rT (tT [tV (.float .f64 (flN (tfD (mk3 l k).num.toNat (mk3 l k).den))), tV (.bool (decide (tfD (mk3 l k).num.toNat (mk3 l k).den < 9218868437227405312)))]), rT (tT [tV (.float .f64 (flN (tfD (mk3 l k).num.toNat (mk3 l k).den))), tV (.bool (decide (tfD (mk3 l k).num.toNat (mk3 l k).den < 9218868437227405312)))]), rV (.float .f64 (flN (tfD (mk3 l k).num.toNat (mk3 l k).den))), rV (.bool (decide (tfD (mk3 l k).num.toNat (mk3 l k).den < 9218868437227405312))), rV (.float .f64 (flN (tfD (mk3 l k).num.toNat (mk3 l k).den))), rV (.bool (decide (tfD (mk3 l k).num.toNat (mk3 l k).den < 9218868437227405312)))] hz hd ?_ ?_
 refine ⟨?_, ?_, ?_, ?_, ?_, ?_, ?_, trivial⟩
 exact zLd hz (sv S11) Cp1 ld_q64
 exact zC1 hz Tryz.func8 (sd 0 rfl) (fun _ _ h0 => c_tofloat_pq h0 rfl rfl (by decide))
 exact zMv hz (sd 1 rfl)
 exact zExt hz (sd 2 rfl)
 exact zExt hz (sd 2 rfl)
 exact zAs hz (sd 3 rfl)
 exact zAs hz (sd 4 rfl)
 clear hz hd
 intro a' γ' W' hz hd hC hk hh
 have tp1 := Cp1.lt
 clear Cp1
 have tp2 := Cp2.lt
 replace Cp2 := kC hC Cp2
 replace S2 := kp hk S2
 replace S3 := kp hk S3
 replace S4 := kp hk S4
 replace S10 := kp hk S10
 clear S11
 replace S12 := kp hk S12
 have S13 := gV hz 5 hh
 have S14 := gV hz 6 hh
 clear tp1 tp2
 replace HB := aB HB hC
 clear hC hk hh
 refine wp_seq ?_
 refine rt [rT (tQ B32 2400 (mk3 l k)), rT (tT [tV (.int .u64 ((flN (tfD (mk3 l k).num.toNat (mk3 l k).den) : Nat) : Int)), tV (.bool (decide (tfD (mk3 l k).num.toNat (mk3 l k).den < 9218868437227405312)))]), rT (tT [tV (.int .u64 ((flN (tfD (mk3 l k).num.toNat (mk3 l k).den) : Nat) : Int)), tV (.bool (decide (tfD (mk3 l k).num.toNat (mk3 l k).den < 9218868437227405312)))]), rV (.int .u64 ((flN (tfD (mk3 l k).num.toNat (mk3 l k).den) : Nat) : Int)), rV (.bool (decide (tfD (mk3 l k).num.toNat (mk3 l k).den < 9218868437227405312))), rV (.int .u64 ((flN (tfD (mk3 l k).num.toNat (mk3 l k).den) : Nat) : Int)), rV (.bool (decide (tfD (mk3 l k).num.toNat (mk3 l k).den < 9218868437227405312)))] hz hd ?_ ?_
 refine ⟨?_, ?_, ?_, ?_, ?_, ?_, ?_, trivial⟩
 exact zLd hz (sv S12) Cp2 ld_q32
 exact zC1 hz Tryz.func9 (sd 0 rfl) (fun _ _ h0 => dq_tofloat h0 rfl rfl (by decide))
 exact zMv hz (sd 1 rfl)
 exact zExt hz (sd 2 rfl)
 exact zExt hz (sd 2 rfl)
 exact zAs hz (sd 3 rfl)
 exact zAs hz (sd 4 rfl)
 clear hz hd
 intro a' γ' W' hz hd hC hk hh
 have tp2 := Cp2.lt
 clear Cp2
 replace S2 := kp hk S2
 replace S3 := kp hk S3
 replace S4 := kp hk S4
 replace S10 := kp hk S10
 clear S12
 replace S13 := kp hk S13
 replace S14 := kp hk S14
 have S15 := gV hz 5 hh
 have S16 := gV hz 6 hh
 clear tp2
 replace HB := aB HB hC
 clear hC hk hh
 refine wp_seq ?_
 refine wp_seq ?_
 by_cases hc3 : tfD (mk3 l k).num.toNat (mk3 l k).den < 9218868437227405312
 rw [decide_eq_true hc3] at S14
 rw [decide_eq_true hc3] at S16
 refine rt [rV (.bool true), rV (.bool true), rV (.bool false), rV (.bool false), rV (.float .f64 (flN (tfD (mk3 l k).num.toNat (mk3 l k).den))), rV (.int .u64 ((flN (tfD (mk3 l k).num.toNat (mk3 l k).den) : Nat) : Int)), rV (.int .u64 ((flN (tfD (mk3 l k).num.toNat (mk3 l k).den) : Nat) : Int)), rV (.bool false), rV (.bool false)] hz hd ?_ ?_
 refine ⟨?_, ?_, ?_, ?_, ?_, ?_, ?_, ?_, ?_, trivial⟩
 exact zMv hz (sv S14)
 exact zMv hz (sv S16)
 exact sBin rfl rfl rfl hz rfl (Gd.none_ rfl) rfl (sd 0 rfl) (sd 1 rfl) (fun w => by kernel_rfl)
 exact zMv hz (sd 2 rfl)
 exact zMv hz (sv S13) (g := gT 3 rfl)
 exact zC1 hz Tryz.func10 (sd 4 rfl) (k1 (fun _ => c_bits)) (g := gT 3 rfl)
 exact zMv hz (sv S15) (g := gT 3 rfl)
 exact sBin rfl rfl rfl hz rfl (gT 3 rfl) rfl (sd 5 rfl) (sd 6 rfl) (fun w => by simp [go_sem])
 exact zPF hz (sd 3 rfl) (sd 7 rfl)
 clear hz hd
 intro a' γ' W' hz hd hC hk hh
 replace S2 := kp hk S2
 replace S3 := kp hk S3
 replace S4 := kp hk S4
 replace S10 := kp hk S10
 clear S13
 clear S14
 clear S15
 clear S16
 have S53 := gV hz 8 hh
 replace HB := aB HB hC
 clear hC hk hh
 refine wp_cond_false S53.ev ?_
 refine wp_skip ?_
 refine wp_seq ?_
 refine rt [rV (.int .u64 (u : Int)), rV (.int .u64 ((u % 9223372036854775808 : Nat) : Int)), rT (tT [tQ B32 1100 (flQ (u % 9223372036854775808)), tV (.bool (decide (FOk (u % 9223372036854775808))))]), rT (tT [tQ B32 1100 (flQ (u % 9223372036854775808)), tV (.bool (decide (FOk (u % 9223372036854775808))))]), rT (tQ B32 1100 (flQ (u % 9223372036854775808))), rV (.bool (decide (FOk (u % 9223372036854775808)))), rVar 6 32 2, rB 6 32 (tQ B32 1100 (flQ (u % 9223372036854775808))) (some 6) 7, rV (.bool (decide (FOk (u % 9223372036854775808))))] hz hd ?_ ?_
 refine ⟨?_, ?_, ?_, ?_, ?_, ?_, ?_, ?_, ?_, trivial⟩
 exact zMv hz (sv S2)
 exact sBin rfl rfl rfl hz rfl (Gd.none_ rfl) rfl (sd 0 rfl) kc (fun w => o_andnot hu w)
 exact zC1 hz Tryz.func11 (sd 1 rfl) (k1 (fun _ => d_fromfloat (l := 1100) (by omega) (by decide)))
 exact zMv hz (sd 2 rfl)
 exact zExt hz (sd 3 rfl)
 exact zExt hz (sd 3 rfl)
 exact zAl hz nd_rat al_r32
 exact zSt (sd 4 rfl) st_q32
 exact zAs hz (sd 5 rfl)
 clear hz hd
 intro a' γ' W' hz hd hC hk hh
 replace S2 := kp hk S2
 replace S3 := kp hk S3
 replace S4 := kp hk S4
 replace S10 := kp hk S10
 clear S53
 obtain ⟨p4, S17, Cp4, lp4, gp4⟩ := gotB hz 7 hC hh rfl rfl rfl rfl rfl rfl
 have S18 := gV hz 8 hh
 have bp4 := Nat.le_trans HB.size lp4
 clear lp4 gp4
 replace HB := aB HB hC
 clear hC hk hh
 refine wp_seq ?_
 refine wp_seq ?_
 by_cases hc5 : FOk (u % 9223372036854775808)
 rw [decide_eq_true hc5] at S18
 refine rt [rV (.bool true), rV (.bool false)] hz hd ?_ ?_
 refine ⟨?_, ?_, trivial⟩
 exact zMv hz (sv S18)
 exact zNot hz (sd 0 rfl)
 clear hz hd
 intro a' γ' W' hz hd hC hk hh
 have tp4 := Cp4.lt
 replace Cp4 := kC hC Cp4
 replace S2 := kp hk S2
 replace S3 := kp hk S3
 replace S4 := kp hk S4
 replace S10 := kp hk S10
 replace S17 := kp hk S17
 clear S18
 have S61 := gV hz 1 hh
 clear tp4
 replace HB := aB HB hC
 clear hC hk hh
 refine wp_cond_false S61.ev ?_
 refine wp_skip ?_
 refine wp_join (fun a W => ∃ (x : Rat), a.tmps.size = 140 ∧ a.defers = [] ∧ Below w.heap.size w W ∧ Sl a 4 (.int .i64 (by_)) ∧ Sl a 10 (.bool false) ∧ Sl a 17 (.pointer (some ⟨p4, 0, none⟩)) ∧ Cell 32 (tQ B32 3000 x) p4 W) ?_ ?_
 refine wp_seq ?_
 refine rt [rV (.bool (decide (hb = true)))] hz hd ?_ ?_
 refine ⟨?_, trivial⟩
 exact zMv hz (sv S3)
 clear hz hd
 intro a' γ' W' hz hd hC hk hh
 have tp4 := Cp4.lt
 replace Cp4 := kC hC Cp4
 replace S2 := kp hk S2
 clear S3
 replace S4 := kp hk S4
 replace S10 := kp hk S10
 replace S17 := kp hk S17
 clear S61
 have S63 := gV hz 0 hh
 clear tp4
 replace HB := aB HB hC
 clear hC hk hh
 by_cases hc6 : hb = true
 rw [decide_eq_true hc6] at S63
 refine wp_cond_true S63.ev ?_
 refine wp_seq ?_
 refine rt [rV (.int .u64 (u : Int)), rV (.int .u64 ((u % 9223372036854775808 : Nat) : Int)), rV (.int .u64 ((u % 9223372036854775808 + 1 : Nat) : Int)), rT (tT [tQ B32 1100 (flQ (u % 9223372036854775808 + 1)), tV (.bool (decide (FOk (u % 9223372036854775808 + 1))))]), rT (tT [tQ B32 1100 (flQ (u % 9223372036854775808 + 1)), tV (.bool (decide (FOk (u % 9223372036854775808 + 1))))]), rT (tQ B32 1100 (flQ (u % 9223372036854775808 + 1))), rV (.bool (decide (FOk (u % 9223372036854775808 + 1)))), rVar 7 32 2, rB 7 32 (tQ B32 1100 (flQ (u % 9223372036854775808 + 1))) (some 7) 8, rV (.bool (decide (FOk (u % 9223372036854775808 + 1))))] hz hd ?_ ?_
 refine ⟨?_, ?_, ?_, ?_, ?_, ?_, ?_, ?_, ?_, ?_, trivial⟩
 exact zMv hz (sv S2)
 exact sBin rfl rfl rfl hz rfl (Gd.none_ rfl) rfl (sd 0 rfl) kc (fun w => o_andnot hu w)
 exact sBin rfl rfl rfl hz rfl (Gd.none_ rfl) rfl (sd 1 rfl) kc (fun w => o_u1' (Nat.mod_lt _ (by decide)) w)
 exact zC1 hz Tryz.func11 (sd 2 rfl) (k1 (fun _ => d_fromfloat (l := 1100) (by omega) (by decide)))
 exact zMv hz (sd 3 rfl)
 exact zExt hz (sd 4 rfl)
 exact zExt hz (sd 4 rfl)
 exact zAl hz nd_rat al_r32
 exact zSt (sd 5 rfl) st_q32
 exact zAs hz (sd 6 rfl)
 clear hz hd
 intro a' γ' W' hz hd hC hk hh
 have ep4 := Cp4.lt
 have tp4 := Cp4.lt
 replace Cp4 := kC hC Cp4
 clear S2
 replace S4 := kp hk S4
 replace S10 := kp hk S10
 replace S17 := kp hk S17
 clear S63
 obtain ⟨p7, S19, Cp7, lp7, gp7⟩ := gotB hz 8 hC hh rfl rfl rfl rfl rfl rfl
 have n_p7_p4 : p7 ≠ p4 := by omega
 have n_p4_p7 : p4 ≠ p7 := by have := ep4; omega
 have bp7 := Nat.le_trans HB.size lp7
 clear lp7 gp7
 clear tp4
 clear ep4
 replace HB := aB HB hC
 clear hC hk hh
 refine region_text (M := [p4]) [rT (tQ B32 1100 (flQ (u % 9223372036854775808))), rT (tQ B32 1100 (flQ (u % 9223372036854775808 + 1))), rT (tQ B32 2201 ((flQ (u % 9223372036854775808)) + (flQ (u % 9223372036854775808 + 1)))), rT (tT [tQ B32 2266 (divI ((flQ (u % 9223372036854775808)) + (flQ (u % 9223372036854775808 + 1))) 2), tV (.bool (decide ((1 : Int) ≤ 2)))]), rT (tT [tQ B32 2266 (divI ((flQ (u % 9223372036854775808)) + (flQ (u % 9223372036854775808 + 1))) 2), tV (.bool (decide ((1 : Int) ≤ 2)))]), rT (tQ B32 2266 (divI ((flQ (u % 9223372036854775808)) + (flQ (u % 9223372036854775808 + 1))) 2)), rV (.bool (decide ((1 : Int) ≤ 2))), rE 0 32 (tQ B32 2266 (divI ((flQ (u % 9223372036854775808)) + (flQ (u % 9223372036854775808 + 1))) 2)) p4] hz hd (by kernel_rfl) ?_ ?_
 refine ⟨?_, ?_, ?_, ?_, ?_, ?_, ?_, ?_, trivial⟩
 exact sLoadM rfl rfl rfl hz rfl (Gd.none_ rfl) rfl (sv S17) Cp4 (k := 0) (by simp [tagOf]) (by kernel_rfl) ld_q32
 exact zLd hz (sv S19) Cp7 ld_q32 (by simp [tagOf, n_p7_p4])
 exact zC2 hz Tryz.func14 (sd 0 rfl) (sd 1 rfl) (fun _ _ _ h0 h1 => dq_add h0 h1 (by decide) (by decide))
 exact zC2 hz Tryz.func13 (sd 2 rfl) (kc (v := .int .i64 2)) (k01 (fun _ _ h0 => dq_divint (n := 2) h0 (by decide) (by decide)))
 exact zMv hz (sd 3 rfl)
 exact zExt hz (sd 4 rfl)
 exact zExt hz (sd 4 rfl)
 exact zSE rfl (sv S17) (by simp [tagOf]) (Cp4.var tQ_nd) (sd 5 rfl) st_q32
 clear hz hd
 intro a' γ' W' hz hd hC hk hh
 replace Cp4 := gotE (T := tQ B32 2266 (divI ((flQ (u % 9223372036854775808)) + (flQ (u % 9223372036854775808 + 1))) 2)) (id := 32) (p := p4) 7 hh rfl rfl
 have tp7 := Cp7.lt
 clear Cp7
 replace S4 := kp hk S4
 replace S10 := kp hk S10
 replace S17 := kp hk S17
 clear S19
 clear tp7
 replace HB := aM HB hC
 clear hC hk hh
 replace Cp4 : Cell 32 (tQ B32 3000 (divI ((flQ (u % 9223372036854775808)) + (flQ (u % 9223372036854775808 + 1))) 2)) p4 _ := Cell.toN Cp4 (tQ_to (by decide) rfl (by decide))
 refine join_n ?_
 exact ⟨(divI ((flQ (u % 9223372036854775808)) + (flQ (u % 9223372036854775808 + 1))) 2), hz, hd, HB, S4, S10, S17, Cp4⟩
 rw [decide_eq_false hc6] at S63
 refine wp_cond_false S63.ev ?_
 refine wp_skip ?_
 replace Cp4 : Cell 32 (tQ B32 3000 (flQ (u % 9223372036854775808))) p4 _ := Cell.toN Cp4 (tQ_to (by decide) rfl (by decide))
 refine join_n ?_
 exact ⟨(flQ (u % 9223372036854775808)), hz, hd, HB, S4, S10, S17, Cp4⟩
 clear S2 S3 S4 S10 S17 S61 Cp4 hz hd HB
 rintro a W ⟨x, hz, hd, HB, S4, S10, S17, Cx⟩
 refine wp_seq ?_
 refine rt [rT (tN B32 2 1), rT (tN B32 2 1), rV (.int .i64 (by_)), rV (.int .i64 ((N : Nat) : Int)), rV (.int .i64 ((1100 + N : Nat) : Int)), rT (tN B32 2302 (1 * 2 ^ (1100 + N))), rT (tT [tQ B32 2300 (mkRat 1 (1 * 2 ^ (1100 + N))), tV (.bool true)]), rT (tT [tQ B32 2300 (mkRat 1 (1 * 2 ^ (1100 + N))), tV (.bool true)]), rT (tQ B32 2300 (mkRat 1 (1 * 2 ^ (1100 + N)))), rV (.bool true), rVar 10 32 2, rB 10 32 (tQ B32 2300 (mkRat 1 (1 * 2 ^ (1100 + N)))) (some 10) 11, rV (.bool true)] hz hd ?_ ?_
 refine ⟨?_, ?_, ?_, ?_, ?_, ?_, ?_, ?_, ?_, ?_, ?_, ?_, ?_, trivial⟩
 exact zC1 hz Tryz.func16 (kc (v := .int .u64 1)) (k1 (fun _ => d_of (by decide)))
 exact zC1 hz Tryz.func16 (kc (v := .int .u64 1)) (k1 (fun _ => d_of (by decide)))
 exact zMv hz (sv S4)
 exact sBin rfl rfl rfl hz rfl (Gd.none_ rfl) rfl (sd 2 rfl) kc (fun w => o_and1023 eN w)
 exact sBin rfl rfl rfl hz rfl (Gd.none_ rfl) rfl kc (sd 3 rfl) (fun w => o_1100 hN w)
 exact zC2 hz Tryz.func17 (sd 1 rfl) (sd 4 rfl) (k01 (fun _ _ h0 => d_leftK 2300 (k := 1100 + N) h0 (by decide) (by omega) (by decide)))
 exact zC2 hz Tryz.func15 (sd 0 rfl) (sd 5 rfl) (fun _ _ _ h0 h1 => dq_small (l := 2300) (by omega) h0 h1 (by decide) (by decide) (by decide))
 exact zMv hz (sd 6 rfl)
 exact zExt hz (sd 7 rfl)
 exact zExt hz (sd 7 rfl)
 exact zAl hz nd_rat al_r32
 exact zSt (sd 8 rfl) st_q32
 exact zAs hz (sd 9 rfl)
 clear hz hd
 intro a' γ' W' hz hd hC hk hh
 have ep4 := Cx.lt
 have tp4 := Cx.lt
 replace Cx := kC hC Cx
 replace S4 := kp hk S4
 replace S10 := kp hk S10
 replace S17 := kp hk S17
 obtain ⟨p8, S21, Cp8, lp8, gp8⟩ := gotB hz 11 hC hh rfl rfl rfl rfl rfl rfl
 have n_p8_p4 : p8 ≠ p4 := by omega
 have n_p4_p8 : p4 ≠ p8 := by have := ep4; omega
 have bp8 := Nat.le_trans HB.size lp8
 clear lp8 gp8
 clear tp4
 clear ep4
 replace HB := aB HB hC
 clear hC hk hh
 refine wp_join (fun a W => ∃ (x : Rat), a.tmps.size = 140 ∧ a.defers = [] ∧ Below w.heap.size w W ∧ Sl a 10 (.bool false) ∧ Sl a 17 (.pointer (some ⟨p4, 0, none⟩)) ∧ Cell 32 (tQ B32 6000 x) p4 W) ?_ ?_
 refine wp_seq ?_
 refine rt [rV (.int .i64 (by_)), rV (.int .i64 (bits .and .i64 by_ 1024)), rV (.bool (decide (0 < bits .and .i64 by_ 1024)))] hz hd ?_ ?_
 refine ⟨?_, ?_, ?_, trivial⟩
 exact zMv hz (sv S4)
 exact sBin rfl rfl rfl hz rfl (Gd.none_ rfl) rfl (sd 0 rfl) kc (fun w => by simp [go_sem])
 exact sBin rfl rfl rfl hz rfl (Gd.none_ rfl) rfl (sd 1 rfl) kc (fun w => z_gt0' w)
 clear hz hd
 intro a' γ' W' hz hd hC hk hh
 have tp4 := Cx.lt
 replace Cx := kC hC Cx
 have tp8 := Cp8.lt
 replace Cp8 := kC hC Cp8
 replace S4 := kp hk S4
 replace S10 := kp hk S10
 replace S17 := kp hk S17
 replace S21 := kp hk S21
 have S90 := gV hz 2 hh
 clear tp4 tp8
 replace HB := aB HB hC
 clear hC hk hh
 by_cases hc9 : 0 < bits .and .i64 by_ 1024
 rw [decide_eq_true hc9] at S90
 refine wp_cond_true S90.ev ?_
 refine region_text (M := [p4]) [rT (tQ B32 3000 x), rT (tQ B32 2300 (mkRat 1 (1 * 2 ^ (1100 + N)))), rT (tQ B32 5301 (x + (mkRat 1 (1 * 2 ^ (1100 + N))))), rE 0 32 (tQ B32 5301 (x + (mkRat 1 (1 * 2 ^ (1100 + N))))) p4] hz hd (by kernel_rfl) ?_ ?_
 refine ⟨?_, ?_, ?_, ?_, trivial⟩
 exact sLoadM rfl rfl rfl hz rfl (Gd.none_ rfl) rfl (sv S17) Cx (k := 0) (by simp [tagOf]) (by kernel_rfl) ld_q32
 exact zLd hz (sv S21) Cp8 ld_q32 (by simp [tagOf, n_p8_p4])
 exact zC2 hz Tryz.func14 (sd 0 rfl) (sd 1 rfl) (fun _ _ _ h0 h1 => dq_add h0 h1 (by decide) (by decide))
 exact zSE rfl (sv S17) (by simp [tagOf]) (Cx.var tQ_nd) (sd 2 rfl) st_q32
 clear hz hd
 intro a' γ' W' hz hd hC hk hh
 replace Cx := gotE (T := tQ B32 5301 (x + (mkRat 1 (1 * 2 ^ (1100 + N))))) (id := 32) (p := p4) 3 hh rfl rfl
 have tp8 := Cp8.lt
 clear Cp8
 clear S4
 replace S10 := kp hk S10
 replace S17 := kp hk S17
 clear S21
 clear S90
 clear tp8
 replace HB := aM HB hC
 clear hC hk hh
 replace Cx : Cell 32 (tQ B32 6000 (x + (mkRat 1 (1 * 2 ^ (1100 + N))))) p4 _ := Cell.toN Cx (tQ_to (by decide) rfl (by decide))
 refine join_n ?_
 exact ⟨(x + (mkRat 1 (1 * 2 ^ (1100 + N)))), hz, hd, HB, S10, S17, Cx⟩
 rw [decide_eq_false hc9] at S90
 refine wp_cond_false S90.ev ?_
 refine wp_seq ?_
 by_cases hc10 : 0 < bits .and .i64 by_ 2048
 refine rt [rV (.int .i64 (by_)), rV (.int .i64 (bits .and .i64 by_ 2048)), rV (.bool true), rV (.bool true), rT (tQ B32 3000 x), rT (tQ B32 2300 (mkRat 1 (1 * 2 ^ (1100 + N)))), rV (.int .i64 (cmpQ x (mkRat 1 (1 * 2 ^ (1100 + N))))), rV (.bool (decide (mkRat 1 (1 * 2 ^ (1100 + N)) < x))), rV (.bool (decide (mkRat 1 (1 * 2 ^ (1100 + N)) < x)))] hz hd ?_ ?_
 refine ⟨?_, ?_, ?_, ?_, ?_, ?_, ?_, ?_, ?_, trivial⟩
 exact zMv hz (sv S4)
 exact sBin rfl rfl rfl hz rfl (Gd.none_ rfl) rfl (sd 0 rfl) kc (fun w => by simp [go_sem])
 exact sBin rfl rfl rfl hz rfl (Gd.none_ rfl) rfl (sd 1 rfl) kc (fun w => run_t (P := 0 < bits .and .i64 by_ 2048) ((fun w => z_gt0' w) w) hc10)
 exact zMv hz (sd 2 rfl)
 exact zLd hz (sv S17) Cx ld_q32 (g := gT 3 rfl)
 exact zLd hz (sv S21) Cp8 ld_q32 (g := gT 3 rfl)
 exact zC2 hz Tryz.func18 (sd 4 rfl) (sd 5 rfl) (fun _ _ _ h0 h1 => dq_cmp h0 h1 (by decide) (by decide)) (g := gT 3 rfl)
 exact sBin rfl rfl rfl hz rfl (gT 3 rfl) rfl (sd 6 rfl) kc (fun w => run_cQ_gtr x (mkRat 1 (1 * 2 ^ (1100 + N))) w)
 exact zPT hz (sd 3 rfl) (sd 7 rfl)
 clear hz hd
 intro a' γ' W' hz hd hC hk hh
 have tp4 := Cx.lt
 replace Cx := kC hC Cx
 have tp8 := Cp8.lt
 replace Cp8 := kC hC Cp8
 clear S4
 replace S10 := kp hk S10
 replace S17 := kp hk S17
 replace S21 := kp hk S21
 clear S90
 have S102 := gV hz 8 hh
 clear tp4 tp8
 replace HB := aB HB hC
 clear hC hk hh
 by_cases hc11 : mkRat 1 (1 * 2 ^ (1100 + N)) < x
 rw [decide_eq_true hc11] at S102
 refine wp_cond_true S102.ev ?_
 refine region_text (M := [p4]) [rT (tQ B32 3000 x), rT (tQ B32 2300 (mkRat 1 (1 * 2 ^ (1100 + N)))), rT (tQ B32 5301 (subQ x (mkRat 1 (1 * 2 ^ (1100 + N))))), rE 0 32 (tQ B32 5301 (subQ x (mkRat 1 (1 * 2 ^ (1100 + N))))) p4] hz hd (by kernel_rfl) ?_ ?_
 refine ⟨?_, ?_, ?_, ?_, trivial⟩
 exact sLoadM rfl rfl rfl hz rfl (Gd.none_ rfl) rfl (sv S17) Cx (k := 0) (by simp [tagOf]) (by kernel_rfl) ld_q32
 exact zLd hz (sv S21) Cp8 ld_q32 (by simp [tagOf, n_p8_p4])
 exact zC2 hz Tryz.func19 (sd 0 rfl) (sd 1 rfl) (fun _ _ _ h0 h1 => dq_less h0 h1 (by decide) (by decide))
 exact zSE rfl (sv S17) (by simp [tagOf]) (Cx.var tQ_nd) (sd 2 rfl) st_q32
 clear hz hd
 intro a' γ' W' hz hd hC hk hh
 replace Cx := gotE (T := tQ B32 5301 (subQ x (mkRat 1 (1 * 2 ^ (1100 + N))))) (id := 32) (p := p4) 3 hh rfl rfl
 have tp8 := Cp8.lt
 clear Cp8
 replace S10 := kp hk S10
 replace S17 := kp hk S17
 clear S21
 clear S102
 clear tp8
 replace HB := aM HB hC
 clear hC hk hh
 replace Cx : Cell 32 (tQ B32 6000 (subQ x (mkRat 1 (1 * 2 ^ (1100 + N))))) p4 _ := Cell.toN Cx (tQ_to (by decide) rfl (by decide))
 refine join_n ?_
 exact ⟨(subQ x (mkRat 1 (1 * 2 ^ (1100 + N)))), hz, hd, HB, S10, S17, Cx⟩
 rw [decide_eq_false hc11] at S102
 refine wp_cond_false S102.ev ?_
 refine wp_skip ?_
 replace Cx : Cell 32 (tQ B32 6000 x) p4 _ := Cell.toN Cx (tQ_to (by decide) rfl (by decide))
 refine join_n ?_
 exact ⟨(x), hz, hd, HB, S10, S17, Cx⟩
 refine rt [rV (.int .i64 (by_)), rV (.int .i64 (bits .and .i64 by_ 2048)), rV (.bool false), rV (.bool false), rV undef, rV undef, rV undef, rV undef, rV (.bool false)] hz hd ?_ ?_
 refine ⟨?_, ?_, ?_, ?_, ?_, ?_, ?_, ?_, ?_, trivial⟩
 exact zMv hz (sv S4)
 exact sBin rfl rfl rfl hz rfl (Gd.none_ rfl) rfl (sd 0 rfl) kc (fun w => by simp [go_sem])
 exact sBin rfl rfl rfl hz rfl (Gd.none_ rfl) rfl (sd 1 rfl) kc (fun w => run_f (P := 0 < bits .and .i64 by_ 2048) ((fun w => z_gt0' w) w) hc10)
 exact zMv hz (sd 2 rfl)
 exact zSkU hz (gN 3 rfl)
 exact zSkU hz (gN 3 rfl)
 exact zSkU hz (gN 3 rfl)
 exact zSkU hz (gN 3 rfl)
 exact zPF hz (sd 3 rfl) kc
 clear hz hd
 intro a' γ' W' hz hd hC hk hh
 have tp4 := Cx.lt
 replace Cx := kC hC Cx
 have tp8 := Cp8.lt
 replace Cp8 := kC hC Cp8
 clear S4
 replace S10 := kp hk S10
 replace S17 := kp hk S17
 replace S21 := kp hk S21
 clear S90
 have S102 := gV hz 8 hh
 clear tp4 tp8
 replace HB := aB HB hC
 clear hC hk hh
 refine wp_cond_false S102.ev ?_
 refine wp_skip ?_
 replace Cx : Cell 32 (tQ B32 6000 x) p4 _ := Cell.toN Cx (tQ_to (by decide) rfl (by decide))
 refine join_n ?_
 exact ⟨(x), hz, hd, HB, S10, S17, Cx⟩
 clear S4 S10 S17 S21 Cx Cp8 hz hd HB
 rintro a W ⟨x, hz, hd, HB, S10, S17, Cx⟩
 obtain ⟨l6, e6⟩ : ∃ l : Nat, l = 6000 := ⟨_, rfl⟩
 have hx := cell_bits Cx
 refine wp_seq ?_
 refine region_drawn (M := []) (
  rT (tV (.pointer (some ⟨p4, 0, none⟩))) ::
  rT (tN B32 6000 x.num.toNat) ::
  rT (tBy 48000 (bytesOf x.num.toNat)) ::
  rT (tN B64 48000 (bev (bytesOf x.num.toNat))) ::
  rT (tV (.pointer (some ⟨p4, 1, none⟩))) ::
  rT (tN B32 6000 x.den) ::
  rT (tBy 48000 (bytesOf x.den)) ::
  rT (tN B64 48000 (bev (bytesOf x.den))) ::
  rT (tT [tQ B64 6000 x, tV (.bool true)]) ::
  rT (tT [tQ B64 6000 x, tV (.bool true)]) ::
  rT (tQ B64 6000 x) ::
  rT (tV (.bool true)) ::
  rVar 12 28 2 ::
  rB 12 28 (tQ B64 6000 x) (some 12) 13 ::
  rT (tV (.bool true)) ::
  []) hz hd (by kernel_rfl) (by kernel_rfl) ?_ ?_
 refine ⟨?_, ?_, ?_, ?_, ?_, ?_, ?_, ?_, ?_, ?_, ?_, ?_, ?_, ?_, ?_, trivial⟩
 exact sFA rfl rfl rfl hz rfl (Gd.none_ rfl) rfl (sv S17) (fun w => by simp [go_sem])
 exact zLdP hz (sd 0 rfl) Cx ldp_q32
 exact zC1 hz Tryz.func22 (sd 1 rfl) (fun _ _ h0 => d_bytes h0 (by decide))
 exact zC1 hz Tryz.func21 (sd 2 rfl) (fun _ _ h0 => c_fb h0 (by decide))
 exact sFA rfl rfl rfl hz rfl (Gd.none_ rfl) rfl (sv S17) (fun w => by simp [go_sem])
 exact zLdP hz (sd 4 rfl) Cx ldq_q32
 exact zC1 hz Tryz.func22 (sd 5 rfl) (fun _ _ h0 => d_bytes h0 (by decide))
 exact zC1 hz Tryz.func21 (sd 6 rfl) (fun _ _ h0 => c_fb h0 (by decide))
 exact zC2 hz Tryz.func20 (sd 3 rfl) (sd 7 rfl) (fun _ _ _ h0 h1 => c_from_b hx.1 hx.2.1 hx.2.2 (by decide) h0 h1 (by decide) (by decide))
 exact zMv hz (sd 8 rfl)
 exact zExt hz (sd 9 rfl)
 exact zExt hz (sd 9 rfl)
 exact zAl hz nd_rat al_r64
 exact zSt (sd 10 rfl) st_q64
 exact zAs hz (sd 11 rfl)
 clear hz hd
 intro a' γ' W' hz hd hC hk hh
 have ep4 := Cx.lt
 have tp4 := Cx.lt
 replace Cx := kC hC Cx
 replace S10 := kp hk S10
 replace S17 := kp hk S17
 obtain ⟨p12, S23, Cp12, lp12, gp12⟩ := gotB hz 13 hC hh rfl rfl rfl rfl rfl rfl
 have n_p12_p4 : p12 ≠ p4 := by omega
 have n_p4_p12 : p4 ≠ p12 := by have := ep4; omega
 have bp12 := Nat.le_trans HB.size lp12
 clear lp12 gp12
 clear tp4
 clear ep4
 replace HB := aB HB hC
 clear hC hk hh
 refine wp_seq ?_
 refine rt [rT (tQ B64 6000 x), rT (tT [tV (.float .f64 (flN (tfD x.num.toNat x.den))), tV (.bool (decide (tfD x.num.toNat x.den < 9218868437227405312)))]), rT (tT [tV (.float .f64 (flN (tfD x.num.toNat x.den))), tV (.bool (decide (tfD x.num.toNat x.den < 9218868437227405312)))]), rV (.float .f64 (flN (tfD x.num.toNat x.den))), rV (.bool (decide (tfD x.num.toNat x.den < 9218868437227405312))), rV (.float .f64 (flN (tfD x.num.toNat x.den))), rV (.bool (decide (tfD x.num.toNat x.den < 9218868437227405312)))] hz hd ?_ ?_
 refine ⟨?_, ?_, ?_, ?_, ?_, ?_, ?_, trivial⟩
 exact zLd hz (sv S23) Cp12 ld_q64
 exact zC1 hz Tryz.func8 (sd 0 rfl) (fun _ _ h0 => c_tofloat_pq h0 rfl rfl (by decide))
 exact zMv hz (sd 1 rfl)
 exact zExt hz (sd 2 rfl)
 exact zExt hz (sd 2 rfl)
 exact zAs hz (sd 3 rfl)
 exact zAs hz (sd 4 rfl)
 clear hz hd
 intro a' γ' W' hz hd hC hk hh
 have tp4 := Cx.lt
 replace Cx := kC hC Cx
 have tp12 := Cp12.lt
 clear Cp12
 replace S10 := kp hk S10
 replace S17 := kp hk S17
 clear S23
 have S25 := gV hz 5 hh
 have S26 := gV hz 6 hh
 clear tp4 tp12
 replace HB := aB HB hC
 clear hC hk hh
 refine wp_seq ?_
 refine rt [rT (tQ B32 6000 x), rT (tT [tV (.int .u64 ((flN (tfD x.num.toNat x.den) : Nat) : Int)), tV (.bool (decide (tfD x.num.toNat x.den < 9218868437227405312)))]), rT (tT [tV (.int .u64 ((flN (tfD x.num.toNat x.den) : Nat) : Int)), tV (.bool (decide (tfD x.num.toNat x.den < 9218868437227405312)))]), rV (.int .u64 ((flN (tfD x.num.toNat x.den) : Nat) : Int)), rV (.bool (decide (tfD x.num.toNat x.den < 9218868437227405312))), rV (.int .u64 ((flN (tfD x.num.toNat x.den) : Nat) : Int)), rV (.bool (decide (tfD x.num.toNat x.den < 9218868437227405312)))] hz hd ?_ ?_
 refine ⟨?_, ?_, ?_, ?_, ?_, ?_, ?_, trivial⟩
 exact zLd hz (sv S17) Cx ld_q32
 exact zC1 hz Tryz.func9 (sd 0 rfl) (fun _ _ h0 => dq_tofloat h0 rfl rfl (by decide))
 exact zMv hz (sd 1 rfl)
 exact zExt hz (sd 2 rfl)
 exact zExt hz (sd 2 rfl)
 exact zAs hz (sd 3 rfl)
 exact zAs hz (sd 4 rfl)
 clear hz hd
 intro a' γ' W' hz hd hC hk hh
 have tp4 := Cx.lt
 clear Cx
 replace S10 := kp hk S10
 clear S17
 replace S25 := kp hk S25
 replace S26 := kp hk S26
 have S27 := gV hz 5 hh
 have S28 := gV hz 6 hh
 clear tp4
 replace HB := aB HB hC
 clear hC hk hh
 refine wp_seq ?_
 by_cases hc13 : tfD x.num.toNat x.den < 9218868437227405312
 rw [decide_eq_true hc13] at S26
 rw [decide_eq_true hc13] at S28
 refine rt [rV (.bool true), rV (.bool true), rV (.bool true), rV (.bool true), rV (.float .f64 (flN (tfD x.num.toNat x.den))), rV (.int .u64 ((flN (tfD x.num.toNat x.den) : Nat) : Int)), rV (.int .u64 ((flN (tfD x.num.toNat x.den) : Nat) : Int)), rV (.bool true), rV (.bool true), rV (.bool true), rV (.bool true), rV (.bool true), rV (.bool true)] hz hd ?_ ?_
 refine ⟨?_, ?_, ?_, ?_, ?_, ?_, ?_, ?_, ?_, ?_, ?_, ?_, ?_, trivial⟩
 exact zMv hz (sv S26)
 exact zMv hz (sv S28)
 exact sBin rfl rfl rfl hz rfl (Gd.none_ rfl) rfl (sd 0 rfl) (sd 1 rfl) (fun w => by kernel_rfl)
 exact zMv hz (sd 2 rfl)
 exact zMv hz (sv S25) (g := gT 3 rfl)
 exact zC1 hz Tryz.func10 (sd 4 rfl) (k1 (fun _ => c_bits)) (g := gT 3 rfl)
 exact zMv hz (sv S27) (g := gT 3 rfl)
 exact sBin rfl rfl rfl hz rfl (gT 3 rfl) rfl (sd 5 rfl) (sd 6 rfl) (fun w => by simp [go_sem])
 exact zPT hz (sd 3 rfl) (sd 7 rfl)
 exact zMv hz (sd 8 rfl)
 exact zC0 hz Tryz.func12 (fun _ => l_started) (g := gT 9 rfl)
 exact zPT hz (sd 9 rfl) (sd 10 rfl)
 exact zAs hz (sd 11 rfl)
 clear hz hd
 intro a' γ' W' hz hd hC hk hh
 clear S10
 clear S25
 clear S26
 clear S27
 clear S28
 have S10 := gV hz 12 hh
 replace HB := aB HB hC
 clear hC hk hh
 refine wp_ret ?_
 refine ret_to (T := tV (.bool true)) (ret1 (by kernel_rfl) S10 hd ⟨_, rfl, rfl, HB⟩) ?_
 exact fun _ _ h => h
 rw [decide_eq_false hc13] at S26
 rw [decide_eq_false hc13] at S28
 refine rt [rV (.bool false), rV (.bool false), rV (.bool true), rV (.bool true), rV (.float .f64 (flN (tfD x.num.toNat x.den))), rV (.int .u64 ((flN (tfD x.num.toNat x.den) : Nat) : Int)), rV (.int .u64 ((flN (tfD x.num.toNat x.den) : Nat) : Int)), rV (.bool true), rV (.bool true), rV (.bool true), rV (.bool true), rV (.bool true), rV (.bool true)] hz hd ?_ ?_
 refine ⟨?_, ?_, ?_, ?_, ?_, ?_, ?_, ?_, ?_, ?_, ?_, ?_, ?_, trivial⟩
 exact zMv hz (sv S26)
 exact zMv hz (sv S28)
 exact sBin rfl rfl rfl hz rfl (Gd.none_ rfl) rfl (sd 0 rfl) (sd 1 rfl) (fun w => by kernel_rfl)
 exact zMv hz (sd 2 rfl)
 exact zMv hz (sv S25) (g := gT 3 rfl)
 exact zC1 hz Tryz.func10 (sd 4 rfl) (k1 (fun _ => c_bits)) (g := gT 3 rfl)
 exact zMv hz (sv S27) (g := gT 3 rfl)
 exact sBin rfl rfl rfl hz rfl (gT 3 rfl) rfl (sd 5 rfl) (sd 6 rfl) (fun w => by simp [go_sem])
 exact zPT hz (sd 3 rfl) (sd 7 rfl)
 exact zMv hz (sd 8 rfl)
 exact zC0 hz Tryz.func12 (fun _ => l_started) (g := gT 9 rfl)
 exact zPT hz (sd 9 rfl) (sd 10 rfl)
 exact zAs hz (sd 11 rfl)
 clear hz hd
 intro a' γ' W' hz hd hC hk hh
 clear S10
 clear S25
 clear S26
 clear S27
 clear S28
 have S10 := gV hz 12 hh
 replace HB := aB HB hC
 clear hC hk hh
 refine wp_ret ?_
 refine ret_to (T := tV (.bool true)) (ret1 (by kernel_rfl) S10 hd ⟨_, rfl, rfl, HB⟩) ?_
 exact fun _ _ h => h
 rw [decide_eq_false hc5] at S18
 refine rt [rV (.bool false), rV (.bool true)] hz hd ?_ ?_
 refine ⟨?_, ?_, trivial⟩
 exact zMv hz (sv S18)
 exact zNot hz (sd 0 rfl)
 clear hz hd
 intro a' γ' W' hz hd hC hk hh
 have tp4 := Cp4.lt
 replace Cp4 := kC hC Cp4
 replace S2 := kp hk S2
 replace S3 := kp hk S3
 replace S4 := kp hk S4
 replace S10 := kp hk S10
 replace S17 := kp hk S17
 clear S18
 have S61 := gV hz 1 hh
 clear tp4
 replace HB := aB HB hC
 clear hC hk hh
 refine wp_cond_true S61.ev ?_
 refine wp_seq ?_
 refine rt [rV (.bool true), rV (.bool true)] hz hd ?_ ?_
 refine ⟨?_, ?_, trivial⟩
 exact zC0 hz Tryz.func12 (fun _ => l_started)
 exact zAs hz (sd 0 rfl)
 clear hz hd
 intro a' γ' W' hz hd hC hk hh
 have tp4 := Cp4.lt
 replace Cp4 := kC hC Cp4
 replace S2 := kp hk S2
 replace S3 := kp hk S3
 replace S4 := kp hk S4
 clear S10
 replace S17 := kp hk S17
 clear S61
 have S10 := gV hz 1 hh
 clear tp4
 replace HB := aB HB hC
 clear hC hk hh
 refine wp_ret ?_
 refine ret_to (T := tV (.bool true)) (ret1 (by kernel_rfl) S10 hd ⟨_, rfl, rfl, HB⟩) ?_
 exact fun _ _ h => h
 rw [decide_eq_false hc3] at S14
 rw [decide_eq_false hc3] at S16
 refine rt [rV (.bool false), rV (.bool false), rV (.bool false), rV (.bool false), rV (.float .f64 (flN (tfD (mk3 l k).num.toNat (mk3 l k).den))), rV (.int .u64 ((flN (tfD (mk3 l k).num.toNat (mk3 l k).den) : Nat) : Int)), rV (.int .u64 ((flN (tfD (mk3 l k).num.toNat (mk3 l k).den) : Nat) : Int)), rV (.bool false), rV (.bool false)] hz hd ?_ ?_
 refine ⟨?_, ?_, ?_, ?_, ?_, ?_, ?_, ?_, ?_, trivial⟩
 exact zMv hz (sv S14)
 exact zMv hz (sv S16)
 exact sBin rfl rfl rfl hz rfl (Gd.none_ rfl) rfl (sd 0 rfl) (sd 1 rfl) (fun w => by kernel_rfl)
 exact zMv hz (sd 2 rfl)
 exact zMv hz (sv S13) (g := gT 3 rfl)
 exact zC1 hz Tryz.func10 (sd 4 rfl) (k1 (fun _ => c_bits)) (g := gT 3 rfl)
 exact zMv hz (sv S15) (g := gT 3 rfl)
 exact sBin rfl rfl rfl hz rfl (gT 3 rfl) rfl (sd 5 rfl) (sd 6 rfl) (fun w => by simp [go_sem])
 exact zPF hz (sd 3 rfl) (sd 7 rfl)
 clear hz hd
 intro a' γ' W' hz hd hC hk hh
 replace S2 := kp hk S2
 replace S3 := kp hk S3
 replace S4 := kp hk S4
 replace S10 := kp hk S10
 clear S13
 clear S14
 clear S15
 clear S16
 have S53 := gV hz 8 hh
 replace HB := aB HB hC
 clear hC hk hh
 refine wp_cond_false S53.ev ?_
 refine wp_skip ?_
 refine wp_seq ?_
 refine rt [rV (.int .u64 (u : Int)), rV (.int .u64 ((u % 9223372036854775808 : Nat) : Int)), rT (tT [tQ B32 1100 (flQ (u % 9223372036854775808)), tV (.bool (decide (FOk (u % 9223372036854775808))))]), rT (tT [tQ B32 1100 (flQ (u % 9223372036854775808)), tV (.bool (decide (FOk (u % 9223372036854775808))))]), rT (tQ B32 1100 (flQ (u % 9223372036854775808))), rV (.bool (decide (FOk (u % 9223372036854775808)))), rVar 6 32 2, rB 6 32 (tQ B32 1100 (flQ (u % 9223372036854775808))) (some 6) 7, rV (.bool (decide (FOk (u % 9223372036854775808))))] hz hd ?_ ?_
 refine ⟨?_, ?_, ?_, ?_, ?_, ?_, ?_, ?_, ?_, trivial⟩
 exact zMv hz (sv S2)
 exact sBin rfl rfl rfl hz rfl (Gd.none_ rfl) rfl (sd 0 rfl) kc (fun w => o_andnot hu w)
 exact zC1 hz Tryz.func11 (sd 1 rfl) (k1 (fun _ => d_fromfloat (l := 1100) (by omega) (by decide)))
 exact zMv hz (sd 2 rfl)
 exact zExt hz (sd 3 rfl)
 exact zExt hz (sd 3 rfl)
 exact zAl hz nd_rat al_r32
 exact zSt (sd 4 rfl) st_q32
 exact zAs hz (sd 5 rfl)
 clear hz hd
 intro a' γ' W' hz hd hC hk hh
 replace S2 := kp hk S2
 replace S3 := kp hk S3
 replace S4 := kp hk S4
 replace S10 := kp hk S10
 clear S53
 obtain ⟨p14, S17, Cp14, lp14, gp14⟩ := gotB hz 7 hC hh rfl rfl rfl rfl rfl rfl
 have S18 := gV hz 8 hh
 have bp14 := Nat.le_trans HB.size lp14
 clear lp14 gp14
 replace HB := aB HB hC
 clear hC hk hh
 refine wp_seq ?_
 refine wp_seq ?_
 by_cases hc15 : FOk (u % 9223372036854775808)
 rw [decide_eq_true hc15] at S18
 refine rt [rV (.bool true), rV (.bool false)] hz hd ?_ ?_
 refine ⟨?_, ?_, trivial⟩
 exact zMv hz (sv S18)
 exact zNot hz (sd 0 rfl)
 clear hz hd
 intro a' γ' W' hz hd hC hk hh
 have tp14 := Cp14.lt
 replace Cp14 := kC hC Cp14
 replace S2 := kp hk S2
 replace S3 := kp hk S3
 replace S4 := kp hk S4
 replace S10 := kp hk S10
 replace S17 := kp hk S17
 clear S18
 have S61 := gV hz 1 hh
 clear tp14
 replace HB := aB HB hC
 clear hC hk hh
 refine wp_cond_false S61.ev ?_
 refine wp_skip ?_
 refine wp_join (fun a W => ∃ (x : Rat), a.tmps.size = 140 ∧ a.defers = [] ∧ Below w.heap.size w W ∧ Sl a 4 (.int .i64 (by_)) ∧ Sl a 10 (.bool false) ∧ Sl a 17 (.pointer (some ⟨p14, 0, none⟩)) ∧ Cell 32 (tQ B32 3000 x) p14 W) ?_ ?_
 refine wp_seq ?_
 refine rt [rV (.bool (decide (hb = true)))] hz hd ?_ ?_
 refine ⟨?_, trivial⟩
 exact zMv hz (sv S3)
 clear hz hd
 intro a' γ' W' hz hd hC hk hh
 have tp14 := Cp14.lt
 replace Cp14 := kC hC Cp14
 replace S2 := kp hk S2
 clear S3
 replace S4 := kp hk S4
 replace S10 := kp hk S10
 replace S17 := kp hk S17
 clear S61
 have S63 := gV hz 0 hh
 clear tp14
 replace HB := aB HB hC
 clear hC hk hh
 by_cases hc16 : hb = true
 rw [decide_eq_true hc16] at S63
 refine wp_cond_true S63.ev ?_
 refine wp_seq ?_
 refine rt [rV (.int .u64 (u : Int)), rV (.int .u64 ((u % 9223372036854775808 : Nat) : Int)), rV (.int .u64 ((u % 9223372036854775808 + 1 : Nat) : Int)), rT (tT [tQ B32 1100 (flQ (u % 9223372036854775808 + 1)), tV (.bool (decide (FOk (u % 9223372036854775808 + 1))))]), rT (tT [tQ B32 1100 (flQ (u % 9223372036854775808 + 1)), tV (.bool (decide (FOk (u % 9223372036854775808 + 1))))]), rT (tQ B32 1100 (flQ (u % 9223372036854775808 + 1))), rV (.bool (decide (FOk (u % 9223372036854775808 + 1)))), rVar 7 32 2, rB 7 32 (tQ B32 1100 (flQ (u % 9223372036854775808 + 1))) (some 7) 8, rV (.bool (decide (FOk (u % 9223372036854775808 + 1))))] hz hd ?_ ?_
 refine ⟨?_, ?_, ?_, ?_, ?_, ?_, ?_, ?_, ?_, ?_, trivial⟩
 exact zMv hz (sv S2)
 exact sBin rfl rfl rfl hz rfl (Gd.none_ rfl) rfl (sd 0 rfl) kc (fun w => o_andnot hu w)
 exact sBin rfl rfl rfl hz rfl (Gd.none_ rfl) rfl (sd 1 rfl) kc (fun w => o_u1' (Nat.mod_lt _ (by decide)) w)
 exact zC1 hz Tryz.func11 (sd 2 rfl) (k1 (fun _ => d_fromfloat (l := 1100) (by omega) (by decide)))
 exact zMv hz (sd 3 rfl)
 exact zExt hz (sd 4 rfl)
 exact zExt hz (sd 4 rfl)
 exact zAl hz nd_rat al_r32
 exact zSt (sd 5 rfl) st_q32
 exact zAs hz (sd 6 rfl)
 clear hz hd
 intro a' γ' W' hz hd hC hk hh
 have ep14 := Cp14.lt
 have tp14 := Cp14.lt
 replace Cp14 := kC hC Cp14
 clear S2
 replace S4 := kp hk S4
 replace S10 := kp hk S10
 replace S17 := kp hk S17
 clear S63
 obtain ⟨p17, S19, Cp17, lp17, gp17⟩ := gotB hz 8 hC hh rfl rfl rfl rfl rfl rfl
 have n_p17_p14 : p17 ≠ p14 := by omega
 have n_p14_p17 : p14 ≠ p17 := by have := ep14; omega
 have bp17 := Nat.le_trans HB.size lp17
 clear lp17 gp17
 clear tp14
 clear ep14
 replace HB := aB HB hC
 clear hC hk hh
 refine region_text (M := [p14]) [rT (tQ B32 1100 (flQ (u % 9223372036854775808))), rT (tQ B32 1100 (flQ (u % 9223372036854775808 + 1))), rT (tQ B32 2201 ((flQ (u % 9223372036854775808)) + (flQ (u % 9223372036854775808 + 1)))), rT (tT [tQ B32 2266 (divI ((flQ (u % 9223372036854775808)) + (flQ (u % 9223372036854775808 + 1))) 2), tV (.bool (decide ((1 : Int) ≤ 2)))]), rT (tT [tQ B32 2266 (divI ((flQ (u % 9223372036854775808)) + (flQ (u % 9223372036854775808 + 1))) 2), tV (.bool (decide ((1 : Int) ≤ 2)))]), rT (tQ B32 2266 (divI ((flQ (u % 9223372036854775808)) + (flQ (u % 9223372036854775808 + 1))) 2)), rV (.bool (decide ((1 : Int) ≤ 2))), rE 0 32 (tQ B32 2266 (divI ((flQ (u % 9223372036854775808)) + (flQ (u % 9223372036854775808 + 1))) 2)) p14] hz hd (by kernel_rfl) ?_ ?_
 refine ⟨?_, ?_, ?_, ?_, ?_, ?_, ?_, ?_, trivial⟩
 exact sLoadM rfl rfl rfl hz rfl (Gd.none_ rfl) rfl (sv S17) Cp14 (k := 0) (by simp [tagOf]) (by kernel_rfl) ld_q32
 exact zLd hz (sv S19) Cp17 ld_q32 (by simp [tagOf, n_p17_p14])
 exact zC2 hz Tryz.func14 (sd 0 rfl) (sd 1 rfl) (fun _ _ _ h0 h1 => dq_add h0 h1 (by decide) (by decide))
 exact zC2 hz Tryz.func13 (sd 2 rfl) (kc (v := .int .i64 2)) (k01 (fun _ _ h0 => dq_divint (n := 2) h0 (by decide) (by decide)))
 exact zMv hz (sd 3 rfl)
 exact zExt hz (sd 4 rfl)
 exact zExt hz (sd 4 rfl)
 exact zSE rfl (sv S17) (by simp [tagOf]) (Cp14.var tQ_nd) (sd 5 rfl) st_q32
 clear hz hd
 intro a' γ' W' hz hd hC hk hh
 replace Cp14 := gotE (T := tQ B32 2266 (divI ((flQ (u % 9223372036854775808)) + (flQ (u % 9223372036854775808 + 1))) 2)) (id := 32) (p := p14) 7 hh rfl rfl
 have tp17 := Cp17.lt
 clear Cp17
 replace S4 := kp hk S4
 replace S10 := kp hk S10
 replace S17 := kp hk S17
 clear S19
 clear tp17
 replace HB := aM HB hC
 clear hC hk hh
 replace Cp14 : Cell 32 (tQ B32 3000 (divI ((flQ (u % 9223372036854775808)) + (flQ (u % 9223372036854775808 + 1))) 2)) p14 _ := Cell.toN Cp14 (tQ_to (by decide) rfl (by decide))
 refine join_n ?_
 exact ⟨(divI ((flQ (u % 9223372036854775808)) + (flQ (u % 9223372036854775808 + 1))) 2), hz, hd, HB, S4, S10, S17, Cp14⟩
 rw [decide_eq_false hc16] at S63
 refine wp_cond_false S63.ev ?_
 refine wp_skip ?_
 replace Cp14 : Cell 32 (tQ B32 3000 (flQ (u % 9223372036854775808))) p14 _ := Cell.toN Cp14 (tQ_to (by decide) rfl (by decide))
 refine join_n ?_
 exact ⟨(flQ (u % 9223372036854775808)), hz, hd, HB, S4, S10, S17, Cp14⟩
 clear S2 S3 S4 S10 S17 S61 Cp14 hz hd HB
 rintro a W ⟨x, hz, hd, HB, S4, S10, S17, Cx⟩
 refine wp_seq ?_
 refine rt [rT (tN B32 2 1), rT (tN B32 2 1), rV (.int .i64 (by_)), rV (.int .i64 ((N : Nat) : Int)), rV (.int .i64 ((1100 + N : Nat) : Int)), rT (tN B32 2302 (1 * 2 ^ (1100 + N))), rT (tT [tQ B32 2300 (mkRat 1 (1 * 2 ^ (1100 + N))), tV (.bool true)]), rT (tT [tQ B32 2300 (mkRat 1 (1 * 2 ^ (1100 + N))), tV (.bool true)]), rT (tQ B32 2300 (mkRat 1 (1 * 2 ^ (1100 + N)))), rV (.bool true), rVar 10 32 2, rB 10 32 (tQ B32 2300 (mkRat 1 (1 * 2 ^ (1100 + N)))) (some 10) 11, rV (.bool true)] hz hd ?_ ?_
 refine ⟨?_, ?_, ?_, ?_, ?_, ?_, ?_, ?_, ?_, ?_, ?_, ?_, ?_, trivial⟩
 exact zC1 hz Tryz.func16 (kc (v := .int .u64 1)) (k1 (fun _ => d_of (by decide)))
 exact zC1 hz Tryz.func16 (kc (v := .int .u64 1)) (k1 (fun _ => d_of (by decide)))
 exact zMv hz (sv S4)
 exact sBin rfl rfl rfl hz rfl (Gd.none_ rfl) rfl (sd 2 rfl) kc (fun w => o_and1023 eN w)
 exact sBin rfl rfl rfl hz rfl (Gd.none_ rfl) rfl kc (sd 3 rfl) (fun w => o_1100 hN w)
 exact zC2 hz Tryz.func17 (sd 1 rfl) (sd 4 rfl) (k01 (fun _ _ h0 => d_leftK 2300 (k := 1100 + N) h0 (by decide) (by omega) (by decide)))
 exact zC2 hz Tryz.func15 (sd 0 rfl) (sd 5 rfl) (fun _ _ _ h0 h1 => dq_small (l := 2300) (by omega) h0 h1 (by decide) (by decide) (by decide))
 exact zMv hz (sd 6 rfl)
 exact zExt hz (sd 7 rfl)
 exact zExt hz (sd 7 rfl)
 exact zAl hz nd_rat al_r32
 exact zSt (sd 8 rfl) st_q32
 exact zAs hz (sd 9 rfl)
 clear hz hd
 intro a' γ' W' hz hd hC hk hh
 have ep14 := Cx.lt
 have tp14 := Cx.lt
 replace Cx := kC hC Cx
 replace S4 := kp hk S4
 replace S10 := kp hk S10
 replace S17 := kp hk S17
 obtain ⟨p18, S21, Cp18, lp18, gp18⟩ := gotB hz 11 hC hh rfl rfl rfl rfl rfl rfl
 have n_p18_p14 : p18 ≠ p14 := by omega
 have n_p14_p18 : p14 ≠ p18 := by have := ep14; omega
 have bp18 := Nat.le_trans HB.size lp18
 clear lp18 gp18
 clear tp14
 clear ep14
 replace HB := aB HB hC
 clear hC hk hh
 refine wp_join (fun a W => ∃ (x : Rat), a.tmps.size = 140 ∧ a.defers = [] ∧ Below w.heap.size w W ∧ Sl a 10 (.bool false) ∧ Sl a 17 (.pointer (some ⟨p14, 0, none⟩)) ∧ Cell 32 (tQ B32 6000 x) p14 W) ?_ ?_
 refine wp_seq ?_
 refine rt [rV (.int .i64 (by_)), rV (.int .i64 (bits .and .i64 by_ 1024)), rV (.bool (decide (0 < bits .and .i64 by_ 1024)))] hz hd ?_ ?_
 refine ⟨?_, ?_, ?_, trivial⟩
 exact zMv hz (sv S4)
 exact sBin rfl rfl rfl hz rfl (Gd.none_ rfl) rfl (sd 0 rfl) kc (fun w => by simp [go_sem])
 exact sBin rfl rfl rfl hz rfl (Gd.none_ rfl) rfl (sd 1 rfl) kc (fun w => z_gt0' w)
 clear hz hd
 intro a' γ' W' hz hd hC hk hh
 have tp14 := Cx.lt
 replace Cx := kC hC Cx
 have tp18 := Cp18.lt
 replace Cp18 := kC hC Cp18
 replace S4 := kp hk S4
 replace S10 := kp hk S10
 replace S17 := kp hk S17
 replace S21 := kp hk S21
 have S90 := gV hz 2 hh
 clear tp14 tp18
 replace HB := aB HB hC
 clear hC hk hh
 by_cases hc19 : 0 < bits .and .i64 by_ 1024
 rw [decide_eq_true hc19] at S90
 refine wp_cond_true S90.ev ?_
 refine region_text (M := [p14]) [rT (tQ B32 3000 x), rT (tQ B32 2300 (mkRat 1 (1 * 2 ^ (1100 + N)))), rT (tQ B32 5301 (x + (mkRat 1 (1 * 2 ^ (1100 + N))))), rE 0 32 (tQ B32 5301 (x + (mkRat 1 (1 * 2 ^ (1100 + N))))) p14] hz hd (by kernel_rfl) ?_ ?_
 refine ⟨?_, ?_, ?_, ?_, trivial⟩
 exact sLoadM rfl rfl rfl hz rfl (Gd.none_ rfl) rfl (sv S17) Cx (k := 0) (by simp [tagOf]) (by kernel_rfl) ld_q32
 exact zLd hz (sv S21) Cp18 ld_q32 (by simp [tagOf, n_p18_p14])
 exact zC2 hz Tryz.func14 (sd 0 rfl) (sd 1 rfl) (fun _ _ _ h0 h1 => dq_add h0 h1 (by decide) (by decide))
 exact zSE rfl (sv S17) (by simp [tagOf]) (Cx.var tQ_nd) (sd 2 rfl) st_q32
 clear hz hd
 intro a' γ' W' hz hd hC hk hh
 replace Cx := gotE (T := tQ B32 5301 (x + (mkRat 1 (1 * 2 ^ (1100 + N))))) (id := 32) (p := p14) 3 hh rfl rfl
 have tp18 := Cp18.lt
 clear Cp18
 clear S4
 replace S10 := kp hk S10
 replace S17 := kp hk S17
 clear S21
 clear S90
 clear tp18
 replace HB := aM HB hC
 clear hC hk hh
 replace Cx : Cell 32 (tQ B32 6000 (x + (mkRat 1 (1 * 2 ^ (1100 + N))))) p14 _ := Cell.toN Cx (tQ_to (by decide) rfl (by decide))
 refine join_n ?_
 exact ⟨(x + (mkRat 1 (1 * 2 ^ (1100 + N)))), hz, hd, HB, S10, S17, Cx⟩
 rw [decide_eq_false hc19] at S90
 refine wp_cond_false S90.ev ?_
 refine wp_seq ?_
 by_cases hc20 : 0 < bits .and .i64 by_ 2048
 refine rt [rV (.int .i64 (by_)), rV (.int .i64 (bits .and .i64 by_ 2048)), rV (.bool true), rV (.bool true), rT (tQ B32 3000 x), rT (tQ B32 2300 (mkRat 1 (1 * 2 ^ (1100 + N)))), rV (.int .i64 (cmpQ x (mkRat 1 (1 * 2 ^ (1100 + N))))), rV (.bool (decide (mkRat 1 (1 * 2 ^ (1100 + N)) < x))), rV (.bool (decide (mkRat 1 (1 * 2 ^ (1100 + N)) < x)))] hz hd ?_ ?_
 refine ⟨?_, ?_, ?_, ?_, ?_, ?_, ?_, ?_, ?_, trivial⟩
 exact zMv hz (sv S4)
 exact sBin rfl rfl rfl hz rfl (Gd.none_ rfl) rfl (sd 0 rfl) kc (fun w => by simp [go_sem])
 exact sBin rfl rfl rfl hz rfl (Gd.none_ rfl) rfl (sd 1 rfl) kc (fun w => run_t (P := 0 < bits .and .i64 by_ 2048) ((fun w => z_gt0' w) w) hc20)
 exact zMv hz (sd 2 rfl)
 exact zLd hz (sv S17) Cx ld_q32 (g := gT 3 rfl)
 exact zLd hz (sv S21) Cp18 ld_q32 (g := gT 3 rfl)
 exact zC2 hz Tryz.func18 (sd 4 rfl) (sd 5 rfl) (fun _ _ _ h0 h1 => dq_cmp h0 h1 (by decide) (by decide)) (g := gT 3 rfl)
 exact sBin rfl rfl rfl hz rfl (gT 3 rfl) rfl (sd 6 rfl) kc (fun w => run_cQ_gtr x (mkRat 1 (1 * 2 ^ (1100 + N))) w)
 exact zPT hz (sd 3 rfl) (sd 7 rfl)
 clear hz hd
 intro a' γ' W' hz hd hC hk hh
 have tp14 := Cx.lt
 replace Cx := kC hC Cx
 have tp18 := Cp18.lt
 replace Cp18 := kC hC Cp18
 clear S4
 replace S10 := kp hk S10
 replace S17 := kp hk S17
 replace S21 := kp hk S21
 clear S90
 have S102 := gV hz 8 hh
 clear tp14 tp18
 replace HB := aB HB hC
 clear hC hk hh
 by_cases hc21 : mkRat 1 (1 * 2 ^ (1100 + N)) < x
 rw [decide_eq_true hc21] at S102
 refine wp_cond_true S102.ev ?_
 refine region_text (M := [p14]) [rT (tQ B32 3000 x), rT (tQ B32 2300 (mkRat 1 (1 * 2 ^ (1100 + N)))), rT (tQ B32 5301 (subQ x (mkRat 1 (1 * 2 ^ (1100 + N))))), rE 0 32 (tQ B32 5301 (subQ x (mkRat 1 (1 * 2 ^ (1100 + N))))) p14] hz hd (by kernel_rfl) ?_ ?_
 refine ⟨?_, ?_, ?_, ?_, trivial⟩
 exact sLoadM rfl rfl rfl hz rfl (Gd.none_ rfl) rfl (sv S17) Cx (k := 0) (by simp [tagOf]) (by kernel_rfl) ld_q32
 exact zLd hz (sv S21) Cp18 ld_q32 (by simp [tagOf, n_p18_p14])
 exact zC2 hz Tryz.func19 (sd 0 rfl) (sd 1 rfl) (fun _ _ _ h0 h1 => dq_less h0 h1 (by decide) (by decide))
 exact zSE rfl (sv S17) (by simp [tagOf]) (Cx.var tQ_nd) (sd 2 rfl) st_q32
 clear hz hd
 intro a' γ' W' hz hd hC hk hh
 replace Cx := gotE (T := tQ B32 5301 (subQ x (mkRat 1 (1 * 2 ^ (1100 + N))))) (id := 32) (p := p14) 3 hh rfl rfl
 have tp18 := Cp18.lt
 clear Cp18
 replace S10 := kp hk S10
 replace S17 := kp hk S17
 clear S21
 clear S102
 clear tp18
 replace HB := aM HB hC
 clear hC hk hh
 replace Cx : Cell 32 (tQ B32 6000 (subQ x (mkRat 1 (1 * 2 ^ (1100 + N))))) p14 _ := Cell.toN Cx (tQ_to (by decide) rfl (by decide))
 refine join_n ?_
 exact ⟨(subQ x (mkRat 1 (1 * 2 ^ (1100 + N)))), hz, hd, HB, S10, S17, Cx⟩
 rw [decide_eq_false hc21] at S102
 refine wp_cond_false S102.ev ?_
 refine wp_skip ?_
 replace Cx : Cell 32 (tQ B32 6000 x) p14 _ := Cell.toN Cx (tQ_to (by decide) rfl (by decide))
 refine join_n ?_
 exact ⟨(x), hz, hd, HB, S10, S17, Cx⟩
 refine rt [rV (.int .i64 (by_)), rV (.int .i64 (bits .and .i64 by_ 2048)), rV (.bool false), rV (.bool false), rV undef, rV undef, rV undef, rV undef, rV (.bool false)] hz hd ?_ ?_
 refine ⟨?_, ?_, ?_, ?_, ?_, ?_, ?_, ?_, ?_, trivial⟩
 exact zMv hz (sv S4)
 exact sBin rfl rfl rfl hz rfl (Gd.none_ rfl) rfl (sd 0 rfl) kc (fun w => by simp [go_sem])
 exact sBin rfl rfl rfl hz rfl (Gd.none_ rfl) rfl (sd 1 rfl) kc (fun w => run_f (P := 0 < bits .and .i64 by_ 2048) ((fun w => z_gt0' w) w) hc20)
 exact zMv hz (sd 2 rfl)
 exact zSkU hz (gN 3 rfl)
 exact zSkU hz (gN 3 rfl)
 exact zSkU hz (gN 3 rfl)
 exact zSkU hz (gN 3 rfl)
 exact zPF hz (sd 3 rfl) kc
 clear hz hd
 intro a' γ' W' hz hd hC hk hh
 have tp14 := Cx.lt
 replace Cx := kC hC Cx
 have tp18 := Cp18.lt
 replace Cp18 := kC hC Cp18
 clear S4
 replace S10 := kp hk S10
 replace S17 := kp hk S17
 replace S21 := kp hk S21
 clear S90
 have S102 := gV hz 8 hh
 clear tp14 tp18
 replace HB := aB HB hC
 clear hC hk hh
 refine wp_cond_false S102.ev ?_
 refine wp_skip ?_
 replace Cx : Cell 32 (tQ B32 6000 x) p14 _ := Cell.toN Cx (tQ_to (by decide) rfl (by decide))
 refine join_n ?_
 exact ⟨(x), hz, hd, HB, S10, S17, Cx⟩
 clear S4 S10 S17 S21 Cx Cp18 hz hd HB
 rintro a W ⟨x, hz, hd, HB, S10, S17, Cx⟩
 obtain ⟨l6, e6⟩ : ∃ l : Nat, l = 6000 := ⟨_, rfl⟩
 have hx := cell_bits Cx
 refine wp_seq ?_
 refine region_drawn (M := []) (
  rT (tV (.pointer (some ⟨p14, 0, none⟩))) ::
  rT (tN B32 6000 x.num.toNat) ::
  rT (tBy 48000 (bytesOf x.num.toNat)) ::
  rT (tN B64 48000 (bev (bytesOf x.num.toNat))) ::
  rT (tV (.pointer (some ⟨p14, 1, none⟩))) ::
  rT (tN B32 6000 x.den) ::
  rT (tBy 48000 (bytesOf x.den)) ::
  rT (tN B64 48000 (bev (bytesOf x.den))) ::
  rT (tT [tQ B64 6000 x, tV (.bool true)]) ::
  rT (tT [tQ B64 6000 x, tV (.bool true)]) ::
  rT (tQ B64 6000 x) ::
  rT (tV (.bool true)) ::
  rVar 12 28 2 ::
  rB 12 28 (tQ B64 6000 x) (some 12) 13 ::
  rT (tV (.bool true)) ::
  []) hz hd (by kernel_rfl) (by kernel_rfl) ?_ ?_
 refine ⟨?_, ?_, ?_, ?_, ?_, ?_, ?_, ?_, ?_, ?_, ?_, ?_, ?_, ?_, ?_, trivial⟩
 exact sFA rfl rfl rfl hz rfl (Gd.none_ rfl) rfl (sv S17) (fun w => by simp [go_sem])
 exact zLdP hz (sd 0 rfl) Cx ldp_q32
 exact zC1 hz Tryz.func22 (sd 1 rfl) (fun _ _ h0 => d_bytes h0 (by decide))
 exact zC1 hz Tryz.func21 (sd 2 rfl) (fun _ _ h0 => c_fb h0 (by decide))
 exact sFA rfl rfl rfl hz rfl (Gd.none_ rfl) rfl (sv S17) (fun w => by simp [go_sem])
 exact zLdP hz (sd 4 rfl) Cx ldq_q32
 exact zC1 hz Tryz.func22 (sd 5 rfl) (fun _ _ h0 => d_bytes h0 (by decide))
 exact zC1 hz Tryz.func21 (sd 6 rfl) (fun _ _ h0 => c_fb h0 (by decide))
 exact zC2 hz Tryz.func20 (sd 3 rfl) (sd 7 rfl) (fun _ _ _ h0 h1 => c_from_b hx.1 hx.2.1 hx.2.2 (by decide) h0 h1 (by decide) (by decide))
 exact zMv hz (sd 8 rfl)
 exact zExt hz (sd 9 rfl)
 exact zExt hz (sd 9 rfl)
 exact zAl hz nd_rat al_r64
 exact zSt (sd 10 rfl) st_q64
 exact zAs hz (sd 11 rfl)
 clear hz hd
 intro a' γ' W' hz hd hC hk hh
 have ep14 := Cx.lt
 have tp14 := Cx.lt
 replace Cx := kC hC Cx
 replace S10 := kp hk S10
 replace S17 := kp hk S17
 obtain ⟨p22, S23, Cp22, lp22, gp22⟩ := gotB hz 13 hC hh rfl rfl rfl rfl rfl rfl
 have n_p22_p14 : p22 ≠ p14 := by omega
 have n_p14_p22 : p14 ≠ p22 := by have := ep14; omega
 have bp22 := Nat.le_trans HB.size lp22
 clear lp22 gp22
 clear tp14
 clear ep14
 replace HB := aB HB hC
 clear hC hk hh
 refine wp_seq ?_
 refine rt [rT (tQ B64 6000 x), rT (tT [tV (.float .f64 (flN (tfD x.num.toNat x.den))), tV (.bool (decide (tfD x.num.toNat x.den < 9218868437227405312)))]), rT (tT [tV (.float .f64 (flN (tfD x.num.toNat x.den))), tV (.bool (decide (tfD x.num.toNat x.den < 9218868437227405312)))]), rV (.float .f64 (flN (tfD x.num.toNat x.den))), rV (.bool (decide (tfD x.num.toNat x.den < 9218868437227405312))), rV (.float .f64 (flN (tfD x.num.toNat x.den))), rV (.bool (decide (tfD x.num.toNat x.den < 9218868437227405312)))] hz hd ?_ ?_
 refine ⟨?_, ?_, ?_, ?_, ?_, ?_, ?_, trivial⟩
 exact zLd hz (sv S23) Cp22 ld_q64
 exact zC1 hz Tryz.func8 (sd 0 rfl) (fun _ _ h0 => c_tofloat_pq h0 rfl rfl (by decide))
 exact zMv hz (sd 1 rfl)
 exact zExt hz (sd 2 rfl)
 exact zExt hz (sd 2 rfl)
 exact zAs hz (sd 3 rfl)
 exact zAs hz (sd 4 rfl)
 clear hz hd
 intro a' γ' W' hz hd hC hk hh
 have tp14 := Cx.lt
 replace Cx := kC hC Cx
 have tp22 := Cp22.lt
 clear Cp22
 replace S10 := kp hk S10
 replace S17 := kp hk S17
 clear S23
 have S25 := gV hz 5 hh
 have S26 := gV hz 6 hh
 clear tp14 tp22
 replace HB := aB HB hC
 clear hC hk hh
 refine wp_seq ?_
 refine rt [rT (tQ B32 6000 x), rT (tT [tV (.int .u64 ((flN (tfD x.num.toNat x.den) : Nat) : Int)), tV (.bool (decide (tfD x.num.toNat x.den < 9218868437227405312)))]), rT (tT [tV (.int .u64 ((flN (tfD x.num.toNat x.den) : Nat) : Int)), tV (.bool (decide (tfD x.num.toNat x.den < 9218868437227405312)))]), rV (.int .u64 ((flN (tfD x.num.toNat x.den) : Nat) : Int)), rV (.bool (decide (tfD x.num.toNat x.den < 9218868437227405312))), rV (.int .u64 ((flN (tfD x.num.toNat x.den) : Nat) : Int)), rV (.bool (decide (tfD x.num.toNat x.den < 9218868437227405312)))] hz hd ?_ ?_
 refine ⟨?_, ?_, ?_, ?_, ?_, ?_, ?_, trivial⟩
 exact zLd hz (sv S17) Cx ld_q32
 exact zC1 hz Tryz.func9 (sd 0 rfl) (fun _ _ h0 => dq_tofloat h0 rfl rfl (by decide))
 exact zMv hz (sd 1 rfl)
 exact zExt hz (sd 2 rfl)
 exact zExt hz (sd 2 rfl)
 exact zAs hz (sd 3 rfl)
 exact zAs hz (sd 4 rfl)
 clear hz hd
 intro a' γ' W' hz hd hC hk hh
 have tp14 := Cx.lt
 clear Cx
 replace S10 := kp hk S10
 clear S17
 replace S25 := kp hk S25
 replace S26 := kp hk S26
 have S27 := gV hz 5 hh
 have S28 := gV hz 6 hh
 clear tp14
 replace HB := aB HB hC
 clear hC hk hh
 refine wp_seq ?_
 by_cases hc23 : tfD x.num.toNat x.den < 9218868437227405312
 rw [decide_eq_true hc23] at S26
 rw [decide_eq_true hc23] at S28
 refine rt [rV (.bool true), rV (.bool true), rV (.bool true), rV (.bool true), rV (.float .f64 (flN (tfD x.num.toNat x.den))), rV (.int .u64 ((flN (tfD x.num.toNat x.den) : Nat) : Int)), rV (.int .u64 ((flN (tfD x.num.toNat x.den) : Nat) : Int)), rV (.bool true), rV (.bool true), rV (.bool true), rV (.bool true), rV (.bool true), rV (.bool true)] hz hd ?_ ?_
 refine ⟨?_, ?_, ?_, ?_, ?_, ?_, ?_, ?_, ?_, ?_, ?_, ?_, ?_, trivial⟩
 exact zMv hz (sv S26)
 exact zMv hz (sv S28)
 exact sBin rfl rfl rfl hz rfl (Gd.none_ rfl) rfl (sd 0 rfl) (sd 1 rfl) (fun w => by kernel_rfl)
 exact zMv hz (sd 2 rfl)
 exact zMv hz (sv S25) (g := gT 3 rfl)
 exact zC1 hz Tryz.func10 (sd 4 rfl) (k1 (fun _ => c_bits)) (g := gT 3 rfl)
 exact zMv hz (sv S27) (g := gT 3 rfl)
 exact sBin rfl rfl rfl hz rfl (gT 3 rfl) rfl (sd 5 rfl) (sd 6 rfl) (fun w => by simp [go_sem])
 exact zPT hz (sd 3 rfl) (sd 7 rfl)
 exact zMv hz (sd 8 rfl)
 exact zC0 hz Tryz.func12 (fun _ => l_started) (g := gT 9 rfl)
 exact zPT hz (sd 9 rfl) (sd 10 rfl)
 exact zAs hz (sd 11 rfl)
 clear hz hd
 intro a' γ' W' hz hd hC hk hh
 clear S10
 clear S25
 clear S26
 clear S27
 clear S28
 have S10 := gV hz 12 hh
 replace HB := aB HB hC
 clear hC hk hh
 refine wp_ret ?_
 refine ret_to (T := tV (.bool true)) (ret1 (by kernel_rfl) S10 hd ⟨_, rfl, rfl, HB⟩) ?_
 exact fun _ _ h => h
 rw [decide_eq_false hc23] at S26
 rw [decide_eq_false hc23] at S28
 refine rt [rV (.bool false), rV (.bool false), rV (.bool true), rV (.bool true), rV (.float .f64 (flN (tfD x.num.toNat x.den))), rV (.int .u64 ((flN (tfD x.num.toNat x.den) : Nat) : Int)), rV (.int .u64 ((flN (tfD x.num.toNat x.den) : Nat) : Int)), rV (.bool true), rV (.bool true), rV (.bool true), rV (.bool true), rV (.bool true), rV (.bool true)] hz hd ?_ ?_
 refine ⟨?_, ?_, ?_, ?_, ?_, ?_, ?_, ?_, ?_, ?_, ?_, ?_, ?_, trivial⟩
 exact zMv hz (sv S26)
 exact zMv hz (sv S28)
 exact sBin rfl rfl rfl hz rfl (Gd.none_ rfl) rfl (sd 0 rfl) (sd 1 rfl) (fun w => by kernel_rfl)
 exact zMv hz (sd 2 rfl)
 exact zMv hz (sv S25) (g := gT 3 rfl)
 exact zC1 hz Tryz.func10 (sd 4 rfl) (k1 (fun _ => c_bits)) (g := gT 3 rfl)
 exact zMv hz (sv S27) (g := gT 3 rfl)
 exact sBin rfl rfl rfl hz rfl (gT 3 rfl) rfl (sd 5 rfl) (sd 6 rfl) (fun w => by simp [go_sem])
 exact zPT hz (sd 3 rfl) (sd 7 rfl)
 exact zMv hz (sd 8 rfl)
 exact zC0 hz Tryz.func12 (fun _ => l_started) (g := gT 9 rfl)
 exact zPT hz (sd 9 rfl) (sd 10 rfl)
 exact zAs hz (sd 11 rfl)
 clear hz hd
 intro a' γ' W' hz hd hC hk hh
 clear S10
 clear S25
 clear S26
 clear S27
 clear S28
 have S10 := gV hz 12 hh
 replace HB := aB HB hC
 clear hC hk hh
 refine wp_ret ?_
 refine ret_to (T := tV (.bool true)) (ret1 (by kernel_rfl) S10 hd ⟨_, rfl, rfl, HB⟩) ?_
 exact fun _ _ h => h
 rw [decide_eq_false hc15] at S18
 refine rt [rV (.bool false), rV (.bool true)] hz hd ?_ ?_
 refine ⟨?_, ?_, trivial⟩
 exact zMv hz (sv S18)
 exact zNot hz (sd 0 rfl)
 clear hz hd
 intro a' γ' W' hz hd hC hk hh
 have tp14 := Cp14.lt
 replace Cp14 := kC hC Cp14
 replace S2 := kp hk S2
 replace S3 := kp hk S3
 replace S4 := kp hk S4
 replace S10 := kp hk S10
 replace S17 := kp hk S17
 clear S18
 have S61 := gV hz 1 hh
 clear tp14
 replace HB := aB HB hC
 clear hC hk hh
 refine wp_cond_true S61.ev ?_
 refine wp_seq ?_
 refine rt [rV (.bool true), rV (.bool true)] hz hd ?_ ?_
 refine ⟨?_, ?_, trivial⟩
 exact zC0 hz Tryz.func12 (fun _ => l_started)
 exact zAs hz (sd 0 rfl)
 clear hz hd
 intro a' γ' W' hz hd hC hk hh
 have tp14 := Cp14.lt
 replace Cp14 := kC hC Cp14
 replace S2 := kp hk S2
 replace S3 := kp hk S3
 replace S4 := kp hk S4
 clear S10
 replace S17 := kp hk S17
 clear S61
 have S10 := gV hz 1 hh
 clear tp14
 replace HB := aB HB hC
 clear hC hk hh
 refine wp_ret ?_
 refine ret_to (T := tV (.bool true)) (ret1 (by kernel_rfl) S10 hd ⟨_, rfl, rfl, HB⟩) ?_
 exact fun _ _ h => h

end Go.Proofs.YtfgnleoaibcegaaGreat.Rg

namespace Go.Proofs.YtfgnleoaibcegaaGreat.Rg

open Go.RowKit Go.ChangeShapes Go.WideShapes Go.ChangeAt Go.Deep

theorem by_in3 {w : World} {A : Option Addr} {n c : Nat} {l : List Int} (h : InI .u8 1 1 w A n c l) : (tBy 9223372036854775807 (l.map Int.toNat)).p (.slice A n c) w :=
  ⟨A, n, c, rfl, bat_in h, h.le, by have := h.le; have := h.reach; omega⟩
theorem numNears_walk (A0 : Option Addr) (n0 c0 : Nat) (l0 : List Int) (A1 : Option Addr) (n1 c1 : Nat) (l1 : List Int) (u : Int) (hb : Bool) (b : Int) (w : World) (h0 : InI .u8 1 1 w A0 n0 c0 l0) (h1 : InI .u8 1 1 w A1 n1 c1 l1) (hu : (Lit.int .u64 u).wf = true) (hbw : (Lit.int .i64 b).wf = true) :
    Calls Tryz.prog 3 #[.slice A0 n0 c0, .slice A1 n1 c1, .int .u64 u, .bool hb, .int .i64 b] w fun e w' => e = .returned (.bool true) ∧ Below w.heap.size w w' := by
  obtain ⟨u, rfl, hu2⟩ := u64_r hu
  have := ret_out3 (numNears_ret (hb := hb) (by_ := b) (by_in3 h0) (by_in3 h1) hu2)
  rw [Bool.decide_eq_true] at this
  exact this
end Go.Proofs.YtfgnleoaibcegaaGreat.Rg

namespace Go.Proofs.YtfgnleoaibcegaaGreat.numNears
open Go.ChangeShapes Go.WideShapes Go.ChangeAt Go.RowKit Go.Deep
open Go.ChangeMaps (open_string shut_string)

theorem own : ownKnob Tryz.prog.godebug = none := by kernel_rfl
theorem laidOut : laidOutB Tryz.prog = true := by kernel_rfl

set_option maxRecDepth 100000 in
theorem lifted (os : Os) (started : os.Started) (H : Type) (enc : TypeId × Value → H) :
    ReturnsInHanded {} Tryz.checked os 3 .any (Rows.numNearsSpec.pre6 enc Tryz.prog Tryz.f3 Rows.numNearsRow.domain false) (Rows.numNearsSpec.post enc Tryz.prog Tryz.f3 false true false false) := by
  refine returnsInHanded_of_change_sized (C := Tryz.checked) own started (by kernel_rfl) Tryz.func3
    (ChangeSpec.witness6 (enc := enc) (C := Tryz.checked) false ⟨#[], #[.slice none 0 0, .slice none 0 0, .int .u64 0, .bool false, .int .i64 0], []⟩ 8 (by kernel_rfl) (by kernel_rfl) (by kernel_rfl) (by kernel_rfl)) ?_
  intro W base args ds gs before hval0 hW hcnd hsz0 _
  have hsz : (DataW.weightsEach Tryz.prog (Tryz.f3.params.toList ++ Rows.numNearsSpec.plain.varTypes Tryz.prog) (ds ++ gs)).all (· ≤ reachBytes) = true := hsz0
  clear hsz0
  have hval : ∀ (j : Nat) t v, Tryz.f3.params[j]? = some t → args[j]? = some v → Value.okWide Tryz.prog W .any base t v := hval0
  have hW' := hW
  obtain ⟨p, q, hA0, hV, rfl, hfz, hnd⟩ := hW
  have hA : DataW.TrodAll enc Tryz.prog W 0 (fun _ => true) true Tryz.f3.params.toList args.toList ds p := hA0
  rw [Tryz.params3] at hA hval hsz
  obtain ⟨v0, vs0, d0, ds0, p0, q0, hargs, rfl, rfl, h0, r0⟩ := trodAll_cons hA
  obtain ⟨v1, vs1, d1, ds1, p1, q1, rfl, rfl, rfl, h1, r1⟩ := trodAll_cons r0
  obtain ⟨v2, vs2, d2, ds2, p2, q2, rfl, rfl, rfl, h2, r2⟩ := trodAll_cons r1
  obtain ⟨v3, vs3, d3, ds3, p3, q3, rfl, rfl, rfl, h3, r3⟩ := trodAll_cons r2
  obtain ⟨v4, vs4, d4, ds4, p4, q4, rfl, rfl, rfl, h4, r4⟩ := trodAll_cons r3
  obtain ⟨rfl, rfl, rfl⟩ := trodAll_nil r4
  obtain rfl : args = #[v0, v1, v2, v3, v4] := by cases args; simp_all
  obtain ⟨rfl, rfl⟩ := trodVars_none hV
  obtain ⟨a0, len0, cap0, rfl⟩ := okWide_slice Tryz.underlying22 (hval 0 22 v0 rfl rfl)
  have k0 := h0
  have lt0 : ∀ x ∈ p0, x.block < W.heap.size := by obtain ⟨m, hm⟩ := k0; exact DataW.trod_lt m _ _ _ hm
  obtain ⟨z0, w0⟩ := in_ints (k := .u8) (bytes := 1) Tryz.underlying22 Tryz.underlying5 (by kernel_rfl) (by kernel_rfl) h0 (fun elems spare hd => sized_slice hsz (j := 0) rfl (by rw [hd]; rfl) Tryz.underlying22)
  obtain ⟨a1, len1, cap1, rfl⟩ := okWide_slice Tryz.underlying22 (hval 1 22 v1 rfl rfl)
  have k1 := h1
  have lt1 : ∀ x ∈ p1, x.block < W.heap.size := by obtain ⟨m, hm⟩ := k1; exact DataW.trod_lt m _ _ _ hm
  obtain ⟨z1, w1⟩ := in_ints (k := .u8) (bytes := 1) Tryz.underlying22 Tryz.underlying5 (by kernel_rfl) (by kernel_rfl) h1 (fun elems spare hd => sized_slice hsz (j := 1) rfl (by rw [hd]; rfl) Tryz.underlying22)
  obtain ⟨a2, rfl, rfl, rfl, w2⟩ := open_int Tryz.underlying23 (hval 2 23 v2 rfl rfl) h2
  obtain ⟨a3, rfl, rfl, rfl⟩ := open_bool Tryz.underlying4 (hval 3 4 v3 rfl rfl) h3
  obtain ⟨a4, rfl, rfl, rfl, w4⟩ := open_int Tryz.underlying3 (hval 4 3 v4 rfl rfl) h4
  clear hA0 hval0
  refine (Rg.numNears_walk a0 len0 cap0 z0 a1 len1 cap1 z1 a2 a3 a4 W w0 w1 w2 w4).mono fun e W' ⟨he, bel⟩ => ?_
  subst he
  exact ⟨_, rfl, _, _, _, [], _, [], hW', trodAll_mk1 (shut_bool Tryz.underlying4 _), (trodAll_cons_mk (Below.trod laidOut (by kernel_rfl) (of_decide_eq_true (by kernel_rfl)) k0 bel lt0) (trodAll_cons_mk (Below.trod laidOut (by kernel_rfl) (of_decide_eq_true (by kernel_rfl)) k1 bel lt1) (trodAll_cons_mk (shut_int Tryz.underlying23 w2) (trodAll_cons_mk (shut_bool Tryz.underlying4 a3) (trodAll_cons_mk (shut_int Tryz.underlying3 w4) trodAll_mk0))))), rfl, bel.frame _, fun h => by cases h⟩

theorem proved : Rows.NumNearsSaid :=
  OpenClaim.holds_of_wide 3 Tryz.f3 rfl rfl rfl rfl rfl rfl rfl ⟨rfl, rfl, rfl, rfl, rfl⟩ rfl rfl rfl rfl rfl (by kernel_rfl) Tryz.func3 (by kernel_rfl)
    (of_decide_eq_true (by kernel_rfl)) (by unfold Func.isWrapper; first | (rw [if_pos (by decide +kernel)]; kernel_rfl) | (rw [if_neg (by decide +kernel)]; exact ⟨rfl, rfl⟩))
    (fun os started H enc _ => lifted os started H enc)
#print axioms proved
end Go.Proofs.YtfgnleoaibcegaaGreat.numNears
