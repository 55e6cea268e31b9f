/-
  Walks and plain laws, put together: VU WA WBH WC WDH VR WD WF WG WGW NbRow.
-/
import Derived.Test.YtfgnleoaibcegaaGreatQl
import Derived.Test.YtfgnleoaibcegaaGreatQj
import Derived.Test.YtfgnleoaibcegaaGreatQh
import Derived.Laws.Strings
import Derived.Test.YtfgnleoaibcegaaGreatXBC
import Derived.Test.YtfgnleoaibcegaaGreatXFr
import Derived.Test.YtfgnleoaibcegaaGreatRows
import Derived.ProofKit
import Derived.OpenShut
import Derived.ShutString
import Derived.ChangeOld
import Derived.Below
import Derived.SizedLaws
set_option linter.unusedVariables false
set_option linter.unusedSimpArgs false
namespace Go.Proofs.YtfgnleoaibcegaaGreat.Rg

open Go.RowKit

theorem bat_take3 {w : World} {A : Option Addr} {n c k : Nat} {l : List Nat} (h : BAt w A n c l) (hk : k ≤ n) : BAt w A k c (l.take k) := by
  refine ⟨⟨by rw [bv_length, List.length_take, h.len]; omega, fun hk0 => ?_⟩, fun d hd => h.byte d (List.mem_of_mem_take hd)⟩
  obtain ⟨ad, e, hlt, hc⟩ := h.reads.2 (by omega)
  refine ⟨ad, e, hlt, fun j u hu => hc j u ?_⟩
  have hj : j < k := by have := (List.getElem?_eq_some_iff.1 hu).1; rw [bv_length, List.length_take] at this; omega
  unfold bv at hu ⊢
  rw [List.map_take, List.getElem?_take_of_lt hj] at hu
  exact hu
set_option maxHeartbeats 400000 in
theorem cut3_any (A : Option Addr) (n c : Nat) (l : List Nat) (w : World) (h : BAt w A n c l) (hnc : n ≤ c) :
    Calls Tryz.prog 38 #[.slice A n c] w fun e w' => ∃ n1, e = .returned (.slice A n1 c) ∧ BAt w' A n1 c (l.take 300) ∧ n1 ≤ 300 ∧ n1 ≤ c ∧ w = w' := by
  by_cases hn : n ≤ 300
  · have hl : l.take 300 = l := List.take_of_length_le (by rw [h.len]; exact hn)
    have b1 : decide ((300 : Int) < (n : Int)) = false := decide_eq_false (by omega)
    rw [hl]
    have H := Lib.hid h
    clear h
    go_enter Tryz.func38, Tryz.ntmps38
    go_wp2_with fail
    go_ret
    exact ⟨n, rfl, H.out, hn, hnc, rfl⟩
  · have hb := bat_take3 h (show 300 ≤ n by omega)
    have b1 : decide ((300 : Int) < (n : Int)) = true := decide_eq_true (by omega)
    have b2 : (300 : Int) ≤ (c : Int) := by omega
    have H := Lib.hid hb
    clear hb h
    go_enter Tryz.func38, Tryz.ntmps38
    go_wp2_with fail
    go_ret
    exact ⟨300, rfl, H.out, by omega, by omega, rfl⟩
theorem l_cut3 {lim : Nat} {l : List Nat} {v1 : Value} {w : World} (h1 : (tBy lim l).p v1 w) :
    Calls Tryz.prog 38 #[v1] w (Ret (tBy 300 (l.take 300)) w) := by
  obtain ⟨A, n, c, rfl, h, h2, -⟩ := h1
  refine (cut3_any A n c l w h h2).mono ?_
  rintro e w' ⟨k, rfl, hd, hk, hkc, rfl⟩
  exact ⟨_, rfl, ⟨A, k, c, rfl, hd, hkc, hk⟩, Below.refl _ _⟩
theorem bev_bits3 {l : List Nat} {m : Nat} (hm : 2400 ≤ m) (h : ∀ d ∈ l, d < 256) : bev (l.take 300) < 2 ^ m := by
  refine Nat.lt_of_lt_of_le (bev_lt fun d hd => h d (List.mem_of_mem_take hd)) ?_
  rw [show (256 : Nat) = 2 ^ 8 from rfl, ← Nat.pow_mul]
  exact Nat.pow_le_pow_right (by omega) (by have := List.length_take_le 300 l; omega)
theorem tBy_bits3 {v : Value} {w : World} {m lim : Nat} {l : List Nat} (hm : 2400 ≤ m) (h : (tBy lim l).p v w) : bev (l.take 300) < 2 ^ m := by
  obtain ⟨A, n, c, rfl, h, -, -⟩ := h
  exact bev_bits3 hm h.byte
theorem one_2400 {m : Nat} (hm : 2400 ≤ m) : 1 < 2 ^ m := Nat.one_lt_two_pow (by omega)
def mk3 (l k : List Nat) : Rat := mkRat (bev (l.take 300)) (und (bev (k.take 300)))
theorem ret2_q {fn : Func} {w0 : World} {a : Act} {w : World} {t1 t2 p1 p2 l1 l2 : Nat} {x1 x2 : Rat} (h : fn.results = #[.cell t1 28, .cell t2 32]) (s1 : Sl a t1 (.pointer (some ⟨p1, 0, none⟩))) (s2 : Sl a t2 (.pointer (some ⟨p2, 0, none⟩))) (hdf : a.defers = [])
    (c1 : Cell 28 (tQ B64 l1 x1) p1 w) (c2 : Cell 32 (tQ B32 l2 x2) p2 w) (hb : Below w0.heap.size w0 w) : bodyPost Tryz.prog fn (Ret (tT [tQ B64 l1 x1, tQ B32 l2 x2]) w0) .ret a w := by
  obtain ⟨v1, b1, h1⟩ := c1
  obtain ⟨v2, b2, h2⟩ := c2
  refine bodyPost_ret (v := .tuple #[v1, v2]) ?_ hdf ⟨_, rfl, ⟨[v1, v2], rfl, h1, h2, trivial⟩, hb⟩
  obtain ⟨p, q, ⟨A, n, c, A2, n2, c2, rfl, -⟩, -⟩ := h1
  obtain ⟨p', q', ⟨A', n', c', A3, n3, c3, rfl, -⟩, -⟩ := h2
  have e1 := b1.cell 0
  have e2 := b2.cell 0
  have e3 := b1.cell 1
  have e4 := b2.cell 1
  unfold Sl at s1 s2
  simp [Value.cells] at e1 e2 e3 e4
  simp [results, h, go_sem, s1, s2, e1, e2, e3, e4]

set_option maxRecDepth 10000 in
set_option maxHeartbeats 2000000 in
theorem l_made3 {m : Nat} {l k : List Nat} {v0 v1 : Value} {w : World} (h0 : (tBy 9223372036854775807 l).p v0 w) (h1 : (tBy 9223372036854775807 k).p v1 w) (hm : 2400 ≤ m) :
    Calls Tryz.prog 7 #[v0, v1] w (Ret (tT [tQ B64 m (mk3 l k), tQ B32 m (mk3 l k)]) w) := by
 refine enter Tryz.func7 rfl Tryz.ntmps7 (by simp) ?_
 intro a hz hd ha
 have S0 := ha 0 _ rfl
 have H0 := h0
 have S1 := ha 1 _ rfl
 have H1 := h1
 clear ha
 have HB : Below w.heap.size w w := Below.refl _ _
 have hP := Lib.hid (tBy_bits3 hm h0)
 have hQ := Lib.hid (tBy_bits3 hm h1)
 refine wp_seq ?_
 refine rt [rB 0 28 (tQ B64 1 0) none 0, rB 1 32 (tR B32 0 0 0 0) none 0] hz hd ?_ ?_
 refine ⟨?_, ?_, trivial⟩
 exact zNew hz (fun _ => tQ_nil) al_r64
 exact zNew hz (fun _ => tR_nil) al_r32
 clear hz hd
 intro a' γ' W' hz hd hC hk hh
 replace S0 := kp hk S0
 replace H0 := Ty.aft _ H0 hC
 replace S1 := kp hk S1
 replace H1 := Ty.aft _ H1 hC
 obtain ⟨p1, S4, Cp1, lp1, gp1⟩ := gotB hz 0 hC hh rfl rfl rfl rfl rfl rfl
 obtain ⟨p2, S5, Cp2, lp2, gp2⟩ := gotB hz 1 hC hh rfl rfl rfl rfl rfl rfl
 have n_p1_p2 : p1 ≠ p2 := by intro e; rw [e, gp2] at gp1; omega
 have n_p2_p1 : p2 ≠ p1 := by intro e; rw [e, gp1] at gp2; omega
 have bp1 := Nat.le_trans HB.size lp1
 have bp2 := Nat.le_trans HB.size lp2
 clear lp1 gp1 lp2 gp2
 replace HB := aB HB hC
 clear hC hk hh
 refine wp_seq ?_
 refine rt [rT (tBy 9223372036854775807 l), rT (tBy 300 (l.take 300)), rT (tBy 9223372036854775807 k), rT (tBy 300 (k.take 300)), rT (tBy 300 (l.take 300)), rT (tBy 300 (k.take 300))] hz hd ?_ ?_
 refine ⟨?_, ?_, ?_, ?_, ?_, ?_, trivial⟩
 exact zMv hz (so S0 H0)
 exact zC1 hz Tryz.func38 (sd 0 rfl) (fun _ _ h0 => l_cut3 h0)
 exact zMv hz (so S1 H1)
 exact zC1 hz Tryz.func38 (sd 2 rfl) (fun _ _ h0 => l_cut3 h0)
 exact zAs hz (sd 1 rfl)
 exact zAs hz (sd 3 rfl)
 clear hz hd
 intro a' γ' W' hz hd hC hk hh
 have tp1 := Cp1.lt
 replace Cp1 := kC hC Cp1
 have tp2 := Cp2.lt
 replace Cp2 := kC hC Cp2
 clear S0 H0
 clear S1 H1
 replace S4 := kp hk S4
 replace S5 := kp hk S5
 obtain ⟨v0, S0, H0⟩ := got hz 4 hh rfl rfl rfl rfl
 obtain ⟨v1, S1, H1⟩ := got hz 5 hh rfl rfl rfl rfl
 clear tp1 tp2
 replace HB := aB HB hC
 clear hC hk hh
 refine wp_seq ?_
 refine rt [rT (tBy 300 (l.take 300)), rT (tN B64 300 (bev (l.take 300))), rT (tBy 300 (k.take 300)), rT (tN B64 300 (bev (k.take 300))), rT (tT [tQ B64 m (mkRat (bev (l.take 300)) (bev (k.take 300))), tV (.bool (decide (bev (k.take 300) ≠ 0)))]), rT (tT [tQ B64 m (mkRat (bev (l.take 300)) (bev (k.take 300))), tV (.bool (decide (bev (k.take 300) ≠ 0)))]), rT (tQ B64 m (mkRat (bev (l.take 300)) (bev (k.take 300)))), rV (.bool (decide (bev (k.take 300) ≠ 0))), rVar 8 28 2, rB 8 28 (tQ B64 m (mkRat (bev (l.take 300)) (bev (k.take 300)))) (some 8) 9, rV (.bool (decide (bev (k.take 300) ≠ 0)))] hz hd ?_ ?_
 refine ⟨?_, ?_, ?_, ?_, ?_, ?_, ?_, ?_, ?_, ?_, ?_, trivial⟩
 exact zMv hz (so S0 H0)
 exact zC1 hz Tryz.func21 (sd 0 rfl) (fun _ _ h0 => c_fb h0 (by decide))
 exact zMv hz (so S1 H1)
 exact zC1 hz Tryz.func21 (sd 2 rfl) (fun _ _ h0 => c_fb h0 (by decide))
 exact zC2 hz Tryz.func20 (sd 1 rfl) (sd 3 rfl) (fun _ _ _ h0 h1 => cq_from (l := m) h0 h1 (by decide) (by decide) hP.out hQ.out (by omega))
 exact zMv hz (sd 4 rfl)
 exact zExt hz (sd 5 rfl)
 exact zExt hz (sd 5 rfl)
 exact zAl hz nd_rat al_r64
 exact zSt (sd 6 rfl) st_q64
 exact zAs hz (sd 7 rfl)
 clear hz hd
 intro a' γ' W' hz hd hC hk hh
 have ep1 := Cp1.lt
 have ep2 := Cp2.lt
 have tp1 := Cp1.lt
 replace Cp1 := kC hC Cp1
 have tp2 := Cp2.lt
 replace Cp2 := kC hC Cp2
 replace S4 := kp hk S4
 replace S5 := kp hk S5
 replace S0 := kp hk S0
 replace H0 := Ty.aft _ H0 hC
 replace S1 := kp hk S1
 replace H1 := Ty.aft _ H1 hC
 obtain ⟨p3, S6, Cp3, lp3, gp3⟩ := gotB hz 9 hC hh rfl rfl rfl rfl rfl rfl
 have S7 := gV hz 10 hh
 have n_p3_p1 : p3 ≠ p1 := by omega
 have n_p3_p2 : p3 ≠ p2 := by omega
 have n_p1_p3 : p1 ≠ p3 := by have := ep1; omega
 have n_p2_p3 : p2 ≠ p3 := by have := ep2; omega
 have bp3 := Nat.le_trans HB.size lp3
 clear lp3 gp3
 clear tp1 tp2
 clear ep1 ep2
 replace HB := aB HB hC
 clear hC hk hh
 refine wp_seq ?_
 refine rt [rT (tBy 300 (l.take 300)), rT (tN B32 300 (bev (l.take 300))), rT (tBy 300 (k.take 300)), rT (tN B32 300 (bev (k.take 300))), rT (tT [tQ B32 m (mkRat (bev (l.take 300)) (bev (k.take 300))), tV (.bool (decide (bev (k.take 300) ≠ 0)))]), rT (tT [tQ B32 m (mkRat (bev (l.take 300)) (bev (k.take 300))), tV (.bool (decide (bev (k.take 300) ≠ 0)))]), rT (tQ B32 m (mkRat (bev (l.take 300)) (bev (k.take 300)))), rV (.bool (decide (bev (k.take 300) ≠ 0))), rVar 8 32 2, rB 8 32 (tQ B32 m (mkRat (bev (l.take 300)) (bev (k.take 300)))) (some 8) 9, rV (.bool (decide (bev (k.take 300) ≠ 0)))] hz hd ?_ ?_
 refine ⟨?_, ?_, ?_, ?_, ?_, ?_, ?_, ?_, ?_, ?_, ?_, trivial⟩
 exact zMv hz (so S0 H0)
 exact zC1 hz Tryz.func39 (sd 0 rfl) (fun _ _ h0 => d_fb h0 (by decide))
 exact zMv hz (so S1 H1)
 exact zC1 hz Tryz.func39 (sd 2 rfl) (fun _ _ h0 => d_fb h0 (by decide))
 exact zC2 hz Tryz.func15 (sd 1 rfl) (sd 3 rfl) (fun _ _ _ h0 h1 => dq_from (l := m) h0 h1 (by decide) (by decide) hP.out hQ.out (by omega))
 exact zMv hz (sd 4 rfl)
 exact zExt hz (sd 5 rfl)
 exact zExt hz (sd 5 rfl)
 exact zAl hz nd_rat al_r32
 exact zSt (sd 6 rfl) st_q32
 exact zAs hz (sd 7 rfl)
 clear hz hd
 intro a' γ' W' hz hd hC hk hh
 have ep1 := Cp1.lt
 have ep2 := Cp2.lt
 have ep3 := Cp3.lt
 have tp1 := Cp1.lt
 replace Cp1 := kC hC Cp1
 have tp2 := Cp2.lt
 replace Cp2 := kC hC Cp2
 have tp3 := Cp3.lt
 replace Cp3 := kC hC Cp3
 replace S4 := kp hk S4
 replace S5 := kp hk S5
 replace S0 := kp hk S0
 replace H0 := Ty.aft _ H0 hC
 clear S1 H1
 replace S6 := kp hk S6
 replace S7 := kp hk S7
 obtain ⟨p4, S8, Cp4, lp4, gp4⟩ := gotB hz 9 hC hh rfl rfl rfl rfl rfl rfl
 have S9 := gV hz 10 hh
 have n_p4_p1 : p4 ≠ p1 := by omega
 have n_p4_p2 : p4 ≠ p2 := by omega
 have n_p4_p3 : p4 ≠ p3 := by omega
 have n_p1_p4 : p1 ≠ p4 := by have := ep1; omega
 have n_p2_p4 : p2 ≠ p4 := by have := ep2; omega
 have n_p3_p4 : p3 ≠ p4 := by have := ep3; omega
 have bp4 := Nat.le_trans HB.size lp4
 clear lp4 gp4
 clear tp1 tp2 tp3
 clear ep1 ep2 ep3
 replace HB := aB HB hC
 clear hC hk hh
 refine wp_seq ?_
 refine wp_seq ?_
 by_cases hc5 : bev (k.take 300) ≠ 0
 rw [decide_eq_true hc5] at S7
 rw [decide_eq_true hc5] at S9
 refine rt [rV (.bool true), rV (.bool false)] hz hd ?_ ?_
 refine ⟨?_, ?_, trivial⟩
 exact zMv hz (sv S7)
 exact zNot hz (sd 0 rfl)
 clear hz hd
 intro a' γ' W' hz hd hC hk hh
 have tp1 := Cp1.lt
 replace Cp1 := kC hC Cp1
 have tp2 := Cp2.lt
 replace Cp2 := kC hC Cp2
 have tp3 := Cp3.lt
 replace Cp3 := kC hC Cp3
 have tp4 := Cp4.lt
 replace Cp4 := kC hC Cp4
 replace S4 := kp hk S4
 replace S5 := kp hk S5
 replace S0 := kp hk S0
 replace H0 := Ty.aft _ H0 hC
 replace S6 := kp hk S6
 clear S7
 replace S8 := kp hk S8
 replace S9 := kp hk S9
 have S31 := gV hz 1 hh
 clear tp1 tp2 tp3 tp4
 replace HB := aB HB hC
 clear hC hk hh
 refine wp_cond_false S31.ev ?_
 refine wp_skip ?_
 refine wp_seq ?_
 refine wp_seq ?_
 refine rt [rV (.bool true), rV (.bool false)] hz hd ?_ ?_
 refine ⟨?_, ?_, trivial⟩
 exact zMv hz (sv S9)
 exact zNot hz (sd 0 rfl)
 clear hz hd
 intro a' γ' W' hz hd hC hk hh
 have tp1 := Cp1.lt
 replace Cp1 := kC hC Cp1
 have tp2 := Cp2.lt
 replace Cp2 := kC hC Cp2
 have tp3 := Cp3.lt
 replace Cp3 := kC hC Cp3
 have tp4 := Cp4.lt
 replace Cp4 := kC hC Cp4
 replace S4 := kp hk S4
 replace S5 := kp hk S5
 replace S0 := kp hk S0
 replace H0 := Ty.aft _ H0 hC
 replace S6 := kp hk S6
 replace S8 := kp hk S8
 clear S9
 clear S31
 have S40 := gV hz 1 hh
 clear tp1 tp2 tp3 tp4
 replace HB := aB HB hC
 clear hC hk hh
 refine wp_cond_false S40.ev ?_
 refine wp_skip ?_
 refine wp_seq ?_
 refine region_drawn (M := [p1, p2]) (
  rT (tQ B64 m (mkRat (bev (l.take 300)) (bev (k.take 300)))) ::
  rT (tQ B32 m (mkRat (bev (l.take 300)) (bev (k.take 300)))) ::
  rE 0 28 (tQ B64 m (mkRat (bev (l.take 300)) (bev (k.take 300)))) p1 ::
  rE 1 32 (tQ B32 m (mkRat (bev (l.take 300)) (bev (k.take 300)))) p2 ::
  []) hz hd (by kernel_rfl) (by kernel_rfl) ?_ ?_
 refine ⟨?_, ?_, ?_, ?_, trivial⟩
 exact zLd hz (sv S6) Cp3 ld_q64 (by simp [tagOf, n_p3_p1, n_p3_p2])
 exact zLd hz (sv S8) Cp4 ld_q32 (by simp [tagOf, n_p4_p1, n_p4_p2])
 exact zSE rfl (sv S4) (by simp [tagOf]) (Cp1.var tQ_nd) (sd 0 rfl) st_q64
 exact zSE rfl (sv S5) (by simp [tagOf, n_p2_p1]) (Cp2.var tR_nd) (sd 1 rfl) st_q32
 clear hz hd
 intro a' γ' W' hz hd hC hk hh
 replace Cp1 := gotE (T := tQ B64 m (mkRat (bev (l.take 300)) (bev (k.take 300)))) (id := 28) (p := p1) 2 hh rfl rfl
 replace Cp2 := gotE (T := tQ B32 m (mkRat (bev (l.take 300)) (bev (k.take 300)))) (id := 32) (p := p2) 3 hh rfl rfl
 have tp3 := Cp3.lt
 clear Cp3
 have tp4 := Cp4.lt
 clear Cp4
 replace S4 := kp hk S4
 replace S5 := kp hk S5
 clear S0 H0
 clear S6
 clear S8
 clear S40
 clear tp3 tp4
 replace HB := RelC.aftM HB hC (by intro m hm; simp at hm; rcases hm with rfl | rfl <;> assumption)
 clear hC hk hh
 refine wp_ret ?_
 refine ret_to (T := tT [tQ B64 m (mkRat (bev (l.take 300)) (bev (k.take 300))), tQ B32 m (mkRat (bev (l.take 300)) (bev (k.take 300)))]) (ret2_q (by kernel_rfl) S4 S5 hd Cp1 Cp2 HB) ?_
 exact to2 (tQ_to (by decide) (by unfold mk3; rw [und_of hc5]) (by omega)) (tQ_to (by decide) (by unfold mk3; rw [und_of hc5]) (by omega))
 rw [decide_eq_false hc5] at S7
 rw [decide_eq_false hc5] at S9
 refine rt [rV (.bool false), rV (.bool true)] hz hd ?_ ?_
 refine ⟨?_, ?_, trivial⟩
 exact zMv hz (sv S7)
 exact zNot hz (sd 0 rfl)
 clear hz hd
 intro a' γ' W' hz hd hC hk hh
 have tp1 := Cp1.lt
 replace Cp1 := kC hC Cp1
 have tp2 := Cp2.lt
 replace Cp2 := kC hC Cp2
 have tp3 := Cp3.lt
 replace Cp3 := kC hC Cp3
 have tp4 := Cp4.lt
 replace Cp4 := kC hC Cp4
 replace S4 := kp hk S4
 replace S5 := kp hk S5
 replace S0 := kp hk S0
 replace H0 := Ty.aft _ H0 hC
 replace S6 := kp hk S6
 clear S7
 replace S8 := kp hk S8
 replace S9 := kp hk S9
 have S31 := gV hz 1 hh
 clear tp1 tp2 tp3 tp4
 replace HB := aB HB hC
 clear hC hk hh
 refine wp_cond_true S31.ev ?_
 refine region_text (M := [p3]) [rT (tBy 300 (l.take 300)), rT (tN B64 300 (bev (l.take 300))), rT (tN B64 1 1), rT (tT [tQ B64 m (mkRat (bev (l.take 300)) 1), tV (.bool (decide (1 ≠ 0)))]), rT (tT [tQ B64 m (mkRat (bev (l.take 300)) 1), tV (.bool (decide (1 ≠ 0)))]), rT (tQ B64 m (mkRat (bev (l.take 300)) 1)), rV (.bool (decide (1 ≠ 0))), rE 0 28 (tQ B64 m (mkRat (bev (l.take 300)) 1)) p3] hz hd (by kernel_rfl) ?_ ?_
 refine ⟨?_, ?_, ?_, ?_, ?_, ?_, ?_, ?_, trivial⟩
 exact zMv hz (so S0 H0)
 exact zC1 hz Tryz.func21 (sd 0 rfl) (fun _ _ h0 => c_fb h0 (by decide))
 exact zC1 hz Tryz.func40 (kc (v := .int .u64 1)) (k1 (fun _ => c_of (by decide)))
 exact zC2 hz Tryz.func20 (sd 1 rfl) (sd 2 rfl) (fun _ _ _ h0 h1 => cq_from (l := m) h0 h1 (by decide) (by decide) hP.out (one_2400 hm) (by omega))
 exact zMv hz (sd 3 rfl)
 exact zExt hz (sd 4 rfl)
 exact zExt hz (sd 4 rfl)
 exact zSE rfl (sv S6) (by simp [tagOf]) (Cp3.var tQ_nd) (sd 5 rfl) st_q64
 clear hz hd
 intro a' γ' W' hz hd hC hk hh
 have tp1 := Cp1.lt
 replace Cp1 := kC hC Cp1 (by simp [tagOf, n_p1_p3])
 have tp2 := Cp2.lt
 replace Cp2 := kC hC Cp2 (by simp [tagOf, n_p2_p3])
 replace Cp3 := gotE (T := tQ B64 m (mkRat (bev (l.take 300)) 1)) (id := 28) (p := p3) 7 hh rfl rfl
 have tp4 := Cp4.lt
 replace Cp4 := kC hC Cp4 (by simp [tagOf, n_p4_p3])
 replace S4 := kp hk S4
 replace S5 := kp hk S5
 replace S0 := kp hk S0
 replace H0 := Ty.aft _ H0 hC
 replace S6 := kp hk S6
 replace S8 := kp hk S8
 replace S9 := kp hk S9
 clear S31
 clear tp1 tp2 tp4
 replace HB := aM HB hC
 clear hC hk hh
 refine wp_seq ?_
 refine wp_seq ?_
 refine rt [rV (.bool false), rV (.bool true)] hz hd ?_ ?_
 refine ⟨?_, ?_, trivial⟩
 exact zMv hz (sv S9)
 exact zNot hz (sd 0 rfl)
 clear hz hd
 intro a' γ' W' hz hd hC hk hh
 have tp1 := Cp1.lt
 replace Cp1 := kC hC Cp1
 have tp2 := Cp2.lt
 replace Cp2 := kC hC Cp2
 have tp3 := Cp3.lt
 replace Cp3 := kC hC Cp3
 have tp4 := Cp4.lt
 replace Cp4 := kC hC Cp4
 replace S4 := kp hk S4
 replace S5 := kp hk S5
 replace S0 := kp hk S0
 replace H0 := Ty.aft _ H0 hC
 replace S6 := kp hk S6
 replace S8 := kp hk S8
 clear S9
 have S40 := gV hz 1 hh
 clear tp1 tp2 tp3 tp4
 replace HB := aB HB hC
 clear hC hk hh
 refine wp_cond_true S40.ev ?_
 refine region_text (M := [p4]) [rT (tBy 300 (l.take 300)), rT (tN B32 300 (bev (l.take 300))), rT (tN B32 2 1), rT (tT [tQ B32 m (mkRat (bev (l.take 300)) 1), tV (.bool (decide (1 ≠ 0)))]), rT (tT [tQ B32 m (mkRat (bev (l.take 300)) 1), tV (.bool (decide (1 ≠ 0)))]), rT (tQ B32 m (mkRat (bev (l.take 300)) 1)), rV (.bool (decide (1 ≠ 0))), rE 0 32 (tQ B32 m (mkRat (bev (l.take 300)) 1)) p4] hz hd (by kernel_rfl) ?_ ?_
 refine ⟨?_, ?_, ?_, ?_, ?_, ?_, ?_, ?_, trivial⟩
 exact zMv hz (so S0 H0)
 exact zC1 hz Tryz.func39 (sd 0 rfl) (fun _ _ h0 => d_fb h0 (by decide))
 exact zC1 hz Tryz.func16 (kc (v := .int .u64 1)) (k1 (fun _ => d_of (by decide)))
 exact zC2 hz Tryz.func15 (sd 1 rfl) (sd 2 rfl) (fun _ _ _ h0 h1 => dq_from (l := m) h0 h1 (by decide) (by decide) hP.out (one_2400 hm) (by omega))
 exact zMv hz (sd 3 rfl)
 exact zExt hz (sd 4 rfl)
 exact zExt hz (sd 4 rfl)
 exact zSE rfl (sv S8) (by simp [tagOf]) (Cp4.var tQ_nd) (sd 5 rfl) st_q32
 clear hz hd
 intro a' γ' W' hz hd hC hk hh
 have tp1 := Cp1.lt
 replace Cp1 := kC hC Cp1 (by simp [tagOf, n_p1_p4])
 have tp2 := Cp2.lt
 replace Cp2 := kC hC Cp2 (by simp [tagOf, n_p2_p4])
 have tp3 := Cp3.lt
 replace Cp3 := kC hC Cp3 (by simp [tagOf, n_p3_p4])
 replace Cp4 := gotE (T := tQ B32 m (mkRat (bev (l.take 300)) 1)) (id := 32) (p := p4) 7 hh rfl rfl
 replace S4 := kp hk S4
 replace S5 := kp hk S5
 clear S0 H0
 replace S6 := kp hk S6
 replace S8 := kp hk S8
 clear S40
 clear tp1 tp2 tp3
 replace HB := aM HB hC
 clear hC hk hh
 refine wp_seq ?_
 refine region_drawn (M := [p1, p2]) (
  rT (tQ B64 m (mkRat (bev (l.take 300)) 1)) ::
  rT (tQ B32 m (mkRat (bev (l.take 300)) 1)) ::
  rE 0 28 (tQ B64 m (mkRat (bev (l.take 300)) 1)) p1 ::
  rE 1 32 (tQ B32 m (mkRat (bev (l.take 300)) 1)) p2 ::
  []) hz hd (by kernel_rfl) (by kernel_rfl) ?_ ?_
 refine ⟨?_, ?_, ?_, ?_, trivial⟩
 exact zLd hz (sv S6) Cp3 ld_q64 (by simp [tagOf, n_p3_p1, n_p3_p2])
 exact zLd hz (sv S8) Cp4 ld_q32 (by simp [tagOf, n_p4_p1, n_p4_p2])
 exact zSE rfl (sv S4) (by simp [tagOf]) (Cp1.var tQ_nd) (sd 0 rfl) st_q64
 exact zSE rfl (sv S5) (by simp [tagOf, n_p2_p1]) (Cp2.var tR_nd) (sd 1 rfl) st_q32
 clear hz hd
 intro a' γ' W' hz hd hC hk hh
 replace Cp1 := gotE (T := tQ B64 m (mkRat (bev (l.take 300)) 1)) (id := 28) (p := p1) 2 hh rfl rfl
 replace Cp2 := gotE (T := tQ B32 m (mkRat (bev (l.take 300)) 1)) (id := 32) (p := p2) 3 hh rfl rfl
 have tp3 := Cp3.lt
 clear Cp3
 have tp4 := Cp4.lt
 clear Cp4
 replace S4 := kp hk S4
 replace S5 := kp hk S5
 clear S6
 clear S8
 clear tp3 tp4
 replace HB := RelC.aftM HB hC (by intro m hm; simp at hm; rcases hm with rfl | rfl <;> assumption)
 clear hC hk hh
 refine wp_ret ?_
 refine ret_to (T := tT [tQ B64 m (mkRat (bev (l.take 300)) 1), tQ B32 m (mkRat (bev (l.take 300)) 1)]) (ret2_q (by kernel_rfl) S4 S5 hd Cp1 Cp2 HB) ?_
 exact to2 (tQ_to (by decide) (by unfold mk3; rw [Decidable.not_not.1 hc5]; rfl) (by omega)) (tQ_to (by decide) (by unfold mk3; rw [Decidable.not_not.1 hc5]; rfl) (by omega))

theorem readD_cons (a : Nat) (x : List Nat) : readD (a :: x) = (a - 48) * 10 ^ x.length + readD x := by
  have := readD_append [a] x
  have e : readD [a] = a - 48 := by
    have := readD_snoc [] a
    rw [readD_nil] at this
    simpa using this
  rw [e] at this
  simpa using this
theorem readD_rep (k : Nat) (X : List Nat) : readD (List.replicate k 48 ++ X) = readD X := by
  induction k with
  | zero => rfl
  | succ k ih =>
    rw [List.replicate_succ, List.cons_append, readD_cons, ih]; simp
theorem padT_read (N n : Nat) : readD (padT N n) = N := by
  unfold padT
  split
  · rw [readD_rep, readD_txt]
  · exact readD_txt N
theorem padT_dig (N n : Nat) : ∀ d ∈ padT N n, 48 ≤ d ∧ d ≤ 57 := by
  intro d hd
  unfold padT at hd
  split at hd
  · rcases List.mem_append.1 hd with h | h
    · have := List.eq_of_mem_replicate h; omega
    · exact txt_byte N d h
  · exact txt_byte N d hd
theorem padT_eq_len (N n : Nat) : (padT N n).length = max (txt N).length (n + 1) := by
  unfold padT
  split
  · rw [List.length_append, List.length_replicate]; omega
  · omega
theorem decS_len (N n : Nat) : (decS N n).length = if n = 0 then (txt N).length else max (txt N).length (n + 1) + 1 := by
  unfold decS
  split
  · rfl
  · have h := padT_eq_len N n
    rw [List.length_append, List.length_append, List.length_take, List.length_drop, List.length_singleton, h]
    omega
theorem decS_byte (N n : Nat) : ∀ d ∈ decS N n, d < 256 := by
  intro d hd
  unfold decS at hd
  split at hd
  · have := txt_byte N d hd; omega
  · rcases List.mem_append.1 hd with h | h
    · rcases List.mem_append.1 h with h | h
      · have := padT_dig N n d (List.mem_of_mem_take h); omega
      · simp at h; omega
    · have := padT_dig N n d (List.mem_of_mem_drop h); omega

section

variable {x y : Rat}
theorem mk3_nonneg (l k : List Nat) : 0 ≤ mk3 l k := by
  unfold mk3
  rw [← Rat.divInt_ofNat]
  exact Rat.divInt_nonneg (Int.natCast_nonneg _) (Int.natCast_nonneg _)
end

section

variable {l m p q n : Nat} {L M S : List Nat} {x : Rat} {v v0 v1 : Value} {w : World}
theorem l_made3_n {l1 l2 : Nat} (ex : mk3 L M = x) (h0 : (tBy l1 L).p v0 w) (h1 : (tBy l2 M).p v1 w) (b1 : l1 ≤ 9223372036854775807) (b2 : l2 ≤ 9223372036854775807) (hm : 2400 ≤ m) : Calls Tryz.prog 7 #[v0, v1] w (Ret (tT [tQ B64 m x, tQ B32 m x]) w) := by
  rw [← ex]
  obtain ⟨A, a, c, e1, e2, e3, e4⟩ := h0
  obtain ⟨A', a', c', e1', e2', e3', e4'⟩ := h1
  exact l_made3 (m := m) ⟨A, a, c, e1, e2, e3, by omega⟩ ⟨A', a', c', e1', e2', e3', by omega⟩ hm
theorem c_decimal_n (h : (tQ B64 l x).p v w) (eS : decS (rn (x.num.toNat * 10 ^ n) x.den) n = S) (hl : l ≤ 1000000) (hn : n ≤ 100) : Calls Tryz.prog 29 #[v, .int .i64 ((n : Nat) : Int)] w (Ret (tT [tV (.string (strB S)), tV (.bool true)]) w) := by
  have := c_decimal h rfl rfl hl hn
  rw [eS] at this; exact this
end
theorem o_andK {z K : Int} {N : Nat} {ox oy : Operand} {id : TypeId} (e : bits .and .i64 z K = (N : Int)) (w : World) : (do eqGuard .and id ox oy (.int .i64 z) (.int .i64 K); binOp .and id (.int .i64 z) (.int .i64 K) : Sem Value).run Tryz.prog w = .ok (.int .i64 ((N : Nat) : Int)) w := by
  simp [go_sem, e]
end Go.Proofs.YtfgnleoaibcegaaGreat.Rg

namespace Go.Proofs.YtfgnleoaibcegaaGreat.Rg

open Go.RowKit

def far (A B V : Nat) : Nat := (A - V * B) + (V * B - A)
section

variable {K p q : Nat}
end

end Go.Proofs.YtfgnleoaibcegaaGreat.Rg

namespace Go.Proofs.YtfgnleoaibcegaaGreat.Rg

open Go.RowKit

def gapQ (x y : Rat) : Rat := if y ≤ x then x - y else y - x
theorem mk_eq {a c : Int} {b d : Nat} (hb : b ≠ 0) (hd : d ≠ 0) (h : a * (d : Int) = c * (b : Int)) : mkRat a b = mkRat c d := (Rat.mkRat_eq_iff hb hd).2 h
theorem two_ne (n : Nat) : (2 ^ n : Nat) ≠ 0 := Nat.ne_of_gt (Nat.two_pow_pos n)
theorem fl_VX {u K : Nat} (hK : K = 1074) (hu : u < 9218868437227405312) : fl u = mkRat ((VX u : Nat) : Int) (2 ^ K) := by
  have he : ex u = u / 4503599627370496 := by unfold ex; omega
  by_cases h0 : ex u = 0
  · have hv : VX u = u := by unfold VX; rw [if_pos (by omega)]
    unfold fl
    rw [if_pos (by omega), ← hK, hv, show ma u = u by unfold ma; omega]
  · have hv : VX u = (ma u + 4503599627370496) * 2 ^ (ex u - 1) := by unfold VX; rw [if_neg (by omega), he]; rfl
    unfold fl
    rw [if_neg (by omega), hv]
    by_cases h1 : ex u < 1075
    · rw [if_pos (by omega)]
      refine mk_eq (two_ne _) (two_ne _) ?_
      rw [← Int.natCast_mul, ← Int.natCast_mul, Int.ofNat_inj, Nat.mul_assoc, ← Nat.pow_add, show ex u - 1 + (1075 - ex u) = K by omega]
    · rw [if_neg (by omega)]
      refine mk_eq (by decide) (two_ne _) ?_
      rw [← Int.natCast_mul, ← Int.natCast_mul, Int.ofNat_inj, Nat.mul_one, Nat.mul_assoc, ← Nat.pow_add, show ex u - 1075 + K = ex u - 1 by omega]
section

variable {x y : Rat} {D V V' : Nat}
theorem rat_den (hx : 0 ≤ x) : x * ((x.den : Nat) : Rat) = ((x.num.toNat : Nat) : Rat) := by
  have h := Rat.mkRat_self x
  rw [← num_i hx, Rat.mkRat_eq_div] at h
  have hd : ((x.den : Nat) : Rat) ≠ 0 := by
    rw [show (0 : Rat) = ((0 : Nat) : Rat) from rfl, Ne, Rat.natCast_inj]
    exact x.den_nz
  conv => lhs; lhs; rw [← h]
  exact Rat.div_mul_cancel hd
theorem val_den (hD : 0 < D) : mkRat ((V : Nat) : Int) D * ((D : Nat) : Rat) = ((V : Nat) : Rat) := by
  rw [Rat.mkRat_eq_div]
  have hd : ((D : Nat) : Rat) ≠ 0 := by
    rw [show (0 : Rat) = ((0 : Nat) : Rat) from rfl, Ne, Rat.natCast_inj]
    omega
  exact Rat.div_mul_cancel hd
theorem cast_pos {n : Nat} (h : 0 < n) : (0 : Rat) < ((n : Nat) : Rat) := by
  rw [show (0 : Rat) = ((0 : Nat) : Rat) from rfl]
  exact Rat.natCast_lt_natCast.2 h
theorem cast_sub {a b : Nat} (h : b ≤ a) : ((a - b : Nat) : Rat) = ((a : Nat) : Rat) - ((b : Nat) : Rat) := by
  obtain ⟨c, rfl⟩ : ∃ c, a = b + c := ⟨a - b, by omega⟩
  rw [Nat.add_sub_cancel_left, Rat.natCast_add]
  grind
theorem gap_mul (hx : 0 ≤ x) (hD : 0 < D) : gapQ x (mkRat ((V : Nat) : Int) D) * ((x.den * D : Nat) : Rat) = ((far (x.num.toNat * D) x.den V : Nat) : Rat) := by
  have h1 := rat_den hx
  have h2 := val_den (V := V) hD
  have hc : (0 : Rat) < ((x.den * D : Nat) : Rat) := cast_pos (Nat.mul_pos x.den_pos hD)
  have e1 : x * ((x.den * D : Nat) : Rat) = ((x.num.toNat * D : Nat) : Rat) := by
    rw [Rat.natCast_mul, Rat.natCast_mul, ← Rat.mul_assoc, h1]
  have e2 : mkRat ((V : Nat) : Int) D * ((x.den * D : Nat) : Rat) = ((V * x.den : Nat) : Rat) := by
    rw [Nat.mul_comm x.den, Rat.natCast_mul, Rat.natCast_mul, ← Rat.mul_assoc, h2]
  generalize mkRat ((V : Nat) : Int) D = z at *
  generalize hcc : ((x.den * D : Nat) : Rat) = c at *
  unfold gapQ far
  by_cases h : z ≤ x
  · rw [if_pos h]
    have hle : V * x.den ≤ x.num.toNat * D := by
      have := Rat.mul_le_mul_of_nonneg_right h (Rat.le_of_lt hc)
      rw [e1, e2] at this
      exact Rat.natCast_le_natCast.1 this
    rw [show x.num.toNat * D - V * x.den + (V * x.den - x.num.toNat * D) = x.num.toNat * D - V * x.den by omega, cast_sub hle, ← e1, ← e2]
    grind
  · rw [if_neg h]
    have hle : x.num.toNat * D ≤ V * x.den := by
      have := Rat.mul_le_mul_of_nonneg_right (Rat.le_of_lt (Rat.not_le.1 h)) (Rat.le_of_lt hc)
      rw [e1, e2] at this
      exact Rat.natCast_le_natCast.1 this
    rw [show x.num.toNat * D - V * x.den + (V * x.den - x.num.toNat * D) = V * x.den - x.num.toNat * D by omega, cast_sub hle, ← e1, ← e2]
    grind
end

section

variable {x : Rat} {N : Nat}
end

end Go.Proofs.YtfgnleoaibcegaaGreat.Rg

namespace Go.Proofs.YtfgnleoaibcegaaGreat.Rg

open Go.RowKit Go.ChangeShapes Go.WideShapes Go.ChangeAt Go.Deep

theorem ret_out3 {P : Program} {f : FuncId} {args : Array Value} {w : World} {v : Value} (h : Calls P f args w (Ret (tV v) w)) : Calls P f args w fun e w' => e = .returned v ∧ Below w.heap.size w w' := by
  refine h.mono ?_
  rintro e w' ⟨u, rfl, h1, h2⟩
  have h1 : u = v := h1
  exact ⟨by rw [h1], h2⟩
theorem u64_r {a : Int} (h : (Lit.int .u64 a).wf = true) : ∃ u : Nat, a = (u : Int) ∧ u < 18446744073709551616 := by
  simp only [Lit.wf, decide_eq_true_eq, Bool.and_eq_true] at h
  have e1 : IntKind.u64.max = 18446744073709551615 := by decide
  have e2 : IntKind.u64.min = 0 := by decide
  rw [e1, e2] at h
  exact ⟨a.toNat, by omega, by omega⟩
end Go.Proofs.YtfgnleoaibcegaaGreat.Rg

namespace Go.Proofs.YtfgnleoaibcegaaGreat.Rg

open Go.RowKit

theorem c_leftK (K : Nat) {l x k : Nat} {v : Value} {w : World} (h : (tN B64 l x).p v w) (hl : l ≤ big) (hk : k ≤ K) (hK : K ≤ 16777216) : Calls Tryz.prog 87 #[v, .int .i64 ((k : Nat) : Int)] w (Ret (tT [tN B64 (l + K) (x * 2 ^ k), tV (.bool true)]) w) := by
  have hb : big = 1099511627776 := big_eq
  have h1 := c_left (k := ((k : Nat) : Int)) h hl (by omega) (by omega)
  have e1 : leftOk x ((k : Nat) : Int) = true := by unfold leftOk; rw [decide_eq_true (show ((k : Nat) : Int) ≤ 16777216 by omega), Bool.or_true]
  have e2 : leftV x ((k : Nat) : Int) = x * 2 ^ k := by unfold leftV; rw [if_neg (by omega), if_pos e1, Int.toNat_natCast]
  rw [e1, e2] at h1
  refine h1.mono ?_
  rintro e w' ⟨v', rfl, ⟨m, rfl, hm⟩, hbel⟩
  refine ⟨_, rfl, ⟨m, rfl, ?_⟩, hbel⟩
  match m, hm with
  | [a, b], ⟨⟨A, n, c, e3, hd, hn⟩, hb2, ht⟩ =>
    refine ⟨⟨A, n, c, e3, hd, hd.le (by decide) ?_⟩, hb2, ht⟩
    obtain ⟨A0, n0, c0, rfl, hd0, hn0⟩ := h
    have h1 : x < B64 ^ l := Nat.lt_of_lt_of_le (DAt.lt (by decide) hd0) (Nat.pow_le_pow_right (by decide) hn0)
    have h2 : 2 ^ k ≤ B64 ^ K := Nat.le_trans (Nat.pow_le_pow_left (by decide : 2 ≤ B64) k) (Nat.pow_le_pow_right (by decide) hk)
    rw [Nat.pow_add]
    exact Nat.lt_of_lt_of_le (Nat.mul_lt_mul_of_pos_right h1 (Nat.two_pow_pos k)) (Nat.mul_le_mul_left _ h2)
section

variable {u l : Nat}
theorem fv_0 {K : Nat} (hK : K = 1074) (h : ¬ 0 < ex u) : mkRat ((ma u : Nat) : Int) (1 * 2 ^ (K - ex u)) = fl u := by
  unfold fl; rw [if_pos (by omega), Nat.one_mul, show K - ex u = K by omega, ← hK]
theorem fv_1 (h : 0 < ex u) (h2 : 1074 ≤ ex u - 1) : mkRat (((ma u + 4503599627370496) * 2 ^ (ex u - 1 - 1074) : Nat) : Int) 1 = fl u := by
  unfold fl; rw [if_neg (by omega), if_neg (by omega), show ex u - 1 - 1074 = ex u - 1075 by omega]
theorem fv_2 {K : Nat} (hK : K = 1074) (h : 0 < ex u) (h2 : ¬ 1074 ≤ ex u - 1) : mkRat ((ma u + 4503599627370496 : Nat) : Int) (1 * 2 ^ (K - (ex u - 1))) = fl u := by
  unfold fl; rw [if_neg (by omega), if_pos (by omega), Nat.one_mul, show K - (ex u - 1) = 1075 - ex u by omega]
theorem fb_4 {l : Nat} (h : 1100 ≤ l) : (ma u + 4503599627370496) * 2 ^ (ex u - 1 - 1074) < 2 ^ l := by
  rw [show ex u - 1 - 1074 = ex u - 1075 by omega]; exact fb_3 h
end
theorem o_ge1074 {i : Nat} {ox oy : Operand} {id : TypeId} (w : World) : (do eqGuard .geq id ox oy (.int .i64 ((i : Nat) : Int)) (.int .i64 1074); binOp .geq id (.int .i64 ((i : Nat) : Int)) (.int .i64 1074) : Sem Value).run Tryz.prog w = .ok (.bool (decide (1074 ≤ i))) w := by
  have e : decide ((1074 : Int) ≤ ((i : Nat) : Int)) = decide (1074 ≤ i) := by rw [decide_eq_decide]; omega
  rw [← e]
  simp only [eqGuard]; simp [go_sem]
theorem o_sub74 {i : Nat} {ox oy : Operand} {id : TypeId} (h : 1074 ≤ i) (h2 : i ≤ 3000) (w : World) : (do eqGuard .sub id ox oy (.int .i64 ((i : Nat) : Int)) (.int .i64 1074); binOp .sub id (.int .i64 ((i : Nat) : Int)) (.int .i64 1074) : Sem Value).run Tryz.prog w = .ok (.int .i64 ((i - 1074 : Nat) : Int)) w := by
  have e : IntKind.i64.wrap (((i : Nat) : Int) - 1074) = ((i - 1074 : Nat) : Int) := by rw [IntKind.wrap_i64]; omega
  simp [go_sem, e]
theorem o_74sub {K i : Nat} {ox oy : Operand} {id : TypeId} (hK : K = 1074) (h : i ≤ 1074) (w : World) : (do eqGuard .sub id ox oy (.int .i64 1074) (.int .i64 ((i : Nat) : Int)); binOp .sub id (.int .i64 1074) (.int .i64 ((i : Nat) : Int)) : Sem Value).run Tryz.prog w = .ok (.int .i64 ((K - i : Nat) : Int)) w := by
  have e : IntKind.i64.wrap (1074 - ((i : Nat) : Int)) = ((K - i : Nat) : Int) := by rw [IntKind.wrap_i64]; omega
  simp [go_sem, e]
section

variable {x y : Rat}
theorem gap_1 (h : y ≤ x) : subQ x y = gapQ x y := by unfold gapQ subQ; rw [if_pos h, if_pos h]
theorem gap_2 (h : ¬ y ≤ x) : subQ y x = gapQ x y := by unfold gapQ subQ; rw [if_neg h, if_pos (Rat.le_of_lt (Rat.not_le.1 h))]
end
set_option maxRecDepth 10000 in
set_option maxHeartbeats 2000000 in
theorem l_value {l u : Nat} {w : World}  (hu : u < 18446744073709551616) (hl : 1100 ≤ l) :
    Calls Tryz.prog 34 #[.int .u64 (u : Int)] w (Ret (tQ B64 l (fl u)) w) := by
 refine enter Tryz.func34 rfl Tryz.ntmps34 (by simp) ?_
 intro a hz hd ha
 have S0 := ha 0 _ rfl
 clear ha
 have HB : Below w.heap.size w w := Below.refl _ _
 have hex := ex_lt u
 have hma := ma_lt u
 obtain ⟨K74, e74⟩ : ∃ K : Nat, K = 1074 := ⟨_, rfl⟩
 refine wp_seq ?_
 refine rt [rB 0 28 (tQ B64 1 0) none 0] hz hd ?_ ?_
 refine ⟨?_, trivial⟩
 exact zNew hz (fun _ => tQ_nil) al_r64
 clear hz hd
 intro a' γ' W' hz hd hC hk hh
 replace S0 := kp hk S0
 obtain ⟨p1, S2, Cp1, lp1, gp1⟩ := gotB hz 0 hC hh rfl rfl rfl rfl rfl rfl
 have bp1 := Nat.le_trans HB.size lp1
 clear lp1 gp1
 replace HB := aB HB hC
 clear hC hk hh
 refine wp_seq ?_
 refine rt [rV (.int .u64 (u : Int)), rV (.int .u64 ((u / 4503599627370496 : Nat) : Int)), rV (.int .u64 ((ex u : Nat) : Int)), rV (.int .i64 ((ex u : Nat) : Int)), rV (.int .i64 ((ex u : Nat) : Int))] hz hd ?_ ?_
 refine ⟨?_, ?_, ?_, ?_, ?_, trivial⟩
 exact zMv hz (sv S0)
 exact sBin rfl rfl rfl hz rfl (Gd.none_ rfl) rfl (sd 0 rfl) kc (fun w => f_shr w)
 exact sBin rfl rfl rfl hz rfl (Gd.none_ rfl) rfl (sd 1 rfl) kc (fun w => f_ex hu w)
 exact sConv (T' := tV (.int .u64 ((ex u : Nat) : Int))) rfl rfl rfl hz rfl (Gd.none_ rfl) rfl (sd 2 rfl) (fun v_ w_ h_ => by have h_ : v_ = .int .u64 ((ex u : Nat) : Int) := h_; subst h_; exact ⟨_, by exact cv_ex _, rfl⟩)
 exact zAs hz (sd 3 rfl)
 clear hz hd
 intro a' γ' W' hz hd hC hk hh
 have tp1 := Cp1.lt
 replace Cp1 := kC hC Cp1
 replace S0 := kp hk S0
 replace S2 := kp hk S2
 have S3 := gV hz 4 hh
 clear tp1
 replace HB := aB HB hC
 clear hC hk hh
 refine wp_seq ?_
 refine rt [rV (.int .u64 (u : Int)), rV (.int .u64 ((ma u : Nat) : Int)), rV (.int .u64 ((ma u : Nat) : Int))] hz hd ?_ ?_
 refine ⟨?_, ?_, ?_, trivial⟩
 exact zMv hz (sv S0)
 exact sBin rfl rfl rfl hz rfl (Gd.none_ rfl) rfl (sd 0 rfl) kc (fun w => f_ma hu w)
 exact zAs hz (sd 1 rfl)
 clear hz hd
 intro a' γ' W' hz hd hC hk hh
 have tp1 := Cp1.lt
 replace Cp1 := kC hC Cp1
 clear S0
 replace S2 := kp hk S2
 replace S3 := kp hk S3
 have S4 := gV hz 2 hh
 clear tp1
 replace HB := aB HB hC
 clear hC hk hh
 refine wp_seq ?_
 refine wp_seq ?_
 refine rt [rV (.int .i64 ((ex u : Nat) : Int)), rV (.bool (decide (0 < ex u)))] hz hd ?_ ?_
 refine ⟨?_, ?_, trivial⟩
 exact zMv hz (sv S3)
 exact sBin rfl rfl rfl hz rfl (Gd.none_ rfl) rfl (sd 0 rfl) kc (fun w => n_gt0 w)
 clear hz hd
 intro a' γ' W' hz hd hC hk hh
 have tp1 := Cp1.lt
 replace Cp1 := kC hC Cp1
 replace S2 := kp hk S2
 replace S3 := kp hk S3
 replace S4 := kp hk S4
 have S16 := gV hz 1 hh
 clear tp1
 replace HB := aB HB hC
 clear hC hk hh
 by_cases hc2 : 0 < ex u
 rw [decide_eq_true hc2] at S16
 refine wp_cond_true S16.ev ?_
 refine wp_seq ?_
 refine rt [rV (.int .u64 ((ma u : Nat) : Int)), rV (.int .u64 ((ma u + 4503599627370496 : Nat) : Int)), rV (.int .u64 ((ma u + 4503599627370496 : Nat) : Int))] hz hd ?_ ?_
 refine ⟨?_, ?_, ?_, trivial⟩
 exact zMv hz (sv S4)
 exact sBin rfl rfl rfl hz rfl (Gd.none_ rfl) rfl (sd 0 rfl) kc (fun w => f_m52 w)
 exact zAs hz (sd 1 rfl)
 clear hz hd
 intro a' γ' W' hz hd hC hk hh
 have tp1 := Cp1.lt
 replace Cp1 := kC hC Cp1
 replace S2 := kp hk S2
 replace S3 := kp hk S3
 clear S4
 clear S16
 have S4 := gV hz 2 hh
 clear tp1
 replace HB := aB HB hC
 clear hC hk hh
 refine rt [rV (.int .i64 ((ex u : Nat) : Int)), rV (.int .i64 ((ex u - 1 : Nat) : Int)), rV (.int .i64 ((ex u - 1 : Nat) : Int))] hz hd ?_ ?_
 refine ⟨?_, ?_, ?_, trivial⟩
 exact zMv hz (sv S3)
 exact sBin rfl rfl rfl hz rfl (Gd.none_ rfl) rfl (sd 0 rfl) kc (fun w => f_e1 hc2 w)
 exact zAs hz (sd 1 rfl)
 clear hz hd
 intro a' γ' W' hz hd hC hk hh
 have tp1 := Cp1.lt
 replace Cp1 := kC hC Cp1
 replace S2 := kp hk S2
 clear S3
 replace S4 := kp hk S4
 have S3 := gV hz 2 hh
 clear tp1
 replace HB := aB HB hC
 clear hC hk hh
 refine wp_seq ?_
 refine rt [rV (.int .u64 ((ma u + 4503599627370496 : Nat) : Int)), rT (tN B64 1 (ma u + 4503599627370496)), rT (tN B64 1 1), rVar 3 26 1, rVar 4 26 1, rB 3 26 (tN B64 1 (ma u + 4503599627370496)) (some 3) 4, rB 4 26 (tN B64 1 1) (some 4) 5] hz hd ?_ ?_
 refine ⟨?_, ?_, ?_, ?_, ?_, ?_, ?_, trivial⟩
 exact zMv hz (sv S4)
 exact zC1 hz Tryz.func40 (sd 0 rfl) (k1 (fun _ => c_of (by have := ma_lt u; unfold B64; omega)))
 exact zC1 hz Tryz.func40 (kc (v := .int .u64 1)) (k1 (fun _ => c_of (by decide)))
 exact zAl hz nd_slice al_n64
 exact zAl hz nd_slice al_n64
 exact zSt (sd 1 rfl) st_n64
 exact zSt (sd 2 rfl) st_n64
 clear hz hd
 intro a' γ' W' hz hd hC hk hh
 have ep1 := Cp1.lt
 have tp1 := Cp1.lt
 replace Cp1 := kC hC Cp1
 replace S2 := kp hk S2
 clear S4
 replace S3 := kp hk S3
 obtain ⟨p3, S5, Cp3, lp3, gp3⟩ := gotB hz 5 hC hh rfl rfl rfl rfl rfl rfl
 obtain ⟨p4, S6, Cp4, lp4, gp4⟩ := gotB hz 6 hC hh rfl rfl rfl rfl rfl rfl
 have n_p3_p1 : p3 ≠ p1 := by omega
 have n_p3_p4 : p3 ≠ p4 := by intro e; rw [e, gp4] at gp3; omega
 have n_p4_p1 : p4 ≠ p1 := by omega
 have n_p4_p3 : p4 ≠ p3 := by intro e; rw [e, gp3] at gp4; omega
 have n_p1_p3 : p1 ≠ p3 := by have := ep1; omega
 have n_p1_p4 : p1 ≠ p4 := by have := ep1; omega
 have bp3 := Nat.le_trans HB.size lp3
 have bp4 := Nat.le_trans HB.size lp4
 clear lp3 gp3 lp4 gp4
 clear tp1
 clear ep1
 replace HB := aB HB hC
 clear hC hk hh
 refine wp_seq ?_
 refine wp_seq ?_
 refine rt [rV (.int .i64 ((ex u - 1 : Nat) : Int)), rV (.bool (decide (1074 ≤ ex u - 1)))] hz hd ?_ ?_
 refine ⟨?_, ?_, trivial⟩
 exact zMv hz (sv S3)
 exact sBin rfl rfl rfl hz rfl (Gd.none_ rfl) rfl (sd 0 rfl) kc (fun w => o_ge1074 w)
 clear hz hd
 intro a' γ' W' hz hd hC hk hh
 have tp1 := Cp1.lt
 replace Cp1 := kC hC Cp1
 have tp3 := Cp3.lt
 replace Cp3 := kC hC Cp3
 have tp4 := Cp4.lt
 replace Cp4 := kC hC Cp4
 replace S2 := kp hk S2
 replace S3 := kp hk S3
 replace S5 := kp hk S5
 replace S6 := kp hk S6
 have S25 := gV hz 1 hh
 clear tp1 tp3 tp4
 replace HB := aB HB hC
 clear hC hk hh
 by_cases hc5 : 1074 ≤ ex u - 1
 rw [decide_eq_true hc5] at S25
 refine wp_cond_true S25.ev ?_
 refine region_text (M := [p3]) [rT (tN B64 1 (ma u + 4503599627370496)), rV (.int .i64 ((ex u - 1 : Nat) : Int)), rV (.int .i64 ((ex u - 1 - 1074 : Nat) : Int)), rT (tT [tN B64 2049 ((ma u + 4503599627370496) * 2 ^ (ex u - 1 - 1074)), tV (.bool true)]), rT (tT [tN B64 2049 ((ma u + 4503599627370496) * 2 ^ (ex u - 1 - 1074)), tV (.bool true)]), rT (tN B64 2049 ((ma u + 4503599627370496) * 2 ^ (ex u - 1 - 1074))), rV (.bool true), rE 0 26 (tN B64 2049 ((ma u + 4503599627370496) * 2 ^ (ex u - 1 - 1074))) p3] hz hd (by kernel_rfl) ?_ ?_
 refine ⟨?_, ?_, ?_, ?_, ?_, ?_, ?_, ?_, trivial⟩
 exact sLoadM rfl rfl rfl hz rfl (Gd.none_ rfl) rfl (sv S5) Cp3 (k := 0) (by simp [tagOf]) (by kernel_rfl) ld_n64
 exact zMv hz (sv S3)
 exact sBin rfl rfl rfl hz rfl (Gd.none_ rfl) rfl (sd 1 rfl) kc (fun w => o_sub74 hc5 (by omega) w)
 exact zC2 hz Tryz.func87 (sd 0 rfl) (sd 2 rfl) (k01 (fun _ _ h0 => c_leftK 2048 (k := ex u - 1 - 1074) h0 (by decide) (by omega) (by decide)))
 exact zMv hz (sd 3 rfl)
 exact zExt hz (sd 4 rfl)
 exact zExt hz (sd 4 rfl)
 exact zSE rfl (sv S5) (by simp [tagOf]) (Cp3.var tN_nd) (sd 5 rfl) st_n64
 clear hz hd
 intro a' γ' W' hz hd hC hk hh
 have tp1 := Cp1.lt
 replace Cp1 := kC hC Cp1 (by simp [tagOf, n_p1_p3])
 replace Cp3 := gotE (T := tN B64 2049 ((ma u + 4503599627370496) * 2 ^ (ex u - 1 - 1074))) (id := 26) (p := p3) 7 hh rfl rfl
 have tp4 := Cp4.lt
 replace Cp4 := kC hC Cp4 (by simp [tagOf, n_p4_p3])
 replace S2 := kp hk S2
 clear S3
 replace S5 := kp hk S5
 replace S6 := kp hk S6
 clear S25
 clear tp1 tp4
 replace HB := aM HB hC
 clear hC hk hh
 refine wp_seq ?_
 refine rt [rT (tN B64 2049 ((ma u + 4503599627370496) * 2 ^ (ex u - 1 - 1074))), rT (tN B64 1 1), rT (tT [tQ B64 l (mkRat (((ma u + 4503599627370496) * 2 ^ (ex u - 1 - 1074) : Nat) : Int) 1), tV (.bool (decide (1 ≠ 0)))]), rT (tT [tQ B64 l (mkRat (((ma u + 4503599627370496) * 2 ^ (ex u - 1 - 1074) : Nat) : Int) 1), tV (.bool (decide (1 ≠ 0)))]), rT (tQ B64 l (mkRat (((ma u + 4503599627370496) * 2 ^ (ex u - 1 - 1074) : Nat) : Int) 1)), rV (.bool (decide (1 ≠ 0))), rVar 6 28 2, rB 6 28 (tQ B64 l (mkRat (((ma u + 4503599627370496) * 2 ^ (ex u - 1 - 1074) : Nat) : Int) 1)) (some 6) 7, rV (.bool (decide (1 ≠ 0)))] hz hd ?_ ?_
 refine ⟨?_, ?_, ?_, ?_, ?_, ?_, ?_, ?_, ?_, trivial⟩
 exact zLd hz (sv S5) Cp3 ld_n64
 exact zLd hz (sv S6) Cp4 ld_n64
 exact zC2 hz Tryz.func20 (sd 0 rfl) (sd 1 rfl) (fun _ _ _ h0 h1 => cq_from (l := l) h0 h1 (by decide) (by decide) (fb_4 (by omega)) (fb_one (by omega)) (by omega))
 exact zMv hz (sd 2 rfl)
 exact zExt hz (sd 3 rfl)
 exact zExt hz (sd 3 rfl)
 exact zAl hz nd_rat al_r64
 exact zSt (sd 4 rfl) st_q64
 exact zAs hz (sd 5 rfl)
 clear hz hd
 intro a' γ' W' hz hd hC hk hh
 have tp1 := Cp1.lt
 replace Cp1 := kC hC Cp1
 have tp3 := Cp3.lt
 clear Cp3
 have tp4 := Cp4.lt
 clear Cp4
 replace S2 := kp hk S2
 clear S5
 clear S6
 obtain ⟨p6, S7, Cp6, lp6, gp6⟩ := gotB hz 7 hC hh rfl rfl rfl rfl rfl rfl
 have n_p6_p1 : p6 ≠ p1 := by omega
 clear lp6 gp6
 clear tp1 tp3 tp4
 replace HB := aB HB hC
 clear hC hk hh
 refine wp_seq ?_
 refine region_text (M := [p1]) [rT (tQ B64 l (mkRat (((ma u + 4503599627370496) * 2 ^ (ex u - 1 - 1074) : Nat) : Int) 1)), rE 0 28 (tQ B64 l (mkRat (((ma u + 4503599627370496) * 2 ^ (ex u - 1 - 1074) : Nat) : Int) 1)) p1] hz hd (by kernel_rfl) ?_ ?_
 refine ⟨?_, ?_, trivial⟩
 exact zLd hz (sv S7) Cp6 ld_q64 (by simp [tagOf, n_p6_p1])
 exact zSE rfl (sv S2) (by simp [tagOf]) (Cp1.var tQ_nd) (sd 0 rfl) st_q64
 clear hz hd
 intro a' γ' W' hz hd hC hk hh
 replace Cp1 := gotE (T := tQ B64 l (mkRat (((ma u + 4503599627370496) * 2 ^ (ex u - 1 - 1074) : Nat) : Int) 1)) (id := 28) (p := p1) 1 hh rfl rfl
 clear Cp6
 replace S2 := kp hk S2
 clear S7
 replace HB := aM HB hC
 clear hC hk hh
 refine wp_ret ?_
 refine ret_to (T := tQ B64 l (mkRat (((ma u + 4503599627370496) * 2 ^ (ex u - 1 - 1074) : Nat) : Int) 1)) (ret1_q64 (by kernel_rfl) S2 hd Cp1 HB) ?_
 exact tQ_to (by decide) (fv_1 hc2 hc5) (by omega)
 rw [decide_eq_false hc5] at S25
 refine wp_cond_false S25.ev ?_
 refine region_text (M := [p4]) [rT (tN B64 1 1), rV (.int .i64 ((ex u - 1 : Nat) : Int)), rV (.int .i64 ((K74 - (ex u - 1) : Nat) : Int)), rT (tT [tN B64 2049 (1 * 2 ^ (K74 - (ex u - 1))), tV (.bool true)]), rT (tT [tN B64 2049 (1 * 2 ^ (K74 - (ex u - 1))), tV (.bool true)]), rT (tN B64 2049 (1 * 2 ^ (K74 - (ex u - 1)))), rV (.bool true), rE 0 26 (tN B64 2049 (1 * 2 ^ (K74 - (ex u - 1)))) p4] hz hd (by kernel_rfl) ?_ ?_
 refine ⟨?_, ?_, ?_, ?_, ?_, ?_, ?_, ?_, trivial⟩
 exact sLoadM rfl rfl rfl hz rfl (Gd.none_ rfl) rfl (sv S6) Cp4 (k := 0) (by simp [tagOf]) (by kernel_rfl) ld_n64
 exact zMv hz (sv S3)
 exact sBin rfl rfl rfl hz rfl (Gd.none_ rfl) rfl kc (sd 1 rfl) (fun w => o_74sub e74 (by omega) w)
 exact zC2 hz Tryz.func87 (sd 0 rfl) (sd 2 rfl) (k01 (fun _ _ h0 => c_leftK 2048 (k := K74 - (ex u - 1)) h0 (by decide) (by omega) (by decide)))
 exact zMv hz (sd 3 rfl)
 exact zExt hz (sd 4 rfl)
 exact zExt hz (sd 4 rfl)
 exact zSE rfl (sv S6) (by simp [tagOf]) (Cp4.var tN_nd) (sd 5 rfl) st_n64
 clear hz hd
 intro a' γ' W' hz hd hC hk hh
 have tp1 := Cp1.lt
 replace Cp1 := kC hC Cp1 (by simp [tagOf, n_p1_p4])
 have tp3 := Cp3.lt
 replace Cp3 := kC hC Cp3 (by simp [tagOf, n_p3_p4])
 replace Cp4 := gotE (T := tN B64 2049 (1 * 2 ^ (K74 - (ex u - 1)))) (id := 26) (p := p4) 7 hh rfl rfl
 replace S2 := kp hk S2
 clear S3
 replace S5 := kp hk S5
 replace S6 := kp hk S6
 clear S25
 clear tp1 tp3
 replace HB := aM HB hC
 clear hC hk hh
 refine wp_seq ?_
 refine rt [rT (tN B64 1 (ma u + 4503599627370496)), rT (tN B64 2049 (1 * 2 ^ (K74 - (ex u - 1)))), rT (tT [tQ B64 l (mkRat ((ma u + 4503599627370496 : Nat) : Int) (1 * 2 ^ (K74 - (ex u - 1)))), tV (.bool (decide (1 * 2 ^ (K74 - (ex u - 1)) ≠ 0)))]), rT (tT [tQ B64 l (mkRat ((ma u + 4503599627370496 : Nat) : Int) (1 * 2 ^ (K74 - (ex u - 1)))), tV (.bool (decide (1 * 2 ^ (K74 - (ex u - 1)) ≠ 0)))]), rT (tQ B64 l (mkRat ((ma u + 4503599627370496 : Nat) : Int) (1 * 2 ^ (K74 - (ex u - 1))))), rV (.bool (decide (1 * 2 ^ (K74 - (ex u - 1)) ≠ 0))), rVar 6 28 2, rB 6 28 (tQ B64 l (mkRat ((ma u + 4503599627370496 : Nat) : Int) (1 * 2 ^ (K74 - (ex u - 1))))) (some 6) 7, rV (.bool (decide (1 * 2 ^ (K74 - (ex u - 1)) ≠ 0)))] hz hd ?_ ?_
 refine ⟨?_, ?_, ?_, ?_, ?_, ?_, ?_, ?_, ?_, trivial⟩
 exact zLd hz (sv S5) Cp3 ld_n64
 exact zLd hz (sv S6) Cp4 ld_n64
 exact zC2 hz Tryz.func20 (sd 0 rfl) (sd 1 rfl) (fun _ _ _ h0 h1 => cq_from (l := l) h0 h1 (by decide) (by decide) (fb_2 (by omega)) (fb_p1 (by omega)) (by omega))
 exact zMv hz (sd 2 rfl)
 exact zExt hz (sd 3 rfl)
 exact zExt hz (sd 3 rfl)
 exact zAl hz nd_rat al_r64
 exact zSt (sd 4 rfl) st_q64
 exact zAs hz (sd 5 rfl)
 clear hz hd
 intro a' γ' W' hz hd hC hk hh
 have tp1 := Cp1.lt
 replace Cp1 := kC hC Cp1
 have tp3 := Cp3.lt
 clear Cp3
 have tp4 := Cp4.lt
 clear Cp4
 replace S2 := kp hk S2
 clear S5
 clear S6
 obtain ⟨p7, S7, Cp7, lp7, gp7⟩ := gotB hz 7 hC hh rfl rfl rfl rfl rfl rfl
 have n_p7_p1 : p7 ≠ p1 := by omega
 clear lp7 gp7
 clear tp1 tp3 tp4
 replace HB := aB HB hC
 clear hC hk hh
 refine wp_seq ?_
 refine region_text (M := [p1]) [rT (tQ B64 l (mkRat ((ma u + 4503599627370496 : Nat) : Int) (1 * 2 ^ (K74 - (ex u - 1))))), rE 0 28 (tQ B64 l (mkRat ((ma u + 4503599627370496 : Nat) : Int) (1 * 2 ^ (K74 - (ex u - 1))))) p1] hz hd (by kernel_rfl) ?_ ?_
 refine ⟨?_, ?_, trivial⟩
 exact zLd hz (sv S7) Cp7 ld_q64 (by simp [tagOf, n_p7_p1])
 exact zSE rfl (sv S2) (by simp [tagOf]) (Cp1.var tQ_nd) (sd 0 rfl) st_q64
 clear hz hd
 intro a' γ' W' hz hd hC hk hh
 replace Cp1 := gotE (T := tQ B64 l (mkRat ((ma u + 4503599627370496 : Nat) : Int) (1 * 2 ^ (K74 - (ex u - 1))))) (id := 28) (p := p1) 1 hh rfl rfl
 clear Cp7
 replace S2 := kp hk S2
 clear S7
 replace HB := aM HB hC
 clear hC hk hh
 refine wp_ret ?_
 refine ret_to (T := tQ B64 l (mkRat ((ma u + 4503599627370496 : Nat) : Int) (1 * 2 ^ (K74 - (ex u - 1))))) (ret1_q64 (by kernel_rfl) S2 hd Cp1 HB) ?_
 exact tQ_to (by decide) (fv_2 e74 hc2 hc5) (by omega)
 rw [decide_eq_false hc2] at S16
 refine wp_cond_false S16.ev ?_
 refine wp_skip ?_
 refine wp_seq ?_
 refine rt [rV (.int .u64 ((ma u : Nat) : Int)), rT (tN B64 1 (ma u)), rT (tN B64 1 1), rVar 3 26 1, rVar 4 26 1, rB 3 26 (tN B64 1 (ma u)) (some 3) 4, rB 4 26 (tN B64 1 1) (some 4) 5] hz hd ?_ ?_
 refine ⟨?_, ?_, ?_, ?_, ?_, ?_, ?_, trivial⟩
 exact zMv hz (sv S4)
 exact zC1 hz Tryz.func40 (sd 0 rfl) (k1 (fun _ => c_of (by have := ma_lt u; unfold B64; omega)))
 exact zC1 hz Tryz.func40 (kc (v := .int .u64 1)) (k1 (fun _ => c_of (by decide)))
 exact zAl hz nd_slice al_n64
 exact zAl hz nd_slice al_n64
 exact zSt (sd 1 rfl) st_n64
 exact zSt (sd 2 rfl) st_n64
 clear hz hd
 intro a' γ' W' hz hd hC hk hh
 have ep1 := Cp1.lt
 have tp1 := Cp1.lt
 replace Cp1 := kC hC Cp1
 replace S2 := kp hk S2
 replace S3 := kp hk S3
 clear S4
 clear S16
 obtain ⟨p8, S5, Cp8, lp8, gp8⟩ := gotB hz 5 hC hh rfl rfl rfl rfl rfl rfl
 obtain ⟨p9, S6, Cp9, lp9, gp9⟩ := gotB hz 6 hC hh rfl rfl rfl rfl rfl rfl
 have n_p8_p1 : p8 ≠ p1 := by omega
 have n_p8_p9 : p8 ≠ p9 := by intro e; rw [e, gp9] at gp8; omega
 have n_p9_p1 : p9 ≠ p1 := by omega
 have n_p9_p8 : p9 ≠ p8 := by intro e; rw [e, gp8] at gp9; omega
 have n_p1_p8 : p1 ≠ p8 := by have := ep1; omega
 have n_p1_p9 : p1 ≠ p9 := by have := ep1; omega
 have bp8 := Nat.le_trans HB.size lp8
 have bp9 := Nat.le_trans HB.size lp9
 clear lp8 gp8 lp9 gp9
 clear tp1
 clear ep1
 replace HB := aB HB hC
 clear hC hk hh
 refine wp_seq ?_
 refine wp_seq ?_
 refine rt [rV (.int .i64 ((ex u : Nat) : Int)), rV (.bool (decide (1074 ≤ ex u)))] hz hd ?_ ?_
 refine ⟨?_, ?_, trivial⟩
 exact zMv hz (sv S3)
 exact sBin rfl rfl rfl hz rfl (Gd.none_ rfl) rfl (sd 0 rfl) kc (fun w => o_ge1074 w)
 clear hz hd
 intro a' γ' W' hz hd hC hk hh
 have tp1 := Cp1.lt
 replace Cp1 := kC hC Cp1
 have tp8 := Cp8.lt
 replace Cp8 := kC hC Cp8
 have tp9 := Cp9.lt
 replace Cp9 := kC hC Cp9
 replace S2 := kp hk S2
 replace S3 := kp hk S3
 replace S5 := kp hk S5
 replace S6 := kp hk S6
 have S25 := gV hz 1 hh
 clear tp1 tp8 tp9
 replace HB := aB HB hC
 clear hC hk hh
 have hc10 : ¬ (1074 ≤ ex u) := (by have := hc2; omega)
 rw [decide_eq_false hc10] at S25
 refine wp_cond_false S25.ev ?_
 refine region_text (M := [p9]) [rT (tN B64 1 1), rV (.int .i64 ((ex u : Nat) : Int)), rV (.int .i64 ((K74 - (ex u) : Nat) : Int)), rT (tT [tN B64 2049 (1 * 2 ^ (K74 - (ex u))), tV (.bool true)]), rT (tT [tN B64 2049 (1 * 2 ^ (K74 - (ex u))), tV (.bool true)]), rT (tN B64 2049 (1 * 2 ^ (K74 - (ex u)))), rV (.bool true), rE 0 26 (tN B64 2049 (1 * 2 ^ (K74 - (ex u)))) p9] hz hd (by kernel_rfl) ?_ ?_
 refine ⟨?_, ?_, ?_, ?_, ?_, ?_, ?_, ?_, trivial⟩
 exact sLoadM rfl rfl rfl hz rfl (Gd.none_ rfl) rfl (sv S6) Cp9 (k := 0) (by simp [tagOf]) (by kernel_rfl) ld_n64
 exact zMv hz (sv S3)
 exact sBin rfl rfl rfl hz rfl (Gd.none_ rfl) rfl kc (sd 1 rfl) (fun w => o_74sub e74 (by omega) w)
 exact zC2 hz Tryz.func87 (sd 0 rfl) (sd 2 rfl) (k01 (fun _ _ h0 => c_leftK 2048 (k := K74 - (ex u)) h0 (by decide) (by omega) (by decide)))
 exact zMv hz (sd 3 rfl)
 exact zExt hz (sd 4 rfl)
 exact zExt hz (sd 4 rfl)
 exact zSE rfl (sv S6) (by simp [tagOf]) (Cp9.var tN_nd) (sd 5 rfl) st_n64
 clear hz hd
 intro a' γ' W' hz hd hC hk hh
 have tp1 := Cp1.lt
 replace Cp1 := kC hC Cp1 (by simp [tagOf, n_p1_p9])
 have tp8 := Cp8.lt
 replace Cp8 := kC hC Cp8 (by simp [tagOf, n_p8_p9])
 replace Cp9 := gotE (T := tN B64 2049 (1 * 2 ^ (K74 - (ex u)))) (id := 26) (p := p9) 7 hh rfl rfl
 replace S2 := kp hk S2
 clear S3
 replace S5 := kp hk S5
 replace S6 := kp hk S6
 clear S25
 clear tp1 tp8
 replace HB := aM HB hC
 clear hC hk hh
 refine wp_seq ?_
 refine rt [rT (tN B64 1 (ma u)), rT (tN B64 2049 (1 * 2 ^ (K74 - (ex u)))), rT (tT [tQ B64 l (mkRat ((ma u : Nat) : Int) (1 * 2 ^ (K74 - (ex u)))), tV (.bool (decide (1 * 2 ^ (K74 - (ex u)) ≠ 0)))]), rT (tT [tQ B64 l (mkRat ((ma u : Nat) : Int) (1 * 2 ^ (K74 - (ex u)))), tV (.bool (decide (1 * 2 ^ (K74 - (ex u)) ≠ 0)))]), rT (tQ B64 l (mkRat ((ma u : Nat) : Int) (1 * 2 ^ (K74 - (ex u))))), rV (.bool (decide (1 * 2 ^ (K74 - (ex u)) ≠ 0))), rVar 6 28 2, rB 6 28 (tQ B64 l (mkRat ((ma u : Nat) : Int) (1 * 2 ^ (K74 - (ex u))))) (some 6) 7, rV (.bool (decide (1 * 2 ^ (K74 - (ex u)) ≠ 0)))] hz hd ?_ ?_
 refine ⟨?_, ?_, ?_, ?_, ?_, ?_, ?_, ?_, ?_, trivial⟩
 exact zLd hz (sv S5) Cp8 ld_n64
 exact zLd hz (sv S6) Cp9 ld_n64
 exact zC2 hz Tryz.func20 (sd 0 rfl) (sd 1 rfl) (fun _ _ _ h0 h1 => cq_from (l := l) h0 h1 (by decide) (by decide) (fb_1 (by omega)) (fb_p1 (by omega)) (by omega))
 exact zMv hz (sd 2 rfl)
 exact zExt hz (sd 3 rfl)
 exact zExt hz (sd 3 rfl)
 exact zAl hz nd_rat al_r64
 exact zSt (sd 4 rfl) st_q64
 exact zAs hz (sd 5 rfl)
 clear hz hd
 intro a' γ' W' hz hd hC hk hh
 have tp1 := Cp1.lt
 replace Cp1 := kC hC Cp1
 have tp8 := Cp8.lt
 clear Cp8
 have tp9 := Cp9.lt
 clear Cp9
 replace S2 := kp hk S2
 clear S5
 clear S6
 obtain ⟨p11, S7, Cp11, lp11, gp11⟩ := gotB hz 7 hC hh rfl rfl rfl rfl rfl rfl
 have n_p11_p1 : p11 ≠ p1 := by omega
 clear lp11 gp11
 clear tp1 tp8 tp9
 replace HB := aB HB hC
 clear hC hk hh
 refine wp_seq ?_
 refine region_text (M := [p1]) [rT (tQ B64 l (mkRat ((ma u : Nat) : Int) (1 * 2 ^ (K74 - (ex u))))), rE 0 28 (tQ B64 l (mkRat ((ma u : Nat) : Int) (1 * 2 ^ (K74 - (ex u))))) p1] hz hd (by kernel_rfl) ?_ ?_
 refine ⟨?_, ?_, trivial⟩
 exact zLd hz (sv S7) Cp11 ld_q64 (by simp [tagOf, n_p11_p1])
 exact zSE rfl (sv S2) (by simp [tagOf]) (Cp1.var tQ_nd) (sd 0 rfl) st_q64
 clear hz hd
 intro a' γ' W' hz hd hC hk hh
 replace Cp1 := gotE (T := tQ B64 l (mkRat ((ma u : Nat) : Int) (1 * 2 ^ (K74 - (ex u))))) (id := 28) (p := p1) 1 hh rfl rfl
 clear Cp11
 replace S2 := kp hk S2
 clear S7
 replace HB := aM HB hC
 clear hC hk hh
 refine wp_ret ?_
 refine ret_to (T := tQ B64 l (mkRat ((ma u : Nat) : Int) (1 * 2 ^ (K74 - (ex u))))) (ret1_q64 (by kernel_rfl) S2 hd Cp1 HB) ?_
 exact tQ_to (by decide) (fv_0 e74 hc2) (by omega)

set_option maxRecDepth 10000 in
set_option maxHeartbeats 2000000 in
theorem l_gap {l1 l2 : Nat} {x y : Rat} {v0 v1 : Value} {w : World} (h0 : (tQ B64 l1 x).p v0 w) (h1 : (tQ B64 l2 y).p v1 w) (b1 : l1 ≤ 1000000) (b2 : l2 ≤ 1000000) :
    Calls Tryz.prog 37 #[v0, v1] w (Ret (tQ B64 (l1 + l2 + 1) (gapQ x y)) w) := by
 refine enter Tryz.func37 rfl Tryz.ntmps37 (by simp) ?_
 intro a hz hd ha
 have S0 := ha 0 _ rfl
 have H0 := h0
 have S1 := ha 1 _ rfl
 have H1 := h1
 clear ha
 have HB : Below w.heap.size w w := Below.refl _ _
 refine wp_seq ?_
 refine rt [rB 0 28 (tQ B64 l1 x) none 0, rB 1 28 (tQ B64 l2 y) none 0, rB 2 28 (tQ B64 1 0) none 0] hz hd ?_ ?_
 refine ⟨?_, ?_, ?_, trivial⟩
 exact zBox hz (so S0 H0) box_q64
 exact zBox hz (so S1 H1) box_q64
 exact zNew hz (fun _ => tQ_nil) al_r64
 clear hz hd
 intro a' γ' W' hz hd hC hk hh
 clear S0 H0
 clear S1 H1
 obtain ⟨p1, S2, Cp1, lp1, gp1⟩ := gotB hz 0 hC hh rfl rfl rfl rfl rfl rfl
 obtain ⟨p2, S3, Cp2, lp2, gp2⟩ := gotB hz 1 hC hh rfl rfl rfl rfl rfl rfl
 obtain ⟨p3, S4, Cp3, lp3, gp3⟩ := gotB hz 2 hC hh rfl rfl rfl rfl rfl rfl
 have n_p1_p3 : p1 ≠ p3 := by intro e; rw [e, gp3] at gp1; omega
 have n_p2_p3 : p2 ≠ p3 := by intro e; rw [e, gp3] at gp2; omega
 have bp3 := Nat.le_trans HB.size lp3
 clear lp1 gp1 lp2 gp2 lp3 gp3
 replace HB := aB HB hC
 clear hC hk hh
 refine wp_seq ?_
 refine rt [rT (tQ B64 l1 x), rT (tQ B64 l2 y), rT (tT [tQ B64 (l1 + l2 + 1) (subQ x y), tV (.bool (decide (y ≤ x)))]), rT (tT [tQ B64 (l1 + l2 + 1) (subQ x y), tV (.bool (decide (y ≤ x)))]), rT (tQ B64 (l1 + l2 + 1) (subQ x y)), rV (.bool (decide (y ≤ x))), rVar 6 28 2, rB 6 28 (tQ B64 (l1 + l2 + 1) (subQ x y)) (some 6) 7, rV (.bool (decide (y ≤ x)))] hz hd ?_ ?_
 refine ⟨?_, ?_, ?_, ?_, ?_, ?_, ?_, ?_, ?_, trivial⟩
 exact zLd hz (sv S2) Cp1 ld_q64
 exact zLd hz (sv S3) Cp2 ld_q64
 exact zC2 hz Tryz.func89 (sd 0 rfl) (sd 1 rfl) (fun _ _ _ h0 h1 => cq_sub h0 h1 (by omega) (by omega))
 exact zMv hz (sd 2 rfl)
 exact zExt hz (sd 3 rfl)
 exact zExt hz (sd 3 rfl)
 exact zAl hz nd_rat al_r64
 exact zSt (sd 4 rfl) st_q64
 exact zAs hz (sd 5 rfl)
 clear hz hd
 intro a' γ' W' hz hd hC hk hh
 have ep1 := Cp1.lt
 have ep2 := Cp2.lt
 have ep3 := Cp3.lt
 replace Cp1 := kC hC Cp1
 replace Cp2 := kC hC Cp2
 have tp3 := Cp3.lt
 replace Cp3 := kC hC Cp3
 replace S2 := kp hk S2
 replace S3 := kp hk S3
 replace S4 := kp hk S4
 obtain ⟨p4, S5, Cp4, lp4, gp4⟩ := gotB hz 7 hC hh rfl rfl rfl rfl rfl rfl
 have S6 := gV hz 8 hh
 have n_p4_p3 : p4 ≠ p3 := by omega
 have n_p1_p4 : p1 ≠ p4 := by have := ep1; omega
 have n_p2_p4 : p2 ≠ p4 := by have := ep2; omega
 have n_p3_p4 : p3 ≠ p4 := by have := ep3; omega
 have bp4 := Nat.le_trans HB.size lp4
 clear lp4 gp4
 clear tp3
 clear ep1 ep2 ep3
 replace HB := aB HB hC
 clear hC hk hh
 refine wp_seq ?_
 refine wp_seq ?_
 by_cases hc5 : y ≤ x
 rw [decide_eq_true hc5] at S6
 refine rt [rV (.bool true), rV (.bool false)] hz hd ?_ ?_
 refine ⟨?_, ?_, trivial⟩
 exact zMv hz (sv S6)
 exact zNot hz (sd 0 rfl)
 clear hz hd
 intro a' γ' W' hz hd hC hk hh
 replace Cp1 := kC hC Cp1
 replace Cp2 := kC hC Cp2
 have tp3 := Cp3.lt
 replace Cp3 := kC hC Cp3
 have tp4 := Cp4.lt
 replace Cp4 := kC hC Cp4
 replace S2 := kp hk S2
 replace S3 := kp hk S3
 replace S4 := kp hk S4
 replace S5 := kp hk S5
 clear S6
 have S14 := gV hz 1 hh
 clear tp3 tp4
 replace HB := aB HB hC
 clear hC hk hh
 refine wp_cond_false S14.ev ?_
 refine wp_skip ?_
 refine wp_seq ?_
 refine region_text (M := [p3]) [rT (tQ B64 (l1 + l2 + 1) (subQ x y)), rE 0 28 (tQ B64 (l1 + l2 + 1) (subQ x y)) p3] hz hd (by kernel_rfl) ?_ ?_
 refine ⟨?_, ?_, trivial⟩
 exact zLd hz (sv S5) Cp4 ld_q64 (by simp [tagOf, n_p4_p3])
 exact zSE rfl (sv S4) (by simp [tagOf]) (Cp3.var tQ_nd) (sd 0 rfl) st_q64
 clear hz hd
 intro a' γ' W' hz hd hC hk hh
 clear Cp1
 clear Cp2
 replace Cp3 := gotE (T := tQ B64 (l1 + l2 + 1) (subQ x y)) (id := 28) (p := p3) 1 hh rfl rfl
 have tp4 := Cp4.lt
 clear Cp4
 clear S2
 clear S3
 replace S4 := kp hk S4
 clear S5
 clear S14
 clear tp4
 replace HB := aM HB hC
 clear hC hk hh
 refine wp_ret ?_
 refine ret_to (T := tQ B64 (l1 + l2 + 1) (subQ x y)) (ret1_q64 (by kernel_rfl) S4 hd Cp3 HB) ?_
 exact tQ_to (by decide) (gap_1 hc5) (by omega)
 rw [decide_eq_false hc5] at S6
 refine rt [rV (.bool false), rV (.bool true)] hz hd ?_ ?_
 refine ⟨?_, ?_, trivial⟩
 exact zMv hz (sv S6)
 exact zNot hz (sd 0 rfl)
 clear hz hd
 intro a' γ' W' hz hd hC hk hh
 replace Cp1 := kC hC Cp1
 replace Cp2 := kC hC Cp2
 have tp3 := Cp3.lt
 replace Cp3 := kC hC Cp3
 have tp4 := Cp4.lt
 replace Cp4 := kC hC Cp4
 replace S2 := kp hk S2
 replace S3 := kp hk S3
 replace S4 := kp hk S4
 replace S5 := kp hk S5
 clear S6
 have S14 := gV hz 1 hh
 clear tp3 tp4
 replace HB := aB HB hC
 clear hC hk hh
 refine wp_cond_true S14.ev ?_
 refine region_text (M := [p4]) [rT (tQ B64 l2 y), rT (tQ B64 l1 x), rT (tT [tQ B64 (l2 + l1 + 1) (subQ y x), tV (.bool (decide (x ≤ y)))]), rT (tT [tQ B64 (l2 + l1 + 1) (subQ y x), tV (.bool (decide (x ≤ y)))]), rT (tQ B64 (l2 + l1 + 1) (subQ y x)), rV (.bool (decide (x ≤ y))), rE 0 28 (tQ B64 (l2 + l1 + 1) (subQ y x)) p4] hz hd (by kernel_rfl) ?_ ?_
 refine ⟨?_, ?_, ?_, ?_, ?_, ?_, ?_, trivial⟩
 exact zLd hz (sv S3) Cp2 ld_q64 (by simp [tagOf, n_p2_p4])
 exact zLd hz (sv S2) Cp1 ld_q64 (by simp [tagOf, n_p1_p4])
 exact zC2 hz Tryz.func89 (sd 0 rfl) (sd 1 rfl) (fun _ _ _ h0 h1 => cq_sub h0 h1 (by omega) (by omega))
 exact zMv hz (sd 2 rfl)
 exact zExt hz (sd 3 rfl)
 exact zExt hz (sd 3 rfl)
 exact zSE rfl (sv S5) (by simp [tagOf]) (Cp4.var tQ_nd) (sd 4 rfl) st_q64
 clear hz hd
 intro a' γ' W' hz hd hC hk hh
 clear Cp1
 clear Cp2
 have tp3 := Cp3.lt
 replace Cp3 := kC hC Cp3 (by simp [tagOf, n_p3_p4])
 replace Cp4 := gotE (T := tQ B64 (l2 + l1 + 1) (subQ y x)) (id := 28) (p := p4) 6 hh rfl rfl
 clear S2
 clear S3
 replace S4 := kp hk S4
 replace S5 := kp hk S5
 clear S14
 clear tp3
 replace HB := aM HB hC
 clear hC hk hh
 refine wp_seq ?_
 refine region_text (M := [p3]) [rT (tQ B64 (l2 + l1 + 1) (subQ y x)), rE 0 28 (tQ B64 (l2 + l1 + 1) (subQ y x)) p3] hz hd (by kernel_rfl) ?_ ?_
 refine ⟨?_, ?_, trivial⟩
 exact zLd hz (sv S5) Cp4 ld_q64 (by simp [tagOf, n_p4_p3])
 exact zSE rfl (sv S4) (by simp [tagOf]) (Cp3.var tQ_nd) (sd 0 rfl) st_q64
 clear hz hd
 intro a' γ' W' hz hd hC hk hh
 replace Cp3 := gotE (T := tQ B64 (l2 + l1 + 1) (subQ y x)) (id := 28) (p := p3) 1 hh rfl rfl
 have tp4 := Cp4.lt
 clear Cp4
 replace S4 := kp hk S4
 clear S5
 clear tp4
 replace HB := aM HB hC
 clear hC hk hh
 refine wp_ret ?_
 refine ret_to (T := tQ B64 (l2 + l1 + 1) (subQ y x)) (ret1_q64 (by kernel_rfl) S4 hd Cp3 HB) ?_
 exact tQ_to (by decide) (gap_2 hc5) (by omega)

end Go.Proofs.YtfgnleoaibcegaaGreat.Rg

namespace Go.Proofs.YtfgnleoaibcegaaGreat.Rg

open Go.RowKit

/-! Numbers. -/
theorem bl_mul2 {m k : Nat} (h1 : 4503599627370496 ≤ m) (h2 : m < 9007199254740992) : bl (m * 2 ^ k) = 53 + k := by
  have hp : 0 < m * 2 ^ k := Nat.mul_pos (by omega) (Nat.two_pow_pos k)
  have a1 : bl (m * 2 ^ k) ≤ 53 + k := by
    refine bl_le ?_
    rw [Nat.pow_add]
    exact Nat.mul_lt_mul_of_pos_right (show m < 2 ^ 53 by have : (2 : Nat) ^ 53 = 9007199254740992 := rfl; omega) (Nat.two_pow_pos k)
  have a2 : 52 + k < bl (m * 2 ^ k) := by
    rcases Nat.lt_or_ge (52 + k) (bl (m * 2 ^ k)) with c | c
    · exact c
    · have h3 := bl_lt (x := m * 2 ^ k)
      have h4 : 2 ^ bl (m * 2 ^ k) ≤ 2 ^ (52 + k) := Nat.pow_le_pow_right (by decide) c
      have h5 : 2 ^ (52 + k) ≤ m * 2 ^ k := by
        rw [Nat.pow_add]
        exact Nat.mul_le_mul_right _ (show 2 ^ 52 ≤ m from h1)
      omega
  omega
theorem near_back (K : Nat) (u : Nat) : nearN K (VX u) (2 ^ K) = u := by
  have hK := Nat.two_pow_pos K
  have e1 : VX u * 2 ^ K / 2 ^ K = VX u := Nat.mul_div_cancel _ hK
  have e2 : nearH K (VX u) (2 ^ K) = rn (VX u) (2 ^ nearS K (VX u) (2 ^ K)) := by
    unfold nearH
    rw [Nat.mul_comm (2 ^ K), rn_scale (Nat.two_pow_pos _) hK]
  unfold nearN
  rw [e2]
  unfold nearS
  rw [e1]
  by_cases h : u / 4503599627370496 = 0
  · have hv : VX u = u := by unfold VX; rw [if_pos h]
    have hb : bl u ≤ 52 := bl_le (show u < 2 ^ 52 by have : (2 : Nat) ^ 52 = 4503599627370496 := rfl; omega)
    rw [hv, show bl u - 53 = 0 by omega, Nat.pow_zero, rn_one]
    omega
  · have hv : VX u = (u % 4503599627370496 + 4503599627370496) * 2 ^ (u / 4503599627370496 - 1) := by unfold VX; rw [if_neg h]
    rw [hv, bl_mul2 (by omega) (by omega), Nat.add_sub_cancel_left, rn_int (Nat.two_pow_pos _)]
    omega
theorem fl_low (u : Nat) (hF : FOk u) (hu : u < 18446744073709551616) : fl u = fl (u % 9223372036854775808) ∧ u % 9223372036854775808 < 9218868437227405312 := by
  obtain ⟨h1, h2⟩ := hF
  rcases Nat.lt_or_ge u 9223372036854775808 with c | c
  · rw [Nat.mod_eq_of_lt c]
    refine ⟨rfl, ?_⟩
    unfold ex at h1
    omega
  · have e : u = 9223372036854775808 := by omega
    subst e
    refine ⟨?_, by decide⟩
    have e1 : ex 9223372036854775808 = 0 := by decide
    have e2 : ma 9223372036854775808 = 0 := by decide
    have e3 : ex 0 = 0 := by decide
    have e4 : ma 0 = 0 := by decide
    rw [show 9223372036854775808 % 9223372036854775808 = 0 from rfl]
    unfold fl
    rw [if_pos (by rw [e1]; rfl), if_pos (by rw [e3]; rfl), e2, e4]
theorem fl_back {u : Nat} (hF : FOk u) (hu : u < 18446744073709551616) : tfD (flQ u).num.toNat (flQ u).den = u % 9223372036854775808 := by
  obtain ⟨K, hK⟩ : ∃ K : Nat, K = 1074 := ⟨_, rfl⟩
  obtain ⟨h1, h2⟩ := fl_low u hF hu
  have e : flQ u = mkRat ((VX (u % 9223372036854775808) : Nat) : Int) (2 ^ K) := by
    unfold flQ; rw [if_pos hF, h1, fl_VX hK h2]
  have hx : 0 ≤ flQ u := by
    rw [e, ← Rat.divInt_ofNat]
    exact Rat.divInt_nonneg (Int.natCast_nonneg _) (Int.natCast_nonneg _)
  have hc : (flQ u).num.toNat * 2 ^ K = VX (u % 9223372036854775808) * (flQ u).den := by
    have h3 := (Rat.mkRat_eq_iff (n₁ := (flQ u).num) (n₂ := ((VX (u % 9223372036854775808) : Nat) : Int)) (flQ u).den_nz (two_ne K)).1 (by rw [Rat.mkRat_self]; exact e)
    rw [← num_i hx] at h3
    exact_mod_cast h3
  have m1 := nearN_mono (K := K) (flQ u).den_pos (Nat.two_pow_pos K) (Nat.le_of_eq hc)
  have m2 := nearN_mono (K := K) (Nat.two_pow_pos K) (flQ u).den_pos (Nat.le_of_eq hc.symm)
  rw [near_back] at m1 m2
  have : nearN K (flQ u).num.toNat (flQ u).den = u % 9223372036854775808 := Nat.le_antisymm m1 m2
  rw [hK] at this
  exact this
theorem flQ_fl {u : Nat} (hF : FOk u) : flQ u = fl u := by unfold flQ; rw [if_pos hF]
theorem fno_0 {u : Nat} (h : ¬ FOk u) (hu : u < 18446744073709551616) : ¬ u % 9223372036854775808 = 0 := fun c => h (fk_0 c hu).1
theorem fno_1 {u : Nat} (h : ¬ FOk u) (hu : u < 18446744073709551616) (h0 : u / 9223372036854775808 = 0) : u / 4503599627370496 = 2047 := by
  have h1 : ((ex u : Nat) : Int) = 2047 := by
    rcases Decidable.em (((ex u : Nat) : Int) = 2047) with c | c
    · exact c
    · exact absurd ⟨c, by omega⟩ h
  unfold ex at h1
  omega
/-! Texts. -/
theorem run_app {X M : List Nat} (hX : ∀ d ∈ X, 48 ≤ d ∧ d ≤ 57) (hM : ∀ d, M.head? = some d → dg d = false) : runL (X ++ M) 0 = X.length := by
  unfold runL
  rw [List.drop_zero, List.takeWhile_append_of_pos (fun d hd => by have := hX d hd; unfold dg; rw [decide_eq_true this.1, decide_eq_true this.2]; rfl)]
  have e : M.takeWhile dg = [] := by
    cases M with
    | nil => rfl
    | cons d M => rw [List.takeWhile_cons, hM d rfl]; rfl
  rw [e, List.append_nil]
theorem run_all {X : List Nat} (hX : ∀ d ∈ X, 48 ≤ d ∧ d ≤ 57) : runL X 0 = X.length := by
  have := run_app (M := []) hX (fun d h => by cases h)
  rwa [List.append_nil] at this
theorem run_at {X M : List Nat} : runL (X ++ M) X.length = runL M 0 := by
  unfold runL
  rw [List.drop_left, List.drop_zero]
theorem parse_dig {X : List Nat} (hX : ∀ d ∈ X, 48 ≤ d ∧ d ≤ 57) (h1 : 1 ≤ X.length) (h2 : X.length ≤ 400) : parseV X = readD X := by
  unfold parseV parseOk
  rw [decide_eq_true h1, decide_eq_true h2, List.all_eq_true.2 (fun d hd => by have := hX d hd; unfold isDig; rw [decide_eq_true this.1, decide_eq_true this.2]; rfl)]
  rfl
theorem back_int {x : Nat} (h : (txt x).length ≤ 400) : parseR (txt x) = some (mkRat ((x : Nat) : Int) 1) := by
  have hr := run_all (txt_byte x)
  have hp := txt_pos x
  have hw := pd_whole (L := txt x) (W := (txt x).length) hr (by omega) (by omega) (fun c => absurd c (Nat.lt_irrefl _)) (fun c => absurd c (Nat.lt_irrefl _))
  unfold PwIs at hw
  rw [hw, pow_end rfl, List.take_length]
  show some (sclQ (parseV (txt x)) (0 - ((0 : Nat) : Int))) = _
  rw [parseV_txt h]
  unfold sclQ
  rw [if_neg (by decide)]
  simp
theorem back_frac {p q : Nat} (hq : 0 < q) (h : (txt p ++ [47] ++ txt q).length ≤ 400) : parseR (txt p ++ [47] ++ txt q) = some (mkRat ((p : Nat) : Int) q) := by
  have hl : (txt p).length + 1 + (txt q).length ≤ 400 := by
    have h2 := h
    rw [List.length_append, List.length_append, List.length_singleton] at h2
    exact h2
  have e : txt p ++ [47] ++ txt q = txt p ++ ([47] ++ txt q) := List.append_assoc _ _ _
  have hr : runL (txt p ++ [47] ++ txt q) 0 = (txt p).length := by
    rw [e]; exact run_app (txt_byte p) (fun d hd => by cases hd; rfl)
  have hp := txt_pos p
  have e1 : (txt p ++ [47] ++ txt q).take (txt p).length = txt p := by rw [e]; exact List.take_left
  have e2 : (txt p ++ [47] ++ txt q).drop ((txt p).length + 1) = txt q := by
    have : (txt p ++ [47]).length = (txt p).length + 1 := by simp
    rw [← this]; exact List.drop_left
  have e3 : (txt p ++ [47] ++ txt q).getD (txt p).length 0 = 47 := by
    rw [e, List.getD_eq_getElem?_getD, List.getElem?_append_right (Nat.le_refl _), Nat.sub_self]; rfl
  have hv : parseV (txt q) = q := parseV_txt (by omega)
  have := pd_over hr (by rw [List.length_append, List.length_append, List.length_singleton]; omega) (by omega) (by rw [List.length_append, List.length_append, List.length_singleton]; omega) e3 (by rw [e2, hv]; omega)
  rw [this, e1, e2, hv, parseV_txt (by omega)]
theorem back_fmt {y : Rat} (hy : 0 ≤ y) (h : (fmtT y.num.toNat y.den).length ≤ 400) : parseR (fmtT y.num.toNat y.den) = some y := by
  have e : mkRat ((y.num.toNat : Nat) : Int) y.den = y := by rw [num_i hy]; exact Rat.mkRat_self y
  unfold fmtT at h ⊢
  by_cases hq : y.den = 1
  · rw [if_pos hq] at h ⊢
    rw [back_int h, ← hq, e]
  · rw [if_neg hq] at h ⊢
    rw [back_frac y.den_pos h, e]
theorem back_dec {N n : Nat} (h : (decS N n).length ≤ 400) : parseR (decS N n) = some (mkRat ((N : Nat) : Int) (10 ^ n)) := by
  by_cases hn : n = 0
  · subst hn
    have e : decS N 0 = txt N := by unfold decS; rw [if_pos rfl]
    rw [e] at h ⊢
    exact back_int h
  · have hX := padT_dig N n
    have hv := padT_read N n
    have hlen := padT_len N n
    have et : decS N n = (padT N n).take ((padT N n).length - n) ++ [46] ++ (padT N n).drop ((padT N n).length - n) := by unfold decS; rw [if_neg hn]
    rw [et] at h ⊢
    generalize padT N n = X at *
    obtain ⟨k, hk⟩ : ∃ k, X.length - n = k := ⟨_, rfl⟩
    rw [hk] at h ⊢
    have ek : (X.take k).length = k := by rw [List.length_take]; omega
    have ed : (X.drop k).length = n := by rw [List.length_drop]; omega
    have hl : k + 1 + n ≤ 400 := by
      have := h
      rw [List.length_append, List.length_append, List.length_singleton, ek, ed] at this
      exact this
    have e : X.take k ++ [46] ++ X.drop k = X.take k ++ ([46] ++ X.drop k) := List.append_assoc _ _ _
    have hr : runL (X.take k ++ [46] ++ X.drop k) 0 = k := by
      rw [e, run_app (fun d hd => hX d (List.mem_of_mem_take hd)) (fun d hd => by cases hd; rfl), ek]
    have ek1 : (X.take k ++ [46]).length = k + 1 := by rw [List.length_append, ek]; rfl
    have hP : runL (X.take k ++ [46] ++ X.drop k) (k + 1) = n := by
      have := run_at (X := X.take k ++ [46]) (M := X.drop k)
      rw [ek1] at this
      rw [this, run_all (fun d hd => hX d (List.mem_of_mem_drop hd)), ed]
    have e1 : (X.take k ++ [46] ++ X.drop k).take k = X.take k := by
      have := List.take_left (l₁ := X.take k) (l₂ := [46] ++ X.drop k)
      rw [ek] at this
      rw [e]; exact this
    have e2 : (X.take k ++ [46] ++ X.drop k).drop (k + 1) = X.drop k := by
      have := List.drop_left (l₁ := X.take k ++ [46]) (l₂ := X.drop k)
      rw [ek1] at this; exact this
    have e3 : (X.take k ++ [46] ++ X.drop k).getD k 0 = 46 := by
      rw [e, List.getD_eq_getElem?_getD, List.getElem?_append_right (by omega), ek, Nat.sub_self]; rfl
    have el : (X.take k ++ [46] ++ X.drop k).length = k + 1 + n := by rw [List.length_append, ek1, ed]
    have hd := pd_dot hr hP (by omega) (by omega) (by omega) e3 hn
    unfold PwIs at hd
    rw [hd, pow_end el.symm, e1, e2, List.take_of_length_le (show (X.drop k).length ≤ n by omega), List.take_append_drop]
    show some (sclQ (parseV X) (0 - ((n : Nat) : Int))) = _
    rw [parse_dig hX (by omega) (by omega), hv]
    unfold sclQ
    rw [if_pos (by omega), show (-(0 - ((n : Nat) : Int))).toNat = n by omega]
/-! A text with places is near. -/
def unitQ (n : Nat) : Rat := mkRat 1 (2 * 10 ^ n)
theorem gap_comm (x y : Rat) : gapQ x y = gapQ y x := by
  unfold gapQ
  by_cases h : y ≤ x
  · by_cases h2 : x ≤ y
    · rw [if_pos h, if_pos h2, Rat.le_antisymm h h2]
    · rw [if_pos h, if_neg h2]
  · rw [if_neg h, if_pos (Rat.le_of_lt (Rat.not_le.1 h))]
theorem unit_mul {q n : Nat} (hq : 0 < q) : unitQ n * ((q * 10 ^ n : Nat) : Rat) * ((2 : Nat) : Rat) = ((q : Nat) : Rat) := by
  have h := val_den (V := 1) (D := 2 * 10 ^ n) (Nat.mul_pos (by decide) (Nat.pow_pos (by decide)))
  unfold unitQ
  have e : ((q * 10 ^ n : Nat) : Rat) * ((2 : Nat) : Rat) = ((2 * 10 ^ n : Nat) : Rat) * ((q : Nat) : Rat) := by
    rw [← Rat.natCast_mul, ← Rat.natCast_mul]; congr 1
    rw [Nat.mul_comm, Nat.mul_comm q, ← Nat.mul_assoc]
  rw [Rat.mul_assoc, e, ← Rat.mul_assoc, show ((1 : Int)) = (((1 : Nat)) : Int) from rfl, h]
  rw [← Rat.natCast_mul, Nat.one_mul]
theorem near_unit {y : Rat} (hy : 0 ≤ y) (n : Nat) : gapQ (mkRat ((rn (y.num.toNat * 10 ^ n) y.den : Nat) : Int) (10 ^ n)) y ≤ unitQ n := by
  have hD : 0 < 10 ^ n := Nat.pow_pos (by decide)
  have h1 := gap_mul (V := rn (y.num.toNat * 10 ^ n) y.den) hy hD
  have h2 := unit_mul (n := n) y.den_pos
  have I := rn_is (p := y.num.toNat * 10 ^ n) y.den_pos
  rw [gap_comm]
  have hc : (0 : Rat) < ((y.den * 10 ^ n : Nat) : Rat) := cast_pos (Nat.mul_pos y.den_pos hD)
  refine Rat.le_of_mul_le_mul_right (c := ((y.den * 10 ^ n : Nat) : Rat)) ?_ hc
  refine Rat.le_of_mul_le_mul_right (c := ((2 : Nat) : Rat)) ?_ (cast_pos (by decide))
  rw [h1, h2, ← Rat.natCast_mul]
  refine Rat.natCast_le_natCast.2 ?_
  obtain ⟨i1, i2, -, -⟩ := I
  unfold far
  omega
theorem unit_0 : ofQ 1 2 = unitQ 0 ∧ OfOk 1 2 := by decide +kernel
theorem unit_s (n : Nat) : divI (unitQ n) 10 = unitQ (n + 1) := by
  unfold divI
  rw [if_pos (by decide)]
  have h1 := val_den (V := 1) (D := 2 * 10 ^ n) (Nat.mul_pos (by decide) (Nat.pow_pos (by decide)))
  have h2 := val_den (V := 1) (D := 2 * 10 ^ (n + 1)) (Nat.mul_pos (by decide) (Nat.pow_pos (by decide)))
  unfold unitQ
  have e : ((2 * 10 ^ (n + 1) : Nat) : Rat) = ((2 * 10 ^ n : Nat) : Rat) * ((10 : Nat) : Rat) := by rw [← Rat.natCast_mul]; congr 1; rw [Nat.pow_succ, Nat.mul_assoc]
  have hc : (0 : Rat) < ((2 * 10 ^ n : Nat) : Rat) := cast_pos (Nat.mul_pos (by decide) (Nat.pow_pos (by decide)))
  have h10 : ((10 : Int) : Rat) = ((10 : Nat) : Rat) := rfl
  rw [e] at h2
  have h1' : mkRat 1 (2 * 10 ^ n) * ((2 * 10 ^ n : Nat) : Rat) = ((1 : Nat) : Rat) := h1
  have h2' : mkRat 1 (2 * 10 ^ (n + 1)) * (((2 * 10 ^ n : Nat) : Rat) * ((10 : Nat) : Rat)) = ((1 : Nat) : Rat) := h2
  generalize mkRat 1 (2 * 10 ^ n) = a at *
  generalize mkRat 1 (2 * 10 ^ (n + 1)) = b at *
  generalize ((2 * 10 ^ n : Nat) : Rat) = c at *
  have hz : ((10 : Nat) : Rat) ≠ 0 := by decide
  rw [h10]
  generalize ((10 : Nat) : Rat) = d at *
  have hcz : c ≠ 0 := Rat.ne_of_gt hc
  grind

section

variable {u l n : Nat} {L : List Nat} {y z : Rat} {v1 : Value} {w : World} {ox oy : Operand} {id : TypeId}
theorem c_tofloat_back (hF : FOk u) (hu : u < 18446744073709551616) (h : (tQ B64 l (flQ u)).p v1 w) (hl : l ≤ 1000000) : Calls Tryz.prog 8 #[v1] w (Ret (tT [tV (.float .f64 (u % 9223372036854775808)), tV (.bool true)]) w) := by
  have := c_tofloat_pq h rfl rfl hl
  rw [fl_back hF hu, decide_eq_true (fl_low u hF hu).2] at this
  have e : flN (u % 9223372036854775808) = u % 9223372036854775808 := by unfold flN; rw [if_pos (fl_low u hF hu).2]
  rw [e] at this; exact this
theorem o_andnot {u : Nat} {ox oy : Operand} {id : TypeId} (hu : u < 18446744073709551616) (w : World) : (do eqGuard .andNot id ox oy (.int .u64 (u : Int)) (.int .u64 9223372036854775808); binOp .andNot id (.int .u64 (u : Int)) (.int .u64 9223372036854775808) : Sem Value).run Tryz.prog w = .ok (.int .u64 ((u % 9223372036854775808 : Nat) : Int)) w := by
  have h1 : (BitVec.ofInt 64 (u : Int)).toNat = u := by rw [BitVec.ofInt_natCast, BitVec.toNat_ofNat]; exact Nat.mod_eq_of_lt hu
  have hn : ~~~ BitVec.ofInt 64 9223372036854775808 = BitVec.ofInt 64 9223372036854775807 := by decide
  have h2 : (BitVec.ofInt 64 9223372036854775807).toNat = 2 ^ 63 - 1 := by decide
  have e : bits .andNot .u64 (u : Int) 9223372036854775808 = ((u % 9223372036854775808 : Nat) : Int) := by
    show IntKind.u64.wrap ((BitVec.ofInt 64 (u : Int) &&& ~~~ BitVec.ofInt 64 9223372036854775808).toNat : Int) = _
    rw [hn, BitVec.toNat_and, h1, h2, Nat.and_two_pow_sub_one_eq_mod, IntKind.wrap_u64]
    have : (2 : Nat) ^ 63 = 9223372036854775808 := rfl
    omega
  simp [go_sem, e]
theorem f_is0 {k : Nat} (w : World) : (do eqGuard .eql id ox oy (.int .u64 ((k : Nat) : Int)) (.int .u64 0); binOp .eql id (.int .u64 ((k : Nat) : Int)) (.int .u64 0) : Sem Value).run Tryz.prog w = .ok (.bool (decide (k = 0))) w := by
  by_cases hc : k = 0
  · subst hc; simp [go_sem]
  · have : ¬ ((k : Nat) : Int) = 0 := by omega
    simp [go_sem, hc, this]
theorem f_ne47 {k : Nat} (w : World) : (do eqGuard .neq id ox oy (.int .u64 ((k : Nat) : Int)) (.int .u64 2047); binOp .neq id (.int .u64 ((k : Nat) : Int)) (.int .u64 2047) : Sem Value).run Tryz.prog w = .ok (.bool (decide (k ≠ 2047))) w := by
  by_cases hc : k = 2047
  · subst hc; simp [go_sem]
  · have : ¬ ((k : Nat) : Int) = 2047 := by omega
    simp [go_sem, hc, this]
theorem o_le400 {k : Nat} (w : World) : (do eqGuard .leq id ox oy (.int .i64 ((k : Nat) : Int)) (.int .i64 400); binOp .leq id (.int .i64 ((k : Nat) : Int)) (.int .i64 400) : Sem Value).run Tryz.prog w = .ok (.bool (decide (k ≤ 400))) w := by
  have e : decide (((k : Nat) : Int) ≤ 400) = decide (k ≤ 400) := by rw [decide_eq_decide]; omega
  rw [← e]
  simp only [eqGuard]; simp [go_sem]
theorem o_e0 (h : resE (parseR L) = if L.length ≤ 400 then 0 else 30) (w : World) : (do eqGuard .eql id ox oy (.int .i64 (resE (parseR L))) (.int .i64 0); binOp .eql id (.int .i64 (resE (parseR L))) (.int .i64 0) : Sem Value).run Tryz.prog w = .ok (.bool (decide (L.length ≤ 400))) w := by
  rw [h]
  by_cases hc : L.length ≤ 400
  · rw [if_pos hc]; simp [go_sem, hc]
  · rw [if_neg hc]; simp [go_sem, hc]
theorem o_en (h : resE (parseR L) = if L.length ≤ 400 then 0 else 30) (w : World) : (do eqGuard .neq id ox oy (.int .i64 (resE (parseR L))) (.int .i64 0); binOp .neq id (.int .i64 (resE (parseR L))) (.int .i64 0) : Sem Value).run Tryz.prog w = .ok (.bool (decide (400 < L.length))) w := by
  rw [h]
  by_cases hc : L.length ≤ 400
  · rw [if_pos hc, decide_eq_false (by omega)]; simp [go_sem]
  · rw [if_neg hc, decide_eq_true (by omega)]; simp [go_sem]
theorem res_is {x : Rat} (h : L.length ≤ 400 → parseR L = some x) : (resE (parseR L) = if L.length ≤ 400 then 0 else 30) ∧ (L.length ≤ 400 → resX (parseR L) = x) := by
  refine ⟨?_, fun hl => by rw [h hl]; rfl⟩
  by_cases hl : L.length ≤ 400
  · rw [if_pos hl, h hl]; rfl
  · rw [if_neg hl, pd_long (by omega)]; rfl
theorem fmt_byte (p q : Nat) : ∀ d ∈ fmtT p q, d < 256 := by
  intro d hd
  unfold fmtT at hd
  split at hd
  · have := txt_byte p d hd; omega
  · rcases List.mem_append.1 hd with h | h
    · rcases List.mem_append.1 h with h | h
      · have := txt_byte p d h; omega
      · simp at h; omega
    · have := txt_byte q d h; omega
theorem fmt_len (p q : Nat) : (fmtT p q).length ≤ bl p + bl q + 3 := by
  have h1 := txt_bl p
  have h2 := txt_bl q
  unfold fmtT
  split
  · omega
  · rw [List.length_append, List.length_append, List.length_singleton]; omega
theorem tBy_mk3 {v1 v2 : Value} {l1 l2 : Nat} {l k : List Nat} (h1 : (tBy l1 l).p v1 w) (h2 : (tBy l2 k).p v2 w) : bl (mk3 l k).num.toNat ≤ 2400 ∧ bl (mk3 l k).den ≤ 2400 := by
  obtain ⟨m, hm⟩ : ∃ m, m = 2400 := ⟨_, rfl⟩
  have g1 := tBy_bits3 (m := m) (by omega) h1
  have g2 := tBy_bits3 (m := m) (by omega) h2
  have hz : und (bev (k.take 300)) ≠ 0 := by unfold und; split <;> omega
  have g3 : und (bev (k.take 300)) < 2 ^ m := by
    unfold und; split
    · exact one_2400 (by omega)
    · exact g2
  have e : (mk3 l k).num.toNat * und (bev (k.take 300)) = bev (l.take 300) * (mk3 l k).den := by
    have := (Rat.mkRat_eq_iff (n₁ := (mk3 l k).num) (n₂ := ((bev (l.take 300) : Nat) : Int)) (mk3 l k).den_nz hz).1 (by rw [Rat.mkRat_self]; rfl)
    rw [← num_i (mk3_nonneg l k)] at this
    exact_mod_cast this
  have hco : Nat.Coprime (mk3 l k).num.toNat (mk3 l k).den := by
    have := (mk3 l k).reduced
    have e2 : (mk3 l k).num.natAbs = (mk3 l k).num.toNat := by have := num_i (mk3_nonneg l k); omega
    rw [e2] at this; exact this
  have d1 : (mk3 l k).num.toNat ∣ bev (l.take 300) := hco.dvd_of_dvd_mul_right ⟨_, e.symm⟩
  have d2 : (mk3 l k).den ∣ und (bev (k.take 300)) := hco.symm.dvd_of_dvd_mul_left ⟨bev (l.take 300), by rw [e, Nat.mul_comm]⟩
  rw [← hm]
  refine ⟨?_, bl_le (Nat.lt_of_le_of_lt (Nat.le_of_dvd (Nat.pos_of_ne_zero hz) d2) g3)⟩
  rcases Nat.eq_zero_or_pos (bev (l.take 300)) with c | c
  · rw [c, Nat.zero_mul] at e
    have : (mk3 l k).num.toNat = 0 := (Nat.mul_eq_zero.1 e).resolve_right hz
    rw [this, bl_zero]; omega
  · exact bl_le (Nat.lt_of_le_of_lt (Nat.le_of_dvd c d1) g1)
theorem c_parse_n (hB : ∀ d ∈ L, d < 256) (hL : L.length ≤ 1000000000000000) : Calls Tryz.prog 23 #[.string (strB L)] w (Ret (tT [tQ B64 10000 (resX (parseR L)), tV (.int .i64 (resE (parseR L)))]) w) := c_nparse hB hL
theorem c_of12 : Calls Tryz.prog 35 #[.int .i64 1, .int .i64 2] w (Ret (tT [tQ B64 63 (unitQ 0), tV (.bool true)]) w) := by
  have := cq_of (a := 1) (b := 2) (w := w) (by decide) (by decide)
  rw [unit_0.1, decide_eq_true unit_0.2] at this; exact this
theorem c_format_n (h : (tQ B64 l y).p v1 w) (eS : fmtT y.num.toNat y.den = L) (hl : l ≤ 1000000) : Calls Tryz.prog 27 #[v1] w (Ret (tV (.string (strB L))) w) := by
  have := c_format h rfl rfl hl
  rw [eS] at this; exact this
end
set_option maxRecDepth 10000 in
set_option maxHeartbeats 2000000 in
theorem numBack_ret {u : Nat} {l k : List Nat} {z : Int} {v1 v2 : Value} {w : World} (h1 : (tBy 9223372036854775807 l).p v1 w) (h2 : (tBy 9223372036854775807 k).p v2 w) (hu : u < 18446744073709551616) :
    Calls Tryz.prog 6 #[.int .u64 (u : Int), v1, v2, .int .i64 (z)] w (Ret (tV (.bool true)) w) := by
 refine enter Tryz.func6 rfl Tryz.ntmps6 (by simp) ?_
 intro a hz hd ha
 have S0 := ha 0 _ rfl
 have S1 := ha 1 _ rfl
 have H1 := h1
 have S2 := ha 2 _ rfl
 have H2 := h2
 have S3 := ha 3 _ rfl
 clear ha
 have HB : Below w.heap.size w w := Below.refl _ _
 obtain ⟨y, ey⟩ : ∃ y, mk3 l k = y := ⟨_, rfl⟩
 have hy : 0 ≤ y := ey ▸ mk3_nonneg l k
 have hbits := tBy_mk3 h1 h2
 rw [ey] at hbits
 obtain ⟨n, hn, eN⟩ := and_i64 z 6 (by decide)
 have hn : n < 64 := hn
 have eN : bits .and .i64 z 63 = (n : Int) := eN
 have r1 := res_is (fun h => back_fmt hy h)
 have r2 := res_is (fun h => back_dec (N := rn (y.num.toNat * 10 ^ n) y.den) (n := n) h)
 have hb1 := fmt_byte y.num.toNat y.den
 have hb2 := decS_byte (rn (y.num.toNat * 10 ^ n) y.den) n
 have hl1 := fmt_len y.num.toNat y.den
 have hl2 := decS_len (rn (y.num.toNat * 10 ^ n) y.den) n
 have hl3 := dec_len y.num.toNat y.den n
 obtain ⟨T1, eT1⟩ : ∃ T, fmtT y.num.toNat y.den = T := ⟨_, rfl⟩
 obtain ⟨T2, eT2⟩ : ∃ T, decS (rn (y.num.toNat * 10 ^ n) y.den) n = T := ⟨_, rfl⟩
 rw [eT1] at r1 hb1 hl1
 rw [eT2] at r2 hb2 hl2
 obtain ⟨hE1, hX1⟩ := r1
 obtain ⟨hE2, hX2⟩ := r2
 replace hl1 : T1.length ≤ 1000000000000000 := by omega
 replace hl2 : T2.length ≤ 1000000000000000 := by rw [hl2]; split <;> omega
 clear hl3 hbits
 refine wp_seq ?_
 refine rt [rV (.bool false)] hz hd ?_ ?_
 refine ⟨?_, trivial⟩
 exact zAs hz kc
 clear hz hd
 intro a' γ' W' hz hd hC hk hh
 replace S0 := kp hk S0
 replace S1 := kp hk S1
 replace H1 := Ty.aft _ H1 hC
 replace S2 := kp hk S2
 replace H2 := Ty.aft _ H2 hC
 replace S3 := kp hk S3
 have S8 := gV hz 0 hh
 replace HB := aB HB hC
 clear hC hk hh
 refine wp_seq ?_
 refine rt [rV (.int .u64 (u : Int)), rV (.float .f64 u), rT (tT [tQ B64 1100 (flQ u), tV (.bool (decide (FOk u)))]), rT (tT [tQ B64 1100 (flQ u), tV (.bool (decide (FOk u)))]), rT (tQ B64 1100 (flQ u)), rV (.bool (decide (FOk u))), rVar 6 28 2, rB 6 28 (tQ B64 1100 (flQ u)) (some 6) 7, rV (.bool (decide (FOk u)))] hz hd ?_ ?_
 refine ⟨?_, ?_, ?_, ?_, ?_, ?_, ?_, ?_, ?_, trivial⟩
 exact zMv hz (sv S0)
 exact zC1 hz Tryz.func32 (sd 0 rfl) (k1 (fun _ => c_float))
 exact zC1 hz Tryz.func31 (sd 1 rfl) (k1 (fun _ => c_fromfloat (l := 1100) hu (by decide)))
 exact zMv hz (sd 2 rfl)
 exact zExt hz (sd 3 rfl)
 exact zExt hz (sd 3 rfl)
 exact zAl hz nd_rat al_r64
 exact zSt (sd 4 rfl) st_q64
 exact zAs hz (sd 5 rfl)
 clear hz hd
 intro a' γ' W' hz hd hC hk hh
 replace S0 := kp hk S0
 replace S1 := kp hk S1
 replace H1 := Ty.aft _ H1 hC
 replace S2 := kp hk S2
 replace H2 := Ty.aft _ H2 hC
 replace S3 := kp hk S3
 replace S8 := kp hk S8
 obtain ⟨p1, S9, Cp1, lp1, gp1⟩ := gotB hz 7 hC hh rfl rfl rfl rfl rfl rfl
 have S10 := gV hz 8 hh
 have bp1 := Nat.le_trans HB.size lp1
 clear lp1 gp1
 replace HB := aB HB hC
 clear hC hk hh
 refine wp_join (fun a W => a.tmps.size = 149 ∧ a.defers = [] ∧ Below w.heap.size w W ∧ Sl a 1 v1 ∧ (tBy 9223372036854775807 l).p v1 W ∧ Sl a 2 v2 ∧ (tBy 9223372036854775807 k).p v2 W ∧ Sl a 3 (.int .i64 (z))) ?_ ?_
 refine wp_seq ?_
 refine rt [rV (.bool (decide (FOk u)))] hz hd ?_ ?_
 refine ⟨?_, trivial⟩
 exact zMv hz (sv S10)
 clear hz hd
 intro a' γ' W' hz hd hC hk hh
 have tp1 := Cp1.lt
 replace Cp1 := kC hC Cp1
 replace S0 := kp hk S0
 replace S1 := kp hk S1
 replace H1 := Ty.aft _ H1 hC
 replace S2 := kp hk S2
 replace H2 := Ty.aft _ H2 hC
 replace S3 := kp hk S3
 replace S8 := kp hk S8
 replace S9 := kp hk S9
 clear S10
 have S30 := gV hz 0 hh
 clear tp1
 replace HB := aB HB hC
 clear hC hk hh
 by_cases hc2 : FOk u
 rw [decide_eq_true hc2] at S30
 refine wp_cond_true S30.ev ?_
 refine wp_seq ?_
 refine rt [rT (tQ B64 1100 (flQ u)), rT (tT [tV (.float .f64 (u % 9223372036854775808)), tV (.bool true)]), rT (tT [tV (.float .f64 (u % 9223372036854775808)), tV (.bool true)]), rV (.float .f64 (u % 9223372036854775808)), rV (.bool true), rV (.float .f64 (u % 9223372036854775808)), rV (.bool true)] hz hd ?_ ?_
 refine ⟨?_, ?_, ?_, ?_, ?_, ?_, ?_, trivial⟩
 exact zLd hz (sv S9) Cp1 ld_q64
 exact zC1 hz Tryz.func8 (sd 0 rfl) (fun _ _ h0 => c_tofloat_back hc2 hu h0 (by decide))
 exact zMv hz (sd 1 rfl)
 exact zExt hz (sd 2 rfl)
 exact zExt hz (sd 2 rfl)
 exact zAs hz (sd 3 rfl)
 exact zAs hz (sd 4 rfl)
 clear hz hd
 intro a' γ' W' hz hd hC hk hh
 have tp1 := Cp1.lt
 replace Cp1 := kC hC Cp1
 replace S0 := kp hk S0
 replace S1 := kp hk S1
 replace H1 := Ty.aft _ H1 hC
 replace S2 := kp hk S2
 replace H2 := Ty.aft _ H2 hC
 replace S3 := kp hk S3
 replace S8 := kp hk S8
 replace S9 := kp hk S9
 clear S30
 have S11 := gV hz 5 hh
 have S12 := gV hz 6 hh
 clear tp1
 replace HB := aB HB hC
 clear hC hk hh
 refine wp_seq ?_
 refine region_drawn (M := []) (
  rT (tV (.bool true)) ::
  rT (tV (.bool false)) ::
  rT (tV (.bool false)) ::
  rT (tV (.float .f64 (u % 9223372036854775808))) ::
  rT (tV (.int .u64 ((u % 9223372036854775808 : Nat) : Int))) ::
  rT (tV (.int .u64 (u : Int))) ::
  rT (tV (.int .u64 ((u % 9223372036854775808 : Nat) : Int))) ::
  rT (tV (.bool false)) ::
  rT (tV (.bool false)) ::
  rT (tV (.bool false)) ::
  rT (tQ B64 1100 (flQ u)) ::
  rT (tV (.int .u64 (u : Int))) ::
  rT (tQ B64 1100 (fl u)) ::
  rT (tV (.int .i64 (cmpQ (flQ u) (fl u)))) ::
  rT (tV (.bool (decide (flQ u ≠ fl u)))) ::
  rT (tV (.bool (decide (flQ u ≠ fl u)))) ::
  []) hz hd (by kernel_rfl) (by kernel_rfl) ?_ ?_
 refine ⟨?_, ?_, ?_, ?_, ?_, ?_, ?_, ?_, ?_, ?_, ?_, ?_, ?_, ?_, ?_, ?_, trivial⟩
 exact zMv hz (sv S12)
 exact zNot hz (sd 0 rfl)
 exact zMv hz (sd 1 rfl)
 exact zMv hz (sv S11) (g := gT 2 rfl)
 exact zC1 hz Tryz.func10 (sd 3 rfl) (k1 (fun _ => c_bits)) (g := gT 2 rfl)
 exact zMv hz (sv S0) (g := gT 2 rfl)
 exact sBin rfl rfl rfl hz rfl (gT 2 rfl) rfl (sd 5 rfl) kc (fun w => o_andnot hu w)
 exact sBin rfl rfl rfl hz rfl (gT 2 rfl) rfl (sd 4 rfl) (sd 6 rfl) (fun w => by simp [go_sem])
 exact zPF hz (sd 2 rfl) (sd 7 rfl)
 exact zMv hz (sd 8 rfl)
 exact zLd hz (sv S9) Cp1 ld_q64 (g := gT 9 rfl)
 exact zMv hz (sv S0) (g := gT 9 rfl)
 exact zC1 hz Tryz.func34 (sd 11 rfl) (k1 (fun _ => l_value (l := 1100) hu (by decide))) (g := gT 9 rfl)
 exact zC2 hz Tryz.func33 (sd 10 rfl) (sd 12 rfl) (fun _ _ _ h0 h1 => cq_cmp h0 h1 (by decide) (by decide)) (g := gT 9 rfl)
 exact sBin rfl rfl rfl hz rfl (gT 9 rfl) rfl (sd 13 rfl) kc (fun w => run_cQ_neq (flQ u) (fl u) w)
 exact zPF hz (sd 9 rfl) (sd 14 rfl)
 clear hz hd
 intro a' γ' W' hz hd hC hk hh
 have tp1 := Cp1.lt
 clear Cp1
 clear S0
 replace S1 := kp hk S1
 replace H1 := Ty.aft _ H1 hC
 replace S2 := kp hk S2
 replace H2 := Ty.aft _ H2 hC
 replace S3 := kp hk S3
 replace S8 := kp hk S8
 clear S9
 clear S11
 clear S12
 have S51 := gV hz 15 hh
 clear tp1
 replace HB := aB HB hC
 clear hC hk hh
 have hc3 : ¬ (flQ u ≠ fl u) := (fun c => c (flQ_fl hc2))
 rw [decide_eq_false hc3] at S51
 refine wp_cond_false S51.ev ?_
 refine wp_skip ?_
 refine join_n ?_
 exact ⟨hz, hd, HB, S1, H1, S2, H2, S3⟩
 rw [decide_eq_false hc2] at S30
 refine wp_cond_false S30.ev ?_
 refine wp_seq ?_
 have hc4 : ¬ (u % 9223372036854775808 = 0) := (fno_0 hc2 hu)
 by_cases hc5 : u / 9223372036854775808 = 0
 refine rt [rV (.int .u64 (u : Int)), rV (.int .u64 ((2 * (u % 9223372036854775808) : Nat) : Int)), rV (.bool false), rV (.bool false), rV (.int .u64 (u : Int)), rV (.int .u64 ((u / 9223372036854775808 : Nat) : Int)), rV (.bool true), rV (.bool true), rV (.int .u64 (u : Int)), rV (.int .u64 ((u / 4503599627370496 : Nat) : Int)), rV (.bool (decide (u / 4503599627370496 ≠ 2047))), rV (.bool (decide (u / 4503599627370496 ≠ 2047))), rV (.bool (decide (u / 4503599627370496 ≠ 2047)))] hz hd ?_ ?_
 refine ⟨?_, ?_, ?_, ?_, ?_, ?_, ?_, ?_, ?_, ?_, ?_, ?_, ?_, trivial⟩
 exact zMv hz (sv S0)
 exact sBin rfl rfl rfl hz rfl (Gd.none_ rfl) rfl (sd 0 rfl) kc (fun w => f_shl1 hu w)
 exact sBin rfl rfl rfl hz rfl (Gd.none_ rfl) rfl (sd 1 rfl) kc (fun w => run_f (P := u % 9223372036854775808 = 0) ((fun w => f_sh0 w) w) hc4)
 exact zMv hz (sd 2 rfl)
 exact zMv hz (sv S0) (g := gT 3 rfl)
 exact sBin rfl rfl rfl hz rfl (gT 3 rfl) rfl (sd 4 rfl) kc (fun w => f_sh63 w)
 exact sBin rfl rfl rfl hz rfl (gT 3 rfl) rfl (sd 5 rfl) kc (fun w => run_t (P := u / 9223372036854775808 = 0) ((fun w => f_is0 w) w) hc5)
 exact zMv hz (sd 6 rfl) (g := gT 3 rfl)
 exact zMv hz (sv S0) (g := gT 7 rfl)
 exact sBin rfl rfl rfl hz rfl (gT 7 rfl) rfl (sd 8 rfl) kc (fun w => f_shr w)
 exact sBin rfl rfl rfl hz rfl (gT 7 rfl) rfl (sd 9 rfl) kc (fun w => f_ne47 w)
 exact zPT hz (sd 7 rfl) (sd 10 rfl) (g := gT 3 rfl)
 exact zPF hz (sd 3 rfl) (sd 11 rfl)
 clear hz hd
 intro a' γ' W' hz hd hC hk hh
 have tp1 := Cp1.lt
 clear Cp1
 clear S0
 replace S1 := kp hk S1
 replace H1 := Ty.aft _ H1 hC
 replace S2 := kp hk S2
 replace H2 := Ty.aft _ H2 hC
 replace S3 := kp hk S3
 replace S8 := kp hk S8
 clear S9
 clear S30
 have S64 := gV hz 12 hh
 clear tp1
 replace HB := aB HB hC
 clear hC hk hh
 have hc6 : ¬ (u / 4503599627370496 ≠ 2047) := (fun c => c (fno_1 hc2 hu hc5))
 rw [decide_eq_false hc6] at S64
 refine wp_cond_false S64.ev ?_
 refine wp_skip ?_
 refine join_n ?_
 exact ⟨hz, hd, HB, S1, H1, S2, H2, S3⟩
 refine rt [rV (.int .u64 (u : Int)), rV (.int .u64 ((2 * (u % 9223372036854775808) : Nat) : Int)), rV (.bool false), rV (.bool false), rV (.int .u64 (u : Int)), rV (.int .u64 ((u / 9223372036854775808 : Nat) : Int)), rV (.bool false), rV (.bool false), rV undef, rV undef, rV undef, rV (.bool false), rV (.bool false)] hz hd ?_ ?_
 refine ⟨?_, ?_, ?_, ?_, ?_, ?_, ?_, ?_, ?_, ?_, ?_, ?_, ?_, trivial⟩
 exact zMv hz (sv S0)
 exact sBin rfl rfl rfl hz rfl (Gd.none_ rfl) rfl (sd 0 rfl) kc (fun w => f_shl1 hu w)
 exact sBin rfl rfl rfl hz rfl (Gd.none_ rfl) rfl (sd 1 rfl) kc (fun w => run_f (P := u % 9223372036854775808 = 0) ((fun w => f_sh0 w) w) hc4)
 exact zMv hz (sd 2 rfl)
 exact zMv hz (sv S0) (g := gT 3 rfl)
 exact sBin rfl rfl rfl hz rfl (gT 3 rfl) rfl (sd 4 rfl) kc (fun w => f_sh63 w)
 exact sBin rfl rfl rfl hz rfl (gT 3 rfl) rfl (sd 5 rfl) kc (fun w => run_f (P := u / 9223372036854775808 = 0) ((fun w => f_is0 w) w) hc5)
 exact zMv hz (sd 6 rfl) (g := gT 3 rfl)
 exact zSkU hz (gN 7 rfl)
 exact zSkU hz (gN 7 rfl)
 exact zSkU hz (gN 7 rfl)
 exact zPF hz (sd 7 rfl) kc (g := gT 3 rfl)
 exact zPF hz (sd 3 rfl) (sd 11 rfl)
 clear hz hd
 intro a' γ' W' hz hd hC hk hh
 have tp1 := Cp1.lt
 clear Cp1
 clear S0
 replace S1 := kp hk S1
 replace H1 := Ty.aft _ H1 hC
 replace S2 := kp hk S2
 replace H2 := Ty.aft _ H2 hC
 replace S3 := kp hk S3
 replace S8 := kp hk S8
 clear S9
 clear S30
 have S64 := gV hz 12 hh
 clear tp1
 replace HB := aB HB hC
 clear hC hk hh
 refine wp_cond_false S64.ev ?_
 refine wp_skip ?_
 refine join_n ?_
 exact ⟨hz, hd, HB, S1, H1, S2, H2, S3⟩
 clear S0 S1 S2 S3 S8 S9 S10 H1 H2 Cp1 hz hd HB
 rintro a W ⟨hz, hd, HB, S1, H1, S2, H2, S3⟩
 refine wp_seq ?_
 refine rt [rT (tBy 9223372036854775807 l), rT (tBy 9223372036854775807 k), rT (tT [tQ B64 2400 y, tQ B32 2400 y]), rT (tT [tQ B64 2400 y, tQ B32 2400 y]), rT (tQ B64 2400 y), rT (tQ B32 2400 y), rVar 6 28 2, rVar 7 32 2, rB 6 28 (tQ B64 2400 y) (some 6) 7, rB 7 32 (tQ B32 2400 y) (some 7) 8] hz hd ?_ ?_
 refine ⟨?_, ?_, ?_, ?_, ?_, ?_, ?_, ?_, ?_, ?_, trivial⟩
 exact zMv hz (so S1 H1)
 exact zMv hz (so S2 H2)
 exact zC2 hz Tryz.func7 (sd 0 rfl) (sd 1 rfl) (fun _ _ _ h0 h1 => l_made3_n (m := 2400) ey h0 h1 (by decide) (by decide) (by decide))
 exact zMv hz (sd 2 rfl)
 exact zExt hz (sd 3 rfl)
 exact zExt hz (sd 3 rfl)
 exact zAl hz nd_rat al_r64
 exact zAl hz nd_rat al_r32
 exact zSt (sd 4 rfl) st_q64
 exact zSt (sd 5 rfl) st_q32
 clear hz hd
 intro a' γ' W' hz hd hC hk hh
 clear S1 H1
 clear S2 H2
 replace S3 := kp hk S3
 obtain ⟨p7, S13, Cp7, lp7, gp7⟩ := gotB hz 8 hC hh rfl rfl rfl rfl rfl rfl
 have bp7 := Nat.le_trans HB.size lp7
 clear lp7 gp7
 replace HB := aB HB hC
 clear hC hk hh
 refine wp_seq ?_
 refine rt [rT (tQ B64 2400 y), rV (.string (strB T1)), rV (.string (strB T1))] hz hd ?_ ?_
 refine ⟨?_, ?_, ?_, trivial⟩
 exact zLd hz (sv S13) Cp7 ld_q64
 exact zC1 hz Tryz.func27 (sd 0 rfl) (fun _ _ h0 => c_format_n h0 eT1 (by decide))
 exact zAs hz (sd 1 rfl)
 clear hz hd
 intro a' γ' W' hz hd hC hk hh
 have tp7 := Cp7.lt
 replace Cp7 := kC hC Cp7
 replace S3 := kp hk S3
 replace S13 := kp hk S13
 have S15 := gV hz 2 hh
 clear tp7
 replace HB := aB HB hC
 clear hC hk hh
 refine wp_seq ?_
 refine rt [rV (.string (strB T1)), rT (tT [tQ B64 10000 (resX (parseR T1)), tV (.int .i64 (resE (parseR T1)))]), rT (tT [tQ B64 10000 (resX (parseR T1)), tV (.int .i64 (resE (parseR T1)))]), rT (tQ B64 10000 (resX (parseR T1))), rV (.int .i64 (resE (parseR T1))), rVar 5 28 2, rB 5 28 (tQ B64 10000 (resX (parseR T1))) (some 5) 6, rV (.int .i64 (resE (parseR T1)))] hz hd ?_ ?_
 refine ⟨?_, ?_, ?_, ?_, ?_, ?_, ?_, ?_, trivial⟩
 exact zMv hz (sv S15)
 exact zC1 hz Tryz.func23 (sd 0 rfl) (k1 (fun _ => c_parse_n hb1 hl1))
 exact zMv hz (sd 1 rfl)
 exact zExt hz (sd 2 rfl)
 exact zExt hz (sd 2 rfl)
 exact zAl hz nd_rat al_r64
 exact zSt (sd 3 rfl) st_q64
 exact zAs hz (sd 4 rfl)
 clear hz hd
 intro a' γ' W' hz hd hC hk hh
 have ep7 := Cp7.lt
 have tp7 := Cp7.lt
 replace Cp7 := kC hC Cp7
 replace S3 := kp hk S3
 replace S13 := kp hk S13
 replace S15 := kp hk S15
 obtain ⟨p8, S16, Cp8, lp8, gp8⟩ := gotB hz 6 hC hh rfl rfl rfl rfl rfl rfl
 have S17 := gV hz 7 hh
 have n_p8_p7 : p8 ≠ p7 := by omega
 have n_p7_p8 : p7 ≠ p8 := by have := ep7; omega
 have bp8 := Nat.le_trans HB.size lp8
 clear lp8 gp8
 clear tp7
 clear ep7
 replace HB := aB HB hC
 clear hC hk hh
 refine wp_seq ?_
 refine wp_seq ?_
 by_cases hc9 : T1.length ≤ 400
 refine rt [rV (.int .i64 (resE (parseR T1))), rV (.int .i64 (resE (parseR T1))), rV (.bool true), rV (.string (strB T1)), rV (.int .i64 ((T1.length : Nat) : Int)), rV (.bool true), rV (.bool false), rV (.bool false), rV (.int .i64 (resE (parseR T1))), rV (.int .i64 (resE (parseR T1))), rV (.bool true), rV (.bool true), rT (tQ B64 10000 (resX (parseR T1))), rT (tQ B64 2400 y), rV (.int .i64 (cmpQ (resX (parseR T1)) y)), rV (.bool (decide (resX (parseR T1) ≠ y))), rV (.bool (decide (resX (parseR T1) ≠ y))), rV (.bool (decide (resX (parseR T1) ≠ y)))] hz hd ?_ ?_
 refine ⟨?_, ?_, ?_, ?_, ?_, ?_, ?_, ?_, ?_, ?_, ?_, ?_, ?_, ?_, ?_, ?_, ?_, ?_, trivial⟩
 exact zMv hz (sv S17)
 exact zC1 hz Tryz.func25 (sd 0 rfl) (k1 (fun _ => l_errno))
 exact sBin rfl rfl rfl hz rfl (Gd.none_ rfl) rfl (sd 1 rfl) kc (fun w => run_t (P := T1.length ≤ 400) ((fun w => o_e0 hE1 w) w) hc9)
 exact zMv hz (sv S15)
 exact zB1len hz rfl (sd 3 rfl) (fun w => s_len w)
 exact sBin rfl rfl rfl hz rfl (Gd.none_ rfl) rfl (sd 4 rfl) kc (fun w => run_t (P := T1.length ≤ 400) ((fun w => o_le400 w) w) hc9)
 exact sBin rfl rfl rfl hz rfl (Gd.none_ rfl) rfl (sd 2 rfl) (sd 5 rfl) (fun w => by kernel_rfl)
 exact zMv hz (sd 6 rfl)
 exact zMv hz (sv S17) (g := gT 7 rfl)
 exact zC1 hz Tryz.func25 (sd 8 rfl) (k1 (fun _ => l_errno)) (g := gT 7 rfl)
 exact sBin rfl rfl rfl hz rfl (gT 7 rfl) rfl (sd 9 rfl) kc (fun w => run_t (P := T1.length ≤ 400) ((fun w => o_e0 hE1 w) w) hc9)
 exact zMv hz (sd 10 rfl) (g := gT 7 rfl)
 exact zLd hz (sv S16) Cp8 ld_q64 (g := gT 11 rfl)
 exact zLd hz (sv S13) Cp7 ld_q64 (g := gT 11 rfl)
 exact zC2 hz Tryz.func33 (sd 12 rfl) (sd 13 rfl) (fun _ _ _ h0 h1 => cq_cmp h0 h1 (by decide) (by decide)) (g := gT 11 rfl)
 exact sBin rfl rfl rfl hz rfl (gT 11 rfl) rfl (sd 14 rfl) kc (fun w => run_cQ_neq (resX (parseR T1)) y w)
 exact zPT hz (sd 11 rfl) (sd 15 rfl) (g := gT 7 rfl)
 exact zPF hz (sd 7 rfl) (sd 16 rfl)
 clear hz hd
 intro a' γ' W' hz hd hC hk hh
 have tp7 := Cp7.lt
 replace Cp7 := kC hC Cp7
 have tp8 := Cp8.lt
 clear Cp8
 replace S3 := kp hk S3
 replace S13 := kp hk S13
 clear S15
 clear S16
 clear S17
 have S95 := gV hz 17 hh
 clear tp7 tp8
 replace HB := aB HB hC
 clear hC hk hh
 have hc10 : ¬ (resX (parseR T1) ≠ y) := (fun c => c (hX1 hc9))
 rw [decide_eq_false hc10] at S95
 refine wp_cond_false S95.ev ?_
 refine wp_skip ?_
 refine wp_seq ?_
 refine rt [rV (.int .i64 (z)), rV (.int .i64 ((n : Nat) : Int)), rV (.int .i64 ((n : Nat) : Int))] hz hd ?_ ?_
 refine ⟨?_, ?_, ?_, trivial⟩
 exact zMv hz (sv S3)
 exact sBin rfl rfl rfl hz rfl (Gd.none_ rfl) rfl (sd 0 rfl) kc (fun w => o_andK eN w)
 exact zAs hz (sd 1 rfl)
 clear hz hd
 intro a' γ' W' hz hd hC hk hh
 have tp7 := Cp7.lt
 replace Cp7 := kC hC Cp7
 clear S3
 replace S13 := kp hk S13
 clear S95
 have S3 := gV hz 2 hh
 clear tp7
 replace HB := aB HB hC
 clear hC hk hh
 refine wp_seq ?_
 refine rt [rT (tQ B64 2400 y), rV (.int .i64 ((n : Nat) : Int)), rT (tT [tV (.string (strB T2)), tV (.bool true)]), rT (tT [tV (.string (strB T2)), tV (.bool true)]), rV (.string (strB T2)), rV (.bool true), rV (.string (strB T2)), rV (.bool true)] hz hd ?_ ?_
 refine ⟨?_, ?_, ?_, ?_, ?_, ?_, ?_, ?_, trivial⟩
 exact zLd hz (sv S13) Cp7 ld_q64
 exact zMv hz (sv S3)
 exact zC2 hz Tryz.func29 (sd 0 rfl) (sd 1 rfl) (k01 (fun _ _ h0 => c_decimal_n h0 eT2 (by decide) (by omega)))
 exact zMv hz (sd 2 rfl)
 exact zExt hz (sd 3 rfl)
 exact zExt hz (sd 3 rfl)
 exact zAs hz (sd 4 rfl)
 exact zAs hz (sd 5 rfl)
 clear hz hd
 intro a' γ' W' hz hd hC hk hh
 have tp7 := Cp7.lt
 replace Cp7 := kC hC Cp7
 replace S13 := kp hk S13
 replace S3 := kp hk S3
 have S18 := gV hz 6 hh
 have S19 := gV hz 7 hh
 clear tp7
 replace HB := aB HB hC
 clear hC hk hh
 refine wp_seq ?_
 refine rt [rV (.string (strB T2)), rT (tT [tQ B64 10000 (resX (parseR T2)), tV (.int .i64 (resE (parseR T2)))]), rT (tT [tQ B64 10000 (resX (parseR T2)), tV (.int .i64 (resE (parseR T2)))]), rT (tQ B64 10000 (resX (parseR T2))), rV (.int .i64 (resE (parseR T2))), rVar 5 28 2, rB 5 28 (tQ B64 10000 (resX (parseR T2))) (some 5) 6, rV (.int .i64 (resE (parseR T2)))] hz hd ?_ ?_
 refine ⟨?_, ?_, ?_, ?_, ?_, ?_, ?_, ?_, trivial⟩
 exact zMv hz (sv S18)
 exact zC1 hz Tryz.func23 (sd 0 rfl) (k1 (fun _ => c_parse_n hb2 hl2))
 exact zMv hz (sd 1 rfl)
 exact zExt hz (sd 2 rfl)
 exact zExt hz (sd 2 rfl)
 exact zAl hz nd_rat al_r64
 exact zSt (sd 3 rfl) st_q64
 exact zAs hz (sd 4 rfl)
 clear hz hd
 intro a' γ' W' hz hd hC hk hh
 have ep7 := Cp7.lt
 have tp7 := Cp7.lt
 replace Cp7 := kC hC Cp7
 replace S13 := kp hk S13
 replace S3 := kp hk S3
 replace S18 := kp hk S18
 replace S19 := kp hk S19
 obtain ⟨p11, S20, Cp11, lp11, gp11⟩ := gotB hz 6 hC hh rfl rfl rfl rfl rfl rfl
 have S21 := gV hz 7 hh
 have n_p11_p7 : p11 ≠ p7 := by omega
 have n_p7_p11 : p7 ≠ p11 := by have := ep7; omega
 have bp11 := Nat.le_trans HB.size lp11
 clear lp11 gp11
 clear tp7
 clear ep7
 replace HB := aB HB hC
 clear hC hk hh
 refine wp_seq ?_
 refine wp_seq ?_
 by_cases hc12 : T2.length ≤ 400
 refine rt [rV (.bool true), rV (.bool false), rV (.bool false), rV (.string (strB T2)), rV (.int .i64 ((T2.length : Nat) : Int)), rV (.bool true), rV (.bool true), rV (.int .i64 (resE (parseR T2))), rV (.int .i64 (resE (parseR T2))), rV (.bool (decide (400 < T2.length))), rV (.bool (decide (400 < T2.length))), rV (.bool (decide (400 < T2.length)))] hz hd ?_ ?_
 refine ⟨?_, ?_, ?_, ?_, ?_, ?_, ?_, ?_, ?_, ?_, ?_, ?_, trivial⟩
 exact zMv hz (sv S19)
 exact zNot hz (sd 0 rfl)
 exact zMv hz (sd 1 rfl)
 exact zMv hz (sv S18) (g := gT 2 rfl)
 exact zB1len hz rfl (sd 3 rfl) (fun w => s_len w) (g := gT 2 rfl)
 exact sBin rfl rfl rfl hz rfl (gT 2 rfl) rfl (sd 4 rfl) kc (fun w => run_t (P := T2.length ≤ 400) ((fun w => o_le400 w) w) hc12)
 exact zMv hz (sd 5 rfl) (g := gT 2 rfl)
 exact zMv hz (sv S21) (g := gT 6 rfl)
 exact zC1 hz Tryz.func25 (sd 7 rfl) (k1 (fun _ => l_errno)) (g := gT 6 rfl)
 exact sBin rfl rfl rfl hz rfl (gT 6 rfl) rfl (sd 8 rfl) kc (fun w => o_en hE2 w)
 exact zPT hz (sd 6 rfl) (sd 9 rfl) (g := gT 2 rfl)
 exact zPF hz (sd 2 rfl) (sd 10 rfl)
 clear hz hd
 intro a' γ' W' hz hd hC hk hh
 have tp7 := Cp7.lt
 replace Cp7 := kC hC Cp7
 have tp11 := Cp11.lt
 replace Cp11 := kC hC Cp11
 replace S13 := kp hk S13
 replace S3 := kp hk S3
 clear S18
 clear S19
 replace S20 := kp hk S20
 replace S21 := kp hk S21
 have S120 := gV hz 11 hh
 clear tp7 tp11
 replace HB := aB HB hC
 clear hC hk hh
 have hc13 : ¬ (400 < T2.length) := (by have := hc12; omega)
 rw [decide_eq_false hc13] at S120
 refine wp_cond_false S120.ev ?_
 refine wp_skip ?_
 refine wp_seq ?_
 refine wp_seq ?_
 refine rt [rV (.int .i64 (resE (parseR T2))), rV (.int .i64 (resE (parseR T2))), rV (.bool false)] hz hd ?_ ?_
 refine ⟨?_, ?_, ?_, trivial⟩
 exact zMv hz (sv S21)
 exact zC1 hz Tryz.func25 (sd 0 rfl) (k1 (fun _ => l_errno))
 exact sBin rfl rfl rfl hz rfl (Gd.none_ rfl) rfl (sd 1 rfl) kc (fun w => run_f (P := 400 < T2.length) ((fun w => o_en hE2 w) w) hc13)
 clear hz hd
 intro a' γ' W' hz hd hC hk hh
 have tp7 := Cp7.lt
 replace Cp7 := kC hC Cp7
 have tp11 := Cp11.lt
 replace Cp11 := kC hC Cp11
 replace S13 := kp hk S13
 replace S3 := kp hk S3
 replace S20 := kp hk S20
 clear S21
 clear S120
 have S123 := gV hz 2 hh
 clear tp7 tp11
 replace HB := aB HB hC
 clear hC hk hh
 refine wp_cond_false S123.ev ?_
 refine wp_skip ?_
 refine wp_seq ?_
 refine rt [rT (tQ B64 1 0), rVar 1 28 2, rB 1 28 (tQ B64 1 0) (some 1) 2] hz hd ?_ ?_
 refine ⟨?_, ?_, ?_, trivial⟩
 exact sBuild0 rfl rfl rfl hz rfl (Gd.none_ rfl) rfl bd_r64 (fun _ => tQ_nil)
 exact zAl hz nd_rat al_r64
 exact zSt (sd 0 rfl) st_q64
 clear hz hd
 intro a' γ' W' hz hd hC hk hh
 have ep7 := Cp7.lt
 have ep11 := Cp11.lt
 have tp7 := Cp7.lt
 replace Cp7 := kC hC Cp7
 have tp11 := Cp11.lt
 replace Cp11 := kC hC Cp11
 replace S13 := kp hk S13
 replace S3 := kp hk S3
 replace S20 := kp hk S20
 clear S123
 obtain ⟨p14, S22, Cp14, lp14, gp14⟩ := gotB hz 2 hC hh rfl rfl rfl rfl rfl rfl
 have n_p14_p7 : p14 ≠ p7 := by omega
 have n_p14_p11 : p14 ≠ p11 := by omega
 have n_p7_p14 : p7 ≠ p14 := by have := ep7; omega
 have n_p11_p14 : p11 ≠ p14 := by have := ep11; omega
 have bp14 := Nat.le_trans HB.size lp14
 clear lp14 gp14
 clear tp7 tp11
 clear ep7 ep11
 replace HB := aB HB hC
 clear hC hk hh
 refine wp_seq ?_
 refine region_text (M := [p14]) [rT (tT [tQ B64 63 (unitQ 0), tV (.bool true)]), rT (tT [tQ B64 63 (unitQ 0), tV (.bool true)]), rT (tQ B64 63 (unitQ 0)), rV (.bool true), rE 0 28 (tQ B64 63 (unitQ 0)) p14] hz hd (by kernel_rfl) ?_ ?_
 refine ⟨?_, ?_, ?_, ?_, ?_, trivial⟩
 exact zC2 hz Tryz.func35 (kc (v := .int .i64 1)) (kc (v := .int .i64 2)) (k11 (fun _ => c_of12))
 exact zMv hz (sd 0 rfl)
 exact zExt hz (sd 1 rfl)
 exact zExt hz (sd 1 rfl)
 exact zSE rfl (sv S22) (by simp [tagOf]) (Cp14.var tQ_nd) (sd 2 rfl) st_q64
 clear hz hd
 intro a' γ' W' hz hd hC hk hh
 have tp7 := Cp7.lt
 replace Cp7 := kC hC Cp7 (by simp [tagOf, n_p7_p14])
 have tp11 := Cp11.lt
 replace Cp11 := kC hC Cp11 (by simp [tagOf, n_p11_p14])
 replace Cp14 := gotE (T := tQ B64 63 (unitQ 0)) (id := 28) (p := p14) 4 hh rfl rfl
 replace S13 := kp hk S13
 replace S3 := kp hk S3
 replace S20 := kp hk S20
 replace S22 := kp hk S22
 clear tp7 tp11
 replace HB := aM HB hC
 clear hC hk hh
 refine wp_seq ?_
 refine wp_seq ?_
 refine rt [rV (.int .i64 0)] hz hd ?_ ?_
 refine ⟨?_, trivial⟩
 exact zAs hz kc
 clear hz hd
 intro a' γ' W' hz hd hC hk hh
 have tp7 := Cp7.lt
 replace Cp7 := kC hC Cp7
 have tp11 := Cp11.lt
 replace Cp11 := kC hC Cp11
 have tp14 := Cp14.lt
 replace Cp14 := kC hC Cp14
 replace S13 := kp hk S13
 replace S3 := kp hk S3
 replace S20 := kp hk S20
 replace S22 := kp hk S22
 have S23 := gV hz 0 hh
 clear tp7 tp11 tp14
 replace HB := aB HB hC
 clear hC hk hh
 refine wp_block ?_
 replace Cp14 : Cell 28 (tQ B64 (63 + 64 * 0) (unitQ 0)) p14 _ := Cell.toN Cp14 (tQ_to (by decide) rfl (by decide))
 refine wp_loop_ghost (fun k a W => ∃ (i : Nat), k = n - i ∧ a.tmps.size = 149 ∧ a.defers = [] ∧ Below w.heap.size w W ∧ Sl a 3 (.int .i64 ((n : Nat) : Int)) ∧ Sl a 13 (.pointer (some ⟨p7, 0, none⟩)) ∧ Sl a 20 (.pointer (some ⟨p11, 0, none⟩)) ∧ Sl a 22 (.pointer (some ⟨p14, 0, none⟩)) ∧ Sl a 23 (.int .i64 ((i : Nat) : Int)) ∧ Cell 28 (tQ B64 2400 y) p7 W ∧ Cell 28 (tQ B64 10000 (resX (parseR T2))) p11 W ∧ Cell 28 (tQ B64 (63 + 64 * i) (unitQ i)) p14 W ∧ i ≤ n) _ ⟨0, rfl, hz, hd, HB, S3, S13, S20, S22, S23, Cp7, Cp11, Cp14, (Nat.zero_le _)⟩ ?_
 clear S13 S3 S20 S22 S23 Cp7 Cp11 Cp14 hz hd HB
 rintro k a W ⟨i, rfl, hz, hd, HB, S3, S13, S20, S22, S23, Cp7, Cp11, Cx, hi⟩
 refine wp_seq ?_
 refine wp_seq ?_
 refine rt [rV (.int .i64 ((i : Nat) : Int)), rV (.int .i64 ((n : Nat) : Int)), rV (.bool (decide (i < n)))] hz hd ?_ ?_
 refine ⟨?_, ?_, ?_, trivial⟩
 exact zMv hz (sv S23)
 exact zMv hz (sv S3)
 exact sBin rfl rfl rfl hz rfl (Gd.none_ rfl) rfl (sd 0 rfl) (sd 1 rfl) (fun w => n_lt w)
 clear hz hd
 intro a' γ' W' hz hd hC hk hh
 have tp7 := Cp7.lt
 replace Cp7 := kC hC Cp7
 have tp11 := Cp11.lt
 replace Cp11 := kC hC Cp11
 have tp14 := Cx.lt
 replace Cx := kC hC Cx
 replace S13 := kp hk S13
 replace S3 := kp hk S3
 replace S20 := kp hk S20
 replace S22 := kp hk S22
 replace S23 := kp hk S23
 have S132 := gV hz 2 hh
 clear tp7 tp11 tp14
 replace HB := aB HB hC
 clear hC hk hh
 by_cases hc15 : i < n
 rw [decide_eq_true hc15] at S132
 refine wp_cond_true S132.ev ?_
 refine wp_skip ?_
 refine wp_seq ?_
 refine wp_block ?_
 refine region_text (M := [p14]) [rT (tQ B64 (63 + 64 * i) (unitQ i)), rT (tT [tQ B64 ((63 + 64 * i) + 64) (divI (unitQ i) 10), tV (.bool (decide ((1 : Int) ≤ 10)))]), rT (tT [tQ B64 ((63 + 64 * i) + 64) (divI (unitQ i) 10), tV (.bool (decide ((1 : Int) ≤ 10)))]), rT (tQ B64 ((63 + 64 * i) + 64) (divI (unitQ i) 10)), rV (.bool (decide ((1 : Int) ≤ 10))), rE 0 28 (tQ B64 ((63 + 64 * i) + 64) (divI (unitQ i) 10)) p14] hz hd (by kernel_rfl) ?_ ?_
 refine ⟨?_, ?_, ?_, ?_, ?_, ?_, trivial⟩
 exact sLoadM rfl rfl rfl hz rfl (Gd.none_ rfl) rfl (sv S22) Cx (k := 0) (by simp [tagOf]) (by kernel_rfl) ld_q64
 exact zC2 hz Tryz.func36 (sd 0 rfl) (kc (v := .int .i64 10)) (k01 (fun _ _ h0 => cq_divint (n := 10) h0 (by omega) (by decide)))
 exact zMv hz (sd 1 rfl)
 exact zExt hz (sd 2 rfl)
 exact zExt hz (sd 2 rfl)
 exact zSE rfl (sv S22) (by simp [tagOf]) (Cx.var tQ_nd) (sd 3 rfl) st_q64
 clear hz hd
 intro a' γ' W' hz hd hC hk hh
 have tp7 := Cp7.lt
 replace Cp7 := kC hC Cp7 (by simp [tagOf, n_p7_p14])
 have tp11 := Cp11.lt
 replace Cp11 := kC hC Cp11 (by simp [tagOf, n_p11_p14])
 replace Cx := gotE (T := tQ B64 ((63 + 64 * i) + 64) (divI (unitQ i) 10)) (id := 28) (p := p14) 5 hh rfl rfl
 replace S13 := kp hk S13
 replace S3 := kp hk S3
 replace S20 := kp hk S20
 replace S22 := kp hk S22
 replace S23 := kp hk S23
 replace S132 := kp hk S132
 clear tp7 tp11
 replace HB := aM HB hC
 clear hC hk hh
 refine rt [rV (.int .i64 ((i : Nat) : Int)), rV (.int .i64 ((i + 1 : Nat) : Int)), rV (.int .i64 ((i + 1 : Nat) : Int))] hz hd ?_ ?_
 refine ⟨?_, ?_, ?_, trivial⟩
 exact zMv hz (sv S23)
 exact sBin rfl rfl rfl hz rfl (Gd.none_ rfl) rfl (sd 0 rfl) kc (fun w => n_succ (by omega) w)
 exact zAs hz (sd 1 rfl)
 clear hz hd
 intro a' γ' W' hz hd hC hk hh
 have tp7 := Cp7.lt
 replace Cp7 := kC hC Cp7
 have tp11 := Cp11.lt
 replace Cp11 := kC hC Cp11
 have tp14 := Cx.lt
 replace Cx := kC hC Cx
 replace S13 := kp hk S13
 replace S3 := kp hk S3
 replace S20 := kp hk S20
 replace S22 := kp hk S22
 clear S23
 replace S132 := kp hk S132
 have S23 := gV hz 2 hh
 clear tp7 tp11 tp14
 replace HB := aB HB hC
 clear hC hk hh
 replace Cx : Cell 28 (tQ B64 (63 + 64 * (i + 1)) (unitQ (i + 1))) p14 _ := Cell.toN Cx (tQ_to (by decide) (unit_s i) (by omega))
 show ∃ n', n' < _ ∧ _
 refine ⟨_, ?_, i + 1, rfl, hz, hd, HB, S3, S13, S20, S22, S23, Cp7, Cp11, Cx, (by have := hc15; omega)⟩
 omega
 rw [decide_eq_false hc15] at S132
 refine wp_cond_false S132.ev ?_
 refine wp_exit ?_
 refine wp_seq ?_
 have hc16 : gapQ (resX (parseR T2)) y ≤ unitQ i := (by rw [hX2 hc12, show i = n by have := hc15; omega]; exact near_unit hy n)
 refine region_drawn (M := []) (
  rT (tQ B64 10000 (resX (parseR T2))) ::
  rT (tQ B64 2400 y) ::
  rT (tQ B64 12401 (gapQ (resX (parseR T2)) y)) ::
  rT (tQ B64 (63 + 64 * i) (unitQ i)) ::
  rT (tV (.int .i64 (cmpQ (gapQ (resX (parseR T2)) y) (unitQ i)))) ::
  rT (tV (.bool true)) ::
  rT (tV (.bool true)) ::
  rT (tV (.bool true)) ::
  rT (tV (.bool true)) ::
  rT (tV (.bool true)) ::
  []) hz hd (by kernel_rfl) (by kernel_rfl) ?_ ?_
 refine ⟨?_, ?_, ?_, ?_, ?_, ?_, ?_, ?_, ?_, ?_, trivial⟩
 exact zLd hz (sv S20) Cp11 ld_q64
 exact zLd hz (sv S13) Cp7 ld_q64
 exact zC2 hz Tryz.func37 (sd 0 rfl) (sd 1 rfl) (fun _ _ _ h0 h1 => l_gap h0 h1 (by decide) (by decide))
 exact zLd hz (sv S22) Cx ld_q64
 exact zC2 hz Tryz.func33 (sd 2 rfl) (sd 3 rfl) (fun _ _ _ h0 h1 => cq_cmp h0 h1 (by decide) (by omega))
 exact sBin rfl rfl rfl hz rfl (Gd.none_ rfl) rfl (sd 4 rfl) kc (fun w => run_t (P := gapQ (resX (parseR T2)) y ≤ unitQ i) ((fun w => run_cQ_leq (gapQ (resX (parseR T2)) y) (unitQ i) w) w) hc16)
 exact zMv hz (sd 5 rfl)
 exact zC0 hz Tryz.func12 (fun _ => l_started) (g := gT 6 rfl)
 exact zPT hz (sd 6 rfl) (sd 7 rfl)
 exact zAs hz (sd 8 rfl)
 clear hz hd
 intro a' γ' W' hz hd hC hk hh
 have tp7 := Cp7.lt
 clear Cp7
 have tp11 := Cp11.lt
 clear Cp11
 have tp14 := Cx.lt
 clear Cx
 clear S13
 clear S3
 clear S20
 clear S22
 clear S23
 clear S132
 have S8 := gV hz 9 hh
 clear tp7 tp11 tp14
 replace HB := aB HB hC
 clear hC hk hh
 refine wp_ret ?_
 refine ret_to (T := tV (.bool true)) (ret1 (by kernel_rfl) S8 hd ⟨_, rfl, rfl, HB⟩) ?_
 exact fun _ _ h => h
 refine rt [rV (.bool true), rV (.bool false), rV (.bool false), rV (.string (strB T2)), rV (.int .i64 ((T2.length : Nat) : Int)), rV (.bool false), rV (.bool false), rV undef, rV undef, rV undef, rV (.bool false), rV (.bool false)] hz hd ?_ ?_
 refine ⟨?_, ?_, ?_, ?_, ?_, ?_, ?_, ?_, ?_, ?_, ?_, ?_, trivial⟩
 exact zMv hz (sv S19)
 exact zNot hz (sd 0 rfl)
 exact zMv hz (sd 1 rfl)
 exact zMv hz (sv S18) (g := gT 2 rfl)
 exact zB1len hz rfl (sd 3 rfl) (fun w => s_len w) (g := gT 2 rfl)
 exact sBin rfl rfl rfl hz rfl (gT 2 rfl) rfl (sd 4 rfl) kc (fun w => run_f (P := T2.length ≤ 400) ((fun w => o_le400 w) w) hc12)
 exact zMv hz (sd 5 rfl) (g := gT 2 rfl)
 exact zSkU hz (gN 6 rfl)
 exact zSkU hz (gN 6 rfl)
 exact zSkU hz (gN 6 rfl)
 exact zPF hz (sd 6 rfl) kc (g := gT 2 rfl)
 exact zPF hz (sd 2 rfl) (sd 10 rfl)
 clear hz hd
 intro a' γ' W' hz hd hC hk hh
 have tp7 := Cp7.lt
 replace Cp7 := kC hC Cp7
 have tp11 := Cp11.lt
 replace Cp11 := kC hC Cp11
 replace S13 := kp hk S13
 replace S3 := kp hk S3
 clear S18
 clear S19
 replace S20 := kp hk S20
 replace S21 := kp hk S21
 have S120 := gV hz 11 hh
 clear tp7 tp11
 replace HB := aB HB hC
 clear hC hk hh
 refine wp_cond_false S120.ev ?_
 refine wp_skip ?_
 refine wp_seq ?_
 refine wp_seq ?_
 refine rt [rV (.int .i64 (resE (parseR T2))), rV (.int .i64 (resE (parseR T2))), rV (.bool (decide (400 < T2.length)))] hz hd ?_ ?_
 refine ⟨?_, ?_, ?_, trivial⟩
 exact zMv hz (sv S21)
 exact zC1 hz Tryz.func25 (sd 0 rfl) (k1 (fun _ => l_errno))
 exact sBin rfl rfl rfl hz rfl (Gd.none_ rfl) rfl (sd 1 rfl) kc (fun w => o_en hE2 w)
 clear hz hd
 intro a' γ' W' hz hd hC hk hh
 have tp7 := Cp7.lt
 replace Cp7 := kC hC Cp7
 have tp11 := Cp11.lt
 replace Cp11 := kC hC Cp11
 replace S13 := kp hk S13
 replace S3 := kp hk S3
 replace S20 := kp hk S20
 clear S21
 clear S120
 have S123 := gV hz 2 hh
 clear tp7 tp11
 replace HB := aB HB hC
 clear hC hk hh
 have hc17 : 400 < T2.length := (by have := hc12; omega)
 rw [decide_eq_true hc17] at S123
 refine wp_cond_true S123.ev ?_
 refine wp_seq ?_
 refine rt [rV (.bool true), rV (.bool true)] hz hd ?_ ?_
 refine ⟨?_, ?_, trivial⟩
 exact zC0 hz Tryz.func12 (fun _ => l_started)
 exact zAs hz (sd 0 rfl)
 clear hz hd
 intro a' γ' W' hz hd hC hk hh
 have tp7 := Cp7.lt
 replace Cp7 := kC hC Cp7
 have tp11 := Cp11.lt
 replace Cp11 := kC hC Cp11
 replace S13 := kp hk S13
 replace S3 := kp hk S3
 replace S20 := kp hk S20
 clear S123
 have S8 := gV hz 1 hh
 clear tp7 tp11
 replace HB := aB HB hC
 clear hC hk hh
 refine wp_ret ?_
 refine ret_to (T := tV (.bool true)) (ret1 (by kernel_rfl) S8 hd ⟨_, rfl, rfl, HB⟩) ?_
 exact fun _ _ h => h
 refine rt [rV (.int .i64 (resE (parseR T1))), rV (.int .i64 (resE (parseR T1))), rV (.bool false), rV (.string (strB T1)), rV (.int .i64 ((T1.length : Nat) : Int)), rV (.bool false), rV (.bool false), rV (.bool false), rV (.int .i64 (resE (parseR T1))), rV (.int .i64 (resE (parseR T1))), rV (.bool false), rV (.bool false), rV undef, rV undef, rV undef, rV undef, rV (.bool false), rV (.bool false)] hz hd ?_ ?_
 refine ⟨?_, ?_, ?_, ?_, ?_, ?_, ?_, ?_, ?_, ?_, ?_, ?_, ?_, ?_, ?_, ?_, ?_, ?_, trivial⟩
 exact zMv hz (sv S17)
 exact zC1 hz Tryz.func25 (sd 0 rfl) (k1 (fun _ => l_errno))
 exact sBin rfl rfl rfl hz rfl (Gd.none_ rfl) rfl (sd 1 rfl) kc (fun w => run_f (P := T1.length ≤ 400) ((fun w => o_e0 hE1 w) w) hc9)
 exact zMv hz (sv S15)
 exact zB1len hz rfl (sd 3 rfl) (fun w => s_len w)
 exact sBin rfl rfl rfl hz rfl (Gd.none_ rfl) rfl (sd 4 rfl) kc (fun w => run_f (P := T1.length ≤ 400) ((fun w => o_le400 w) w) hc9)
 exact sBin rfl rfl rfl hz rfl (Gd.none_ rfl) rfl (sd 2 rfl) (sd 5 rfl) (fun w => by kernel_rfl)
 exact zMv hz (sd 6 rfl)
 exact zMv hz (sv S17) (g := gT 7 rfl)
 exact zC1 hz Tryz.func25 (sd 8 rfl) (k1 (fun _ => l_errno)) (g := gT 7 rfl)
 exact sBin rfl rfl rfl hz rfl (gT 7 rfl) rfl (sd 9 rfl) kc (fun w => run_f (P := T1.length ≤ 400) ((fun w => o_e0 hE1 w) w) hc9)
 exact zMv hz (sd 10 rfl) (g := gT 7 rfl)
 exact zSkU hz (gN 11 rfl)
 exact zSkU hz (gN 11 rfl)
 exact zSkU hz (gN 11 rfl)
 exact zSkU hz (gN 11 rfl)
 exact zPF hz (sd 11 rfl) kc (g := gT 7 rfl)
 exact zPF hz (sd 7 rfl) (sd 16 rfl)
 clear hz hd
 intro a' γ' W' hz hd hC hk hh
 have tp7 := Cp7.lt
 replace Cp7 := kC hC Cp7
 have tp8 := Cp8.lt
 clear Cp8
 replace S3 := kp hk S3
 replace S13 := kp hk S13
 clear S15
 clear S16
 clear S17
 have S95 := gV hz 17 hh
 clear tp7 tp8
 replace HB := aB HB hC
 clear hC hk hh
 refine wp_cond_false S95.ev ?_
 refine wp_skip ?_
 refine wp_seq ?_
 refine rt [rV (.int .i64 (z)), rV (.int .i64 ((n : Nat) : Int)), rV (.int .i64 ((n : Nat) : Int))] hz hd ?_ ?_
 refine ⟨?_, ?_, ?_, trivial⟩
 exact zMv hz (sv S3)
 exact sBin rfl rfl rfl hz rfl (Gd.none_ rfl) rfl (sd 0 rfl) kc (fun w => o_andK eN w)
 exact zAs hz (sd 1 rfl)
 clear hz hd
 intro a' γ' W' hz hd hC hk hh
 have tp7 := Cp7.lt
 replace Cp7 := kC hC Cp7
 clear S3
 replace S13 := kp hk S13
 clear S95
 have S3 := gV hz 2 hh
 clear tp7
 replace HB := aB HB hC
 clear hC hk hh
 refine wp_seq ?_
 refine rt [rT (tQ B64 2400 y), rV (.int .i64 ((n : Nat) : Int)), rT (tT [tV (.string (strB T2)), tV (.bool true)]), rT (tT [tV (.string (strB T2)), tV (.bool true)]), rV (.string (strB T2)), rV (.bool true), rV (.string (strB T2)), rV (.bool true)] hz hd ?_ ?_
 refine ⟨?_, ?_, ?_, ?_, ?_, ?_, ?_, ?_, trivial⟩
 exact zLd hz (sv S13) Cp7 ld_q64
 exact zMv hz (sv S3)
 exact zC2 hz Tryz.func29 (sd 0 rfl) (sd 1 rfl) (k01 (fun _ _ h0 => c_decimal_n h0 eT2 (by decide) (by omega)))
 exact zMv hz (sd 2 rfl)
 exact zExt hz (sd 3 rfl)
 exact zExt hz (sd 3 rfl)
 exact zAs hz (sd 4 rfl)
 exact zAs hz (sd 5 rfl)
 clear hz hd
 intro a' γ' W' hz hd hC hk hh
 have tp7 := Cp7.lt
 replace Cp7 := kC hC Cp7
 replace S13 := kp hk S13
 replace S3 := kp hk S3
 have S18 := gV hz 6 hh
 have S19 := gV hz 7 hh
 clear tp7
 replace HB := aB HB hC
 clear hC hk hh
 refine wp_seq ?_
 refine rt [rV (.string (strB T2)), rT (tT [tQ B64 10000 (resX (parseR T2)), tV (.int .i64 (resE (parseR T2)))]), rT (tT [tQ B64 10000 (resX (parseR T2)), tV (.int .i64 (resE (parseR T2)))]), rT (tQ B64 10000 (resX (parseR T2))), rV (.int .i64 (resE (parseR T2))), rVar 5 28 2, rB 5 28 (tQ B64 10000 (resX (parseR T2))) (some 5) 6, rV (.int .i64 (resE (parseR T2)))] hz hd ?_ ?_
 refine ⟨?_, ?_, ?_, ?_, ?_, ?_, ?_, ?_, trivial⟩
 exact zMv hz (sv S18)
 exact zC1 hz Tryz.func23 (sd 0 rfl) (k1 (fun _ => c_parse_n hb2 hl2))
 exact zMv hz (sd 1 rfl)
 exact zExt hz (sd 2 rfl)
 exact zExt hz (sd 2 rfl)
 exact zAl hz nd_rat al_r64
 exact zSt (sd 3 rfl) st_q64
 exact zAs hz (sd 4 rfl)
 clear hz hd
 intro a' γ' W' hz hd hC hk hh
 have ep7 := Cp7.lt
 have tp7 := Cp7.lt
 replace Cp7 := kC hC Cp7
 replace S13 := kp hk S13
 replace S3 := kp hk S3
 replace S18 := kp hk S18
 replace S19 := kp hk S19
 obtain ⟨p18, S20, Cp18, lp18, gp18⟩ := gotB hz 6 hC hh rfl rfl rfl rfl rfl rfl
 have S21 := gV hz 7 hh
 have n_p18_p7 : p18 ≠ p7 := by omega
 have n_p7_p18 : p7 ≠ p18 := by have := ep7; omega
 have bp18 := Nat.le_trans HB.size lp18
 clear lp18 gp18
 clear tp7
 clear ep7
 replace HB := aB HB hC
 clear hC hk hh
 refine wp_seq ?_
 refine wp_seq ?_
 by_cases hc19 : T2.length ≤ 400
 refine rt [rV (.bool true), rV (.bool false), rV (.bool false), rV (.string (strB T2)), rV (.int .i64 ((T2.length : Nat) : Int)), rV (.bool true), rV (.bool true), rV (.int .i64 (resE (parseR T2))), rV (.int .i64 (resE (parseR T2))), rV (.bool (decide (400 < T2.length))), rV (.bool (decide (400 < T2.length))), rV (.bool (decide (400 < T2.length)))] hz hd ?_ ?_
 refine ⟨?_, ?_, ?_, ?_, ?_, ?_, ?_, ?_, ?_, ?_, ?_, ?_, trivial⟩
 exact zMv hz (sv S19)
 exact zNot hz (sd 0 rfl)
 exact zMv hz (sd 1 rfl)
 exact zMv hz (sv S18) (g := gT 2 rfl)
 exact zB1len hz rfl (sd 3 rfl) (fun w => s_len w) (g := gT 2 rfl)
 exact sBin rfl rfl rfl hz rfl (gT 2 rfl) rfl (sd 4 rfl) kc (fun w => run_t (P := T2.length ≤ 400) ((fun w => o_le400 w) w) hc19)
 exact zMv hz (sd 5 rfl) (g := gT 2 rfl)
 exact zMv hz (sv S21) (g := gT 6 rfl)
 exact zC1 hz Tryz.func25 (sd 7 rfl) (k1 (fun _ => l_errno)) (g := gT 6 rfl)
 exact sBin rfl rfl rfl hz rfl (gT 6 rfl) rfl (sd 8 rfl) kc (fun w => o_en hE2 w)
 exact zPT hz (sd 6 rfl) (sd 9 rfl) (g := gT 2 rfl)
 exact zPF hz (sd 2 rfl) (sd 10 rfl)
 clear hz hd
 intro a' γ' W' hz hd hC hk hh
 have tp7 := Cp7.lt
 replace Cp7 := kC hC Cp7
 have tp18 := Cp18.lt
 replace Cp18 := kC hC Cp18
 replace S13 := kp hk S13
 replace S3 := kp hk S3
 clear S18
 clear S19
 replace S20 := kp hk S20
 replace S21 := kp hk S21
 have S120 := gV hz 11 hh
 clear tp7 tp18
 replace HB := aB HB hC
 clear hC hk hh
 have hc20 : ¬ (400 < T2.length) := (by have := hc19; omega)
 rw [decide_eq_false hc20] at S120
 refine wp_cond_false S120.ev ?_
 refine wp_skip ?_
 refine wp_seq ?_
 refine wp_seq ?_
 refine rt [rV (.int .i64 (resE (parseR T2))), rV (.int .i64 (resE (parseR T2))), rV (.bool false)] hz hd ?_ ?_
 refine ⟨?_, ?_, ?_, trivial⟩
 exact zMv hz (sv S21)
 exact zC1 hz Tryz.func25 (sd 0 rfl) (k1 (fun _ => l_errno))
 exact sBin rfl rfl rfl hz rfl (Gd.none_ rfl) rfl (sd 1 rfl) kc (fun w => run_f (P := 400 < T2.length) ((fun w => o_en hE2 w) w) hc20)
 clear hz hd
 intro a' γ' W' hz hd hC hk hh
 have tp7 := Cp7.lt
 replace Cp7 := kC hC Cp7
 have tp18 := Cp18.lt
 replace Cp18 := kC hC Cp18
 replace S13 := kp hk S13
 replace S3 := kp hk S3
 replace S20 := kp hk S20
 clear S21
 clear S120
 have S123 := gV hz 2 hh
 clear tp7 tp18
 replace HB := aB HB hC
 clear hC hk hh
 refine wp_cond_false S123.ev ?_
 refine wp_skip ?_
 refine wp_seq ?_
 refine rt [rT (tQ B64 1 0), rVar 1 28 2, rB 1 28 (tQ B64 1 0) (some 1) 2] hz hd ?_ ?_
 refine ⟨?_, ?_, ?_, trivial⟩
 exact sBuild0 rfl rfl rfl hz rfl (Gd.none_ rfl) rfl bd_r64 (fun _ => tQ_nil)
 exact zAl hz nd_rat al_r64
 exact zSt (sd 0 rfl) st_q64
 clear hz hd
 intro a' γ' W' hz hd hC hk hh
 have ep7 := Cp7.lt
 have ep18 := Cp18.lt
 have tp7 := Cp7.lt
 replace Cp7 := kC hC Cp7
 have tp18 := Cp18.lt
 replace Cp18 := kC hC Cp18
 replace S13 := kp hk S13
 replace S3 := kp hk S3
 replace S20 := kp hk S20
 clear S123
 obtain ⟨p21, S22, Cp21, lp21, gp21⟩ := gotB hz 2 hC hh rfl rfl rfl rfl rfl rfl
 have n_p21_p7 : p21 ≠ p7 := by omega
 have n_p21_p18 : p21 ≠ p18 := by omega
 have n_p7_p21 : p7 ≠ p21 := by have := ep7; omega
 have n_p18_p21 : p18 ≠ p21 := by have := ep18; omega
 have bp21 := Nat.le_trans HB.size lp21
 clear lp21 gp21
 clear tp7 tp18
 clear ep7 ep18
 replace HB := aB HB hC
 clear hC hk hh
 refine wp_seq ?_
 refine region_text (M := [p21]) [rT (tT [tQ B64 63 (unitQ 0), tV (.bool true)]), rT (tT [tQ B64 63 (unitQ 0), tV (.bool true)]), rT (tQ B64 63 (unitQ 0)), rV (.bool true), rE 0 28 (tQ B64 63 (unitQ 0)) p21] hz hd (by kernel_rfl) ?_ ?_
 refine ⟨?_, ?_, ?_, ?_, ?_, trivial⟩
 exact zC2 hz Tryz.func35 (kc (v := .int .i64 1)) (kc (v := .int .i64 2)) (k11 (fun _ => c_of12))
 exact zMv hz (sd 0 rfl)
 exact zExt hz (sd 1 rfl)
 exact zExt hz (sd 1 rfl)
 exact zSE rfl (sv S22) (by simp [tagOf]) (Cp21.var tQ_nd) (sd 2 rfl) st_q64
 clear hz hd
 intro a' γ' W' hz hd hC hk hh
 have tp7 := Cp7.lt
 replace Cp7 := kC hC Cp7 (by simp [tagOf, n_p7_p21])
 have tp18 := Cp18.lt
 replace Cp18 := kC hC Cp18 (by simp [tagOf, n_p18_p21])
 replace Cp21 := gotE (T := tQ B64 63 (unitQ 0)) (id := 28) (p := p21) 4 hh rfl rfl
 replace S13 := kp hk S13
 replace S3 := kp hk S3
 replace S20 := kp hk S20
 replace S22 := kp hk S22
 clear tp7 tp18
 replace HB := aM HB hC
 clear hC hk hh
 refine wp_seq ?_
 refine wp_seq ?_
 refine rt [rV (.int .i64 0)] hz hd ?_ ?_
 refine ⟨?_, trivial⟩
 exact zAs hz kc
 clear hz hd
 intro a' γ' W' hz hd hC hk hh
 have tp7 := Cp7.lt
 replace Cp7 := kC hC Cp7
 have tp18 := Cp18.lt
 replace Cp18 := kC hC Cp18
 have tp21 := Cp21.lt
 replace Cp21 := kC hC Cp21
 replace S13 := kp hk S13
 replace S3 := kp hk S3
 replace S20 := kp hk S20
 replace S22 := kp hk S22
 have S23 := gV hz 0 hh
 clear tp7 tp18 tp21
 replace HB := aB HB hC
 clear hC hk hh
 refine wp_block ?_
 replace Cp21 : Cell 28 (tQ B64 (63 + 64 * 0) (unitQ 0)) p21 _ := Cell.toN Cp21 (tQ_to (by decide) rfl (by decide))
 refine wp_loop_ghost (fun k a W => ∃ (i : Nat), k = n - i ∧ a.tmps.size = 149 ∧ a.defers = [] ∧ Below w.heap.size w W ∧ Sl a 3 (.int .i64 ((n : Nat) : Int)) ∧ Sl a 13 (.pointer (some ⟨p7, 0, none⟩)) ∧ Sl a 20 (.pointer (some ⟨p18, 0, none⟩)) ∧ Sl a 22 (.pointer (some ⟨p21, 0, none⟩)) ∧ Sl a 23 (.int .i64 ((i : Nat) : Int)) ∧ Cell 28 (tQ B64 2400 y) p7 W ∧ Cell 28 (tQ B64 10000 (resX (parseR T2))) p18 W ∧ Cell 28 (tQ B64 (63 + 64 * i) (unitQ i)) p21 W ∧ i ≤ n) _ ⟨0, rfl, hz, hd, HB, S3, S13, S20, S22, S23, Cp7, Cp18, Cp21, (Nat.zero_le _)⟩ ?_
 clear S13 S3 S20 S22 S23 Cp7 Cp18 Cp21 hz hd HB
 rintro k a W ⟨i, rfl, hz, hd, HB, S3, S13, S20, S22, S23, Cp7, Cp18, Cx, hi⟩
 refine wp_seq ?_
 refine wp_seq ?_
 refine rt [rV (.int .i64 ((i : Nat) : Int)), rV (.int .i64 ((n : Nat) : Int)), rV (.bool (decide (i < n)))] hz hd ?_ ?_
 refine ⟨?_, ?_, ?_, trivial⟩
 exact zMv hz (sv S23)
 exact zMv hz (sv S3)
 exact sBin rfl rfl rfl hz rfl (Gd.none_ rfl) rfl (sd 0 rfl) (sd 1 rfl) (fun w => n_lt w)
 clear hz hd
 intro a' γ' W' hz hd hC hk hh
 have tp7 := Cp7.lt
 replace Cp7 := kC hC Cp7
 have tp18 := Cp18.lt
 replace Cp18 := kC hC Cp18
 have tp21 := Cx.lt
 replace Cx := kC hC Cx
 replace S13 := kp hk S13
 replace S3 := kp hk S3
 replace S20 := kp hk S20
 replace S22 := kp hk S22
 replace S23 := kp hk S23
 have S132 := gV hz 2 hh
 clear tp7 tp18 tp21
 replace HB := aB HB hC
 clear hC hk hh
 by_cases hc22 : i < n
 rw [decide_eq_true hc22] at S132
 refine wp_cond_true S132.ev ?_
 refine wp_skip ?_
 refine wp_seq ?_
 refine wp_block ?_
 refine region_text (M := [p21]) [rT (tQ B64 (63 + 64 * i) (unitQ i)), rT (tT [tQ B64 ((63 + 64 * i) + 64) (divI (unitQ i) 10), tV (.bool (decide ((1 : Int) ≤ 10)))]), rT (tT [tQ B64 ((63 + 64 * i) + 64) (divI (unitQ i) 10), tV (.bool (decide ((1 : Int) ≤ 10)))]), rT (tQ B64 ((63 + 64 * i) + 64) (divI (unitQ i) 10)), rV (.bool (decide ((1 : Int) ≤ 10))), rE 0 28 (tQ B64 ((63 + 64 * i) + 64) (divI (unitQ i) 10)) p21] hz hd (by kernel_rfl) ?_ ?_
 refine ⟨?_, ?_, ?_, ?_, ?_, ?_, trivial⟩
 exact sLoadM rfl rfl rfl hz rfl (Gd.none_ rfl) rfl (sv S22) Cx (k := 0) (by simp [tagOf]) (by kernel_rfl) ld_q64
 exact zC2 hz Tryz.func36 (sd 0 rfl) (kc (v := .int .i64 10)) (k01 (fun _ _ h0 => cq_divint (n := 10) h0 (by omega) (by decide)))
 exact zMv hz (sd 1 rfl)
 exact zExt hz (sd 2 rfl)
 exact zExt hz (sd 2 rfl)
 exact zSE rfl (sv S22) (by simp [tagOf]) (Cx.var tQ_nd) (sd 3 rfl) st_q64
 clear hz hd
 intro a' γ' W' hz hd hC hk hh
 have tp7 := Cp7.lt
 replace Cp7 := kC hC Cp7 (by simp [tagOf, n_p7_p21])
 have tp18 := Cp18.lt
 replace Cp18 := kC hC Cp18 (by simp [tagOf, n_p18_p21])
 replace Cx := gotE (T := tQ B64 ((63 + 64 * i) + 64) (divI (unitQ i) 10)) (id := 28) (p := p21) 5 hh rfl rfl
 replace S13 := kp hk S13
 replace S3 := kp hk S3
 replace S20 := kp hk S20
 replace S22 := kp hk S22
 replace S23 := kp hk S23
 replace S132 := kp hk S132
 clear tp7 tp18
 replace HB := aM HB hC
 clear hC hk hh
 refine rt [rV (.int .i64 ((i : Nat) : Int)), rV (.int .i64 ((i + 1 : Nat) : Int)), rV (.int .i64 ((i + 1 : Nat) : Int))] hz hd ?_ ?_
 refine ⟨?_, ?_, ?_, trivial⟩
 exact zMv hz (sv S23)
 exact sBin rfl rfl rfl hz rfl (Gd.none_ rfl) rfl (sd 0 rfl) kc (fun w => n_succ (by omega) w)
 exact zAs hz (sd 1 rfl)
 clear hz hd
 intro a' γ' W' hz hd hC hk hh
 have tp7 := Cp7.lt
 replace Cp7 := kC hC Cp7
 have tp18 := Cp18.lt
 replace Cp18 := kC hC Cp18
 have tp21 := Cx.lt
 replace Cx := kC hC Cx
 replace S13 := kp hk S13
 replace S3 := kp hk S3
 replace S20 := kp hk S20
 replace S22 := kp hk S22
 clear S23
 replace S132 := kp hk S132
 have S23 := gV hz 2 hh
 clear tp7 tp18 tp21
 replace HB := aB HB hC
 clear hC hk hh
 replace Cx : Cell 28 (tQ B64 (63 + 64 * (i + 1)) (unitQ (i + 1))) p21 _ := Cell.toN Cx (tQ_to (by decide) (unit_s i) (by omega))
 show ∃ n', n' < _ ∧ _
 refine ⟨_, ?_, i + 1, rfl, hz, hd, HB, S3, S13, S20, S22, S23, Cp7, Cp18, Cx, (by have := hc22; omega)⟩
 omega
 rw [decide_eq_false hc22] at S132
 refine wp_cond_false S132.ev ?_
 refine wp_exit ?_
 refine wp_seq ?_
 have hc23 : gapQ (resX (parseR T2)) y ≤ unitQ i := (by rw [hX2 hc19, show i = n by have := hc22; omega]; exact near_unit hy n)
 refine region_drawn (M := []) (
  rT (tQ B64 10000 (resX (parseR T2))) ::
  rT (tQ B64 2400 y) ::
  rT (tQ B64 12401 (gapQ (resX (parseR T2)) y)) ::
  rT (tQ B64 (63 + 64 * i) (unitQ i)) ::
  rT (tV (.int .i64 (cmpQ (gapQ (resX (parseR T2)) y) (unitQ i)))) ::
  rT (tV (.bool true)) ::
  rT (tV (.bool true)) ::
  rT (tV (.bool true)) ::
  rT (tV (.bool true)) ::
  rT (tV (.bool true)) ::
  []) hz hd (by kernel_rfl) (by kernel_rfl) ?_ ?_
 refine ⟨?_, ?_, ?_, ?_, ?_, ?_, ?_, ?_, ?_, ?_, trivial⟩
 exact zLd hz (sv S20) Cp18 ld_q64
 exact zLd hz (sv S13) Cp7 ld_q64
 exact zC2 hz Tryz.func37 (sd 0 rfl) (sd 1 rfl) (fun _ _ _ h0 h1 => l_gap h0 h1 (by decide) (by decide))
 exact zLd hz (sv S22) Cx ld_q64
 exact zC2 hz Tryz.func33 (sd 2 rfl) (sd 3 rfl) (fun _ _ _ h0 h1 => cq_cmp h0 h1 (by decide) (by omega))
 exact sBin rfl rfl rfl hz rfl (Gd.none_ rfl) rfl (sd 4 rfl) kc (fun w => run_t (P := gapQ (resX (parseR T2)) y ≤ unitQ i) ((fun w => run_cQ_leq (gapQ (resX (parseR T2)) y) (unitQ i) w) w) hc23)
 exact zMv hz (sd 5 rfl)
 exact zC0 hz Tryz.func12 (fun _ => l_started) (g := gT 6 rfl)
 exact zPT hz (sd 6 rfl) (sd 7 rfl)
 exact zAs hz (sd 8 rfl)
 clear hz hd
 intro a' γ' W' hz hd hC hk hh
 have tp7 := Cp7.lt
 clear Cp7
 have tp18 := Cp18.lt
 clear Cp18
 have tp21 := Cx.lt
 clear Cx
 clear S13
 clear S3
 clear S20
 clear S22
 clear S23
 clear S132
 have S8 := gV hz 9 hh
 clear tp7 tp18 tp21
 replace HB := aB HB hC
 clear hC hk hh
 refine wp_ret ?_
 refine ret_to (T := tV (.bool true)) (ret1 (by kernel_rfl) S8 hd ⟨_, rfl, rfl, HB⟩) ?_
 exact fun _ _ h => h
 refine rt [rV (.bool true), rV (.bool false), rV (.bool false), rV (.string (strB T2)), rV (.int .i64 ((T2.length : Nat) : Int)), rV (.bool false), rV (.bool false), rV undef, rV undef, rV undef, rV (.bool false), rV (.bool false)] hz hd ?_ ?_
 refine ⟨?_, ?_, ?_, ?_, ?_, ?_, ?_, ?_, ?_, ?_, ?_, ?_, trivial⟩
 exact zMv hz (sv S19)
 exact zNot hz (sd 0 rfl)
 exact zMv hz (sd 1 rfl)
 exact zMv hz (sv S18) (g := gT 2 rfl)
 exact zB1len hz rfl (sd 3 rfl) (fun w => s_len w) (g := gT 2 rfl)
 exact sBin rfl rfl rfl hz rfl (gT 2 rfl) rfl (sd 4 rfl) kc (fun w => run_f (P := T2.length ≤ 400) ((fun w => o_le400 w) w) hc19)
 exact zMv hz (sd 5 rfl) (g := gT 2 rfl)
 exact zSkU hz (gN 6 rfl)
 exact zSkU hz (gN 6 rfl)
 exact zSkU hz (gN 6 rfl)
 exact zPF hz (sd 6 rfl) kc (g := gT 2 rfl)
 exact zPF hz (sd 2 rfl) (sd 10 rfl)
 clear hz hd
 intro a' γ' W' hz hd hC hk hh
 have tp7 := Cp7.lt
 replace Cp7 := kC hC Cp7
 have tp18 := Cp18.lt
 replace Cp18 := kC hC Cp18
 replace S13 := kp hk S13
 replace S3 := kp hk S3
 clear S18
 clear S19
 replace S20 := kp hk S20
 replace S21 := kp hk S21
 have S120 := gV hz 11 hh
 clear tp7 tp18
 replace HB := aB HB hC
 clear hC hk hh
 refine wp_cond_false S120.ev ?_
 refine wp_skip ?_
 refine wp_seq ?_
 refine wp_seq ?_
 refine rt [rV (.int .i64 (resE (parseR T2))), rV (.int .i64 (resE (parseR T2))), rV (.bool (decide (400 < T2.length)))] hz hd ?_ ?_
 refine ⟨?_, ?_, ?_, trivial⟩
 exact zMv hz (sv S21)
 exact zC1 hz Tryz.func25 (sd 0 rfl) (k1 (fun _ => l_errno))
 exact sBin rfl rfl rfl hz rfl (Gd.none_ rfl) rfl (sd 1 rfl) kc (fun w => o_en hE2 w)
 clear hz hd
 intro a' γ' W' hz hd hC hk hh
 have tp7 := Cp7.lt
 replace Cp7 := kC hC Cp7
 have tp18 := Cp18.lt
 replace Cp18 := kC hC Cp18
 replace S13 := kp hk S13
 replace S3 := kp hk S3
 replace S20 := kp hk S20
 clear S21
 clear S120
 have S123 := gV hz 2 hh
 clear tp7 tp18
 replace HB := aB HB hC
 clear hC hk hh
 have hc24 : 400 < T2.length := (by have := hc19; omega)
 rw [decide_eq_true hc24] at S123
 refine wp_cond_true S123.ev ?_
 refine wp_seq ?_
 refine rt [rV (.bool true), rV (.bool true)] hz hd ?_ ?_
 refine ⟨?_, ?_, trivial⟩
 exact zC0 hz Tryz.func12 (fun _ => l_started)
 exact zAs hz (sd 0 rfl)
 clear hz hd
 intro a' γ' W' hz hd hC hk hh
 have tp7 := Cp7.lt
 replace Cp7 := kC hC Cp7
 have tp18 := Cp18.lt
 replace Cp18 := kC hC Cp18
 replace S13 := kp hk S13
 replace S3 := kp hk S3
 replace S20 := kp hk S20
 clear S123
 have S8 := gV hz 1 hh
 clear tp7 tp18
 replace HB := aB HB hC
 clear hC hk hh
 refine wp_ret ?_
 refine ret_to (T := tV (.bool true)) (ret1 (by kernel_rfl) S8 hd ⟨_, rfl, rfl, HB⟩) ?_
 exact fun _ _ h => h

end Go.Proofs.YtfgnleoaibcegaaGreat.Rg

namespace Go.Proofs.YtfgnleoaibcegaaGreat.Rg

open Go.RowKit Go.ChangeShapes Go.WideShapes Go.ChangeAt Go.Deep

theorem by_in3 {w : World} {A : Option Addr} {n c : Nat} {l : List Int} (h : InI .u8 1 1 w A n c l) : (tBy 9223372036854775807 (l.map Int.toNat)).p (.slice A n c) w :=
  ⟨A, n, c, rfl, bat_in h, h.le, by have := h.le; have := h.reach; omega⟩
theorem numBack_walk (u : Int) (A0 : Option Addr) (n0 c0 : Nat) (l0 : List Int) (A1 : Option Addr) (n1 c1 : Nat) (l1 : List Int) (z : Int) (w : World) (hu : (Lit.int .u64 u).wf = true) (h0 : InI .u8 1 1 w A0 n0 c0 l0) (h1 : InI .u8 1 1 w A1 n1 c1 l1) (hz : (Lit.int .i64 z).wf = true) :
    Calls Tryz.prog 6 #[.int .u64 u, .slice A0 n0 c0, .slice A1 n1 c1, .int .i64 z] w fun e w' => e = .returned (.bool true) ∧ Below w.heap.size w w' := by
  obtain ⟨u, rfl, hu2⟩ := u64_r hu
  exact ret_out3 (numBack_ret (by_in3 h0) (by_in3 h1) hu2)
end Go.Proofs.YtfgnleoaibcegaaGreat.Rg

namespace Go.Proofs.YtfgnleoaibcegaaGreat.numBack
open Go.ChangeShapes Go.WideShapes Go.ChangeAt Go.RowKit Go.Deep
open Go.ChangeMaps (open_string shut_string)

theorem own : ownKnob Tryz.prog.godebug = none := by kernel_rfl
theorem laidOut : laidOutB Tryz.prog = true := by kernel_rfl

set_option maxRecDepth 100000 in
theorem lifted (os : Os) (started : os.Started) (H : Type) (enc : TypeId × Value → H) :
    ReturnsInHanded {} Tryz.checked os 6 .any (Rows.numBackSpec.pre6 enc Tryz.prog Tryz.f6 Rows.numBackRow.domain false) (Rows.numBackSpec.post enc Tryz.prog Tryz.f6 false true false false) := by
  refine returnsInHanded_of_change_sized (C := Tryz.checked) own started (by kernel_rfl) Tryz.func6
    (ChangeSpec.witness6 (enc := enc) (C := Tryz.checked) false ⟨#[], #[.int .u64 0, .slice none 0 0, .slice none 0 0, .int .i64 0], []⟩ 8 (by kernel_rfl) (by kernel_rfl) (by kernel_rfl) (by kernel_rfl)) ?_
  intro W base args ds gs before hval0 hW hcnd hsz0 _
  have hsz : (DataW.weightsEach Tryz.prog (Tryz.f6.params.toList ++ Rows.numBackSpec.plain.varTypes Tryz.prog) (ds ++ gs)).all (· ≤ reachBytes) = true := hsz0
  clear hsz0
  have hval : ∀ (j : Nat) t v, Tryz.f6.params[j]? = some t → args[j]? = some v → Value.okWide Tryz.prog W .any base t v := hval0
  have hW' := hW
  obtain ⟨p, q, hA0, hV, rfl, hfz, hnd⟩ := hW
  have hA : DataW.TrodAll enc Tryz.prog W 0 (fun _ => true) true Tryz.f6.params.toList args.toList ds p := hA0
  rw [Tryz.params6] at hA hval hsz
  obtain ⟨v0, vs0, d0, ds0, p0, q0, hargs, rfl, rfl, h0, r0⟩ := trodAll_cons hA
  obtain ⟨v1, vs1, d1, ds1, p1, q1, rfl, rfl, rfl, h1, r1⟩ := trodAll_cons r0
  obtain ⟨v2, vs2, d2, ds2, p2, q2, rfl, rfl, rfl, h2, r2⟩ := trodAll_cons r1
  obtain ⟨v3, vs3, d3, ds3, p3, q3, rfl, rfl, rfl, h3, r3⟩ := trodAll_cons r2
  obtain ⟨rfl, rfl, rfl⟩ := trodAll_nil r3
  obtain rfl : args = #[v0, v1, v2, v3] := by cases args; simp_all
  obtain ⟨rfl, rfl⟩ := trodVars_none hV
  obtain ⟨a0, rfl, rfl, rfl, w0⟩ := open_int Tryz.underlying23 (hval 0 23 v0 rfl rfl) h0
  obtain ⟨a1, len1, cap1, rfl⟩ := okWide_slice Tryz.underlying22 (hval 1 22 v1 rfl rfl)
  have k1 := h1
  have lt1 : ∀ x ∈ p1, x.block < W.heap.size := by obtain ⟨m, hm⟩ := k1; exact DataW.trod_lt m _ _ _ hm
  obtain ⟨z1, w1⟩ := in_ints (k := .u8) (bytes := 1) Tryz.underlying22 Tryz.underlying5 (by kernel_rfl) (by kernel_rfl) h1 (fun elems spare hd => sized_slice hsz (j := 1) rfl (by rw [hd]; rfl) Tryz.underlying22)
  obtain ⟨a2, len2, cap2, rfl⟩ := okWide_slice Tryz.underlying22 (hval 2 22 v2 rfl rfl)
  have k2 := h2
  have lt2 : ∀ x ∈ p2, x.block < W.heap.size := by obtain ⟨m, hm⟩ := k2; exact DataW.trod_lt m _ _ _ hm
  obtain ⟨z2, w2⟩ := in_ints (k := .u8) (bytes := 1) Tryz.underlying22 Tryz.underlying5 (by kernel_rfl) (by kernel_rfl) h2 (fun elems spare hd => sized_slice hsz (j := 2) rfl (by rw [hd]; rfl) Tryz.underlying22)
  obtain ⟨a3, rfl, rfl, rfl, w3⟩ := open_int Tryz.underlying3 (hval 3 3 v3 rfl rfl) h3
  clear hA0 hval0
  refine (Rg.numBack_walk a0 a1 len1 cap1 z1 a2 len2 cap2 z2 a3 W w0 w1 w2 w3).mono fun e W' ⟨he, bel⟩ => ?_
  subst he
  exact ⟨_, rfl, _, _, _, [], _, [], hW', trodAll_mk1 (shut_bool Tryz.underlying4 _), (trodAll_cons_mk (shut_int Tryz.underlying23 w0) (trodAll_cons_mk (Below.trod laidOut (by kernel_rfl) (of_decide_eq_true (by kernel_rfl)) k1 bel lt1) (trodAll_cons_mk (Below.trod laidOut (by kernel_rfl) (of_decide_eq_true (by kernel_rfl)) k2 bel lt2) (trodAll_cons_mk (shut_int Tryz.underlying3 w3) trodAll_mk0)))), rfl, bel.frame _, fun h => by cases h⟩

theorem proved : Rows.NumBackSaid :=
  OpenClaim.holds_of_wide 6 Tryz.f6 rfl rfl rfl rfl rfl rfl rfl ⟨rfl, rfl, rfl, rfl, rfl⟩ rfl rfl rfl rfl rfl (by kernel_rfl) Tryz.func6 (by kernel_rfl)
    (of_decide_eq_true (by kernel_rfl)) (by unfold Func.isWrapper; first | (rw [if_pos (by decide +kernel)]; kernel_rfl) | (rw [if_neg (by decide +kernel)]; exact ⟨rfl, rfl⟩))
    (fun os started H enc _ => lifted os started H enc)
#print axioms proved
end Go.Proofs.YtfgnleoaibcegaaGreat.numBack
