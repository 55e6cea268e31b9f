/-
  Walks and plain laws, put together: VU WA WBH WC WDH WD VR WE WEW.
-/
import Derived.Test.YtfgnleoaibcegaaQj
import Derived.Test.YtfgnleoaibcegaaQh
import Derived.Laws.Strings
import Derived.Test.YtfgnleoaibcegaaXBC
import Derived.Test.YtfgnleoaibcegaaFr
set_option linter.unusedVariables false
set_option linter.unusedSimpArgs false
namespace Go.Proofs.Ytfgnleoaibcegaa.Rg

open Go.RowKit

theorem bat_take3 {w : World} {A : Option Addr} {n c k : Nat} {l : List Nat} (h : BAt w A n c l) (hk : k ≤ n) : BAt w A k c (l.take k) := by
  refine ⟨⟨by rw [bv_length, List.length_take, h.len]; omega, fun hk0 => ?_⟩, fun d hd => h.byte d (List.mem_of_mem_take hd)⟩
  obtain ⟨ad, e, hlt, hc⟩ := h.reads.2 (by omega)
  refine ⟨ad, e, hlt, fun j u hu => hc j u ?_⟩
  have hj : j < k := by have := (List.getElem?_eq_some_iff.1 hu).1; rw [bv_length, List.length_take] at this; omega
  unfold bv at hu ⊢
  rw [List.map_take, List.getElem?_take_of_lt hj] at hu
  exact hu
set_option maxHeartbeats 400000 in
theorem cut3_any (A : Option Addr) (n c : Nat) (l : List Nat) (w : World) (h : BAt w A n c l) (hnc : n ≤ c) :
    Calls Try.prog 37 #[.slice A n c] w fun e w' => ∃ n1, e = .returned (.slice A n1 c) ∧ BAt w' A n1 c (l.take 300) ∧ n1 ≤ 300 ∧ n1 ≤ c ∧ w = w' := by
  by_cases hn : n ≤ 300
  · have hl : l.take 300 = l := List.take_of_length_le (by rw [h.len]; exact hn)
    have b1 : decide ((300 : Int) < (n : Int)) = false := decide_eq_false (by omega)
    rw [hl]
    have H := Lib.hid h
    clear h
    go_enter Try.func37, Try.ntmps37
    go_wp2_with fail
    go_ret
    exact ⟨n, rfl, H.out, hn, hnc, rfl⟩
  · have hb := bat_take3 h (show 300 ≤ n by omega)
    have b1 : decide ((300 : Int) < (n : Int)) = true := decide_eq_true (by omega)
    have b2 : (300 : Int) ≤ (c : Int) := by omega
    have H := Lib.hid hb
    clear hb h
    go_enter Try.func37, Try.ntmps37
    go_wp2_with fail
    go_ret
    exact ⟨300, rfl, H.out, by omega, by omega, rfl⟩
theorem l_cut3 {lim : Nat} {l : List Nat} {v1 : Value} {w : World} (h1 : (tBy lim l).p v1 w) :
    Calls Try.prog 37 #[v1] w (Ret (tBy 300 (l.take 300)) w) := by
  obtain ⟨A, n, c, rfl, h, h2, -⟩ := h1
  refine (cut3_any A n c l w h h2).mono ?_
  rintro e w' ⟨k, rfl, hd, hk, hkc, rfl⟩
  exact ⟨_, rfl, ⟨A, k, c, rfl, hd, hkc, hk⟩, Below.refl _ _⟩
theorem bev_bits3 {l : List Nat} {m : Nat} (hm : 2400 ≤ m) (h : ∀ d ∈ l, d < 256) : bev (l.take 300) < 2 ^ m := by
  refine Nat.lt_of_lt_of_le (bev_lt fun d hd => h d (List.mem_of_mem_take hd)) ?_
  rw [show (256 : Nat) = 2 ^ 8 from rfl, ← Nat.pow_mul]
  exact Nat.pow_le_pow_right (by omega) (by have := List.length_take_le 300 l; omega)
theorem tBy_bits3 {v : Value} {w : World} {m lim : Nat} {l : List Nat} (hm : 2400 ≤ m) (h : (tBy lim l).p v w) : bev (l.take 300) < 2 ^ m := by
  obtain ⟨A, n, c, rfl, h, -, -⟩ := h
  exact bev_bits3 hm h.byte
theorem one_2400 {m : Nat} (hm : 2400 ≤ m) : 1 < 2 ^ m := Nat.one_lt_two_pow (by omega)
/-- The fraction that is made of two rows of bytes. -/
def mk3 (l k : List Nat) : Rat := mkRat (bev (l.take 300)) (und (bev (k.take 300)))
theorem ret2_q {fn : Func} {w0 : World} {a : Act} {w : World} {t1 t2 p1 p2 l1 l2 : Nat} {x1 x2 : Rat} (h : fn.results = #[.cell t1 27, .cell t2 35]) (s1 : Sl a t1 (.pointer (some ⟨p1, 0, none⟩))) (s2 : Sl a t2 (.pointer (some ⟨p2, 0, none⟩))) (hdf : a.defers = [])
    (c1 : Cell 27 (tQ B64 l1 x1) p1 w) (c2 : Cell 35 (tQ B32 l2 x2) p2 w) (hb : Below w0.heap.size w0 w) : bodyPost Try.prog fn (Ret (tT [tQ B64 l1 x1, tQ B32 l2 x2]) w0) .ret a w := by
  obtain ⟨v1, b1, h1⟩ := c1
  obtain ⟨v2, b2, h2⟩ := c2
  refine bodyPost_ret (v := .tuple #[v1, v2]) ?_ hdf ⟨_, rfl, ⟨[v1, v2], rfl, h1, h2, trivial⟩, hb⟩
  obtain ⟨p, q, ⟨A, n, c, A2, n2, c2, rfl, -⟩, -⟩ := h1
  obtain ⟨p', q', ⟨A', n', c', A3, n3, c3, rfl, -⟩, -⟩ := h2
  have e1 := b1.cell 0
  have e2 := b2.cell 0
  have e3 := b1.cell 1
  have e4 := b2.cell 1
  unfold Sl at s1 s2
  simp [Value.cells] at e1 e2 e3 e4
  simp [results, h, go_sem, s1, s2, e1, e2, e3, e4]

set_option maxRecDepth 10000 in
set_option maxHeartbeats 2000000 in
theorem l_made3 {m : Nat} {l k : List Nat} {v0 v1 : Value} {w : World} (h0 : (tBy 9223372036854775807 l).p v0 w) (h1 : (tBy 9223372036854775807 k).p v1 w) (hm : 2400 ≤ m) :
    Calls Try.prog 11 #[v0, v1] w (Ret (tT [tQ B64 m (mk3 l k), tQ B32 m (mk3 l k)]) w) := by
 refine enter Try.func11 rfl Try.ntmps11 (by simp) ?_
 intro a hz hd ha
 have S0 := ha 0 _ rfl
 have H0 := h0
 have S1 := ha 1 _ rfl
 have H1 := h1
 clear ha
 have HB : Below w.heap.size w w := Below.refl _ _
 have hP := Lib.hid (tBy_bits3 hm h0)
 have hQ := Lib.hid (tBy_bits3 hm h1)
 refine wp_seq ?_
 refine region_text (M := []) (
  rB 0 27 (tQ B64 1 0) none 0 ::
  rB 1 35 (tR B32 0 0 0 0) none 0 ::
  []) hz hd (by kernel_rfl) ?_ ?_
 refine ⟨?_, ?_, trivial⟩
 exact zNew hz (fun _ => tQ_nil) al_r64
 exact zNew hz (fun _ => tR_nil) al_r32
 intro a' γ' W' hz' hd' hC hk hh
 replace S0 := kp hk S0
 replace H0 := Ty.aft _ H0 hC
 replace S1 := kp hk S1
 replace H1 := Ty.aft _ H1 hC
 obtain ⟨p1, S4, Cp1, lp1, gp1⟩ := gotB hz' 0 hC hh rfl rfl rfl rfl rfl rfl
 obtain ⟨p2, S5, Cp2, lp2, gp2⟩ := gotB hz' 1 hC hh rfl rfl rfl rfl rfl rfl
 have n_p1_p2 : p1 ≠ p2 := by intro e; rw [e, gp2] at gp1; omega
 have n_p2_p1 : p2 ≠ p1 := by intro e; rw [e, gp1] at gp2; omega
 have bp1 : w.heap.size ≤ p1 := Nat.le_trans HB.size lp1
 have bp2 : w.heap.size ≤ p2 := Nat.le_trans HB.size lp2
 clear lp1 gp1 lp2 gp2
 replace HB := aft_call HB (RelC.below_nil hC)
 clear hC hk hh; replace hz := hz'; replace hd := hd'; clear hz' hd'
 refine wp_seq ?_
 refine region_text (M := []) (
  rT (tBy 9223372036854775807 l) ::
  rT (tBy 300 (l.take 300)) ::
  rT (tBy 9223372036854775807 k) ::
  rT (tBy 300 (k.take 300)) ::
  rT (tBy 300 (l.take 300)) ::
  rT (tBy 300 (k.take 300)) ::
  []) hz hd (by kernel_rfl) ?_ ?_
 refine ⟨?_, ?_, ?_, ?_, ?_, ?_, trivial⟩
 exact zMv hz (so S0 H0)
 exact zC1 hz Try.func37 (sd 0 rfl) (fun _ _ h0 => l_cut3 h0)
 exact zMv hz (so S1 H1)
 exact zC1 hz Try.func37 (sd 2 rfl) (fun _ _ h0 => l_cut3 h0)
 exact zAs hz (sd 1 rfl)
 exact zAs hz (sd 3 rfl)
 intro a' γ' W' hz' hd' hC hk hh
 have tp1 := Cp1.lt
 replace Cp1 := kC hC Cp1
 have tp2 := Cp2.lt
 replace Cp2 := kC hC Cp2
 clear S0 H0
 clear S1 H1
 replace S4 := kp hk S4
 replace S5 := kp hk S5
 obtain ⟨v0, S0, H0⟩ := got hz' 4 hh rfl rfl rfl rfl
 obtain ⟨v1, S1, H1⟩ := got hz' 5 hh rfl rfl rfl rfl
 clear tp1 tp2
 replace HB := aft_call HB (RelC.below_nil hC)
 clear hC hk hh; replace hz := hz'; replace hd := hd'; clear hz' hd'
 refine wp_seq ?_
 refine region_text (M := []) (
  rT (tBy 300 (l.take 300)) ::
  rT (tN B64 300 (bev (l.take 300))) ::
  rT (tBy 300 (k.take 300)) ::
  rT (tN B64 300 (bev (k.take 300))) ::
  rT (tT [tQ B64 m (mkRat (bev (l.take 300)) (bev (k.take 300))), tV (.bool (decide (bev (k.take 300) ≠ 0)))]) ::
  rT (tT [tQ B64 m (mkRat (bev (l.take 300)) (bev (k.take 300))), tV (.bool (decide (bev (k.take 300) ≠ 0)))]) ::
  rT (tQ B64 m (mkRat (bev (l.take 300)) (bev (k.take 300)))) ::
  rT (tV (.bool (decide (bev (k.take 300) ≠ 0)))) ::
  rVar 8 27 2 ::
  rB 8 27 (tQ B64 m (mkRat (bev (l.take 300)) (bev (k.take 300)))) (some 8) 9 ::
  rT (tV (.bool (decide (bev (k.take 300) ≠ 0)))) ::
  []) hz hd (by kernel_rfl) ?_ ?_
 refine ⟨?_, ?_, ?_, ?_, ?_, ?_, ?_, ?_, ?_, ?_, ?_, trivial⟩
 exact zMv hz (so S0 H0)
 exact zC1 hz Try.func38 (sd 0 rfl) (fun _ _ h0 => c_fb h0 (by decide))
 exact zMv hz (so S1 H1)
 exact zC1 hz Try.func38 (sd 2 rfl) (fun _ _ h0 => c_fb h0 (by decide))
 exact zC2 hz Try.func18 (sd 1 rfl) (sd 3 rfl) (fun _ _ _ h0 h1 => cq_from (l := m) h0 h1 (by decide) (by decide) hP.out hQ.out (by omega))
 exact zMv hz (sd 4 rfl)
 exact zExt hz (sd 5 rfl)
 exact zExt hz (sd 5 rfl)
 exact zAl hz nd_rat al_r64
 exact zSt (sd 6 rfl) st_q64
 exact zAs hz (sd 7 rfl)
 intro a' γ' W' hz' hd' hC hk hh
 have ep1 := Cp1.lt
 have ep2 := Cp2.lt
 have tp1 := Cp1.lt
 replace Cp1 := kC hC Cp1
 have tp2 := Cp2.lt
 replace Cp2 := kC hC Cp2
 replace S4 := kp hk S4
 replace S5 := kp hk S5
 replace S0 := kp hk S0
 replace H0 := Ty.aft _ H0 hC
 replace S1 := kp hk S1
 replace H1 := Ty.aft _ H1 hC
 obtain ⟨p3, S6, Cp3, lp3, gp3⟩ := gotB hz' 9 hC hh rfl rfl rfl rfl rfl rfl
 have S7 := gotV hz' 10 hh rfl rfl rfl rfl
 have n_p3_p1 : p3 ≠ p1 := by omega
 have n_p3_p2 : p3 ≠ p2 := by omega
 have n_p1_p3 : p1 ≠ p3 := by have := ep1; omega
 have n_p2_p3 : p2 ≠ p3 := by have := ep2; omega
 have bp3 : w.heap.size ≤ p3 := Nat.le_trans HB.size lp3
 clear lp3 gp3
 clear tp1 tp2
 clear ep1 ep2
 replace HB := aft_call HB (RelC.below_nil hC)
 clear hC hk hh; replace hz := hz'; replace hd := hd'; clear hz' hd'
 refine wp_seq ?_
 refine region_text (M := []) (
  rT (tBy 300 (l.take 300)) ::
  rT (tN B32 300 (bev (l.take 300))) ::
  rT (tBy 300 (k.take 300)) ::
  rT (tN B32 300 (bev (k.take 300))) ::
  rT (tT [tQ B32 m (mkRat (bev (l.take 300)) (bev (k.take 300))), tV (.bool (decide (bev (k.take 300) ≠ 0)))]) ::
  rT (tT [tQ B32 m (mkRat (bev (l.take 300)) (bev (k.take 300))), tV (.bool (decide (bev (k.take 300) ≠ 0)))]) ::
  rT (tQ B32 m (mkRat (bev (l.take 300)) (bev (k.take 300)))) ::
  rT (tV (.bool (decide (bev (k.take 300) ≠ 0)))) ::
  rVar 8 35 2 ::
  rB 8 35 (tQ B32 m (mkRat (bev (l.take 300)) (bev (k.take 300)))) (some 8) 9 ::
  rT (tV (.bool (decide (bev (k.take 300) ≠ 0)))) ::
  []) hz hd (by kernel_rfl) ?_ ?_
 refine ⟨?_, ?_, ?_, ?_, ?_, ?_, ?_, ?_, ?_, ?_, ?_, trivial⟩
 exact zMv hz (so S0 H0)
 exact zC1 hz Try.func39 (sd 0 rfl) (fun _ _ h0 => d_fb h0 (by decide))
 exact zMv hz (so S1 H1)
 exact zC1 hz Try.func39 (sd 2 rfl) (fun _ _ h0 => d_fb h0 (by decide))
 exact zC2 hz Try.func30 (sd 1 rfl) (sd 3 rfl) (fun _ _ _ h0 h1 => dq_from (l := m) h0 h1 (by decide) (by decide) hP.out hQ.out (by omega))
 exact zMv hz (sd 4 rfl)
 exact zExt hz (sd 5 rfl)
 exact zExt hz (sd 5 rfl)
 exact zAl hz nd_rat al_r32
 exact zSt (sd 6 rfl) st_q32
 exact zAs hz (sd 7 rfl)
 intro a' γ' W' hz' hd' hC hk hh
 have ep1 := Cp1.lt
 have ep2 := Cp2.lt
 have ep3 := Cp3.lt
 have tp1 := Cp1.lt
 replace Cp1 := kC hC Cp1
 have tp2 := Cp2.lt
 replace Cp2 := kC hC Cp2
 have tp3 := Cp3.lt
 replace Cp3 := kC hC Cp3
 replace S4 := kp hk S4
 replace S5 := kp hk S5
 replace S0 := kp hk S0
 replace H0 := Ty.aft _ H0 hC
 clear S1 H1
 replace S6 := kp hk S6
 replace S7 := kp hk S7
 obtain ⟨p4, S8, Cp4, lp4, gp4⟩ := gotB hz' 9 hC hh rfl rfl rfl rfl rfl rfl
 have S9 := gotV hz' 10 hh rfl rfl rfl rfl
 have n_p4_p1 : p4 ≠ p1 := by omega
 have n_p4_p2 : p4 ≠ p2 := by omega
 have n_p4_p3 : p4 ≠ p3 := by omega
 have n_p1_p4 : p1 ≠ p4 := by have := ep1; omega
 have n_p2_p4 : p2 ≠ p4 := by have := ep2; omega
 have n_p3_p4 : p3 ≠ p4 := by have := ep3; omega
 have bp4 : w.heap.size ≤ p4 := Nat.le_trans HB.size lp4
 clear lp4 gp4
 clear tp1 tp2 tp3
 clear ep1 ep2 ep3
 replace HB := aft_call HB (RelC.below_nil hC)
 clear hC hk hh; replace hz := hz'; replace hd := hd'; clear hz' hd'
 refine wp_seq ?_
 refine wp_seq ?_
 by_cases hc5 : bev (k.take 300) ≠ 0
 rw [decide_eq_true hc5] at S7
 rw [decide_eq_true hc5] at S9
 refine region_text (M := []) (
  rT (tV (.bool true)) ::
  rT (tV (.bool false)) ::
  []) hz hd (by kernel_rfl) ?_ ?_
 refine ⟨?_, ?_, trivial⟩
 exact zMv hz (sv S7)
 exact zNot hz (sd 0 rfl)
 intro a' γ' W' hz' hd' hC hk hh
 have tp1 := Cp1.lt
 replace Cp1 := kC hC Cp1
 have tp2 := Cp2.lt
 replace Cp2 := kC hC Cp2
 have tp3 := Cp3.lt
 replace Cp3 := kC hC Cp3
 have tp4 := Cp4.lt
 replace Cp4 := kC hC Cp4
 replace S4 := kp hk S4
 replace S5 := kp hk S5
 replace S0 := kp hk S0
 replace H0 := Ty.aft _ H0 hC
 replace S6 := kp hk S6
 clear S7
 replace S8 := kp hk S8
 replace S9 := kp hk S9
 have S31 := gotV hz' 1 hh rfl rfl rfl rfl
 clear tp1 tp2 tp3 tp4
 replace HB := aft_call HB (RelC.below_nil hC)
 clear hC hk hh; replace hz := hz'; replace hd := hd'; clear hz' hd'
 refine wp_cond_false S31.ev ?_
 refine wp_skip ?_
 refine wp_seq ?_
 refine wp_seq ?_
 refine region_text (M := []) (
  rT (tV (.bool true)) ::
  rT (tV (.bool false)) ::
  []) hz hd (by kernel_rfl) ?_ ?_
 refine ⟨?_, ?_, trivial⟩
 exact zMv hz (sv S9)
 exact zNot hz (sd 0 rfl)
 intro a' γ' W' hz' hd' hC hk hh
 have tp1 := Cp1.lt
 replace Cp1 := kC hC Cp1
 have tp2 := Cp2.lt
 replace Cp2 := kC hC Cp2
 have tp3 := Cp3.lt
 replace Cp3 := kC hC Cp3
 have tp4 := Cp4.lt
 replace Cp4 := kC hC Cp4
 replace S4 := kp hk S4
 replace S5 := kp hk S5
 replace S0 := kp hk S0
 replace H0 := Ty.aft _ H0 hC
 replace S6 := kp hk S6
 replace S8 := kp hk S8
 clear S9
 clear S31
 have S40 := gotV hz' 1 hh rfl rfl rfl rfl
 clear tp1 tp2 tp3 tp4
 replace HB := aft_call HB (RelC.below_nil hC)
 clear hC hk hh; replace hz := hz'; replace hd := hd'; clear hz' hd'
 refine wp_cond_false S40.ev ?_
 refine wp_skip ?_
 refine wp_seq ?_
 refine region_drawn (M := [p1, p2]) (
  rT (tQ B64 m (mkRat (bev (l.take 300)) (bev (k.take 300)))) ::
  rT (tQ B32 m (mkRat (bev (l.take 300)) (bev (k.take 300)))) ::
  rE 0 27 (tQ B64 m (mkRat (bev (l.take 300)) (bev (k.take 300)))) p1 ::
  rE 1 35 (tQ B32 m (mkRat (bev (l.take 300)) (bev (k.take 300)))) p2 ::
  []) hz hd (by kernel_rfl) (by kernel_rfl) ?_ ?_
 refine ⟨?_, ?_, ?_, ?_, trivial⟩
 exact zLd hz (sv S6) Cp3 ld_q64 (by simp [tagOf, n_p3_p1, n_p3_p2])
 exact zLd hz (sv S8) Cp4 ld_q32 (by simp [tagOf, n_p4_p1, n_p4_p2])
 exact zSE rfl (sv S4) (by simp [tagOf]) (Cp1.var tQ_nd) (sd 0 rfl) st_q64
 exact zSE rfl (sv S5) (by simp [tagOf, n_p2_p1]) (Cp2.var tR_nd) (sd 1 rfl) st_q32
 intro a' γ' W' hz' hd' hC hk hh
 replace Cp1 := gotE (T := tQ B64 m (mkRat (bev (l.take 300)) (bev (k.take 300)))) (id := 27) (p := p1) 2 hh rfl rfl
 replace Cp2 := gotE (T := tQ B32 m (mkRat (bev (l.take 300)) (bev (k.take 300)))) (id := 35) (p := p2) 3 hh rfl rfl
 have tp3 := Cp3.lt
 clear Cp3
 have tp4 := Cp4.lt
 clear Cp4
 replace S4 := kp hk S4
 replace S5 := kp hk S5
 clear S0 H0
 clear S6
 clear S8
 clear S40
 clear tp3 tp4
 replace HB := RelC.aftM HB hC (by intro m hm; simp at hm; rcases hm with rfl | rfl <;> assumption)
 clear hC hk hh; replace hz := hz'; replace hd := hd'; clear hz' hd'
 refine wp_ret ?_
 refine ret_to (T := tT [tQ B64 m (mkRat (bev (l.take 300)) (bev (k.take 300))), tQ B32 m (mkRat (bev (l.take 300)) (bev (k.take 300)))]) (ret2_q (by kernel_rfl) S4 S5 hd Cp1 Cp2 HB) ?_
 exact to2 (tQ_to (by decide) (by unfold mk3; rw [und_of hc5]) (by omega)) (tQ_to (by decide) (by unfold mk3; rw [und_of hc5]) (by omega))
 rw [decide_eq_false hc5] at S7
 rw [decide_eq_false hc5] at S9
 refine region_text (M := []) (
  rT (tV (.bool false)) ::
  rT (tV (.bool true)) ::
  []) hz hd (by kernel_rfl) ?_ ?_
 refine ⟨?_, ?_, trivial⟩
 exact zMv hz (sv S7)
 exact zNot hz (sd 0 rfl)
 intro a' γ' W' hz' hd' hC hk hh
 have tp1 := Cp1.lt
 replace Cp1 := kC hC Cp1
 have tp2 := Cp2.lt
 replace Cp2 := kC hC Cp2
 have tp3 := Cp3.lt
 replace Cp3 := kC hC Cp3
 have tp4 := Cp4.lt
 replace Cp4 := kC hC Cp4
 replace S4 := kp hk S4
 replace S5 := kp hk S5
 replace S0 := kp hk S0
 replace H0 := Ty.aft _ H0 hC
 replace S6 := kp hk S6
 clear S7
 replace S8 := kp hk S8
 replace S9 := kp hk S9
 have S31 := gotV hz' 1 hh rfl rfl rfl rfl
 clear tp1 tp2 tp3 tp4
 replace HB := aft_call HB (RelC.below_nil hC)
 clear hC hk hh; replace hz := hz'; replace hd := hd'; clear hz' hd'
 refine wp_cond_true S31.ev ?_
 refine region_text (M := [p3]) (
  rT (tBy 300 (l.take 300)) ::
  rT (tN B64 300 (bev (l.take 300))) ::
  rT (tN B64 1 1) ::
  rT (tT [tQ B64 m (mkRat (bev (l.take 300)) 1), tV (.bool (decide (1 ≠ 0)))]) ::
  rT (tT [tQ B64 m (mkRat (bev (l.take 300)) 1), tV (.bool (decide (1 ≠ 0)))]) ::
  rT (tQ B64 m (mkRat (bev (l.take 300)) 1)) ::
  rT (tV (.bool (decide (1 ≠ 0)))) ::
  rE 0 27 (tQ B64 m (mkRat (bev (l.take 300)) 1)) p3 ::
  []) hz hd (by kernel_rfl) ?_ ?_
 refine ⟨?_, ?_, ?_, ?_, ?_, ?_, ?_, ?_, trivial⟩
 exact zMv hz (so S0 H0)
 exact zC1 hz Try.func38 (sd 0 rfl) (fun _ _ h0 => c_fb h0 (by decide))
 exact zC1 hz Try.func16 (kc (v := .int .u64 1)) (k1 (fun _ => c_of (by decide)))
 exact zC2 hz Try.func18 (sd 1 rfl) (sd 2 rfl) (fun _ _ _ h0 h1 => cq_from (l := m) h0 h1 (by decide) (by decide) hP.out (one_2400 hm) (by omega))
 exact zMv hz (sd 3 rfl)
 exact zExt hz (sd 4 rfl)
 exact zExt hz (sd 4 rfl)
 exact zSE rfl (sv S6) (by simp [tagOf]) (Cp3.var tQ_nd) (sd 5 rfl) st_q64
 intro a' γ' W' hz' hd' hC hk hh
 have tp1 := Cp1.lt
 replace Cp1 := kC hC Cp1 (by simp [tagOf, n_p1_p3])
 have tp2 := Cp2.lt
 replace Cp2 := kC hC Cp2 (by simp [tagOf, n_p2_p3])
 replace Cp3 := gotE (T := tQ B64 m (mkRat (bev (l.take 300)) 1)) (id := 27) (p := p3) 7 hh rfl rfl
 have tp4 := Cp4.lt
 replace Cp4 := kC hC Cp4 (by simp [tagOf, n_p4_p3])
 replace S4 := kp hk S4
 replace S5 := kp hk S5
 replace S0 := kp hk S0
 replace H0 := Ty.aft _ H0 hC
 replace S6 := kp hk S6
 replace S8 := kp hk S8
 replace S9 := kp hk S9
 clear S31
 clear tp1 tp2 tp4
 replace HB := RelC.aftM HB hC (by intro m hm; simp at hm; rcases hm with rfl <;> assumption)
 clear hC hk hh; replace hz := hz'; replace hd := hd'; clear hz' hd'
 refine wp_seq ?_
 refine wp_seq ?_
 refine region_text (M := []) (
  rT (tV (.bool false)) ::
  rT (tV (.bool true)) ::
  []) hz hd (by kernel_rfl) ?_ ?_
 refine ⟨?_, ?_, trivial⟩
 exact zMv hz (sv S9)
 exact zNot hz (sd 0 rfl)
 intro a' γ' W' hz' hd' hC hk hh
 have tp1 := Cp1.lt
 replace Cp1 := kC hC Cp1
 have tp2 := Cp2.lt
 replace Cp2 := kC hC Cp2
 have tp3 := Cp3.lt
 replace Cp3 := kC hC Cp3
 have tp4 := Cp4.lt
 replace Cp4 := kC hC Cp4
 replace S4 := kp hk S4
 replace S5 := kp hk S5
 replace S0 := kp hk S0
 replace H0 := Ty.aft _ H0 hC
 replace S6 := kp hk S6
 replace S8 := kp hk S8
 clear S9
 have S40 := gotV hz' 1 hh rfl rfl rfl rfl
 clear tp1 tp2 tp3 tp4
 replace HB := aft_call HB (RelC.below_nil hC)
 clear hC hk hh; replace hz := hz'; replace hd := hd'; clear hz' hd'
 refine wp_cond_true S40.ev ?_
 refine region_text (M := [p4]) (
  rT (tBy 300 (l.take 300)) ::
  rT (tN B32 300 (bev (l.take 300))) ::
  rT (tN B32 2 1) ::
  rT (tT [tQ B32 m (mkRat (bev (l.take 300)) 1), tV (.bool (decide (1 ≠ 0)))]) ::
  rT (tT [tQ B32 m (mkRat (bev (l.take 300)) 1), tV (.bool (decide (1 ≠ 0)))]) ::
  rT (tQ B32 m (mkRat (bev (l.take 300)) 1)) ::
  rT (tV (.bool (decide (1 ≠ 0)))) ::
  rE 0 35 (tQ B32 m (mkRat (bev (l.take 300)) 1)) p4 ::
  []) hz hd (by kernel_rfl) ?_ ?_
 refine ⟨?_, ?_, ?_, ?_, ?_, ?_, ?_, ?_, trivial⟩
 exact zMv hz (so S0 H0)
 exact zC1 hz Try.func39 (sd 0 rfl) (fun _ _ h0 => d_fb h0 (by decide))
 exact zC1 hz Try.func28 (kc (v := .int .u64 1)) (k1 (fun _ => d_of (by decide)))
 exact zC2 hz Try.func30 (sd 1 rfl) (sd 2 rfl) (fun _ _ _ h0 h1 => dq_from (l := m) h0 h1 (by decide) (by decide) hP.out (one_2400 hm) (by omega))
 exact zMv hz (sd 3 rfl)
 exact zExt hz (sd 4 rfl)
 exact zExt hz (sd 4 rfl)
 exact zSE rfl (sv S8) (by simp [tagOf]) (Cp4.var tQ_nd) (sd 5 rfl) st_q32
 intro a' γ' W' hz' hd' hC hk hh
 have tp1 := Cp1.lt
 replace Cp1 := kC hC Cp1 (by simp [tagOf, n_p1_p4])
 have tp2 := Cp2.lt
 replace Cp2 := kC hC Cp2 (by simp [tagOf, n_p2_p4])
 have tp3 := Cp3.lt
 replace Cp3 := kC hC Cp3 (by simp [tagOf, n_p3_p4])
 replace Cp4 := gotE (T := tQ B32 m (mkRat (bev (l.take 300)) 1)) (id := 35) (p := p4) 7 hh rfl rfl
 replace S4 := kp hk S4
 replace S5 := kp hk S5
 clear S0 H0
 replace S6 := kp hk S6
 replace S8 := kp hk S8
 clear S40
 clear tp1 tp2 tp3
 replace HB := RelC.aftM HB hC (by intro m hm; simp at hm; rcases hm with rfl <;> assumption)
 clear hC hk hh; replace hz := hz'; replace hd := hd'; clear hz' hd'
 refine wp_seq ?_
 refine region_drawn (M := [p1, p2]) (
  rT (tQ B64 m (mkRat (bev (l.take 300)) 1)) ::
  rT (tQ B32 m (mkRat (bev (l.take 300)) 1)) ::
  rE 0 27 (tQ B64 m (mkRat (bev (l.take 300)) 1)) p1 ::
  rE 1 35 (tQ B32 m (mkRat (bev (l.take 300)) 1)) p2 ::
  []) hz hd (by kernel_rfl) (by kernel_rfl) ?_ ?_
 refine ⟨?_, ?_, ?_, ?_, trivial⟩
 exact zLd hz (sv S6) Cp3 ld_q64 (by simp [tagOf, n_p3_p1, n_p3_p2])
 exact zLd hz (sv S8) Cp4 ld_q32 (by simp [tagOf, n_p4_p1, n_p4_p2])
 exact zSE rfl (sv S4) (by simp [tagOf]) (Cp1.var tQ_nd) (sd 0 rfl) st_q64
 exact zSE rfl (sv S5) (by simp [tagOf, n_p2_p1]) (Cp2.var tR_nd) (sd 1 rfl) st_q32
 intro a' γ' W' hz' hd' hC hk hh
 replace Cp1 := gotE (T := tQ B64 m (mkRat (bev (l.take 300)) 1)) (id := 27) (p := p1) 2 hh rfl rfl
 replace Cp2 := gotE (T := tQ B32 m (mkRat (bev (l.take 300)) 1)) (id := 35) (p := p2) 3 hh rfl rfl
 have tp3 := Cp3.lt
 clear Cp3
 have tp4 := Cp4.lt
 clear Cp4
 replace S4 := kp hk S4
 replace S5 := kp hk S5
 clear S6
 clear S8
 clear tp3 tp4
 replace HB := RelC.aftM HB hC (by intro m hm; simp at hm; rcases hm with rfl | rfl <;> assumption)
 clear hC hk hh; replace hz := hz'; replace hd := hd'; clear hz' hd'
 refine wp_ret ?_
 refine ret_to (T := tT [tQ B64 m (mkRat (bev (l.take 300)) 1), tQ B32 m (mkRat (bev (l.take 300)) 1)]) (ret2_q (by kernel_rfl) S4 S5 hd Cp1 Cp2 HB) ?_
 exact to2 (tQ_to (by decide) (by unfold mk3; rw [Decidable.not_not.1 hc5]; rfl) (by omega)) (tQ_to (by decide) (by unfold mk3; rw [Decidable.not_not.1 hc5]; rfl) (by omega))

end Go.Proofs.Ytfgnleoaibcegaa.Rg

namespace Go.Proofs.Ytfgnleoaibcegaa.Rg

open Go.RowKit
end Go.Proofs.Ytfgnleoaibcegaa.Rg

namespace Go.Proofs.Ytfgnleoaibcegaa.Rg

open Go.RowKit

section

variable {x y : Rat}
theorem mk3_nonneg (l k : List Nat) : 0 ≤ mk3 l k := by
  unfold mk3
  rw [← Rat.divInt_ofNat]
  exact Rat.divInt_nonneg (Int.natCast_nonneg _) (Int.natCast_nonneg _)
end

section

variable {l m p q n : Nat} {L M S : List Nat} {x : Rat} {v v0 v1 : Value} {w : World}
theorem l_made3_n {l1 l2 : Nat} (ex : mk3 L M = x) (h0 : (tBy l1 L).p v0 w) (h1 : (tBy l2 M).p v1 w) (b1 : l1 ≤ 9223372036854775807) (b2 : l2 ≤ 9223372036854775807) (hm : 2400 ≤ m) : Calls Try.prog 11 #[v0, v1] w (Ret (tT [tQ B64 m x, tQ B32 m x]) w) := by
  rw [← ex]
  obtain ⟨A, a, c, e1, e2, e3, e4⟩ := h0
  obtain ⟨A', a', c', e1', e2', e3', e4'⟩ := h1
  exact l_made3 (m := m) ⟨A, a, c, e1, e2, e3, by omega⟩ ⟨A', a', c', e1', e2', e3', by omega⟩ hm
end
end Go.Proofs.Ytfgnleoaibcegaa.Rg

namespace Go.Proofs.Ytfgnleoaibcegaa.Rg

open Go.RowKit

/-- How far A is from V times B. -/
def far (A B V : Nat) : Nat := (A - V * B) + (V * B - A)
section

variable {K p q : Nat}
theorem near_parts (hq : 0 < q) : IsRn (p * 2 ^ K) (q * 2 ^ nearS K p q) (nearH K p q) := rn_is (Nat.mul_pos hq (Nat.two_pow_pos _))
theorem near_up (hq : 0 < q) : far (p * 2 ^ K) q (VX (nearN K p q)) ≤ far (p * 2 ^ K) q (VX (nearN K p q + 1)) ∧ (far (p * 2 ^ K) q (VX (nearN K p q)) = far (p * 2 ^ K) q (VX (nearN K p q + 1)) → nearN K p q % 2 = 0) := by
  have I := near_parts (K := K) (p := p) hq
  have hH := nearH_up (K := K) (p := p) hq
  have hlo := fun h => nearH_lo (K := K) (p := p) hq h
  have hV := VX_near (K := K) (p := p) hq
  have hN : nearN K p q = nearS K p q * 4503599627370496 + nearH K p q := rfl
  rw [hV]
  generalize nearS K p q = S at *
  generalize nearH K p q = H at *
  generalize nearN K p q = N at *
  subst hN
  generalize p * 2 ^ K = A at *
  have hQ : 0 < q * 2 ^ S := Nat.mul_pos hq (Nat.two_pow_pos _)
  have e1 : H * 2 ^ S * q = H * (q * 2 ^ S) := by rw [Nat.mul_assoc, Nat.mul_comm (2 ^ S)]
  obtain ⟨i1, i2, i3, i4⟩ := I
  unfold far
  by_cases c : H = 9007199254740992
  · have e2 : VX (S * 4503599627370496 + H + 1) = (4503599627370496 + 1) * 2 ^ (S + 1) := by
      rw [← VX_of (s := S + 1) (h := 4503599627370496 + 1) (by omega) (fun _ => by omega)]
      exact congrArg VX (by omega)
    have e3 : (4503599627370496 + 1) * 2 ^ (S + 1) * q = H * (q * 2 ^ S) + 2 * (q * 2 ^ S) := by
      rw [c, Nat.pow_succ, Nat.mul_comm q (2 ^ S)]
      generalize 2 ^ S = z
      rw [show (4503599627370496 + 1) * (z * 2) * q = 9007199254740994 * (z * q) by rw [Nat.mul_assoc, Nat.mul_assoc, Nat.mul_comm 2 q, ← Nat.mul_assoc z]; omega]
      omega
    rw [e2, e3, e1]
    generalize H * (q * 2 ^ S) = X at *
    generalize q * 2 ^ S = Q at *
    constructor
    · omega
    · intro h; omega
  · have e2 : VX (S * 4503599627370496 + H + 1) = (H + 1) * 2 ^ S := by
      rw [← VX_of (s := S) (h := H + 1) (by omega) (fun h => by have := hlo h; omega)]
      exact congrArg VX (by omega)
    have e3 : (H + 1) * 2 ^ S * q = H * (q * 2 ^ S) + q * 2 ^ S := by
      rw [Nat.mul_assoc, Nat.mul_comm (2 ^ S), Nat.add_mul, Nat.one_mul]
    rw [e2, e3, e1]
    generalize H * (q * 2 ^ S) = X at *
    generalize q * 2 ^ S = Q at *
    constructor
    · omega
    · intro h
      have := i4 (by omega)
      omega
theorem near_dn (hq : 0 < q) (h0 : 0 < nearN K p q) : far (p * 2 ^ K) q (VX (nearN K p q)) ≤ far (p * 2 ^ K) q (VX (nearN K p q - 1)) ∧ (far (p * 2 ^ K) q (VX (nearN K p q)) = far (p * 2 ^ K) q (VX (nearN K p q - 1)) → nearN K p q % 2 = 0) := by
  have I := near_parts (K := K) (p := p) hq
  have hH := nearH_up (K := K) (p := p) hq
  have hlo := fun h => nearH_lo (K := K) (p := p) hq h
  have hSlo := fun h => nearS_lo (K := K) (p := p) hq h
  have hV := VX_near (K := K) (p := p) hq
  have hN : nearN K p q = nearS K p q * 4503599627370496 + nearH K p q := rfl
  rw [hV]
  generalize nearS K p q = S at *
  generalize nearH K p q = H at *
  generalize nearN K p q = N at *
  subst hN
  generalize p * 2 ^ K = A at *
  have hQ : 0 < q * 2 ^ S := Nat.mul_pos hq (Nat.two_pow_pos _)
  have e1 : H * 2 ^ S * q = H * (q * 2 ^ S) := by rw [Nat.mul_assoc, Nat.mul_comm (2 ^ S)]
  obtain ⟨i1, i2, i3, i4⟩ := I
  unfold far
  by_cases c : S ≠ 0 ∧ H = 4503599627370496
  · obtain ⟨c1, c2⟩ := c
    obtain ⟨R, rfl⟩ : ∃ R, S = R + 1 := ⟨S - 1, by omega⟩
    have e2 : VX ((R + 1) * 4503599627370496 + H - 1) = 9007199254740991 * 2 ^ R := by
      rw [← VX_of (s := R) (h := 9007199254740991) (by omega) (fun _ => by omega)]
      exact congrArg VX (by omega)
    have hA : H * (q * 2 ^ (R + 1)) ≤ A := by
      have := hSlo c1
      rw [Nat.pow_add, show (2 : Nat) ^ 52 = 4503599627370496 from rfl, ← Nat.mul_assoc, Nat.mul_comm] at this
      rw [c2]; exact this
    have e3 : 2 * (9007199254740991 * 2 ^ R * q) + q * 2 ^ (R + 1) = 2 * (H * (q * 2 ^ (R + 1))) := by
      rw [c2, Nat.pow_succ]
      generalize 2 ^ R = z
      rw [show q * (z * 2) = 2 * (z * q) by rw [Nat.mul_comm q, Nat.mul_comm z 2, Nat.mul_assoc], Nat.mul_assoc 9007199254740991]
      omega
    rw [e2, e1]
    generalize H * (q * 2 ^ (R + 1)) = X at *
    generalize 9007199254740991 * 2 ^ R * q = Y at *
    generalize q * 2 ^ (R + 1) = Q at *
    constructor
    · omega
    · intro h; omega
  · have hH1 : 1 ≤ H := by
      rcases Nat.eq_zero_or_pos S with h | h
      · subst h; omega
      · have := hlo (by omega); omega
    have e2 : VX (S * 4503599627370496 + H - 1) = (H - 1) * 2 ^ S := by
      rw [← VX_of (s := S) (h := H - 1) (by omega) (fun h => by have := hlo h; have : H ≠ 4503599627370496 := fun h2 => c ⟨h, h2⟩; omega)]
      exact congrArg VX (by omega)
    have e3 : (H - 1) * 2 ^ S * q + q * 2 ^ S = H * (q * 2 ^ S) := by
      rw [Nat.mul_assoc, Nat.mul_comm (2 ^ S)]
      obtain ⟨G, rfl⟩ : ∃ G, H = G + 1 := ⟨H - 1, by omega⟩
      rw [Nat.add_sub_cancel, Nat.add_mul, Nat.one_mul]
    rw [e2, e1]
    generalize H * (q * 2 ^ S) = X at *
    generalize (H - 1) * 2 ^ S * q = Y at *
    generalize q * 2 ^ S = Q at *
    constructor
    · omega
    · intro h
      have := i3 (by omega)
      omega
theorem top_at : ∀ J, J = 970 → nearN 1074 (18014398509481983 * 2 ^ J) 1 = 9218868437227405312 := by rintro J rfl; decide +kernel
/-- A number is told just below the middle behind the greatest one. -/
theorem near_top {J : Nat} (hK : K = 1074) (hJ : J = 970) (hq : 0 < q) : nearN K p q < 9218868437227405312 ↔ p < 18014398509481983 * 2 ^ J * q := by
  constructor
  · intro h
    rcases Nat.lt_or_ge p (18014398509481983 * 2 ^ J * q) with c | c
    · exact c
    · exfalso
      have h1 := nearN_mono (K := K) (p := 18014398509481983 * 2 ^ J) (q := 1) (p' := p) (q' := q) (by decide) hq (by omega)
      have h2 := top_at J hJ
      rw [← hK] at h2
      omega
  · intro h
    have I := near_parts (K := K) (p := p) hq
    have hH := nearH_up (K := K) (p := p) hq
    have hN : nearN K p q = nearS K p q * 4503599627370496 + nearH K p q := rfl
    have hA : 2 * (p * 2 ^ K) < 18014398509481983 * (q * 2 ^ (J + K + 1)) := by
      have h1 := Nat.mul_lt_mul_of_pos_right h (Nat.two_pow_pos K)
      have e : 18014398509481983 * 2 ^ J * q * 2 ^ K = 18014398509481983 * (q * 2 ^ (J + K)) := by
        rw [Nat.pow_add, Nat.mul_assoc, Nat.mul_assoc, Nat.mul_left_comm (2 ^ J) q]
      rw [e] at h1
      have e2 : q * 2 ^ (J + K + 1) = 2 * (q * 2 ^ (J + K)) := by rw [Nat.pow_succ, ← Nat.mul_assoc, Nat.mul_comm]
      rw [e2]; omega
    have hS : nearS K p q ≤ 2045 := by
      unfold nearS
      have : bl (p * 2 ^ K / q) ≤ 2098 := by
        obtain ⟨Z, hZ⟩ : ∃ Z, Z = 2098 := ⟨_, rfl⟩
        rw [← hZ]
        refine bl_le ((Nat.div_lt_iff_lt_mul hq).2 ?_)
        have e : (2 : Nat) ^ Z = 9007199254740992 * 2 ^ (J + K + 1) := by
          rw [show (9007199254740992 : Nat) = 2 ^ 53 from rfl, ← Nat.pow_add]; congr 1; omega
        rw [e, Nat.mul_assoc, Nat.mul_comm (2 ^ (J + K + 1)) q]
        omega
      omega
    by_cases c : nearS K p q = 2045
    · have hlt : nearH K p q < 9007199254740992 := by
        rcases Nat.lt_or_ge (nearH K p q) 9007199254740992 with c2 | c2
        · exact c2
        · exfalso
          have e : nearH K p q = 9007199254740992 := by omega
          have i1 := I.lo
          rw [e, c, show 2045 = J + K + 1 by omega] at i1
          omega
      omega
    · omega
end

end Go.Proofs.Ytfgnleoaibcegaa.Rg

namespace Go.Proofs.Ytfgnleoaibcegaa.Rg

open Go.RowKit

def gapQ (x y : Rat) : Rat := if y ≤ x then x - y else y - x
theorem mk_eq {a c : Int} {b d : Nat} (hb : b ≠ 0) (hd : d ≠ 0) (h : a * (d : Int) = c * (b : Int)) : mkRat a b = mkRat c d := (Rat.mkRat_eq_iff hb hd).2 h
theorem two_ne (n : Nat) : (2 ^ n : Nat) ≠ 0 := Nat.ne_of_gt (Nat.two_pow_pos n)
theorem fl_VX {u K : Nat} (hK : K = 1074) (hu : u < 9218868437227405312) : fl u = mkRat ((VX u : Nat) : Int) (2 ^ K) := by
  have he : ex u = u / 4503599627370496 := by unfold ex; omega
  by_cases h0 : ex u = 0
  · have hv : VX u = u := by unfold VX; rw [if_pos (by omega)]
    unfold fl
    rw [if_pos (by omega), ← hK, hv, show ma u = u by unfold ma; omega]
  · have hv : VX u = (ma u + 4503599627370496) * 2 ^ (ex u - 1) := by unfold VX; rw [if_neg (by omega), he]; rfl
    unfold fl
    rw [if_neg (by omega), hv]
    by_cases h1 : ex u < 1075
    · rw [if_pos (by omega)]
      refine mk_eq (two_ne _) (two_ne _) ?_
      rw [← Int.natCast_mul, ← Int.natCast_mul, Int.ofNat_inj, Nat.mul_assoc, ← Nat.pow_add, show ex u - 1 + (1075 - ex u) = K by omega]
    · rw [if_neg (by omega)]
      refine mk_eq (by decide) (two_ne _) ?_
      rw [← Int.natCast_mul, ← Int.natCast_mul, Int.ofNat_inj, Nat.mul_one, Nat.mul_assoc, ← Nat.pow_add, show ex u - 1075 + K = ex u - 1 by omega]
section

variable {x y : Rat} {D V V' : Nat}
theorem rat_den (hx : 0 ≤ x) : x * ((x.den : Nat) : Rat) = ((x.num.toNat : Nat) : Rat) := by
  have h := Rat.mkRat_self x
  rw [← num_i hx, Rat.mkRat_eq_div] at h
  have hd : ((x.den : Nat) : Rat) ≠ 0 := by
    rw [show (0 : Rat) = ((0 : Nat) : Rat) from rfl, Ne, Rat.natCast_inj]
    exact x.den_nz
  conv => lhs; lhs; rw [← h]
  exact Rat.div_mul_cancel hd
theorem val_den (hD : 0 < D) : mkRat ((V : Nat) : Int) D * ((D : Nat) : Rat) = ((V : Nat) : Rat) := by
  rw [Rat.mkRat_eq_div]
  have hd : ((D : Nat) : Rat) ≠ 0 := by
    rw [show (0 : Rat) = ((0 : Nat) : Rat) from rfl, Ne, Rat.natCast_inj]
    omega
  exact Rat.div_mul_cancel hd
theorem cast_pos {n : Nat} (h : 0 < n) : (0 : Rat) < ((n : Nat) : Rat) := by
  rw [show (0 : Rat) = ((0 : Nat) : Rat) from rfl]
  exact Rat.natCast_lt_natCast.2 h
theorem cast_sub {a b : Nat} (h : b ≤ a) : ((a - b : Nat) : Rat) = ((a : Nat) : Rat) - ((b : Nat) : Rat) := by
  obtain ⟨c, rfl⟩ : ∃ c, a = b + c := ⟨a - b, by omega⟩
  rw [Nat.add_sub_cancel_left, Rat.natCast_add]
  grind
/-- How far, in whole numbers. -/
theorem gap_mul (hx : 0 ≤ x) (hD : 0 < D) : gapQ x (mkRat ((V : Nat) : Int) D) * ((x.den * D : Nat) : Rat) = ((far (x.num.toNat * D) x.den V : Nat) : Rat) := by
  have h1 := rat_den hx
  have h2 := val_den (V := V) hD
  have hc : (0 : Rat) < ((x.den * D : Nat) : Rat) := cast_pos (Nat.mul_pos x.den_pos hD)
  have e1 : x * ((x.den * D : Nat) : Rat) = ((x.num.toNat * D : Nat) : Rat) := by
    rw [Rat.natCast_mul, Rat.natCast_mul, ← Rat.mul_assoc, h1]
  have e2 : mkRat ((V : Nat) : Int) D * ((x.den * D : Nat) : Rat) = ((V * x.den : Nat) : Rat) := by
    rw [Nat.mul_comm x.den, Rat.natCast_mul, Rat.natCast_mul, ← Rat.mul_assoc, h2]
  generalize mkRat ((V : Nat) : Int) D = z at *
  generalize hcc : ((x.den * D : Nat) : Rat) = c at *
  unfold gapQ far
  by_cases h : z ≤ x
  · rw [if_pos h]
    have hle : V * x.den ≤ x.num.toNat * D := by
      have := Rat.mul_le_mul_of_nonneg_right h (Rat.le_of_lt hc)
      rw [e1, e2] at this
      exact Rat.natCast_le_natCast.1 this
    rw [show x.num.toNat * D - V * x.den + (V * x.den - x.num.toNat * D) = x.num.toNat * D - V * x.den by omega, cast_sub hle, ← e1, ← e2]
    grind
  · rw [if_neg h]
    have hle : x.num.toNat * D ≤ V * x.den := by
      have := Rat.mul_le_mul_of_nonneg_right (Rat.le_of_lt (Rat.not_le.1 h)) (Rat.le_of_lt hc)
      rw [e1, e2] at this
      exact Rat.natCast_le_natCast.1 this
    rw [show x.num.toNat * D - V * x.den + (V * x.den - x.num.toNat * D) = V * x.den - x.num.toNat * D by omega, cast_sub hle, ← e1, ← e2]
    grind
theorem gap_le (hx : 0 ≤ x) (hD : 0 < D) (h : far (x.num.toNat * D) x.den V ≤ far (x.num.toNat * D) x.den V') : ¬ gapQ x (mkRat ((V' : Nat) : Int) D) < gapQ x (mkRat ((V : Nat) : Int) D) := by
  intro c
  have hc : (0 : Rat) < ((x.den * D : Nat) : Rat) := cast_pos (Nat.mul_pos x.den_pos hD)
  have := Rat.mul_lt_mul_of_pos_right c hc
  rw [gap_mul hx hD, gap_mul hx hD] at this
  have := Rat.natCast_lt_natCast.1 this
  omega
theorem gap_eq (hx : 0 ≤ x) (hD : 0 < D) (h : gapQ x (mkRat ((V : Nat) : Int) D) = gapQ x (mkRat ((V' : Nat) : Int) D)) : far (x.num.toNat * D) x.den V = far (x.num.toNat * D) x.den V' := by
  have := congrArg (fun z => z * ((x.den * D : Nat) : Rat)) h
  simp only [gap_mul hx hD] at this
  exact Rat.natCast_inj.1 this
end

section

variable {x : Rat} {N : Nat}
theorem nn_up1 (hx : 0 ≤ x) (eN : tfD x.num.toNat x.den = N) (h : N + 1 < 9218868437227405312) : ¬ gapQ x (fl (N + 1)) < gapQ x (fl N) := by
  obtain ⟨K, hK⟩ : ∃ K : Nat, K = 1074 := ⟨_, rfl⟩
  rw [fl_VX (u := N) hK (by omega), fl_VX (u := N + 1) hK h]
  have := near_up (K := K) (p := x.num.toNat) x.den_pos
  rw [show nearN K x.num.toNat x.den = N by rw [hK]; exact eN] at this
  exact gap_le hx (Nat.two_pow_pos K) this.1
theorem nn_up2 (hx : 0 ≤ x) (eN : tfD x.num.toNat x.den = N) (h : N + 1 < 9218868437227405312) (he : gapQ x (fl N) = gapQ x (fl (N + 1))) : ¬ N % 2 = 1 := by
  obtain ⟨K, hK⟩ : ∃ K : Nat, K = 1074 := ⟨_, rfl⟩
  rw [fl_VX (u := N) hK (by omega), fl_VX (u := N + 1) hK h] at he
  have := near_up (K := K) (p := x.num.toNat) x.den_pos
  rw [show nearN K x.num.toNat x.den = N by rw [hK]; exact eN] at this
  have := this.2 (gap_eq hx (Nat.two_pow_pos K) he)
  omega
theorem nn_dn1 (hx : 0 ≤ x) (eN : tfD x.num.toNat x.den = N) (h : N < 9218868437227405312) (h0 : 0 < N) : ¬ gapQ x (fl (N - 1)) < gapQ x (fl N) := by
  obtain ⟨K, hK⟩ : ∃ K : Nat, K = 1074 := ⟨_, rfl⟩
  rw [fl_VX (u := N - 1) hK (by omega), fl_VX (u := N) hK h]
  have e : nearN K x.num.toNat x.den = N := by rw [hK]; exact eN
  have := near_dn (K := K) (p := x.num.toNat) x.den_pos (by omega)
  rw [e] at this
  exact gap_le hx (Nat.two_pow_pos K) this.1
theorem nn_dn2 (hx : 0 ≤ x) (eN : tfD x.num.toNat x.den = N) (h : N < 9218868437227405312) (h0 : 0 < N) (he : gapQ x (fl N) = gapQ x (fl (N - 1))) : ¬ N % 2 = 1 := by
  obtain ⟨K, hK⟩ : ∃ K : Nat, K = 1074 := ⟨_, rfl⟩
  rw [fl_VX (u := N) hK h, fl_VX (u := N - 1) hK (by omega)] at he
  have e : nearN K x.num.toNat x.den = N := by rw [hK]; exact eN
  have := near_dn (K := K) (p := x.num.toNat) x.den_pos (by omega)
  rw [e] at this
  have := this.2 (gap_eq hx (Nat.two_pow_pos K) he)
  omega
theorem nn_top {J : Nat} (hJ : J = 970) (hx : 0 ≤ x) (eN : tfD x.num.toNat x.den = N) : x < mkRat ((18014398509481983 * 2 ^ J : Nat) : Int) 1 ↔ N < 9218868437227405312 := by
  obtain ⟨K, hK⟩ : ∃ K : Nat, K = 1074 := ⟨_, rfl⟩
  have e : nearN K x.num.toNat x.den = N := by rw [hK]; exact eN
  rw [← e, near_top hK hJ x.den_pos, Rat.mkRat_one, Rat.lt_iff, Rat.num_intCast, Rat.den_intCast, ← num_i hx]
  rw [show (((1 : Nat)) : Int) = 1 from rfl, Int.mul_one, ← Int.natCast_mul]
  exact Int.ofNat_lt
end

end Go.Proofs.Ytfgnleoaibcegaa.Rg

namespace Go.Proofs.Ytfgnleoaibcegaa.Rg

open Go.RowKit

theorem c_leftK (K : Nat) {l x k : Nat} {v : Value} {w : World} (h : (tN B64 l x).p v w) (hl : l ≤ big) (hk : k ≤ K) (hK : K ≤ 16777216) : Calls Try.prog 17 #[v, .int .i64 ((k : Nat) : Int)] w (Ret (tT [tN B64 (l + K) (x * 2 ^ k), tV (.bool true)]) w) := by
  have hb : big = 1099511627776 := big_eq
  have h1 := c_left (k := ((k : Nat) : Int)) h hl (by omega) (by omega)
  have e1 : leftOk x ((k : Nat) : Int) = true := by unfold leftOk; rw [decide_eq_true (show ((k : Nat) : Int) ≤ 16777216 by omega), Bool.or_true]
  have e2 : leftV x ((k : Nat) : Int) = x * 2 ^ k := by unfold leftV; rw [if_neg (by omega), if_pos e1, Int.toNat_natCast]
  rw [e1, e2] at h1
  refine h1.mono ?_
  rintro e w' ⟨v', rfl, ⟨m, rfl, hm⟩, hbel⟩
  refine ⟨_, rfl, ⟨m, rfl, ?_⟩, hbel⟩
  match m, hm with
  | [a, b], ⟨⟨A, n, c, e3, hd, hn⟩, hb2, ht⟩ =>
    refine ⟨⟨A, n, c, e3, hd, hd.le (by decide) ?_⟩, hb2, ht⟩
    obtain ⟨A0, n0, c0, rfl, hd0, hn0⟩ := h
    have h1 : x < B64 ^ l := Nat.lt_of_lt_of_le (DAt.lt (by decide) hd0) (Nat.pow_le_pow_right (by decide) hn0)
    have h2 : 2 ^ k ≤ B64 ^ K := Nat.le_trans (Nat.pow_le_pow_left (by decide : 2 ≤ B64) k) (Nat.pow_le_pow_right (by decide) hk)
    rw [Nat.pow_add]
    exact Nat.lt_of_lt_of_le (Nat.mul_lt_mul_of_pos_right h1 (Nat.two_pow_pos k)) (Nat.mul_le_mul_left _ h2)
theorem c_left970 {J l x : Nat} {v : Value} {w : World} (hJ : J = 970) (h : (tN B64 l x).p v w) (hl : l ≤ big) : Calls Try.prog 17 #[v, .int .i64 970] w (Ret (tT [tN B64 (l + 1000) (x * 2 ^ J), tV (.bool true)]) w) := by
  have := c_leftK 1000 (k := J) (w := w) h hl (by omega) (by decide)
  rw [show ((J : Nat) : Int) = 970 by omega] at this; exact this
section

variable {u l : Nat}
theorem fv_0 {K : Nat} (hK : K = 1074) (h : ¬ 0 < ex u) : mkRat ((ma u : Nat) : Int) (1 * 2 ^ (K - ex u)) = fl u := by
  unfold fl; rw [if_pos (by omega), Nat.one_mul, show K - ex u = K by omega, ← hK]
theorem fv_1 (h : 0 < ex u) (h2 : 1074 ≤ ex u - 1) : mkRat (((ma u + 4503599627370496) * 2 ^ (ex u - 1 - 1074) : Nat) : Int) 1 = fl u := by
  unfold fl; rw [if_neg (by omega), if_neg (by omega), show ex u - 1 - 1074 = ex u - 1075 by omega]
theorem fv_2 {K : Nat} (hK : K = 1074) (h : 0 < ex u) (h2 : ¬ 1074 ≤ ex u - 1) : mkRat ((ma u + 4503599627370496 : Nat) : Int) (1 * 2 ^ (K - (ex u - 1))) = fl u := by
  unfold fl; rw [if_neg (by omega), if_pos (by omega), Nat.one_mul, show K - (ex u - 1) = 1075 - ex u by omega]
theorem fb_4 {l : Nat} (h : 1100 ≤ l) : (ma u + 4503599627370496) * 2 ^ (ex u - 1 - 1074) < 2 ^ l := by
  rw [show ex u - 1 - 1074 = ex u - 1075 by omega]; exact fb_3 h
end
theorem o_ge1074 {i : Nat} {ox oy : Operand} {id : TypeId} (w : World) : (do eqGuard .geq id ox oy (.int .i64 ((i : Nat) : Int)) (.int .i64 1074); binOp .geq id (.int .i64 ((i : Nat) : Int)) (.int .i64 1074) : Sem Value).run Try.prog w = .ok (.bool (decide (1074 ≤ i))) w := by
  have e : decide ((1074 : Int) ≤ ((i : Nat) : Int)) = decide (1074 ≤ i) := by rw [decide_eq_decide]; omega
  rw [← e]
  simp only [eqGuard]; simp [go_sem]
theorem o_sub74 {i : Nat} {ox oy : Operand} {id : TypeId} (h : 1074 ≤ i) (h2 : i ≤ 3000) (w : World) : (do eqGuard .sub id ox oy (.int .i64 ((i : Nat) : Int)) (.int .i64 1074); binOp .sub id (.int .i64 ((i : Nat) : Int)) (.int .i64 1074) : Sem Value).run Try.prog w = .ok (.int .i64 ((i - 1074 : Nat) : Int)) w := by
  have e : IntKind.i64.wrap (((i : Nat) : Int) - 1074) = ((i - 1074 : Nat) : Int) := by rw [IntKind.wrap_i64]; omega
  simp [go_sem, e]
theorem o_74sub {K i : Nat} {ox oy : Operand} {id : TypeId} (hK : K = 1074) (h : i ≤ 1074) (w : World) : (do eqGuard .sub id ox oy (.int .i64 1074) (.int .i64 ((i : Nat) : Int)); binOp .sub id (.int .i64 1074) (.int .i64 ((i : Nat) : Int)) : Sem Value).run Try.prog w = .ok (.int .i64 ((K - i : Nat) : Int)) w := by
  have e : IntKind.i64.wrap (1074 - ((i : Nat) : Int)) = ((K - i : Nat) : Int) := by rw [IntKind.wrap_i64]; omega
  simp [go_sem, e]
section

variable {x y : Rat}
theorem gap_1 (h : y ≤ x) : subQ x y = gapQ x y := by unfold gapQ subQ; rw [if_pos h, if_pos h]
theorem gap_2 (h : ¬ y ≤ x) : subQ y x = gapQ x y := by unfold gapQ subQ; rw [if_neg h, if_pos (Rat.le_of_lt (Rat.not_le.1 h))]
end
set_option maxRecDepth 10000 in
set_option maxHeartbeats 2000000 in
theorem l_value {l u : Nat} {w : World}  (hu : u < 18446744073709551616) (hl : 1100 ≤ l) :
    Calls Try.prog 21 #[.int .u64 (u : Int)] w (Ret (tQ B64 l (fl u)) w) := by
 refine enter Try.func21 rfl Try.ntmps21 (by simp) ?_
 intro a hz hd ha
 have S0 := ha 0 _ rfl
 clear ha
 have HB : Below w.heap.size w w := Below.refl _ _
 have hex := ex_lt u
 have hma := ma_lt u
 obtain ⟨K74, e74⟩ : ∃ K : Nat, K = 1074 := ⟨_, rfl⟩
 refine wp_seq ?_
 refine region_text (M := []) (
  rB 0 27 (tQ B64 1 0) none 0 ::
  []) hz hd (by kernel_rfl) ?_ ?_
 refine ⟨?_, trivial⟩
 exact zNew hz (fun _ => tQ_nil) al_r64
 intro a' γ' W' hz' hd' hC hk hh
 replace S0 := kp hk S0
 obtain ⟨p1, S2, Cp1, lp1, gp1⟩ := gotB hz' 0 hC hh rfl rfl rfl rfl rfl rfl
 have bp1 : w.heap.size ≤ p1 := Nat.le_trans HB.size lp1
 clear lp1 gp1
 replace HB := aft_call HB (RelC.below_nil hC)
 clear hC hk hh; replace hz := hz'; replace hd := hd'; clear hz' hd'
 refine wp_seq ?_
 refine region_text (M := []) (
  rT (tV (.int .u64 (u : Int))) ::
  rT (tV (.int .u64 ((u / 4503599627370496 : Nat) : Int))) ::
  rT (tV (.int .u64 ((ex u : Nat) : Int))) ::
  rT (tV (.int .i64 ((ex u : Nat) : Int))) ::
  rT (tV (.int .i64 ((ex u : Nat) : Int))) ::
  []) hz hd (by kernel_rfl) ?_ ?_
 refine ⟨?_, ?_, ?_, ?_, ?_, trivial⟩
 exact zMv hz (sv S0)
 exact sBin rfl rfl rfl hz rfl (Gd.none_ rfl) rfl (sd 0 rfl) kc (fun w => f_shr w)
 exact sBin rfl rfl rfl hz rfl (Gd.none_ rfl) rfl (sd 1 rfl) kc (fun w => f_ex hu w)
 exact sConv (T' := tV (.int .u64 ((ex u : Nat) : Int))) rfl rfl rfl hz rfl (Gd.none_ rfl) rfl (sd 2 rfl) (fun v_ w_ h_ => by have h_ : v_ = .int .u64 ((ex u : Nat) : Int) := h_; subst h_; exact ⟨_, by exact cv_ex _, rfl⟩)
 exact zAs hz (sd 3 rfl)
 intro a' γ' W' hz' hd' hC hk hh
 have tp1 := Cp1.lt
 replace Cp1 := kC hC Cp1
 replace S0 := kp hk S0
 replace S2 := kp hk S2
 have S3 := gotV hz' 4 hh rfl rfl rfl rfl
 clear tp1
 replace HB := aft_call HB (RelC.below_nil hC)
 clear hC hk hh; replace hz := hz'; replace hd := hd'; clear hz' hd'
 refine wp_seq ?_
 refine region_text (M := []) (
  rT (tV (.int .u64 (u : Int))) ::
  rT (tV (.int .u64 ((ma u : Nat) : Int))) ::
  rT (tV (.int .u64 ((ma u : Nat) : Int))) ::
  []) hz hd (by kernel_rfl) ?_ ?_
 refine ⟨?_, ?_, ?_, trivial⟩
 exact zMv hz (sv S0)
 exact sBin rfl rfl rfl hz rfl (Gd.none_ rfl) rfl (sd 0 rfl) kc (fun w => f_ma hu w)
 exact zAs hz (sd 1 rfl)
 intro a' γ' W' hz' hd' hC hk hh
 have tp1 := Cp1.lt
 replace Cp1 := kC hC Cp1
 clear S0
 replace S2 := kp hk S2
 replace S3 := kp hk S3
 have S4 := gotV hz' 2 hh rfl rfl rfl rfl
 clear tp1
 replace HB := aft_call HB (RelC.below_nil hC)
 clear hC hk hh; replace hz := hz'; replace hd := hd'; clear hz' hd'
 refine wp_seq ?_
 refine wp_seq ?_
 refine region_text (M := []) (
  rT (tV (.int .i64 ((ex u : Nat) : Int))) ::
  rT (tV (.bool (decide (0 < ex u)))) ::
  []) hz hd (by kernel_rfl) ?_ ?_
 refine ⟨?_, ?_, trivial⟩
 exact zMv hz (sv S3)
 exact sBin rfl rfl rfl hz rfl (Gd.none_ rfl) rfl (sd 0 rfl) kc (fun w => n_gt0 w)
 intro a' γ' W' hz' hd' hC hk hh
 have tp1 := Cp1.lt
 replace Cp1 := kC hC Cp1
 replace S2 := kp hk S2
 replace S3 := kp hk S3
 replace S4 := kp hk S4
 have S16 := gotV hz' 1 hh rfl rfl rfl rfl
 clear tp1
 replace HB := aft_call HB (RelC.below_nil hC)
 clear hC hk hh; replace hz := hz'; replace hd := hd'; clear hz' hd'
 by_cases hc2 : 0 < ex u
 rw [decide_eq_true hc2] at S16
 refine wp_cond_true S16.ev ?_
 refine wp_seq ?_
 refine region_text (M := []) (
  rT (tV (.int .u64 ((ma u : Nat) : Int))) ::
  rT (tV (.int .u64 ((ma u + 4503599627370496 : Nat) : Int))) ::
  rT (tV (.int .u64 ((ma u + 4503599627370496 : Nat) : Int))) ::
  []) hz hd (by kernel_rfl) ?_ ?_
 refine ⟨?_, ?_, ?_, trivial⟩
 exact zMv hz (sv S4)
 exact sBin rfl rfl rfl hz rfl (Gd.none_ rfl) rfl (sd 0 rfl) kc (fun w => f_m52 w)
 exact zAs hz (sd 1 rfl)
 intro a' γ' W' hz' hd' hC hk hh
 have tp1 := Cp1.lt
 replace Cp1 := kC hC Cp1
 replace S2 := kp hk S2
 replace S3 := kp hk S3
 clear S4
 clear S16
 have S4 := gotV hz' 2 hh rfl rfl rfl rfl
 clear tp1
 replace HB := aft_call HB (RelC.below_nil hC)
 clear hC hk hh; replace hz := hz'; replace hd := hd'; clear hz' hd'
 refine region_text (M := []) (
  rT (tV (.int .i64 ((ex u : Nat) : Int))) ::
  rT (tV (.int .i64 ((ex u - 1 : Nat) : Int))) ::
  rT (tV (.int .i64 ((ex u - 1 : Nat) : Int))) ::
  []) hz hd (by kernel_rfl) ?_ ?_
 refine ⟨?_, ?_, ?_, trivial⟩
 exact zMv hz (sv S3)
 exact sBin rfl rfl rfl hz rfl (Gd.none_ rfl) rfl (sd 0 rfl) kc (fun w => f_e1 hc2 w)
 exact zAs hz (sd 1 rfl)
 intro a' γ' W' hz' hd' hC hk hh
 have tp1 := Cp1.lt
 replace Cp1 := kC hC Cp1
 replace S2 := kp hk S2
 clear S3
 replace S4 := kp hk S4
 have S3 := gotV hz' 2 hh rfl rfl rfl rfl
 clear tp1
 replace HB := aft_call HB (RelC.below_nil hC)
 clear hC hk hh; replace hz := hz'; replace hd := hd'; clear hz' hd'
 refine wp_seq ?_
 refine region_text (M := []) (
  rT (tV (.int .u64 ((ma u + 4503599627370496 : Nat) : Int))) ::
  rT (tN B64 1 (ma u + 4503599627370496)) ::
  rT (tN B64 1 1) ::
  rVar 3 25 1 ::
  rVar 4 25 1 ::
  rB 3 25 (tN B64 1 (ma u + 4503599627370496)) (some 3) 4 ::
  rB 4 25 (tN B64 1 1) (some 4) 5 ::
  []) hz hd (by kernel_rfl) ?_ ?_
 refine ⟨?_, ?_, ?_, ?_, ?_, ?_, ?_, trivial⟩
 exact zMv hz (sv S4)
 exact zC1 hz Try.func16 (sd 0 rfl) (k1 (fun _ => c_of (by have := ma_lt u; unfold B64; omega)))
 exact zC1 hz Try.func16 (kc (v := .int .u64 1)) (k1 (fun _ => c_of (by decide)))
 exact zAl hz nd_slice al_n64
 exact zAl hz nd_slice al_n64
 exact zSt (sd 1 rfl) st_n64
 exact zSt (sd 2 rfl) st_n64
 intro a' γ' W' hz' hd' hC hk hh
 have ep1 := Cp1.lt
 have tp1 := Cp1.lt
 replace Cp1 := kC hC Cp1
 replace S2 := kp hk S2
 clear S4
 replace S3 := kp hk S3
 obtain ⟨p3, S5, Cp3, lp3, gp3⟩ := gotB hz' 5 hC hh rfl rfl rfl rfl rfl rfl
 obtain ⟨p4, S6, Cp4, lp4, gp4⟩ := gotB hz' 6 hC hh rfl rfl rfl rfl rfl rfl
 have n_p3_p1 : p3 ≠ p1 := by omega
 have n_p3_p4 : p3 ≠ p4 := by intro e; rw [e, gp4] at gp3; omega
 have n_p4_p1 : p4 ≠ p1 := by omega
 have n_p4_p3 : p4 ≠ p3 := by intro e; rw [e, gp3] at gp4; omega
 have n_p1_p3 : p1 ≠ p3 := by have := ep1; omega
 have n_p1_p4 : p1 ≠ p4 := by have := ep1; omega
 have bp3 : w.heap.size ≤ p3 := Nat.le_trans HB.size lp3
 have bp4 : w.heap.size ≤ p4 := Nat.le_trans HB.size lp4
 clear lp3 gp3 lp4 gp4
 clear tp1
 clear ep1
 replace HB := aft_call HB (RelC.below_nil hC)
 clear hC hk hh; replace hz := hz'; replace hd := hd'; clear hz' hd'
 refine wp_seq ?_
 refine wp_seq ?_
 refine region_text (M := []) (
  rT (tV (.int .i64 ((ex u - 1 : Nat) : Int))) ::
  rT (tV (.bool (decide (1074 ≤ ex u - 1)))) ::
  []) hz hd (by kernel_rfl) ?_ ?_
 refine ⟨?_, ?_, trivial⟩
 exact zMv hz (sv S3)
 exact sBin rfl rfl rfl hz rfl (Gd.none_ rfl) rfl (sd 0 rfl) kc (fun w => o_ge1074 w)
 intro a' γ' W' hz' hd' hC hk hh
 have tp1 := Cp1.lt
 replace Cp1 := kC hC Cp1
 have tp3 := Cp3.lt
 replace Cp3 := kC hC Cp3
 have tp4 := Cp4.lt
 replace Cp4 := kC hC Cp4
 replace S2 := kp hk S2
 replace S3 := kp hk S3
 replace S5 := kp hk S5
 replace S6 := kp hk S6
 have S25 := gotV hz' 1 hh rfl rfl rfl rfl
 clear tp1 tp3 tp4
 replace HB := aft_call HB (RelC.below_nil hC)
 clear hC hk hh; replace hz := hz'; replace hd := hd'; clear hz' hd'
 by_cases hc5 : 1074 ≤ ex u - 1
 rw [decide_eq_true hc5] at S25
 refine wp_cond_true S25.ev ?_
 refine region_text (M := [p3]) (
  rT (tN B64 1 (ma u + 4503599627370496)) ::
  rT (tV (.int .i64 ((ex u - 1 : Nat) : Int))) ::
  rT (tV (.int .i64 ((ex u - 1 - 1074 : Nat) : Int))) ::
  rT (tT [tN B64 2049 ((ma u + 4503599627370496) * 2 ^ (ex u - 1 - 1074)), tV (.bool true)]) ::
  rT (tT [tN B64 2049 ((ma u + 4503599627370496) * 2 ^ (ex u - 1 - 1074)), tV (.bool true)]) ::
  rT (tN B64 2049 ((ma u + 4503599627370496) * 2 ^ (ex u - 1 - 1074))) ::
  rT (tV (.bool true)) ::
  rE 0 25 (tN B64 2049 ((ma u + 4503599627370496) * 2 ^ (ex u - 1 - 1074))) p3 ::
  []) hz hd (by kernel_rfl) ?_ ?_
 refine ⟨?_, ?_, ?_, ?_, ?_, ?_, ?_, ?_, trivial⟩
 exact sLoadM rfl rfl rfl hz rfl (Gd.none_ rfl) rfl (sv S5) Cp3 (k := 0) (by simp [tagOf]) (by kernel_rfl) ld_n64
 exact zMv hz (sv S3)
 exact sBin rfl rfl rfl hz rfl (Gd.none_ rfl) rfl (sd 1 rfl) kc (fun w => o_sub74 hc5 (by omega) w)
 exact zC2 hz Try.func17 (sd 0 rfl) (sd 2 rfl) (k01 (fun _ _ h0 => c_leftK 2048 (k := ex u - 1 - 1074) h0 (by decide) (by omega) (by decide)))
 exact zMv hz (sd 3 rfl)
 exact zExt hz (sd 4 rfl)
 exact zExt hz (sd 4 rfl)
 exact zSE rfl (sv S5) (by simp [tagOf]) (Cp3.var tN_nd) (sd 5 rfl) st_n64
 intro a' γ' W' hz' hd' hC hk hh
 have tp1 := Cp1.lt
 replace Cp1 := kC hC Cp1 (by simp [tagOf, n_p1_p3])
 replace Cp3 := gotE (T := tN B64 2049 ((ma u + 4503599627370496) * 2 ^ (ex u - 1 - 1074))) (id := 25) (p := p3) 7 hh rfl rfl
 have tp4 := Cp4.lt
 replace Cp4 := kC hC Cp4 (by simp [tagOf, n_p4_p3])
 replace S2 := kp hk S2
 clear S3
 replace S5 := kp hk S5
 replace S6 := kp hk S6
 clear S25
 clear tp1 tp4
 replace HB := RelC.aftM HB hC (by intro m hm; simp at hm; rcases hm with rfl <;> assumption)
 clear hC hk hh; replace hz := hz'; replace hd := hd'; clear hz' hd'
 refine wp_seq ?_
 refine region_text (M := []) (
  rT (tN B64 2049 ((ma u + 4503599627370496) * 2 ^ (ex u - 1 - 1074))) ::
  rT (tN B64 1 1) ::
  rT (tT [tQ B64 l (mkRat (((ma u + 4503599627370496) * 2 ^ (ex u - 1 - 1074) : Nat) : Int) 1), tV (.bool (decide (1 ≠ 0)))]) ::
  rT (tT [tQ B64 l (mkRat (((ma u + 4503599627370496) * 2 ^ (ex u - 1 - 1074) : Nat) : Int) 1), tV (.bool (decide (1 ≠ 0)))]) ::
  rT (tQ B64 l (mkRat (((ma u + 4503599627370496) * 2 ^ (ex u - 1 - 1074) : Nat) : Int) 1)) ::
  rT (tV (.bool (decide (1 ≠ 0)))) ::
  rVar 6 27 2 ::
  rB 6 27 (tQ B64 l (mkRat (((ma u + 4503599627370496) * 2 ^ (ex u - 1 - 1074) : Nat) : Int) 1)) (some 6) 7 ::
  rT (tV (.bool (decide (1 ≠ 0)))) ::
  []) hz hd (by kernel_rfl) ?_ ?_
 refine ⟨?_, ?_, ?_, ?_, ?_, ?_, ?_, ?_, ?_, trivial⟩
 exact zLd hz (sv S5) Cp3 ld_n64
 exact zLd hz (sv S6) Cp4 ld_n64
 exact zC2 hz Try.func18 (sd 0 rfl) (sd 1 rfl) (fun _ _ _ h0 h1 => cq_from (l := l) h0 h1 (by decide) (by decide) (fb_4 (by omega)) (fb_one (by omega)) (by omega))
 exact zMv hz (sd 2 rfl)
 exact zExt hz (sd 3 rfl)
 exact zExt hz (sd 3 rfl)
 exact zAl hz nd_rat al_r64
 exact zSt (sd 4 rfl) st_q64
 exact zAs hz (sd 5 rfl)
 intro a' γ' W' hz' hd' hC hk hh
 have tp1 := Cp1.lt
 replace Cp1 := kC hC Cp1
 have tp3 := Cp3.lt
 clear Cp3
 have tp4 := Cp4.lt
 clear Cp4
 replace S2 := kp hk S2
 clear S5
 clear S6
 obtain ⟨p6, S7, Cp6, lp6, gp6⟩ := gotB hz' 7 hC hh rfl rfl rfl rfl rfl rfl
 have n_p6_p1 : p6 ≠ p1 := by omega
 clear lp6 gp6
 clear tp1 tp3 tp4
 replace HB := aft_call HB (RelC.below_nil hC)
 clear hC hk hh; replace hz := hz'; replace hd := hd'; clear hz' hd'
 refine wp_seq ?_
 refine region_text (M := [p1]) (
  rT (tQ B64 l (mkRat (((ma u + 4503599627370496) * 2 ^ (ex u - 1 - 1074) : Nat) : Int) 1)) ::
  rE 0 27 (tQ B64 l (mkRat (((ma u + 4503599627370496) * 2 ^ (ex u - 1 - 1074) : Nat) : Int) 1)) p1 ::
  []) hz hd (by kernel_rfl) ?_ ?_
 refine ⟨?_, ?_, trivial⟩
 exact zLd hz (sv S7) Cp6 ld_q64 (by simp [tagOf, n_p6_p1])
 exact zSE rfl (sv S2) (by simp [tagOf]) (Cp1.var tQ_nd) (sd 0 rfl) st_q64
 intro a' γ' W' hz' hd' hC hk hh
 replace Cp1 := gotE (T := tQ B64 l (mkRat (((ma u + 4503599627370496) * 2 ^ (ex u - 1 - 1074) : Nat) : Int) 1)) (id := 27) (p := p1) 1 hh rfl rfl
 clear Cp6
 replace S2 := kp hk S2
 clear S7
 replace HB := RelC.aftM HB hC (by intro m hm; simp at hm; rcases hm with rfl <;> assumption)
 clear hC hk hh; replace hz := hz'; replace hd := hd'; clear hz' hd'
 refine wp_ret ?_
 refine ret_to (T := tQ B64 l (mkRat (((ma u + 4503599627370496) * 2 ^ (ex u - 1 - 1074) : Nat) : Int) 1)) (ret1_q64 (by kernel_rfl) S2 hd Cp1 HB) ?_
 exact tQ_to (by decide) (fv_1 hc2 hc5) (by omega)
 rw [decide_eq_false hc5] at S25
 refine wp_cond_false S25.ev ?_
 refine region_text (M := [p4]) (
  rT (tN B64 1 1) ::
  rT (tV (.int .i64 ((ex u - 1 : Nat) : Int))) ::
  rT (tV (.int .i64 ((K74 - (ex u - 1) : Nat) : Int))) ::
  rT (tT [tN B64 2049 (1 * 2 ^ (K74 - (ex u - 1))), tV (.bool true)]) ::
  rT (tT [tN B64 2049 (1 * 2 ^ (K74 - (ex u - 1))), tV (.bool true)]) ::
  rT (tN B64 2049 (1 * 2 ^ (K74 - (ex u - 1)))) ::
  rT (tV (.bool true)) ::
  rE 0 25 (tN B64 2049 (1 * 2 ^ (K74 - (ex u - 1)))) p4 ::
  []) hz hd (by kernel_rfl) ?_ ?_
 refine ⟨?_, ?_, ?_, ?_, ?_, ?_, ?_, ?_, trivial⟩
 exact sLoadM rfl rfl rfl hz rfl (Gd.none_ rfl) rfl (sv S6) Cp4 (k := 0) (by simp [tagOf]) (by kernel_rfl) ld_n64
 exact zMv hz (sv S3)
 exact sBin rfl rfl rfl hz rfl (Gd.none_ rfl) rfl kc (sd 1 rfl) (fun w => o_74sub e74 (by omega) w)
 exact zC2 hz Try.func17 (sd 0 rfl) (sd 2 rfl) (k01 (fun _ _ h0 => c_leftK 2048 (k := K74 - (ex u - 1)) h0 (by decide) (by omega) (by decide)))
 exact zMv hz (sd 3 rfl)
 exact zExt hz (sd 4 rfl)
 exact zExt hz (sd 4 rfl)
 exact zSE rfl (sv S6) (by simp [tagOf]) (Cp4.var tN_nd) (sd 5 rfl) st_n64
 intro a' γ' W' hz' hd' hC hk hh
 have tp1 := Cp1.lt
 replace Cp1 := kC hC Cp1 (by simp [tagOf, n_p1_p4])
 have tp3 := Cp3.lt
 replace Cp3 := kC hC Cp3 (by simp [tagOf, n_p3_p4])
 replace Cp4 := gotE (T := tN B64 2049 (1 * 2 ^ (K74 - (ex u - 1)))) (id := 25) (p := p4) 7 hh rfl rfl
 replace S2 := kp hk S2
 clear S3
 replace S5 := kp hk S5
 replace S6 := kp hk S6
 clear S25
 clear tp1 tp3
 replace HB := RelC.aftM HB hC (by intro m hm; simp at hm; rcases hm with rfl <;> assumption)
 clear hC hk hh; replace hz := hz'; replace hd := hd'; clear hz' hd'
 refine wp_seq ?_
 refine region_text (M := []) (
  rT (tN B64 1 (ma u + 4503599627370496)) ::
  rT (tN B64 2049 (1 * 2 ^ (K74 - (ex u - 1)))) ::
  rT (tT [tQ B64 l (mkRat ((ma u + 4503599627370496 : Nat) : Int) (1 * 2 ^ (K74 - (ex u - 1)))), tV (.bool (decide (1 * 2 ^ (K74 - (ex u - 1)) ≠ 0)))]) ::
  rT (tT [tQ B64 l (mkRat ((ma u + 4503599627370496 : Nat) : Int) (1 * 2 ^ (K74 - (ex u - 1)))), tV (.bool (decide (1 * 2 ^ (K74 - (ex u - 1)) ≠ 0)))]) ::
  rT (tQ B64 l (mkRat ((ma u + 4503599627370496 : Nat) : Int) (1 * 2 ^ (K74 - (ex u - 1))))) ::
  rT (tV (.bool (decide (1 * 2 ^ (K74 - (ex u - 1)) ≠ 0)))) ::
  rVar 6 27 2 ::
  rB 6 27 (tQ B64 l (mkRat ((ma u + 4503599627370496 : Nat) : Int) (1 * 2 ^ (K74 - (ex u - 1))))) (some 6) 7 ::
  rT (tV (.bool (decide (1 * 2 ^ (K74 - (ex u - 1)) ≠ 0)))) ::
  []) hz hd (by kernel_rfl) ?_ ?_
 refine ⟨?_, ?_, ?_, ?_, ?_, ?_, ?_, ?_, ?_, trivial⟩
 exact zLd hz (sv S5) Cp3 ld_n64
 exact zLd hz (sv S6) Cp4 ld_n64
 exact zC2 hz Try.func18 (sd 0 rfl) (sd 1 rfl) (fun _ _ _ h0 h1 => cq_from (l := l) h0 h1 (by decide) (by decide) (fb_2 (by omega)) (fb_p1 (by omega)) (by omega))
 exact zMv hz (sd 2 rfl)
 exact zExt hz (sd 3 rfl)
 exact zExt hz (sd 3 rfl)
 exact zAl hz nd_rat al_r64
 exact zSt (sd 4 rfl) st_q64
 exact zAs hz (sd 5 rfl)
 intro a' γ' W' hz' hd' hC hk hh
 have tp1 := Cp1.lt
 replace Cp1 := kC hC Cp1
 have tp3 := Cp3.lt
 clear Cp3
 have tp4 := Cp4.lt
 clear Cp4
 replace S2 := kp hk S2
 clear S5
 clear S6
 obtain ⟨p7, S7, Cp7, lp7, gp7⟩ := gotB hz' 7 hC hh rfl rfl rfl rfl rfl rfl
 have n_p7_p1 : p7 ≠ p1 := by omega
 clear lp7 gp7
 clear tp1 tp3 tp4
 replace HB := aft_call HB (RelC.below_nil hC)
 clear hC hk hh; replace hz := hz'; replace hd := hd'; clear hz' hd'
 refine wp_seq ?_
 refine region_text (M := [p1]) (
  rT (tQ B64 l (mkRat ((ma u + 4503599627370496 : Nat) : Int) (1 * 2 ^ (K74 - (ex u - 1))))) ::
  rE 0 27 (tQ B64 l (mkRat ((ma u + 4503599627370496 : Nat) : Int) (1 * 2 ^ (K74 - (ex u - 1))))) p1 ::
  []) hz hd (by kernel_rfl) ?_ ?_
 refine ⟨?_, ?_, trivial⟩
 exact zLd hz (sv S7) Cp7 ld_q64 (by simp [tagOf, n_p7_p1])
 exact zSE rfl (sv S2) (by simp [tagOf]) (Cp1.var tQ_nd) (sd 0 rfl) st_q64
 intro a' γ' W' hz' hd' hC hk hh
 replace Cp1 := gotE (T := tQ B64 l (mkRat ((ma u + 4503599627370496 : Nat) : Int) (1 * 2 ^ (K74 - (ex u - 1))))) (id := 27) (p := p1) 1 hh rfl rfl
 clear Cp7
 replace S2 := kp hk S2
 clear S7
 replace HB := RelC.aftM HB hC (by intro m hm; simp at hm; rcases hm with rfl <;> assumption)
 clear hC hk hh; replace hz := hz'; replace hd := hd'; clear hz' hd'
 refine wp_ret ?_
 refine ret_to (T := tQ B64 l (mkRat ((ma u + 4503599627370496 : Nat) : Int) (1 * 2 ^ (K74 - (ex u - 1))))) (ret1_q64 (by kernel_rfl) S2 hd Cp1 HB) ?_
 exact tQ_to (by decide) (fv_2 e74 hc2 hc5) (by omega)
 rw [decide_eq_false hc2] at S16
 refine wp_cond_false S16.ev ?_
 refine wp_skip ?_
 refine wp_seq ?_
 refine region_text (M := []) (
  rT (tV (.int .u64 ((ma u : Nat) : Int))) ::
  rT (tN B64 1 (ma u)) ::
  rT (tN B64 1 1) ::
  rVar 3 25 1 ::
  rVar 4 25 1 ::
  rB 3 25 (tN B64 1 (ma u)) (some 3) 4 ::
  rB 4 25 (tN B64 1 1) (some 4) 5 ::
  []) hz hd (by kernel_rfl) ?_ ?_
 refine ⟨?_, ?_, ?_, ?_, ?_, ?_, ?_, trivial⟩
 exact zMv hz (sv S4)
 exact zC1 hz Try.func16 (sd 0 rfl) (k1 (fun _ => c_of (by have := ma_lt u; unfold B64; omega)))
 exact zC1 hz Try.func16 (kc (v := .int .u64 1)) (k1 (fun _ => c_of (by decide)))
 exact zAl hz nd_slice al_n64
 exact zAl hz nd_slice al_n64
 exact zSt (sd 1 rfl) st_n64
 exact zSt (sd 2 rfl) st_n64
 intro a' γ' W' hz' hd' hC hk hh
 have ep1 := Cp1.lt
 have tp1 := Cp1.lt
 replace Cp1 := kC hC Cp1
 replace S2 := kp hk S2
 replace S3 := kp hk S3
 clear S4
 clear S16
 obtain ⟨p8, S5, Cp8, lp8, gp8⟩ := gotB hz' 5 hC hh rfl rfl rfl rfl rfl rfl
 obtain ⟨p9, S6, Cp9, lp9, gp9⟩ := gotB hz' 6 hC hh rfl rfl rfl rfl rfl rfl
 have n_p8_p1 : p8 ≠ p1 := by omega
 have n_p8_p9 : p8 ≠ p9 := by intro e; rw [e, gp9] at gp8; omega
 have n_p9_p1 : p9 ≠ p1 := by omega
 have n_p9_p8 : p9 ≠ p8 := by intro e; rw [e, gp8] at gp9; omega
 have n_p1_p8 : p1 ≠ p8 := by have := ep1; omega
 have n_p1_p9 : p1 ≠ p9 := by have := ep1; omega
 have bp8 : w.heap.size ≤ p8 := Nat.le_trans HB.size lp8
 have bp9 : w.heap.size ≤ p9 := Nat.le_trans HB.size lp9
 clear lp8 gp8 lp9 gp9
 clear tp1
 clear ep1
 replace HB := aft_call HB (RelC.below_nil hC)
 clear hC hk hh; replace hz := hz'; replace hd := hd'; clear hz' hd'
 refine wp_seq ?_
 refine wp_seq ?_
 refine region_text (M := []) (
  rT (tV (.int .i64 ((ex u : Nat) : Int))) ::
  rT (tV (.bool (decide (1074 ≤ ex u)))) ::
  []) hz hd (by kernel_rfl) ?_ ?_
 refine ⟨?_, ?_, trivial⟩
 exact zMv hz (sv S3)
 exact sBin rfl rfl rfl hz rfl (Gd.none_ rfl) rfl (sd 0 rfl) kc (fun w => o_ge1074 w)
 intro a' γ' W' hz' hd' hC hk hh
 have tp1 := Cp1.lt
 replace Cp1 := kC hC Cp1
 have tp8 := Cp8.lt
 replace Cp8 := kC hC Cp8
 have tp9 := Cp9.lt
 replace Cp9 := kC hC Cp9
 replace S2 := kp hk S2
 replace S3 := kp hk S3
 replace S5 := kp hk S5
 replace S6 := kp hk S6
 have S25 := gotV hz' 1 hh rfl rfl rfl rfl
 clear tp1 tp8 tp9
 replace HB := aft_call HB (RelC.below_nil hC)
 clear hC hk hh; replace hz := hz'; replace hd := hd'; clear hz' hd'
 have hc10 : ¬ (1074 ≤ ex u) := (by have := hc2; omega)
 rw [decide_eq_false hc10] at S25
 refine wp_cond_false S25.ev ?_
 refine region_text (M := [p9]) (
  rT (tN B64 1 1) ::
  rT (tV (.int .i64 ((ex u : Nat) : Int))) ::
  rT (tV (.int .i64 ((K74 - (ex u) : Nat) : Int))) ::
  rT (tT [tN B64 2049 (1 * 2 ^ (K74 - (ex u))), tV (.bool true)]) ::
  rT (tT [tN B64 2049 (1 * 2 ^ (K74 - (ex u))), tV (.bool true)]) ::
  rT (tN B64 2049 (1 * 2 ^ (K74 - (ex u)))) ::
  rT (tV (.bool true)) ::
  rE 0 25 (tN B64 2049 (1 * 2 ^ (K74 - (ex u)))) p9 ::
  []) hz hd (by kernel_rfl) ?_ ?_
 refine ⟨?_, ?_, ?_, ?_, ?_, ?_, ?_, ?_, trivial⟩
 exact sLoadM rfl rfl rfl hz rfl (Gd.none_ rfl) rfl (sv S6) Cp9 (k := 0) (by simp [tagOf]) (by kernel_rfl) ld_n64
 exact zMv hz (sv S3)
 exact sBin rfl rfl rfl hz rfl (Gd.none_ rfl) rfl kc (sd 1 rfl) (fun w => o_74sub e74 (by omega) w)
 exact zC2 hz Try.func17 (sd 0 rfl) (sd 2 rfl) (k01 (fun _ _ h0 => c_leftK 2048 (k := K74 - (ex u)) h0 (by decide) (by omega) (by decide)))
 exact zMv hz (sd 3 rfl)
 exact zExt hz (sd 4 rfl)
 exact zExt hz (sd 4 rfl)
 exact zSE rfl (sv S6) (by simp [tagOf]) (Cp9.var tN_nd) (sd 5 rfl) st_n64
 intro a' γ' W' hz' hd' hC hk hh
 have tp1 := Cp1.lt
 replace Cp1 := kC hC Cp1 (by simp [tagOf, n_p1_p9])
 have tp8 := Cp8.lt
 replace Cp8 := kC hC Cp8 (by simp [tagOf, n_p8_p9])
 replace Cp9 := gotE (T := tN B64 2049 (1 * 2 ^ (K74 - (ex u)))) (id := 25) (p := p9) 7 hh rfl rfl
 replace S2 := kp hk S2
 clear S3
 replace S5 := kp hk S5
 replace S6 := kp hk S6
 clear S25
 clear tp1 tp8
 replace HB := RelC.aftM HB hC (by intro m hm; simp at hm; rcases hm with rfl <;> assumption)
 clear hC hk hh; replace hz := hz'; replace hd := hd'; clear hz' hd'
 refine wp_seq ?_
 refine region_text (M := []) (
  rT (tN B64 1 (ma u)) ::
  rT (tN B64 2049 (1 * 2 ^ (K74 - (ex u)))) ::
  rT (tT [tQ B64 l (mkRat ((ma u : Nat) : Int) (1 * 2 ^ (K74 - (ex u)))), tV (.bool (decide (1 * 2 ^ (K74 - (ex u)) ≠ 0)))]) ::
  rT (tT [tQ B64 l (mkRat ((ma u : Nat) : Int) (1 * 2 ^ (K74 - (ex u)))), tV (.bool (decide (1 * 2 ^ (K74 - (ex u)) ≠ 0)))]) ::
  rT (tQ B64 l (mkRat ((ma u : Nat) : Int) (1 * 2 ^ (K74 - (ex u))))) ::
  rT (tV (.bool (decide (1 * 2 ^ (K74 - (ex u)) ≠ 0)))) ::
  rVar 6 27 2 ::
  rB 6 27 (tQ B64 l (mkRat ((ma u : Nat) : Int) (1 * 2 ^ (K74 - (ex u))))) (some 6) 7 ::
  rT (tV (.bool (decide (1 * 2 ^ (K74 - (ex u)) ≠ 0)))) ::
  []) hz hd (by kernel_rfl) ?_ ?_
 refine ⟨?_, ?_, ?_, ?_, ?_, ?_, ?_, ?_, ?_, trivial⟩
 exact zLd hz (sv S5) Cp8 ld_n64
 exact zLd hz (sv S6) Cp9 ld_n64
 exact zC2 hz Try.func18 (sd 0 rfl) (sd 1 rfl) (fun _ _ _ h0 h1 => cq_from (l := l) h0 h1 (by decide) (by decide) (fb_1 (by omega)) (fb_p1 (by omega)) (by omega))
 exact zMv hz (sd 2 rfl)
 exact zExt hz (sd 3 rfl)
 exact zExt hz (sd 3 rfl)
 exact zAl hz nd_rat al_r64
 exact zSt (sd 4 rfl) st_q64
 exact zAs hz (sd 5 rfl)
 intro a' γ' W' hz' hd' hC hk hh
 have tp1 := Cp1.lt
 replace Cp1 := kC hC Cp1
 have tp8 := Cp8.lt
 clear Cp8
 have tp9 := Cp9.lt
 clear Cp9
 replace S2 := kp hk S2
 clear S5
 clear S6
 obtain ⟨p11, S7, Cp11, lp11, gp11⟩ := gotB hz' 7 hC hh rfl rfl rfl rfl rfl rfl
 have n_p11_p1 : p11 ≠ p1 := by omega
 clear lp11 gp11
 clear tp1 tp8 tp9
 replace HB := aft_call HB (RelC.below_nil hC)
 clear hC hk hh; replace hz := hz'; replace hd := hd'; clear hz' hd'
 refine wp_seq ?_
 refine region_text (M := [p1]) (
  rT (tQ B64 l (mkRat ((ma u : Nat) : Int) (1 * 2 ^ (K74 - (ex u))))) ::
  rE 0 27 (tQ B64 l (mkRat ((ma u : Nat) : Int) (1 * 2 ^ (K74 - (ex u))))) p1 ::
  []) hz hd (by kernel_rfl) ?_ ?_
 refine ⟨?_, ?_, trivial⟩
 exact zLd hz (sv S7) Cp11 ld_q64 (by simp [tagOf, n_p11_p1])
 exact zSE rfl (sv S2) (by simp [tagOf]) (Cp1.var tQ_nd) (sd 0 rfl) st_q64
 intro a' γ' W' hz' hd' hC hk hh
 replace Cp1 := gotE (T := tQ B64 l (mkRat ((ma u : Nat) : Int) (1 * 2 ^ (K74 - (ex u))))) (id := 27) (p := p1) 1 hh rfl rfl
 clear Cp11
 replace S2 := kp hk S2
 clear S7
 replace HB := RelC.aftM HB hC (by intro m hm; simp at hm; rcases hm with rfl <;> assumption)
 clear hC hk hh; replace hz := hz'; replace hd := hd'; clear hz' hd'
 refine wp_ret ?_
 refine ret_to (T := tQ B64 l (mkRat ((ma u : Nat) : Int) (1 * 2 ^ (K74 - (ex u))))) (ret1_q64 (by kernel_rfl) S2 hd Cp1 HB) ?_
 exact tQ_to (by decide) (fv_0 e74 hc2) (by omega)

set_option maxRecDepth 10000 in
set_option maxHeartbeats 2000000 in
theorem l_gap {l1 l2 : Nat} {x y : Rat} {v0 v1 : Value} {w : World} (h0 : (tQ B64 l1 x).p v0 w) (h1 : (tQ B64 l2 y).p v1 w) (b1 : l1 ≤ 1000000) (b2 : l2 ≤ 1000000) :
    Calls Try.prog 20 #[v0, v1] w (Ret (tQ B64 (l1 + l2 + 1) (gapQ x y)) w) := by
 refine enter Try.func20 rfl Try.ntmps20 (by simp) ?_
 intro a hz hd ha
 have S0 := ha 0 _ rfl
 have H0 := h0
 have S1 := ha 1 _ rfl
 have H1 := h1
 clear ha
 have HB : Below w.heap.size w w := Below.refl _ _
 refine wp_seq ?_
 refine region_text (M := []) (
  rB 0 27 (tQ B64 l1 x) none 0 ::
  rB 1 27 (tQ B64 l2 y) none 0 ::
  rB 2 27 (tQ B64 1 0) none 0 ::
  []) hz hd (by kernel_rfl) ?_ ?_
 refine ⟨?_, ?_, ?_, trivial⟩
 exact zBox hz (so S0 H0) box_q64
 exact zBox hz (so S1 H1) box_q64
 exact zNew hz (fun _ => tQ_nil) al_r64
 intro a' γ' W' hz' hd' hC hk hh
 clear S0 H0
 clear S1 H1
 obtain ⟨p1, S2, Cp1, lp1, gp1⟩ := gotB hz' 0 hC hh rfl rfl rfl rfl rfl rfl
 obtain ⟨p2, S3, Cp2, lp2, gp2⟩ := gotB hz' 1 hC hh rfl rfl rfl rfl rfl rfl
 obtain ⟨p3, S4, Cp3, lp3, gp3⟩ := gotB hz' 2 hC hh rfl rfl rfl rfl rfl rfl
 have n_p1_p3 : p1 ≠ p3 := by intro e; rw [e, gp3] at gp1; omega
 have n_p2_p3 : p2 ≠ p3 := by intro e; rw [e, gp3] at gp2; omega
 have bp3 : w.heap.size ≤ p3 := Nat.le_trans HB.size lp3
 clear lp1 gp1 lp2 gp2 lp3 gp3
 replace HB := aft_call HB (RelC.below_nil hC)
 clear hC hk hh; replace hz := hz'; replace hd := hd'; clear hz' hd'
 refine wp_seq ?_
 refine region_text (M := []) (
  rT (tQ B64 l1 x) ::
  rT (tQ B64 l2 y) ::
  rT (tT [tQ B64 (l1 + l2 + 1) (subQ x y), tV (.bool (decide (y ≤ x)))]) ::
  rT (tT [tQ B64 (l1 + l2 + 1) (subQ x y), tV (.bool (decide (y ≤ x)))]) ::
  rT (tQ B64 (l1 + l2 + 1) (subQ x y)) ::
  rT (tV (.bool (decide (y ≤ x)))) ::
  rVar 6 27 2 ::
  rB 6 27 (tQ B64 (l1 + l2 + 1) (subQ x y)) (some 6) 7 ::
  rT (tV (.bool (decide (y ≤ x)))) ::
  []) hz hd (by kernel_rfl) ?_ ?_
 refine ⟨?_, ?_, ?_, ?_, ?_, ?_, ?_, ?_, ?_, trivial⟩
 exact zLd hz (sv S2) Cp1 ld_q64
 exact zLd hz (sv S3) Cp2 ld_q64
 exact zC2 hz Try.func56 (sd 0 rfl) (sd 1 rfl) (fun _ _ _ h0 h1 => cq_sub h0 h1 (by omega) (by omega))
 exact zMv hz (sd 2 rfl)
 exact zExt hz (sd 3 rfl)
 exact zExt hz (sd 3 rfl)
 exact zAl hz nd_rat al_r64
 exact zSt (sd 4 rfl) st_q64
 exact zAs hz (sd 5 rfl)
 intro a' γ' W' hz' hd' hC hk hh
 have ep1 := Cp1.lt
 have ep2 := Cp2.lt
 have ep3 := Cp3.lt
 replace Cp1 := kC hC Cp1
 replace Cp2 := kC hC Cp2
 have tp3 := Cp3.lt
 replace Cp3 := kC hC Cp3
 replace S2 := kp hk S2
 replace S3 := kp hk S3
 replace S4 := kp hk S4
 obtain ⟨p4, S5, Cp4, lp4, gp4⟩ := gotB hz' 7 hC hh rfl rfl rfl rfl rfl rfl
 have S6 := gotV hz' 8 hh rfl rfl rfl rfl
 have n_p4_p3 : p4 ≠ p3 := by omega
 have n_p1_p4 : p1 ≠ p4 := by have := ep1; omega
 have n_p2_p4 : p2 ≠ p4 := by have := ep2; omega
 have n_p3_p4 : p3 ≠ p4 := by have := ep3; omega
 have bp4 : w.heap.size ≤ p4 := Nat.le_trans HB.size lp4
 clear lp4 gp4
 clear tp3
 clear ep1 ep2 ep3
 replace HB := aft_call HB (RelC.below_nil hC)
 clear hC hk hh; replace hz := hz'; replace hd := hd'; clear hz' hd'
 refine wp_seq ?_
 refine wp_seq ?_
 by_cases hc5 : y ≤ x
 rw [decide_eq_true hc5] at S6
 refine region_text (M := []) (
  rT (tV (.bool true)) ::
  rT (tV (.bool false)) ::
  []) hz hd (by kernel_rfl) ?_ ?_
 refine ⟨?_, ?_, trivial⟩
 exact zMv hz (sv S6)
 exact zNot hz (sd 0 rfl)
 intro a' γ' W' hz' hd' hC hk hh
 replace Cp1 := kC hC Cp1
 replace Cp2 := kC hC Cp2
 have tp3 := Cp3.lt
 replace Cp3 := kC hC Cp3
 have tp4 := Cp4.lt
 replace Cp4 := kC hC Cp4
 replace S2 := kp hk S2
 replace S3 := kp hk S3
 replace S4 := kp hk S4
 replace S5 := kp hk S5
 clear S6
 have S14 := gotV hz' 1 hh rfl rfl rfl rfl
 clear tp3 tp4
 replace HB := aft_call HB (RelC.below_nil hC)
 clear hC hk hh; replace hz := hz'; replace hd := hd'; clear hz' hd'
 refine wp_cond_false S14.ev ?_
 refine wp_skip ?_
 refine wp_seq ?_
 refine region_text (M := [p3]) (
  rT (tQ B64 (l1 + l2 + 1) (subQ x y)) ::
  rE 0 27 (tQ B64 (l1 + l2 + 1) (subQ x y)) p3 ::
  []) hz hd (by kernel_rfl) ?_ ?_
 refine ⟨?_, ?_, trivial⟩
 exact zLd hz (sv S5) Cp4 ld_q64 (by simp [tagOf, n_p4_p3])
 exact zSE rfl (sv S4) (by simp [tagOf]) (Cp3.var tQ_nd) (sd 0 rfl) st_q64
 intro a' γ' W' hz' hd' hC hk hh
 clear Cp1
 clear Cp2
 replace Cp3 := gotE (T := tQ B64 (l1 + l2 + 1) (subQ x y)) (id := 27) (p := p3) 1 hh rfl rfl
 have tp4 := Cp4.lt
 clear Cp4
 clear S2
 clear S3
 replace S4 := kp hk S4
 clear S5
 clear S14
 clear tp4
 replace HB := RelC.aftM HB hC (by intro m hm; simp at hm; rcases hm with rfl <;> assumption)
 clear hC hk hh; replace hz := hz'; replace hd := hd'; clear hz' hd'
 refine wp_ret ?_
 refine ret_to (T := tQ B64 (l1 + l2 + 1) (subQ x y)) (ret1_q64 (by kernel_rfl) S4 hd Cp3 HB) ?_
 exact tQ_to (by decide) (gap_1 hc5) (by omega)
 rw [decide_eq_false hc5] at S6
 refine region_text (M := []) (
  rT (tV (.bool false)) ::
  rT (tV (.bool true)) ::
  []) hz hd (by kernel_rfl) ?_ ?_
 refine ⟨?_, ?_, trivial⟩
 exact zMv hz (sv S6)
 exact zNot hz (sd 0 rfl)
 intro a' γ' W' hz' hd' hC hk hh
 replace Cp1 := kC hC Cp1
 replace Cp2 := kC hC Cp2
 have tp3 := Cp3.lt
 replace Cp3 := kC hC Cp3
 have tp4 := Cp4.lt
 replace Cp4 := kC hC Cp4
 replace S2 := kp hk S2
 replace S3 := kp hk S3
 replace S4 := kp hk S4
 replace S5 := kp hk S5
 clear S6
 have S14 := gotV hz' 1 hh rfl rfl rfl rfl
 clear tp3 tp4
 replace HB := aft_call HB (RelC.below_nil hC)
 clear hC hk hh; replace hz := hz'; replace hd := hd'; clear hz' hd'
 refine wp_cond_true S14.ev ?_
 refine region_text (M := [p4]) (
  rT (tQ B64 l2 y) ::
  rT (tQ B64 l1 x) ::
  rT (tT [tQ B64 (l2 + l1 + 1) (subQ y x), tV (.bool (decide (x ≤ y)))]) ::
  rT (tT [tQ B64 (l2 + l1 + 1) (subQ y x), tV (.bool (decide (x ≤ y)))]) ::
  rT (tQ B64 (l2 + l1 + 1) (subQ y x)) ::
  rT (tV (.bool (decide (x ≤ y)))) ::
  rE 0 27 (tQ B64 (l2 + l1 + 1) (subQ y x)) p4 ::
  []) hz hd (by kernel_rfl) ?_ ?_
 refine ⟨?_, ?_, ?_, ?_, ?_, ?_, ?_, trivial⟩
 exact zLd hz (sv S3) Cp2 ld_q64 (by simp [tagOf, n_p2_p4])
 exact zLd hz (sv S2) Cp1 ld_q64 (by simp [tagOf, n_p1_p4])
 exact zC2 hz Try.func56 (sd 0 rfl) (sd 1 rfl) (fun _ _ _ h0 h1 => cq_sub h0 h1 (by omega) (by omega))
 exact zMv hz (sd 2 rfl)
 exact zExt hz (sd 3 rfl)
 exact zExt hz (sd 3 rfl)
 exact zSE rfl (sv S5) (by simp [tagOf]) (Cp4.var tQ_nd) (sd 4 rfl) st_q64
 intro a' γ' W' hz' hd' hC hk hh
 clear Cp1
 clear Cp2
 have tp3 := Cp3.lt
 replace Cp3 := kC hC Cp3 (by simp [tagOf, n_p3_p4])
 replace Cp4 := gotE (T := tQ B64 (l2 + l1 + 1) (subQ y x)) (id := 27) (p := p4) 6 hh rfl rfl
 clear S2
 clear S3
 replace S4 := kp hk S4
 replace S5 := kp hk S5
 clear S14
 clear tp3
 replace HB := RelC.aftM HB hC (by intro m hm; simp at hm; rcases hm with rfl <;> assumption)
 clear hC hk hh; replace hz := hz'; replace hd := hd'; clear hz' hd'
 refine wp_seq ?_
 refine region_text (M := [p3]) (
  rT (tQ B64 (l2 + l1 + 1) (subQ y x)) ::
  rE 0 27 (tQ B64 (l2 + l1 + 1) (subQ y x)) p3 ::
  []) hz hd (by kernel_rfl) ?_ ?_
 refine ⟨?_, ?_, trivial⟩
 exact zLd hz (sv S5) Cp4 ld_q64 (by simp [tagOf, n_p4_p3])
 exact zSE rfl (sv S4) (by simp [tagOf]) (Cp3.var tQ_nd) (sd 0 rfl) st_q64
 intro a' γ' W' hz' hd' hC hk hh
 replace Cp3 := gotE (T := tQ B64 (l2 + l1 + 1) (subQ y x)) (id := 27) (p := p3) 1 hh rfl rfl
 have tp4 := Cp4.lt
 clear Cp4
 replace S4 := kp hk S4
 clear S5
 clear tp4
 replace HB := RelC.aftM HB hC (by intro m hm; simp at hm; rcases hm with rfl <;> assumption)
 clear hC hk hh; replace hz := hz'; replace hd := hd'; clear hz' hd'
 refine wp_ret ?_
 refine ret_to (T := tQ B64 (l2 + l1 + 1) (subQ y x)) (ret1_q64 (by kernel_rfl) S4 hd Cp3 HB) ?_
 exact tQ_to (by decide) (gap_2 hc5) (by omega)

end Go.Proofs.Ytfgnleoaibcegaa.Rg

namespace Go.Proofs.Ytfgnleoaibcegaa.Rg

open Go.RowKit Go.ChangeShapes Go.WideShapes Go.ChangeAt Go.Deep

theorem ret_out3 {P : Program} {f : FuncId} {args : Array Value} {w : World} {v : Value} (h : Calls P f args w (Ret (tV v) w)) : Calls P f args w fun e w' => e = .returned v ∧ Below w.heap.size w w' := by
  refine h.mono ?_
  rintro e w' ⟨u, rfl, h1, h2⟩
  have h1 : u = v := h1
  exact ⟨by rw [h1], h2⟩
end Go.Proofs.Ytfgnleoaibcegaa.Rg

namespace Go.Proofs.Ytfgnleoaibcegaa.Rg

open Go.RowKit

section

variable {u N l1 l2 a b J : Nat} {v1 v2 : Value} {w : World} {ox oy : Operand} {id : TypeId}
theorem flN_lt (h : N < 9218868437227405312) : flN N = N := by unfold flN; rw [if_pos h]
theorem flN_ge (h : ¬ N < 9218868437227405312) : flN N = 0 := by unfold flN; rw [if_neg h]
theorem c_bits_n (h : N < 9218868437227405312) : Calls Try.prog 14 #[.float .f64 (flN N)] w (Ret (tV (.int .u64 ((N : Nat) : Int))) w) := by
  have := c_bits (u := flN N) (w := w)
  rw [flN_lt h] at this ⊢; exact this
theorem c_tofloat_n {x : Rat} {l : Nat} (h : (tQ B64 l x).p v1 w) (eN : tfD x.num.toNat x.den = N) (hl : l ≤ 1000000) : Calls Try.prog 13 #[v1] w (Ret (tT [tV (.float .f64 (flN N)), tV (.bool (decide (N < 9218868437227405312)))]) w) := by
  have := c_tofloat_pq h rfl rfl hl
  rw [eN] at this; exact this
theorem o_feq0 (h : ¬ N < 9218868437227405312) (w : World) : (do eqGuard .eql id ox oy (.float .f64 (flN N)) (.float FloatKind.f64 0); binOp .eql id (.float .f64 (flN N)) (.float FloatKind.f64 0) : Sem Value).run Try.prog w = .ok (.bool true) w := by
  rw [flN_ge h]; kernel_rfl
theorem o_exis (w : World) : (do eqGuard .eql id ox oy (.int .u64 ((ex u : Nat) : Int)) (.int .u64 2047); binOp .eql id (.int .u64 ((ex u : Nat) : Int)) (.int .u64 2047) : Sem Value).run Try.prog w = .ok (.bool (decide (ex u = 2047))) w := by
  by_cases hc : ex u = 2047
  · rw [hc]; simp [go_sem]
  · have : ¬ ((ex u : Nat) : Int) = 2047 := by omega
    simp [go_sem, hc, this]
theorem o_exne (w : World) : (do eqGuard .neq id ox oy (.int .u64 ((ex u : Nat) : Int)) (.int .u64 2047); binOp .neq id (.int .u64 ((ex u : Nat) : Int)) (.int .u64 2047) : Sem Value).run Try.prog w = .ok (.bool (decide (ex u ≠ 2047))) w := by
  by_cases hc : ex u = 2047
  · rw [hc]; simp [go_sem]
  · have : ¬ ((ex u : Nat) : Int) = 2047 := by omega
    simp [go_sem, hc, this]
theorem o_uadd1 (h : u < 9218868437227405312) (w : World) : (do eqGuard .add id ox oy (.int .u64 ((u : Nat) : Int)) (.int .u64 1); binOp .add id (.int .u64 ((u : Nat) : Int)) (.int .u64 1) : Sem Value).run Try.prog w = .ok (.int .u64 ((u + 1 : Nat) : Int)) w := by
  have e : IntKind.u64.wrap (((u : Nat) : Int) + 1) = ((u + 1 : Nat) : Int) := by rw [IntKind.wrap_u64]; omega
  simp [go_sem, e]
theorem o_usub1 (h0 : 0 < u) (h : u < 9218868437227405312) (w : World) : (do eqGuard .sub id ox oy (.int .u64 ((u : Nat) : Int)) (.int .u64 1); binOp .sub id (.int .u64 ((u : Nat) : Int)) (.int .u64 1) : Sem Value).run Try.prog w = .ok (.int .u64 ((u - 1 : Nat) : Int)) w := by
  have e : IntKind.u64.wrap (((u : Nat) : Int) - 1) = ((u - 1 : Nat) : Int) := by rw [IntKind.wrap_u64]; omega
  simp [go_sem, e]
theorem o_uand1 (h : u < 18446744073709551616) (w : World) : (do eqGuard .and id ox oy (.int .u64 ((u : Nat) : Int)) (.int .u64 1); binOp .and id (.int .u64 ((u : Nat) : Int)) (.int .u64 1) : Sem Value).run Try.prog w = .ok (.int .u64 ((u % 2 : Nat) : Int)) w := by
  have e : bits .and .u64 ((u : Nat) : Int) 1 = ((u % 2 : Nat) : Int) := and_u64 u 1 (by decide) h
  simp [go_sem, e]
theorem c_from_top {l x : Nat} (h1 : (tN B64 l1 x).p v1 w) (h2 : (tN B64 l2 1).p v2 w) (b1 : l1 ≤ 100000000) (b2 : l2 ≤ 100000000) (hx : x < 2 ^ l) (hl : 1 ≤ l) : Calls Try.prog 18 #[v1, v2] w (Ret (tT [tQ B64 l (mkRat ((x : Nat) : Int) 1), tV (.bool true)]) w) := by
  have := cq_from (l := l) h1 h2 b1 b2 hx (fb_one hl) hl
  exact this
theorem top_bits {l : Nat} (hJ : J = 970) (hl : 1100 ≤ l) : 18014398509481983 * 2 ^ J < 2 ^ l := by
  refine Nat.lt_of_lt_of_le (Nat.mul_lt_mul_of_pos_right (show 18014398509481983 < 2 ^ 54 by decide) (Nat.two_pow_pos J)) ?_
  rw [← Nat.pow_add]; exact Nat.pow_le_pow_right (by decide) (by omega)
theorem ex_N1 (h : N < 9218868437227405312) : ¬ ex N = 2047 := by unfold ex; omega
theorem ex_N2 (h : N < 9218868437227405312) (h2 : ex (N + 1) ≠ 2047) : N + 1 < 9218868437227405312 := by unfold ex at h2; omega
end
set_option maxRecDepth 10000 in
set_option maxHeartbeats 2000000 in
theorem numNearest_ret {l k : List Nat} {v0 v1 : Value} {w : World} (h0 : (tBy 9223372036854775807 l).p v0 w) (h1 : (tBy 9223372036854775807 k).p v1 w)  :
    Calls Try.prog 5 #[v0, v1] w (Ret (tV (.bool true)) w) := by
 refine enter Try.func5 rfl Try.ntmps5 (by simp) ?_
 intro a hz hd ha
 have S0 := ha 0 _ rfl
 have H0 := h0
 have S1 := ha 1 _ rfl
 have H1 := h1
 clear ha
 have HB : Below w.heap.size w w := Below.refl _ _
 obtain ⟨x, exx⟩ : ∃ x, mk3 l k = x := ⟨_, rfl⟩
 have hx : 0 ≤ x := exx ▸ mk3_nonneg l k
 obtain ⟨N, eN⟩ : ∃ N, tfD x.num.toNat x.den = N := ⟨_, rfl⟩
 obtain ⟨J, eJ⟩ : ∃ J : Nat, J = 970 := ⟨_, rfl⟩
 obtain ⟨l1, el1⟩ : ∃ l : Nat, l = 1100 := ⟨_, rfl⟩
 have hl1 : 1100 ≤ l1 := by omega
 refine wp_seq ?_
 refine region_text (M := []) (
  rT (tV (.bool false)) ::
  []) hz hd (by kernel_rfl) ?_ ?_
 refine ⟨?_, trivial⟩
 exact zAs hz kc
 intro a' γ' W' hz' hd' hC hk hh
 replace S0 := kp hk S0
 replace H0 := Ty.aft _ H0 hC
 replace S1 := kp hk S1
 replace H1 := Ty.aft _ H1 hC
 have S4 := gotV hz' 0 hh rfl rfl rfl rfl
 replace HB := aft_call HB (RelC.below_nil hC)
 clear hC hk hh; replace hz := hz'; replace hd := hd'; clear hz' hd'
 refine wp_seq ?_
 refine region_text (M := []) (
  rT (tBy 9223372036854775807 l) ::
  rT (tBy 9223372036854775807 k) ::
  rT (tT [tQ B64 2400 x, tQ B32 2400 x]) ::
  rT (tT [tQ B64 2400 x, tQ B32 2400 x]) ::
  rT (tQ B64 2400 x) ::
  rT (tQ B32 2400 x) ::
  rVar 6 27 2 ::
  rVar 7 35 2 ::
  rB 6 27 (tQ B64 2400 x) (some 6) 7 ::
  rB 7 35 (tQ B32 2400 x) (some 7) 8 ::
  []) hz hd (by kernel_rfl) ?_ ?_
 refine ⟨?_, ?_, ?_, ?_, ?_, ?_, ?_, ?_, ?_, ?_, trivial⟩
 exact zMv hz (so S0 H0)
 exact zMv hz (so S1 H1)
 exact zC2 hz Try.func11 (sd 0 rfl) (sd 1 rfl) (fun _ _ _ h0 h1 => l_made3_n (m := 2400) exx h0 h1 (by decide) (by decide) (by decide))
 exact zMv hz (sd 2 rfl)
 exact zExt hz (sd 3 rfl)
 exact zExt hz (sd 3 rfl)
 exact zAl hz nd_rat al_r64
 exact zAl hz nd_rat al_r32
 exact zSt (sd 4 rfl) st_q64
 exact zSt (sd 5 rfl) st_q32
 intro a' γ' W' hz' hd' hC hk hh
 clear S0 H0
 clear S1 H1
 replace S4 := kp hk S4
 obtain ⟨p1, S5, Cp1, lp1, gp1⟩ := gotB hz' 8 hC hh rfl rfl rfl rfl rfl rfl
 have bp1 : w.heap.size ≤ p1 := Nat.le_trans HB.size lp1
 clear lp1 gp1
 replace HB := aft_call HB (RelC.below_nil hC)
 clear hC hk hh; replace hz := hz'; replace hd := hd'; clear hz' hd'
 refine wp_seq ?_
 refine region_text (M := []) (
  rT (tQ B64 2400 x) ::
  rT (tT [tV (.float .f64 (flN N)), tV (.bool (decide (N < 9218868437227405312)))]) ::
  rT (tT [tV (.float .f64 (flN N)), tV (.bool (decide (N < 9218868437227405312)))]) ::
  rT (tV (.float .f64 (flN N))) ::
  rT (tV (.bool (decide (N < 9218868437227405312)))) ::
  rT (tV (.float .f64 (flN N))) ::
  rT (tV (.bool (decide (N < 9218868437227405312)))) ::
  []) hz hd (by kernel_rfl) ?_ ?_
 refine ⟨?_, ?_, ?_, ?_, ?_, ?_, ?_, trivial⟩
 exact zLd hz (sv S5) Cp1 ld_q64
 exact zC1 hz Try.func13 (sd 0 rfl) (fun _ _ h0 => c_tofloat_n h0 eN (by decide))
 exact zMv hz (sd 1 rfl)
 exact zExt hz (sd 2 rfl)
 exact zExt hz (sd 2 rfl)
 exact zAs hz (sd 3 rfl)
 exact zAs hz (sd 4 rfl)
 intro a' γ' W' hz' hd' hC hk hh
 have tp1 := Cp1.lt
 replace Cp1 := kC hC Cp1
 replace S4 := kp hk S4
 replace S5 := kp hk S5
 have S7 := gotV hz' 5 hh rfl rfl rfl rfl
 have S8 := gotV hz' 6 hh rfl rfl rfl rfl
 clear tp1
 replace HB := aft_call HB (RelC.below_nil hC)
 clear hC hk hh; replace hz := hz'; replace hd := hd'; clear hz' hd'
 refine wp_seq ?_
 refine region_text (M := []) (
  rT (tN B64 1 18014398509481983) ::
  rT (tT [tN B64 1001 (18014398509481983 * 2 ^ J), tV (.bool true)]) ::
  rT (tT [tN B64 1001 (18014398509481983 * 2 ^ J), tV (.bool true)]) ::
  rT (tN B64 1001 (18014398509481983 * 2 ^ J)) ::
  rT (tV (.bool true)) ::
  rVar 5 25 1 ::
  rB 5 25 (tN B64 1001 (18014398509481983 * 2 ^ J)) (some 5) 6 ::
  rT (tV (.bool true)) ::
  []) hz hd (by kernel_rfl) ?_ ?_
 refine ⟨?_, ?_, ?_, ?_, ?_, ?_, ?_, ?_, trivial⟩
 exact zC1 hz Try.func16 (kc (v := .int .u64 18014398509481983)) (k1 (fun _ => c_of (by decide)))
 exact zC2 hz Try.func17 (sd 0 rfl) (kc (v := .int .i64 970)) (k01 (fun _ _ h0 => c_left970 eJ h0 (by decide)))
 exact zMv hz (sd 1 rfl)
 exact zExt hz (sd 2 rfl)
 exact zExt hz (sd 2 rfl)
 exact zAl hz nd_slice al_n64
 exact zSt (sd 3 rfl) st_n64
 exact zAs hz (sd 4 rfl)
 intro a' γ' W' hz' hd' hC hk hh
 have ep1 := Cp1.lt
 have tp1 := Cp1.lt
 replace Cp1 := kC hC Cp1
 replace S4 := kp hk S4
 replace S5 := kp hk S5
 replace S7 := kp hk S7
 replace S8 := kp hk S8
 obtain ⟨p2, S9, Cp2, lp2, gp2⟩ := gotB hz' 6 hC hh rfl rfl rfl rfl rfl rfl
 have n_p2_p1 : p2 ≠ p1 := by omega
 have n_p1_p2 : p1 ≠ p2 := by have := ep1; omega
 have bp2 : w.heap.size ≤ p2 := Nat.le_trans HB.size lp2
 clear lp2 gp2
 clear tp1
 clear ep1
 replace HB := aft_call HB (RelC.below_nil hC)
 clear hC hk hh; replace hz := hz'; replace hd := hd'; clear hz' hd'
 refine wp_seq ?_
 refine region_drawn (M := []) (
  rT (tN B64 1001 (18014398509481983 * 2 ^ J)) ::
  rT (tN B64 1 1) ::
  rT (tT [tQ B64 l1 (mkRat ((18014398509481983 * 2 ^ J : Nat) : Int) 1), tV (.bool true)]) ::
  rT (tT [tQ B64 l1 (mkRat ((18014398509481983 * 2 ^ J : Nat) : Int) 1), tV (.bool true)]) ::
  rT (tQ B64 l1 (mkRat ((18014398509481983 * 2 ^ J : Nat) : Int) 1)) ::
  rT (tV (.bool true)) ::
  rVar 6 27 2 ::
  rB 6 27 (tQ B64 l1 (mkRat ((18014398509481983 * 2 ^ J : Nat) : Int) 1)) (some 6) 7 ::
  rT (tV (.bool true)) ::
  []) hz hd (by kernel_rfl) (by kernel_rfl) ?_ ?_
 refine ⟨?_, ?_, ?_, ?_, ?_, ?_, ?_, ?_, ?_, trivial⟩
 exact zLd hz (sv S9) Cp2 ld_n64
 exact zC1 hz Try.func16 (kc (v := .int .u64 1)) (k1 (fun _ => c_of (by decide)))
 exact zC2 hz Try.func18 (sd 0 rfl) (sd 1 rfl) (fun _ _ _ h0 h1 => c_from_top (l := l1) h0 h1 (by decide) (by decide) (top_bits eJ hl1) (by omega))
 exact zMv hz (sd 2 rfl)
 exact zExt hz (sd 3 rfl)
 exact zExt hz (sd 3 rfl)
 exact zAl hz nd_rat al_r64
 exact zSt (sd 4 rfl) st_q64
 exact zAs hz (sd 5 rfl)
 intro a' γ' W' hz' hd' hC hk hh
 have ep1 := Cp1.lt
 have ep2 := Cp2.lt
 have tp1 := Cp1.lt
 replace Cp1 := kC hC Cp1
 have tp2 := Cp2.lt
 clear Cp2
 replace S4 := kp hk S4
 replace S5 := kp hk S5
 replace S7 := kp hk S7
 replace S8 := kp hk S8
 clear S9
 obtain ⟨p3, S11, Cp3, lp3, gp3⟩ := gotB hz' 7 hC hh rfl rfl rfl rfl rfl rfl
 have n_p3_p1 : p3 ≠ p1 := by omega
 have n_p1_p3 : p1 ≠ p3 := by have := ep1; omega
 have bp3 : w.heap.size ≤ p3 := Nat.le_trans HB.size lp3
 clear lp3 gp3
 clear tp1 tp2
 clear ep1 ep2
 replace HB := aft_call HB (RelC.below_nil hC)
 clear hC hk hh; replace hz := hz'; replace hd := hd'; clear hz' hd'
 refine wp_seq ?_
 refine wp_seq ?_
 by_cases hc4 : N < 9218868437227405312
 rw [decide_eq_true hc4] at S8
 have hc5 : x < mkRat ((18014398509481983 * 2 ^ J : Nat) : Int) 1 := ((nn_top eJ hx eN).2 hc4)
 refine region_text (M := []) (
  rT (tV (.bool true)) ::
  rT (tQ B64 2400 x) ::
  rT (tQ B64 l1 (mkRat ((18014398509481983 * 2 ^ J : Nat) : Int) 1)) ::
  rT (tV (.int .i64 (cmpQ x (mkRat ((18014398509481983 * 2 ^ J : Nat) : Int) 1)))) ::
  rT (tV (.bool true)) ::
  rT (tV (.bool false)) ::
  []) hz hd (by kernel_rfl) ?_ ?_
 refine ⟨?_, ?_, ?_, ?_, ?_, ?_, trivial⟩
 exact zMv hz (sv S8)
 exact zLd hz (sv S5) Cp1 ld_q64
 exact zLd hz (sv S11) Cp3 ld_q64
 exact zC2 hz Try.func19 (sd 1 rfl) (sd 2 rfl) (fun _ _ _ h0 h1 => cq_cmp h0 h1 (by decide) (by omega))
 exact sBin rfl rfl rfl hz rfl (Gd.none_ rfl) rfl (sd 3 rfl) kc (fun w => run_t (P := x < mkRat ((18014398509481983 * 2 ^ J : Nat) : Int) 1) ((fun w => run_cQ_lss x (mkRat ((18014398509481983 * 2 ^ J : Nat) : Int) 1) w) w) hc5)
 exact sBin rfl rfl rfl hz rfl (Gd.none_ rfl) rfl (sd 0 rfl) (sd 4 rfl) (fun w => by kernel_rfl)
 intro a' γ' W' hz' hd' hC hk hh
 have tp1 := Cp1.lt
 replace Cp1 := kC hC Cp1
 have tp3 := Cp3.lt
 clear Cp3
 replace S4 := kp hk S4
 replace S5 := kp hk S5
 replace S7 := kp hk S7
 replace S8 := kp hk S8
 clear S11
 have S44 := gotV hz' 5 hh rfl rfl rfl rfl
 clear tp1 tp3
 replace HB := aft_call HB (RelC.below_nil hC)
 clear hC hk hh; replace hz := hz'; replace hd := hd'; clear hz' hd'
 refine wp_cond_false S44.ev ?_
 refine wp_skip ?_
 refine wp_seq ?_
 refine wp_seq ?_
 refine region_text (M := []) (
  rT (tV (.bool true)) ::
  rT (tV (.bool false)) ::
  []) hz hd (by kernel_rfl) ?_ ?_
 refine ⟨?_, ?_, trivial⟩
 exact zMv hz (sv S8)
 exact zNot hz (sd 0 rfl)
 intro a' γ' W' hz' hd' hC hk hh
 have tp1 := Cp1.lt
 replace Cp1 := kC hC Cp1
 replace S4 := kp hk S4
 replace S5 := kp hk S5
 replace S7 := kp hk S7
 clear S8
 clear S44
 have S46 := gotV hz' 1 hh rfl rfl rfl rfl
 clear tp1
 replace HB := aft_call HB (RelC.below_nil hC)
 clear hC hk hh; replace hz := hz'; replace hd := hd'; clear hz' hd'
 refine wp_cond_false S46.ev ?_
 refine wp_skip ?_
 refine wp_seq ?_
 refine region_text (M := []) (
  rT (tV (.float .f64 (flN N))) ::
  rT (tV (.int .u64 ((N : Nat) : Int))) ::
  rT (tV (.int .u64 ((N : Nat) : Int))) ::
  []) hz hd (by kernel_rfl) ?_ ?_
 refine ⟨?_, ?_, ?_, trivial⟩
 exact zMv hz (sv S7)
 exact zC1 hz Try.func14 (sd 0 rfl) (k1 (fun _ => c_bits_n hc4))
 exact zAs hz (sd 1 rfl)
 intro a' γ' W' hz' hd' hC hk hh
 have tp1 := Cp1.lt
 replace Cp1 := kC hC Cp1
 replace S4 := kp hk S4
 replace S5 := kp hk S5
 clear S7
 clear S46
 have S13 := gotV hz' 2 hh rfl rfl rfl rfl
 clear tp1
 replace HB := aft_call HB (RelC.below_nil hC)
 clear hC hk hh; replace hz := hz'; replace hd := hd'; clear hz' hd'
 refine wp_seq ?_
 refine wp_seq ?_
 have hc6 : ¬ (N / 9223372036854775808 = 1) := (by have := hc4; omega)
 refine region_text (M := []) (
  rT (tV (.int .u64 ((N : Nat) : Int))) ::
  rT (tV (.int .u64 ((N / 9223372036854775808 : Nat) : Int))) ::
  rT (tV (.bool false)) ::
  rT (tV (.bool false)) ::
  rT (tV (.int .u64 ((N : Nat) : Int))) ::
  rT (tV (.int .u64 ((N / 4503599627370496 : Nat) : Int))) ::
  rT (tV (.int .u64 ((ex N : Nat) : Int))) ::
  rT (tV (.bool (decide (ex N = 2047)))) ::
  rT (tV (.bool (decide (ex N = 2047)))) ::
  []) hz hd (by kernel_rfl) ?_ ?_
 refine ⟨?_, ?_, ?_, ?_, ?_, ?_, ?_, ?_, ?_, trivial⟩
 exact zMv hz (sv S13)
 exact sBin rfl rfl rfl hz rfl (Gd.none_ rfl) rfl (sd 0 rfl) kc (fun w => f_sh63 w)
 exact sBin rfl rfl rfl hz rfl (Gd.none_ rfl) rfl (sd 1 rfl) kc (fun w => run_f (P := N / 9223372036854775808 = 1) ((fun w => f_is1 w) w) hc6)
 exact zMv hz (sd 2 rfl)
 exact zMv hz (sv S13) (g := gT 3 rfl)
 exact sBin rfl rfl rfl hz rfl (gT 3 rfl) rfl (sd 4 rfl) kc (fun w => f_shr (u := N) w)
 exact sBin rfl rfl rfl hz rfl (gT 3 rfl) rfl (sd 5 rfl) kc (fun w => f_ex (u := N) (by omega) w)
 exact sBin rfl rfl rfl hz rfl (gT 3 rfl) rfl (sd 6 rfl) kc (fun w => o_exis w)
 exact zPF hz (sd 3 rfl) (sd 7 rfl)
 intro a' γ' W' hz' hd' hC hk hh
 have tp1 := Cp1.lt
 replace Cp1 := kC hC Cp1
 replace S4 := kp hk S4
 replace S5 := kp hk S5
 replace S13 := kp hk S13
 have S62 := gotV hz' 8 hh rfl rfl rfl rfl
 clear tp1
 replace HB := aft_call HB (RelC.below_nil hC)
 clear hC hk hh; replace hz := hz'; replace hd := hd'; clear hz' hd'
 have hc7 : ¬ (ex N = 2047) := (ex_N1 hc4)
 rw [decide_eq_false hc7] at S62
 refine wp_cond_false S62.ev ?_
 refine wp_skip ?_
 refine wp_seq ?_
 refine region_drawn (M := []) (
  rT (tQ B64 2400 x) ::
  rT (tV (.int .u64 ((N : Nat) : Int))) ::
  rT (tQ B64 1100 (fl N)) ::
  rT (tQ B64 3501 (gapQ x (fl N))) ::
  rVar 4 27 2 ::
  rB 4 27 (tQ B64 3501 (gapQ x (fl N))) (some 4) 5 ::
  []) hz hd (by kernel_rfl) (by kernel_rfl) ?_ ?_
 refine ⟨?_, ?_, ?_, ?_, ?_, ?_, trivial⟩
 exact zLd hz (sv S5) Cp1 ld_q64
 exact zMv hz (sv S13)
 exact zC1 hz Try.func21 (sd 1 rfl) (k1 (fun _ => l_value (l := 1100) (by omega) (by decide)))
 exact zC2 hz Try.func20 (sd 0 rfl) (sd 2 rfl) (fun _ _ _ h0 h1 => l_gap h0 h1 (by decide) (by decide))
 exact zAl hz nd_rat al_r64
 exact zSt (sd 3 rfl) st_q64
 intro a' γ' W' hz' hd' hC hk hh
 have ep1 := Cp1.lt
 have tp1 := Cp1.lt
 replace Cp1 := kC hC Cp1
 replace S4 := kp hk S4
 replace S5 := kp hk S5
 replace S13 := kp hk S13
 clear S62
 obtain ⟨p8, S14, Cp8, lp8, gp8⟩ := gotB hz' 5 hC hh rfl rfl rfl rfl rfl rfl
 have n_p8_p1 : p8 ≠ p1 := by omega
 have n_p1_p8 : p1 ≠ p8 := by have := ep1; omega
 have bp8 : w.heap.size ≤ p8 := Nat.le_trans HB.size lp8
 clear lp8 gp8
 clear tp1
 clear ep1
 replace HB := aft_call HB (RelC.below_nil hC)
 clear hC hk hh; replace hz := hz'; replace hd := hd'; clear hz' hd'
 refine wp_join (fun a W => a.tmps.size = 111 ∧ a.defers = [] ∧ Below w.heap.size w W ∧ Sl a 5 (.pointer (some ⟨p1, 0, none⟩)) ∧ Sl a 13 (.int .u64 ((N : Nat) : Int)) ∧ Sl a 14 (.pointer (some ⟨p8, 0, none⟩)) ∧ Cell 27 (tQ B64 2400 x) p1 W ∧ Cell 27 (tQ B64 3501 (gapQ x (fl N))) p8 W) ?_ ?_
 refine wp_seq ?_
 refine region_text (M := []) (
  rT (tV (.int .u64 ((N : Nat) : Int))) ::
  rT (tV (.bool (decide (0 < N)))) ::
  []) hz hd (by kernel_rfl) ?_ ?_
 refine ⟨?_, ?_, trivial⟩
 exact zMv hz (sv S13)
 exact sBin rfl rfl rfl hz rfl (Gd.none_ rfl) rfl (sd 0 rfl) kc (fun w => f_nh0 w)
 intro a' γ' W' hz' hd' hC hk hh
 have tp1 := Cp1.lt
 replace Cp1 := kC hC Cp1
 have tp8 := Cp8.lt
 replace Cp8 := kC hC Cp8
 replace S4 := kp hk S4
 replace S5 := kp hk S5
 replace S13 := kp hk S13
 replace S14 := kp hk S14
 have S68 := gotV hz' 1 hh rfl rfl rfl rfl
 clear tp1 tp8
 replace HB := aft_call HB (RelC.below_nil hC)
 clear hC hk hh; replace hz := hz'; replace hd := hd'; clear hz' hd'
 by_cases hc9 : 0 < N
 rw [decide_eq_true hc9] at S68
 refine wp_cond_true S68.ev ?_
 refine wp_seq ?_
 refine region_drawn (M := []) (
  rT (tQ B64 3501 (gapQ x (fl N))) ::
  rT (tQ B64 2400 x) ::
  rT (tV (.int .u64 ((N : Nat) : Int))) ::
  rT (tV (.int .u64 ((N - 1 : Nat) : Int))) ::
  rT (tQ B64 1100 (fl (N - 1))) ::
  rT (tQ B64 3501 (gapQ x (fl (N - 1)))) ::
  rT (tV (.int .i64 (cmpQ (gapQ x (fl N)) (gapQ x (fl (N - 1)))))) ::
  rT (tV (.int .i64 (cmpQ (gapQ x (fl N)) (gapQ x (fl (N - 1)))))) ::
  []) hz hd (by kernel_rfl) (by kernel_rfl) ?_ ?_
 refine ⟨?_, ?_, ?_, ?_, ?_, ?_, ?_, ?_, trivial⟩
 exact zLd hz (sv S14) Cp8 ld_q64
 exact zLd hz (sv S5) Cp1 ld_q64
 exact zMv hz (sv S13)
 exact sBin rfl rfl rfl hz rfl (Gd.none_ rfl) rfl (sd 2 rfl) kc (fun w => o_usub1 hc9 hc4 w)
 exact zC1 hz Try.func21 (sd 3 rfl) (k1 (fun _ => l_value (l := 1100) (by omega) (by decide)))
 exact zC2 hz Try.func20 (sd 1 rfl) (sd 4 rfl) (fun _ _ _ h0 h1 => l_gap h0 h1 (by decide) (by decide))
 exact zC2 hz Try.func19 (sd 0 rfl) (sd 5 rfl) (fun _ _ _ h0 h1 => cq_cmp h0 h1 (by decide) (by decide))
 exact zAs hz (sd 6 rfl)
 intro a' γ' W' hz' hd' hC hk hh
 have tp1 := Cp1.lt
 replace Cp1 := kC hC Cp1
 have tp8 := Cp8.lt
 replace Cp8 := kC hC Cp8
 replace S4 := kp hk S4
 replace S5 := kp hk S5
 replace S13 := kp hk S13
 replace S14 := kp hk S14
 clear S68
 have S15 := gotV hz' 7 hh rfl rfl rfl rfl
 clear tp1 tp8
 replace HB := aft_call HB (RelC.below_nil hC)
 clear hC hk hh; replace hz := hz'; replace hd := hd'; clear hz' hd'
 refine wp_seq ?_
 have hc10 : ¬ (gapQ x (fl (N - 1)) < gapQ x (fl N)) := (nn_dn1 hx eN hc4 hc9)
 by_cases hc11 : gapQ x (fl N) = gapQ x (fl (N - 1))
 refine region_text (M := []) (
  rT (tV (.int .i64 (cmpQ (gapQ x (fl N)) (gapQ x (fl (N - 1)))))) ::
  rT (tV (.bool false)) ::
  rT (tV (.bool false)) ::
  rT (tV (.int .i64 (cmpQ (gapQ x (fl N)) (gapQ x (fl (N - 1)))))) ::
  rT (tV (.bool true)) ::
  rT (tV (.bool true)) ::
  rT (tV (.int .u64 ((N : Nat) : Int))) ::
  rT (tV (.int .u64 ((N % 2 : Nat) : Int))) ::
  rT (tV (.bool (decide (N % 2 = 1)))) ::
  rT (tV (.bool (decide (N % 2 = 1)))) ::
  rT (tV (.bool (decide (N % 2 = 1)))) ::
  []) hz hd (by kernel_rfl) ?_ ?_
 refine ⟨?_, ?_, ?_, ?_, ?_, ?_, ?_, ?_, ?_, ?_, ?_, trivial⟩
 exact zMv hz (sv S15)
 exact sBin rfl rfl rfl hz rfl (Gd.none_ rfl) rfl (sd 0 rfl) kc (fun w => run_f (P := gapQ x (fl (N - 1)) < gapQ x (fl N)) ((fun w => run_cQ_gtr (gapQ x (fl N)) (gapQ x (fl (N - 1))) w) w) hc10)
 exact zMv hz (sd 1 rfl)
 exact zMv hz (sv S15) (g := gT 2 rfl)
 exact sBin rfl rfl rfl hz rfl (gT 2 rfl) rfl (sd 3 rfl) kc (fun w => run_t (P := gapQ x (fl N) = gapQ x (fl (N - 1))) ((fun w => run_cQ_eql (gapQ x (fl N)) (gapQ x (fl (N - 1))) w) w) hc11)
 exact zMv hz (sd 4 rfl) (g := gT 2 rfl)
 exact zMv hz (sv S13) (g := gT 5 rfl)
 exact sBin rfl rfl rfl hz rfl (gT 5 rfl) rfl (sd 6 rfl) kc (fun w => o_uand1 (by omega) w)
 exact sBin rfl rfl rfl hz rfl (gT 5 rfl) rfl (sd 7 rfl) kc (fun w => f_is1 w)
 exact zPT hz (sd 5 rfl) (sd 8 rfl) (g := gT 2 rfl)
 exact zPF hz (sd 2 rfl) (sd 9 rfl)
 intro a' γ' W' hz' hd' hC hk hh
 have tp1 := Cp1.lt
 replace Cp1 := kC hC Cp1
 have tp8 := Cp8.lt
 replace Cp8 := kC hC Cp8
 replace S4 := kp hk S4
 replace S5 := kp hk S5
 replace S13 := kp hk S13
 replace S14 := kp hk S14
 clear S15
 have S86 := gotV hz' 10 hh rfl rfl rfl rfl
 clear tp1 tp8
 replace HB := aft_call HB (RelC.below_nil hC)
 clear hC hk hh; replace hz := hz'; replace hd := hd'; clear hz' hd'
 have hc12 : ¬ (N % 2 = 1) := (nn_dn2 hx eN hc4 hc9 hc11)
 rw [decide_eq_false hc12] at S86
 refine wp_cond_false S86.ev ?_
 refine wp_skip ?_
 refine join_n ?_
 exact ⟨hz, hd, HB, S5, S13, S14, Cp1, Cp8⟩
 refine region_text (M := []) (
  rT (tV (.int .i64 (cmpQ (gapQ x (fl N)) (gapQ x (fl (N - 1)))))) ::
  rT (tV (.bool false)) ::
  rT (tV (.bool false)) ::
  rT (tV (.int .i64 (cmpQ (gapQ x (fl N)) (gapQ x (fl (N - 1)))))) ::
  rT (tV (.bool false)) ::
  rT (tV (.bool false)) ::
  rT (tV undef) ::
  rT (tV undef) ::
  rT (tV undef) ::
  rT (tV (.bool false)) ::
  rT (tV (.bool false)) ::
  []) hz hd (by kernel_rfl) ?_ ?_
 refine ⟨?_, ?_, ?_, ?_, ?_, ?_, ?_, ?_, ?_, ?_, ?_, trivial⟩
 exact zMv hz (sv S15)
 exact sBin rfl rfl rfl hz rfl (Gd.none_ rfl) rfl (sd 0 rfl) kc (fun w => run_f (P := gapQ x (fl (N - 1)) < gapQ x (fl N)) ((fun w => run_cQ_gtr (gapQ x (fl N)) (gapQ x (fl (N - 1))) w) w) hc10)
 exact zMv hz (sd 1 rfl)
 exact zMv hz (sv S15) (g := gT 2 rfl)
 exact sBin rfl rfl rfl hz rfl (gT 2 rfl) rfl (sd 3 rfl) kc (fun w => run_f (P := gapQ x (fl N) = gapQ x (fl (N - 1))) ((fun w => run_cQ_eql (gapQ x (fl N)) (gapQ x (fl (N - 1))) w) w) hc11)
 exact zMv hz (sd 4 rfl) (g := gT 2 rfl)
 exact zSkU hz (gN 5 rfl)
 exact zSkU hz (gN 5 rfl)
 exact zSkU hz (gN 5 rfl)
 exact zPF hz (sd 5 rfl) kc (g := gT 2 rfl)
 exact zPF hz (sd 2 rfl) (sd 9 rfl)
 intro a' γ' W' hz' hd' hC hk hh
 have tp1 := Cp1.lt
 replace Cp1 := kC hC Cp1
 have tp8 := Cp8.lt
 replace Cp8 := kC hC Cp8
 replace S4 := kp hk S4
 replace S5 := kp hk S5
 replace S13 := kp hk S13
 replace S14 := kp hk S14
 clear S15
 have S86 := gotV hz' 10 hh rfl rfl rfl rfl
 clear tp1 tp8
 replace HB := aft_call HB (RelC.below_nil hC)
 clear hC hk hh; replace hz := hz'; replace hd := hd'; clear hz' hd'
 refine wp_cond_false S86.ev ?_
 refine wp_skip ?_
 refine join_n ?_
 exact ⟨hz, hd, HB, S5, S13, S14, Cp1, Cp8⟩
 rw [decide_eq_false hc9] at S68
 refine wp_cond_false S68.ev ?_
 refine wp_skip ?_
 refine join_n ?_
 exact ⟨hz, hd, HB, S5, S13, S14, Cp1, Cp8⟩
 clear S4 S5 S13 S14 Cp1 Cp8 hz hd HB
 rintro a W ⟨hz, hd, HB, S5, S13, S14, Cp1, Cp8⟩
 refine wp_seq ?_
 refine wp_seq ?_
 refine region_text (M := []) (
  rT (tV (.int .u64 ((N : Nat) : Int))) ::
  rT (tV (.int .u64 ((N + 1 : Nat) : Int))) ::
  rT (tV (.int .u64 (((N + 1) / 4503599627370496 : Nat) : Int))) ::
  rT (tV (.int .u64 ((ex (N + 1) : Nat) : Int))) ::
  rT (tV (.bool (decide (ex (N + 1) ≠ 2047)))) ::
  []) hz hd (by kernel_rfl) ?_ ?_
 refine ⟨?_, ?_, ?_, ?_, ?_, trivial⟩
 exact zMv hz (sv S13)
 exact sBin rfl rfl rfl hz rfl (Gd.none_ rfl) rfl (sd 0 rfl) kc (fun w => o_uadd1 hc4 w)
 exact sBin rfl rfl rfl hz rfl (Gd.none_ rfl) rfl (sd 1 rfl) kc (fun w => f_shr (u := N + 1) w)
 exact sBin rfl rfl rfl hz rfl (Gd.none_ rfl) rfl (sd 2 rfl) kc (fun w => f_ex (u := N + 1) (by omega) w)
 exact sBin rfl rfl rfl hz rfl (Gd.none_ rfl) rfl (sd 3 rfl) kc (fun w => o_exne w)
 intro a' γ' W' hz' hd' hC hk hh
 have tp1 := Cp1.lt
 replace Cp1 := kC hC Cp1
 have tp8 := Cp8.lt
 replace Cp8 := kC hC Cp8
 replace S5 := kp hk S5
 replace S13 := kp hk S13
 replace S14 := kp hk S14
 have S91 := gotV hz' 4 hh rfl rfl rfl rfl
 clear tp1 tp8
 replace HB := aft_call HB (RelC.below_nil hC)
 clear hC hk hh; replace hz := hz'; replace hd := hd'; clear hz' hd'
 by_cases hc13 : ex (N + 1) ≠ 2047
 rw [decide_eq_true hc13] at S91
 refine wp_cond_true S91.ev ?_
 refine wp_seq ?_
 refine region_drawn (M := []) (
  rT (tQ B64 3501 (gapQ x (fl N))) ::
  rT (tQ B64 2400 x) ::
  rT (tV (.int .u64 ((N : Nat) : Int))) ::
  rT (tV (.int .u64 ((N + 1 : Nat) : Int))) ::
  rT (tQ B64 1100 (fl (N + 1))) ::
  rT (tQ B64 3501 (gapQ x (fl (N + 1)))) ::
  rT (tV (.int .i64 (cmpQ (gapQ x (fl N)) (gapQ x (fl (N + 1)))))) ::
  rT (tV (.int .i64 (cmpQ (gapQ x (fl N)) (gapQ x (fl (N + 1)))))) ::
  []) hz hd (by kernel_rfl) (by kernel_rfl) ?_ ?_
 refine ⟨?_, ?_, ?_, ?_, ?_, ?_, ?_, ?_, trivial⟩
 exact zLd hz (sv S14) Cp8 ld_q64
 exact zLd hz (sv S5) Cp1 ld_q64
 exact zMv hz (sv S13)
 exact sBin rfl rfl rfl hz rfl (Gd.none_ rfl) rfl (sd 2 rfl) kc (fun w => o_uadd1 hc4 w)
 exact zC1 hz Try.func21 (sd 3 rfl) (k1 (fun _ => l_value (l := 1100) (by omega) (by decide)))
 exact zC2 hz Try.func20 (sd 1 rfl) (sd 4 rfl) (fun _ _ _ h0 h1 => l_gap h0 h1 (by decide) (by decide))
 exact zC2 hz Try.func19 (sd 0 rfl) (sd 5 rfl) (fun _ _ _ h0 h1 => cq_cmp h0 h1 (by decide) (by decide))
 exact zAs hz (sd 6 rfl)
 intro a' γ' W' hz' hd' hC hk hh
 have tp1 := Cp1.lt
 clear Cp1
 have tp8 := Cp8.lt
 clear Cp8
 clear S5
 replace S13 := kp hk S13
 clear S14
 clear S91
 have S16 := gotV hz' 7 hh rfl rfl rfl rfl
 clear tp1 tp8
 replace HB := aft_call HB (RelC.below_nil hC)
 clear hC hk hh; replace hz := hz'; replace hd := hd'; clear hz' hd'
 refine wp_seq ?_
 have hc14 : ¬ (gapQ x (fl (N + 1)) < gapQ x (fl N)) := (nn_up1 hx eN (ex_N2 hc4 hc13))
 by_cases hc15 : gapQ x (fl N) = gapQ x (fl (N + 1))
 refine region_text (M := []) (
  rT (tV (.int .i64 (cmpQ (gapQ x (fl N)) (gapQ x (fl (N + 1)))))) ::
  rT (tV (.bool false)) ::
  rT (tV (.bool false)) ::
  rT (tV (.int .i64 (cmpQ (gapQ x (fl N)) (gapQ x (fl (N + 1)))))) ::
  rT (tV (.bool true)) ::
  rT (tV (.bool true)) ::
  rT (tV (.int .u64 ((N : Nat) : Int))) ::
  rT (tV (.int .u64 ((N % 2 : Nat) : Int))) ::
  rT (tV (.bool (decide (N % 2 = 1)))) ::
  rT (tV (.bool (decide (N % 2 = 1)))) ::
  rT (tV (.bool (decide (N % 2 = 1)))) ::
  []) hz hd (by kernel_rfl) ?_ ?_
 refine ⟨?_, ?_, ?_, ?_, ?_, ?_, ?_, ?_, ?_, ?_, ?_, trivial⟩
 exact zMv hz (sv S16)
 exact sBin rfl rfl rfl hz rfl (Gd.none_ rfl) rfl (sd 0 rfl) kc (fun w => run_f (P := gapQ x (fl (N + 1)) < gapQ x (fl N)) ((fun w => run_cQ_gtr (gapQ x (fl N)) (gapQ x (fl (N + 1))) w) w) hc14)
 exact zMv hz (sd 1 rfl)
 exact zMv hz (sv S16) (g := gT 2 rfl)
 exact sBin rfl rfl rfl hz rfl (gT 2 rfl) rfl (sd 3 rfl) kc (fun w => run_t (P := gapQ x (fl N) = gapQ x (fl (N + 1))) ((fun w => run_cQ_eql (gapQ x (fl N)) (gapQ x (fl (N + 1))) w) w) hc15)
 exact zMv hz (sd 4 rfl) (g := gT 2 rfl)
 exact zMv hz (sv S13) (g := gT 5 rfl)
 exact sBin rfl rfl rfl hz rfl (gT 5 rfl) rfl (sd 6 rfl) kc (fun w => o_uand1 (by omega) w)
 exact sBin rfl rfl rfl hz rfl (gT 5 rfl) rfl (sd 7 rfl) kc (fun w => f_is1 w)
 exact zPT hz (sd 5 rfl) (sd 8 rfl) (g := gT 2 rfl)
 exact zPF hz (sd 2 rfl) (sd 9 rfl)
 intro a' γ' W' hz' hd' hC hk hh
 clear S13
 clear S16
 have S109 := gotV hz' 10 hh rfl rfl rfl rfl
 replace HB := aft_call HB (RelC.below_nil hC)
 clear hC hk hh; replace hz := hz'; replace hd := hd'; clear hz' hd'
 have hc16 : ¬ (N % 2 = 1) := (nn_up2 hx eN (ex_N2 hc4 hc13) hc15)
 rw [decide_eq_false hc16] at S109
 refine wp_cond_false S109.ev ?_
 refine wp_skip ?_
 refine wp_seq ?_
 refine region_text (M := []) (
  rT (tV (.bool true)) ::
  rT (tV (.bool true)) ::
  []) hz hd (by kernel_rfl) ?_ ?_
 refine ⟨?_, ?_, trivial⟩
 exact zC0 hz Try.func10 (fun _ => l_started)
 exact zAs hz (sd 0 rfl)
 intro a' γ' W' hz' hd' hC hk hh
 clear S109
 have S4 := gotV hz' 1 hh rfl rfl rfl rfl
 replace HB := aft_call HB (RelC.below_nil hC)
 clear hC hk hh; replace hz := hz'; replace hd := hd'; clear hz' hd'
 refine wp_ret ?_
 refine ret_to (T := tV (.bool true)) (ret1 (by kernel_rfl) S4 hd ⟨_, rfl, rfl, HB⟩) ?_
 exact fun _ _ h => h
 refine region_text (M := []) (
  rT (tV (.int .i64 (cmpQ (gapQ x (fl N)) (gapQ x (fl (N + 1)))))) ::
  rT (tV (.bool false)) ::
  rT (tV (.bool false)) ::
  rT (tV (.int .i64 (cmpQ (gapQ x (fl N)) (gapQ x (fl (N + 1)))))) ::
  rT (tV (.bool false)) ::
  rT (tV (.bool false)) ::
  rT (tV undef) ::
  rT (tV undef) ::
  rT (tV undef) ::
  rT (tV (.bool false)) ::
  rT (tV (.bool false)) ::
  []) hz hd (by kernel_rfl) ?_ ?_
 refine ⟨?_, ?_, ?_, ?_, ?_, ?_, ?_, ?_, ?_, ?_, ?_, trivial⟩
 exact zMv hz (sv S16)
 exact sBin rfl rfl rfl hz rfl (Gd.none_ rfl) rfl (sd 0 rfl) kc (fun w => run_f (P := gapQ x (fl (N + 1)) < gapQ x (fl N)) ((fun w => run_cQ_gtr (gapQ x (fl N)) (gapQ x (fl (N + 1))) w) w) hc14)
 exact zMv hz (sd 1 rfl)
 exact zMv hz (sv S16) (g := gT 2 rfl)
 exact sBin rfl rfl rfl hz rfl (gT 2 rfl) rfl (sd 3 rfl) kc (fun w => run_f (P := gapQ x (fl N) = gapQ x (fl (N + 1))) ((fun w => run_cQ_eql (gapQ x (fl N)) (gapQ x (fl (N + 1))) w) w) hc15)
 exact zMv hz (sd 4 rfl) (g := gT 2 rfl)
 exact zSkU hz (gN 5 rfl)
 exact zSkU hz (gN 5 rfl)
 exact zSkU hz (gN 5 rfl)
 exact zPF hz (sd 5 rfl) kc (g := gT 2 rfl)
 exact zPF hz (sd 2 rfl) (sd 9 rfl)
 intro a' γ' W' hz' hd' hC hk hh
 clear S13
 clear S16
 have S109 := gotV hz' 10 hh rfl rfl rfl rfl
 replace HB := aft_call HB (RelC.below_nil hC)
 clear hC hk hh; replace hz := hz'; replace hd := hd'; clear hz' hd'
 refine wp_cond_false S109.ev ?_
 refine wp_skip ?_
 refine wp_seq ?_
 refine region_text (M := []) (
  rT (tV (.bool true)) ::
  rT (tV (.bool true)) ::
  []) hz hd (by kernel_rfl) ?_ ?_
 refine ⟨?_, ?_, trivial⟩
 exact zC0 hz Try.func10 (fun _ => l_started)
 exact zAs hz (sd 0 rfl)
 intro a' γ' W' hz' hd' hC hk hh
 clear S109
 have S4 := gotV hz' 1 hh rfl rfl rfl rfl
 replace HB := aft_call HB (RelC.below_nil hC)
 clear hC hk hh; replace hz := hz'; replace hd := hd'; clear hz' hd'
 refine wp_ret ?_
 refine ret_to (T := tV (.bool true)) (ret1 (by kernel_rfl) S4 hd ⟨_, rfl, rfl, HB⟩) ?_
 exact fun _ _ h => h
 rw [decide_eq_false hc13] at S91
 refine wp_cond_false S91.ev ?_
 refine wp_skip ?_
 refine wp_seq ?_
 refine region_text (M := []) (
  rT (tV (.bool true)) ::
  rT (tV (.bool true)) ::
  []) hz hd (by kernel_rfl) ?_ ?_
 refine ⟨?_, ?_, trivial⟩
 exact zC0 hz Try.func10 (fun _ => l_started)
 exact zAs hz (sd 0 rfl)
 intro a' γ' W' hz' hd' hC hk hh
 have tp1 := Cp1.lt
 clear Cp1
 have tp8 := Cp8.lt
 clear Cp8
 clear S5
 clear S13
 clear S14
 clear S91
 have S4 := gotV hz' 1 hh rfl rfl rfl rfl
 clear tp1 tp8
 replace HB := aft_call HB (RelC.below_nil hC)
 clear hC hk hh; replace hz := hz'; replace hd := hd'; clear hz' hd'
 refine wp_ret ?_
 refine ret_to (T := tV (.bool true)) (ret1 (by kernel_rfl) S4 hd ⟨_, rfl, rfl, HB⟩) ?_
 exact fun _ _ h => h
 rw [decide_eq_false hc4] at S8
 have hc17 : ¬ (x < mkRat ((18014398509481983 * 2 ^ J : Nat) : Int) 1) := (fun c => hc4 ((nn_top eJ hx eN).1 c))
 refine region_text (M := []) (
  rT (tV (.bool false)) ::
  rT (tQ B64 2400 x) ::
  rT (tQ B64 l1 (mkRat ((18014398509481983 * 2 ^ J : Nat) : Int) 1)) ::
  rT (tV (.int .i64 (cmpQ x (mkRat ((18014398509481983 * 2 ^ J : Nat) : Int) 1)))) ::
  rT (tV (.bool false)) ::
  rT (tV (.bool false)) ::
  []) hz hd (by kernel_rfl) ?_ ?_
 refine ⟨?_, ?_, ?_, ?_, ?_, ?_, trivial⟩
 exact zMv hz (sv S8)
 exact zLd hz (sv S5) Cp1 ld_q64
 exact zLd hz (sv S11) Cp3 ld_q64
 exact zC2 hz Try.func19 (sd 1 rfl) (sd 2 rfl) (fun _ _ _ h0 h1 => cq_cmp h0 h1 (by decide) (by omega))
 exact sBin rfl rfl rfl hz rfl (Gd.none_ rfl) rfl (sd 3 rfl) kc (fun w => run_f (P := x < mkRat ((18014398509481983 * 2 ^ J : Nat) : Int) 1) ((fun w => run_cQ_lss x (mkRat ((18014398509481983 * 2 ^ J : Nat) : Int) 1) w) w) hc17)
 exact sBin rfl rfl rfl hz rfl (Gd.none_ rfl) rfl (sd 0 rfl) (sd 4 rfl) (fun w => by kernel_rfl)
 intro a' γ' W' hz' hd' hC hk hh
 have tp1 := Cp1.lt
 replace Cp1 := kC hC Cp1
 have tp3 := Cp3.lt
 clear Cp3
 replace S4 := kp hk S4
 replace S5 := kp hk S5
 replace S7 := kp hk S7
 replace S8 := kp hk S8
 clear S11
 have S44 := gotV hz' 5 hh rfl rfl rfl rfl
 clear tp1 tp3
 replace HB := aft_call HB (RelC.below_nil hC)
 clear hC hk hh; replace hz := hz'; replace hd := hd'; clear hz' hd'
 refine wp_cond_false S44.ev ?_
 refine wp_skip ?_
 refine wp_seq ?_
 refine wp_seq ?_
 refine region_text (M := []) (
  rT (tV (.bool false)) ::
  rT (tV (.bool true)) ::
  []) hz hd (by kernel_rfl) ?_ ?_
 refine ⟨?_, ?_, trivial⟩
 exact zMv hz (sv S8)
 exact zNot hz (sd 0 rfl)
 intro a' γ' W' hz' hd' hC hk hh
 have tp1 := Cp1.lt
 replace Cp1 := kC hC Cp1
 replace S4 := kp hk S4
 replace S5 := kp hk S5
 replace S7 := kp hk S7
 clear S8
 clear S44
 have S46 := gotV hz' 1 hh rfl rfl rfl rfl
 clear tp1
 replace HB := aft_call HB (RelC.below_nil hC)
 clear hC hk hh; replace hz := hz'; replace hd := hd'; clear hz' hd'
 refine wp_cond_true S46.ev ?_
 refine wp_seq ?_
 refine region_text (M := []) (
  rT (tV (.float .f64 (flN N))) ::
  rT (tV (.bool true)) ::
  rT (tV (.bool true)) ::
  rT (tV (.bool true)) ::
  rT (tV (.bool true)) ::
  rT (tV (.bool true)) ::
  []) hz hd (by kernel_rfl) ?_ ?_
 refine ⟨?_, ?_, ?_, ?_, ?_, ?_, trivial⟩
 exact zMv hz (sv S7)
 exact sBin rfl rfl rfl hz rfl (Gd.none_ rfl) rfl (sd 0 rfl) kc (fun w => o_feq0 hc4 w)
 exact zMv hz (sd 1 rfl)
 exact zC0 hz Try.func10 (fun _ => l_started) (g := gT 2 rfl)
 exact zPT hz (sd 2 rfl) (sd 3 rfl)
 exact zAs hz (sd 4 rfl)
 intro a' γ' W' hz' hd' hC hk hh
 have tp1 := Cp1.lt
 replace Cp1 := kC hC Cp1
 clear S4
 replace S5 := kp hk S5
 replace S7 := kp hk S7
 clear S46
 have S4 := gotV hz' 5 hh rfl rfl rfl rfl
 clear tp1
 replace HB := aft_call HB (RelC.below_nil hC)
 clear hC hk hh; replace hz := hz'; replace hd := hd'; clear hz' hd'
 refine wp_ret ?_
 refine ret_to (T := tV (.bool true)) (ret1 (by kernel_rfl) S4 hd ⟨_, rfl, rfl, HB⟩) ?_
 exact fun _ _ h => h

end Go.Proofs.Ytfgnleoaibcegaa.Rg

namespace Go.Proofs.Ytfgnleoaibcegaa.Rg

open Go.RowKit Go.ChangeShapes Go.WideShapes Go.ChangeAt Go.Deep

theorem by_in3 {w : World} {A : Option Addr} {n c : Nat} {l : List Int} (h : InI .u8 1 1 w A n c l) : (tBy 9223372036854775807 (l.map Int.toNat)).p (.slice A n c) w :=
  ⟨A, n, c, rfl, bat_in h, h.le, by have := h.le; have := h.reach; omega⟩
theorem numNearest_walk (A0 : Option Addr) (n0 c0 : Nat) (l0 : List Int) (A1 : Option Addr) (n1 c1 : Nat) (l1 : List Int) (w : World) (h0 : InI .u8 1 1 w A0 n0 c0 l0) (h1 : InI .u8 1 1 w A1 n1 c1 l1) :
    Calls Try.prog 5 #[.slice A0 n0 c0, .slice A1 n1 c1] w fun e w' => e = .returned (.bool true) ∧ Below w.heap.size w w' :=
  ret_out3 (numNearest_ret (by_in3 h0) (by_in3 h1))
end Go.Proofs.Ytfgnleoaibcegaa.Rg
