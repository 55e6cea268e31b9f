/-
  Walks and plain laws, put together: VU WA WBH VR WB WBW.
-/
import Derived.Test.YtfgnleoaibcegaaQj
import Derived.Test.YtfgnleoaibcegaaQh
import Derived.Laws.Strings
import Derived.Test.YtfgnleoaibcegaaXBC
import Derived.Test.YtfgnleoaibcegaaFr
set_option linter.unusedVariables false
set_option linter.unusedSimpArgs false
namespace Go.Proofs.Ytfgnleoaibcegaa.Rg

open Go.RowKit

theorem bat_take3 {w : World} {A : Option Addr} {n c k : Nat} {l : List Nat} (h : BAt w A n c l) (hk : k ≤ n) : BAt w A k c (l.take k) := by
  refine ⟨⟨by rw [bv_length, List.length_take, h.len]; omega, fun hk0 => ?_⟩, fun d hd => h.byte d (List.mem_of_mem_take hd)⟩
  obtain ⟨ad, e, hlt, hc⟩ := h.reads.2 (by omega)
  refine ⟨ad, e, hlt, fun j u hu => hc j u ?_⟩
  have hj : j < k := by have := (List.getElem?_eq_some_iff.1 hu).1; rw [bv_length, List.length_take] at this; omega
  unfold bv at hu ⊢
  rw [List.map_take, List.getElem?_take_of_lt hj] at hu
  exact hu
set_option maxHeartbeats 400000 in
theorem cut3_any (A : Option Addr) (n c : Nat) (l : List Nat) (w : World) (h : BAt w A n c l) (hnc : n ≤ c) :
    Calls Try.prog 37 #[.slice A n c] w fun e w' => ∃ n1, e = .returned (.slice A n1 c) ∧ BAt w' A n1 c (l.take 300) ∧ n1 ≤ 300 ∧ n1 ≤ c ∧ w = w' := by
  by_cases hn : n ≤ 300
  · have hl : l.take 300 = l := List.take_of_length_le (by rw [h.len]; exact hn)
    have b1 : decide ((300 : Int) < (n : Int)) = false := decide_eq_false (by omega)
    rw [hl]
    have H := Lib.hid h
    clear h
    go_enter Try.func37, Try.ntmps37
    go_wp2_with fail
    go_ret
    exact ⟨n, rfl, H.out, hn, hnc, rfl⟩
  · have hb := bat_take3 h (show 300 ≤ n by omega)
    have b1 : decide ((300 : Int) < (n : Int)) = true := decide_eq_true (by omega)
    have b2 : (300 : Int) ≤ (c : Int) := by omega
    have H := Lib.hid hb
    clear hb h
    go_enter Try.func37, Try.ntmps37
    go_wp2_with fail
    go_ret
    exact ⟨300, rfl, H.out, by omega, by omega, rfl⟩
theorem l_cut3 {lim : Nat} {l : List Nat} {v1 : Value} {w : World} (h1 : (tBy lim l).p v1 w) :
    Calls Try.prog 37 #[v1] w (Ret (tBy 300 (l.take 300)) w) := by
  obtain ⟨A, n, c, rfl, h, h2, -⟩ := h1
  refine (cut3_any A n c l w h h2).mono ?_
  rintro e w' ⟨k, rfl, hd, hk, hkc, rfl⟩
  exact ⟨_, rfl, ⟨A, k, c, rfl, hd, hkc, hk⟩, Below.refl _ _⟩
theorem bev_bits3 {l : List Nat} {m : Nat} (hm : 2400 ≤ m) (h : ∀ d ∈ l, d < 256) : bev (l.take 300) < 2 ^ m := by
  refine Nat.lt_of_lt_of_le (bev_lt fun d hd => h d (List.mem_of_mem_take hd)) ?_
  rw [show (256 : Nat) = 2 ^ 8 from rfl, ← Nat.pow_mul]
  exact Nat.pow_le_pow_right (by omega) (by have := List.length_take_le 300 l; omega)
theorem tBy_bits3 {v : Value} {w : World} {m lim : Nat} {l : List Nat} (hm : 2400 ≤ m) (h : (tBy lim l).p v w) : bev (l.take 300) < 2 ^ m := by
  obtain ⟨A, n, c, rfl, h, -, -⟩ := h
  exact bev_bits3 hm h.byte
theorem one_2400 {m : Nat} (hm : 2400 ≤ m) : 1 < 2 ^ m := Nat.one_lt_two_pow (by omega)
/-- The fraction that is made of two rows of bytes. -/
def mk3 (l k : List Nat) : Rat := mkRat (bev (l.take 300)) (und (bev (k.take 300)))
theorem ret2_q {fn : Func} {w0 : World} {a : Act} {w : World} {t1 t2 p1 p2 l1 l2 : Nat} {x1 x2 : Rat} (h : fn.results = #[.cell t1 27, .cell t2 35]) (s1 : Sl a t1 (.pointer (some ⟨p1, 0, none⟩))) (s2 : Sl a t2 (.pointer (some ⟨p2, 0, none⟩))) (hdf : a.defers = [])
    (c1 : Cell 27 (tQ B64 l1 x1) p1 w) (c2 : Cell 35 (tQ B32 l2 x2) p2 w) (hb : Below w0.heap.size w0 w) : bodyPost Try.prog fn (Ret (tT [tQ B64 l1 x1, tQ B32 l2 x2]) w0) .ret a w := by
  obtain ⟨v1, b1, h1⟩ := c1
  obtain ⟨v2, b2, h2⟩ := c2
  refine bodyPost_ret (v := .tuple #[v1, v2]) ?_ hdf ⟨_, rfl, ⟨[v1, v2], rfl, h1, h2, trivial⟩, hb⟩
  obtain ⟨p, q, ⟨A, n, c, A2, n2, c2, rfl, -⟩, -⟩ := h1
  obtain ⟨p', q', ⟨A', n', c', A3, n3, c3, rfl, -⟩, -⟩ := h2
  have e1 := b1.cell 0
  have e2 := b2.cell 0
  have e3 := b1.cell 1
  have e4 := b2.cell 1
  unfold Sl at s1 s2
  simp [Value.cells] at e1 e2 e3 e4
  simp [results, h, go_sem, s1, s2, e1, e2, e3, e4]

set_option maxRecDepth 10000 in
set_option maxHeartbeats 2000000 in
theorem l_made3 {m : Nat} {l k : List Nat} {v0 v1 : Value} {w : World} (h0 : (tBy 9223372036854775807 l).p v0 w) (h1 : (tBy 9223372036854775807 k).p v1 w) (hm : 2400 ≤ m) :
    Calls Try.prog 11 #[v0, v1] w (Ret (tT [tQ B64 m (mk3 l k), tQ B32 m (mk3 l k)]) w) := by
 refine enter Try.func11 rfl Try.ntmps11 (by simp) ?_
 intro a hz hd ha
 have S0 := ha 0 _ rfl
 have H0 := h0
 have S1 := ha 1 _ rfl
 have H1 := h1
 clear ha
 have HB : Below w.heap.size w w := Below.refl _ _
 have hP := Lib.hid (tBy_bits3 hm h0)
 have hQ := Lib.hid (tBy_bits3 hm h1)
 refine wp_seq ?_
 refine region_text (M := []) (
  rB 0 27 (tQ B64 1 0) none 0 ::
  rB 1 35 (tR B32 0 0 0 0) none 0 ::
  []) hz hd (by kernel_rfl) ?_ ?_
 refine ⟨?_, ?_, trivial⟩
 exact zNew hz (fun _ => tQ_nil) al_r64
 exact zNew hz (fun _ => tR_nil) al_r32
 intro a' γ' W' hz' hd' hC hk hh
 replace S0 := kp hk S0
 replace H0 := Ty.aft _ H0 hC
 replace S1 := kp hk S1
 replace H1 := Ty.aft _ H1 hC
 obtain ⟨p1, S4, Cp1, lp1, gp1⟩ := gotB hz' 0 hC hh rfl rfl rfl rfl rfl rfl
 obtain ⟨p2, S5, Cp2, lp2, gp2⟩ := gotB hz' 1 hC hh rfl rfl rfl rfl rfl rfl
 have n_p1_p2 : p1 ≠ p2 := by intro e; rw [e, gp2] at gp1; omega
 have n_p2_p1 : p2 ≠ p1 := by intro e; rw [e, gp1] at gp2; omega
 have bp1 : w.heap.size ≤ p1 := Nat.le_trans HB.size lp1
 have bp2 : w.heap.size ≤ p2 := Nat.le_trans HB.size lp2
 clear lp1 gp1 lp2 gp2
 replace HB := aft_call HB (RelC.below_nil hC)
 clear hC hk hh; replace hz := hz'; replace hd := hd'; clear hz' hd'
 refine wp_seq ?_
 refine region_text (M := []) (
  rT (tBy 9223372036854775807 l) ::
  rT (tBy 300 (l.take 300)) ::
  rT (tBy 9223372036854775807 k) ::
  rT (tBy 300 (k.take 300)) ::
  rT (tBy 300 (l.take 300)) ::
  rT (tBy 300 (k.take 300)) ::
  []) hz hd (by kernel_rfl) ?_ ?_
 refine ⟨?_, ?_, ?_, ?_, ?_, ?_, trivial⟩
 exact zMv hz (so S0 H0)
 exact zC1 hz Try.func37 (sd 0 rfl) (fun _ _ h0 => l_cut3 h0)
 exact zMv hz (so S1 H1)
 exact zC1 hz Try.func37 (sd 2 rfl) (fun _ _ h0 => l_cut3 h0)
 exact zAs hz (sd 1 rfl)
 exact zAs hz (sd 3 rfl)
 intro a' γ' W' hz' hd' hC hk hh
 have tp1 := Cp1.lt
 replace Cp1 := kC hC Cp1
 have tp2 := Cp2.lt
 replace Cp2 := kC hC Cp2
 clear S0 H0
 clear S1 H1
 replace S4 := kp hk S4
 replace S5 := kp hk S5
 obtain ⟨v0, S0, H0⟩ := got hz' 4 hh rfl rfl rfl rfl
 obtain ⟨v1, S1, H1⟩ := got hz' 5 hh rfl rfl rfl rfl
 clear tp1 tp2
 replace HB := aft_call HB (RelC.below_nil hC)
 clear hC hk hh; replace hz := hz'; replace hd := hd'; clear hz' hd'
 refine wp_seq ?_
 refine region_text (M := []) (
  rT (tBy 300 (l.take 300)) ::
  rT (tN B64 300 (bev (l.take 300))) ::
  rT (tBy 300 (k.take 300)) ::
  rT (tN B64 300 (bev (k.take 300))) ::
  rT (tT [tQ B64 m (mkRat (bev (l.take 300)) (bev (k.take 300))), tV (.bool (decide (bev (k.take 300) ≠ 0)))]) ::
  rT (tT [tQ B64 m (mkRat (bev (l.take 300)) (bev (k.take 300))), tV (.bool (decide (bev (k.take 300) ≠ 0)))]) ::
  rT (tQ B64 m (mkRat (bev (l.take 300)) (bev (k.take 300)))) ::
  rT (tV (.bool (decide (bev (k.take 300) ≠ 0)))) ::
  rVar 8 27 2 ::
  rB 8 27 (tQ B64 m (mkRat (bev (l.take 300)) (bev (k.take 300)))) (some 8) 9 ::
  rT (tV (.bool (decide (bev (k.take 300) ≠ 0)))) ::
  []) hz hd (by kernel_rfl) ?_ ?_
 refine ⟨?_, ?_, ?_, ?_, ?_, ?_, ?_, ?_, ?_, ?_, ?_, trivial⟩
 exact zMv hz (so S0 H0)
 exact zC1 hz Try.func38 (sd 0 rfl) (fun _ _ h0 => c_fb h0 (by decide))
 exact zMv hz (so S1 H1)
 exact zC1 hz Try.func38 (sd 2 rfl) (fun _ _ h0 => c_fb h0 (by decide))
 exact zC2 hz Try.func18 (sd 1 rfl) (sd 3 rfl) (fun _ _ _ h0 h1 => cq_from (l := m) h0 h1 (by decide) (by decide) hP.out hQ.out (by omega))
 exact zMv hz (sd 4 rfl)
 exact zExt hz (sd 5 rfl)
 exact zExt hz (sd 5 rfl)
 exact zAl hz nd_rat al_r64
 exact zSt (sd 6 rfl) st_q64
 exact zAs hz (sd 7 rfl)
 intro a' γ' W' hz' hd' hC hk hh
 have ep1 := Cp1.lt
 have ep2 := Cp2.lt
 have tp1 := Cp1.lt
 replace Cp1 := kC hC Cp1
 have tp2 := Cp2.lt
 replace Cp2 := kC hC Cp2
 replace S4 := kp hk S4
 replace S5 := kp hk S5
 replace S0 := kp hk S0
 replace H0 := Ty.aft _ H0 hC
 replace S1 := kp hk S1
 replace H1 := Ty.aft _ H1 hC
 obtain ⟨p3, S6, Cp3, lp3, gp3⟩ := gotB hz' 9 hC hh rfl rfl rfl rfl rfl rfl
 have S7 := gotV hz' 10 hh rfl rfl rfl rfl
 have n_p3_p1 : p3 ≠ p1 := by omega
 have n_p3_p2 : p3 ≠ p2 := by omega
 have n_p1_p3 : p1 ≠ p3 := by have := ep1; omega
 have n_p2_p3 : p2 ≠ p3 := by have := ep2; omega
 have bp3 : w.heap.size ≤ p3 := Nat.le_trans HB.size lp3
 clear lp3 gp3
 clear tp1 tp2
 clear ep1 ep2
 replace HB := aft_call HB (RelC.below_nil hC)
 clear hC hk hh; replace hz := hz'; replace hd := hd'; clear hz' hd'
 refine wp_seq ?_
 refine region_text (M := []) (
  rT (tBy 300 (l.take 300)) ::
  rT (tN B32 300 (bev (l.take 300))) ::
  rT (tBy 300 (k.take 300)) ::
  rT (tN B32 300 (bev (k.take 300))) ::
  rT (tT [tQ B32 m (mkRat (bev (l.take 300)) (bev (k.take 300))), tV (.bool (decide (bev (k.take 300) ≠ 0)))]) ::
  rT (tT [tQ B32 m (mkRat (bev (l.take 300)) (bev (k.take 300))), tV (.bool (decide (bev (k.take 300) ≠ 0)))]) ::
  rT (tQ B32 m (mkRat (bev (l.take 300)) (bev (k.take 300)))) ::
  rT (tV (.bool (decide (bev (k.take 300) ≠ 0)))) ::
  rVar 8 35 2 ::
  rB 8 35 (tQ B32 m (mkRat (bev (l.take 300)) (bev (k.take 300)))) (some 8) 9 ::
  rT (tV (.bool (decide (bev (k.take 300) ≠ 0)))) ::
  []) hz hd (by kernel_rfl) ?_ ?_
 refine ⟨?_, ?_, ?_, ?_, ?_, ?_, ?_, ?_, ?_, ?_, ?_, trivial⟩
 exact zMv hz (so S0 H0)
 exact zC1 hz Try.func39 (sd 0 rfl) (fun _ _ h0 => d_fb h0 (by decide))
 exact zMv hz (so S1 H1)
 exact zC1 hz Try.func39 (sd 2 rfl) (fun _ _ h0 => d_fb h0 (by decide))
 exact zC2 hz Try.func30 (sd 1 rfl) (sd 3 rfl) (fun _ _ _ h0 h1 => dq_from (l := m) h0 h1 (by decide) (by decide) hP.out hQ.out (by omega))
 exact zMv hz (sd 4 rfl)
 exact zExt hz (sd 5 rfl)
 exact zExt hz (sd 5 rfl)
 exact zAl hz nd_rat al_r32
 exact zSt (sd 6 rfl) st_q32
 exact zAs hz (sd 7 rfl)
 intro a' γ' W' hz' hd' hC hk hh
 have ep1 := Cp1.lt
 have ep2 := Cp2.lt
 have ep3 := Cp3.lt
 have tp1 := Cp1.lt
 replace Cp1 := kC hC Cp1
 have tp2 := Cp2.lt
 replace Cp2 := kC hC Cp2
 have tp3 := Cp3.lt
 replace Cp3 := kC hC Cp3
 replace S4 := kp hk S4
 replace S5 := kp hk S5
 replace S0 := kp hk S0
 replace H0 := Ty.aft _ H0 hC
 clear S1 H1
 replace S6 := kp hk S6
 replace S7 := kp hk S7
 obtain ⟨p4, S8, Cp4, lp4, gp4⟩ := gotB hz' 9 hC hh rfl rfl rfl rfl rfl rfl
 have S9 := gotV hz' 10 hh rfl rfl rfl rfl
 have n_p4_p1 : p4 ≠ p1 := by omega
 have n_p4_p2 : p4 ≠ p2 := by omega
 have n_p4_p3 : p4 ≠ p3 := by omega
 have n_p1_p4 : p1 ≠ p4 := by have := ep1; omega
 have n_p2_p4 : p2 ≠ p4 := by have := ep2; omega
 have n_p3_p4 : p3 ≠ p4 := by have := ep3; omega
 have bp4 : w.heap.size ≤ p4 := Nat.le_trans HB.size lp4
 clear lp4 gp4
 clear tp1 tp2 tp3
 clear ep1 ep2 ep3
 replace HB := aft_call HB (RelC.below_nil hC)
 clear hC hk hh; replace hz := hz'; replace hd := hd'; clear hz' hd'
 refine wp_seq ?_
 refine wp_seq ?_
 by_cases hc5 : bev (k.take 300) ≠ 0
 rw [decide_eq_true hc5] at S7
 rw [decide_eq_true hc5] at S9
 refine region_text (M := []) (
  rT (tV (.bool true)) ::
  rT (tV (.bool false)) ::
  []) hz hd (by kernel_rfl) ?_ ?_
 refine ⟨?_, ?_, trivial⟩
 exact zMv hz (sv S7)
 exact zNot hz (sd 0 rfl)
 intro a' γ' W' hz' hd' hC hk hh
 have tp1 := Cp1.lt
 replace Cp1 := kC hC Cp1
 have tp2 := Cp2.lt
 replace Cp2 := kC hC Cp2
 have tp3 := Cp3.lt
 replace Cp3 := kC hC Cp3
 have tp4 := Cp4.lt
 replace Cp4 := kC hC Cp4
 replace S4 := kp hk S4
 replace S5 := kp hk S5
 replace S0 := kp hk S0
 replace H0 := Ty.aft _ H0 hC
 replace S6 := kp hk S6
 clear S7
 replace S8 := kp hk S8
 replace S9 := kp hk S9
 have S31 := gotV hz' 1 hh rfl rfl rfl rfl
 clear tp1 tp2 tp3 tp4
 replace HB := aft_call HB (RelC.below_nil hC)
 clear hC hk hh; replace hz := hz'; replace hd := hd'; clear hz' hd'
 refine wp_cond_false S31.ev ?_
 refine wp_skip ?_
 refine wp_seq ?_
 refine wp_seq ?_
 refine region_text (M := []) (
  rT (tV (.bool true)) ::
  rT (tV (.bool false)) ::
  []) hz hd (by kernel_rfl) ?_ ?_
 refine ⟨?_, ?_, trivial⟩
 exact zMv hz (sv S9)
 exact zNot hz (sd 0 rfl)
 intro a' γ' W' hz' hd' hC hk hh
 have tp1 := Cp1.lt
 replace Cp1 := kC hC Cp1
 have tp2 := Cp2.lt
 replace Cp2 := kC hC Cp2
 have tp3 := Cp3.lt
 replace Cp3 := kC hC Cp3
 have tp4 := Cp4.lt
 replace Cp4 := kC hC Cp4
 replace S4 := kp hk S4
 replace S5 := kp hk S5
 replace S0 := kp hk S0
 replace H0 := Ty.aft _ H0 hC
 replace S6 := kp hk S6
 replace S8 := kp hk S8
 clear S9
 clear S31
 have S40 := gotV hz' 1 hh rfl rfl rfl rfl
 clear tp1 tp2 tp3 tp4
 replace HB := aft_call HB (RelC.below_nil hC)
 clear hC hk hh; replace hz := hz'; replace hd := hd'; clear hz' hd'
 refine wp_cond_false S40.ev ?_
 refine wp_skip ?_
 refine wp_seq ?_
 refine region_drawn (M := [p1, p2]) (
  rT (tQ B64 m (mkRat (bev (l.take 300)) (bev (k.take 300)))) ::
  rT (tQ B32 m (mkRat (bev (l.take 300)) (bev (k.take 300)))) ::
  rE 0 27 (tQ B64 m (mkRat (bev (l.take 300)) (bev (k.take 300)))) p1 ::
  rE 1 35 (tQ B32 m (mkRat (bev (l.take 300)) (bev (k.take 300)))) p2 ::
  []) hz hd (by kernel_rfl) (by kernel_rfl) ?_ ?_
 refine ⟨?_, ?_, ?_, ?_, trivial⟩
 exact zLd hz (sv S6) Cp3 ld_q64 (by simp [tagOf, n_p3_p1, n_p3_p2])
 exact zLd hz (sv S8) Cp4 ld_q32 (by simp [tagOf, n_p4_p1, n_p4_p2])
 exact zSE rfl (sv S4) (by simp [tagOf]) (Cp1.var tQ_nd) (sd 0 rfl) st_q64
 exact zSE rfl (sv S5) (by simp [tagOf, n_p2_p1]) (Cp2.var tR_nd) (sd 1 rfl) st_q32
 intro a' γ' W' hz' hd' hC hk hh
 replace Cp1 := gotE (T := tQ B64 m (mkRat (bev (l.take 300)) (bev (k.take 300)))) (id := 27) (p := p1) 2 hh rfl rfl
 replace Cp2 := gotE (T := tQ B32 m (mkRat (bev (l.take 300)) (bev (k.take 300)))) (id := 35) (p := p2) 3 hh rfl rfl
 have tp3 := Cp3.lt
 clear Cp3
 have tp4 := Cp4.lt
 clear Cp4
 replace S4 := kp hk S4
 replace S5 := kp hk S5
 clear S0 H0
 clear S6
 clear S8
 clear S40
 clear tp3 tp4
 replace HB := RelC.aftM HB hC (by intro m hm; simp at hm; rcases hm with rfl | rfl <;> assumption)
 clear hC hk hh; replace hz := hz'; replace hd := hd'; clear hz' hd'
 refine wp_ret ?_
 refine ret_to (T := tT [tQ B64 m (mkRat (bev (l.take 300)) (bev (k.take 300))), tQ B32 m (mkRat (bev (l.take 300)) (bev (k.take 300)))]) (ret2_q (by kernel_rfl) S4 S5 hd Cp1 Cp2 HB) ?_
 exact to2 (tQ_to (by decide) (by unfold mk3; rw [und_of hc5]) (by omega)) (tQ_to (by decide) (by unfold mk3; rw [und_of hc5]) (by omega))
 rw [decide_eq_false hc5] at S7
 rw [decide_eq_false hc5] at S9
 refine region_text (M := []) (
  rT (tV (.bool false)) ::
  rT (tV (.bool true)) ::
  []) hz hd (by kernel_rfl) ?_ ?_
 refine ⟨?_, ?_, trivial⟩
 exact zMv hz (sv S7)
 exact zNot hz (sd 0 rfl)
 intro a' γ' W' hz' hd' hC hk hh
 have tp1 := Cp1.lt
 replace Cp1 := kC hC Cp1
 have tp2 := Cp2.lt
 replace Cp2 := kC hC Cp2
 have tp3 := Cp3.lt
 replace Cp3 := kC hC Cp3
 have tp4 := Cp4.lt
 replace Cp4 := kC hC Cp4
 replace S4 := kp hk S4
 replace S5 := kp hk S5
 replace S0 := kp hk S0
 replace H0 := Ty.aft _ H0 hC
 replace S6 := kp hk S6
 clear S7
 replace S8 := kp hk S8
 replace S9 := kp hk S9
 have S31 := gotV hz' 1 hh rfl rfl rfl rfl
 clear tp1 tp2 tp3 tp4
 replace HB := aft_call HB (RelC.below_nil hC)
 clear hC hk hh; replace hz := hz'; replace hd := hd'; clear hz' hd'
 refine wp_cond_true S31.ev ?_
 refine region_text (M := [p3]) (
  rT (tBy 300 (l.take 300)) ::
  rT (tN B64 300 (bev (l.take 300))) ::
  rT (tN B64 1 1) ::
  rT (tT [tQ B64 m (mkRat (bev (l.take 300)) 1), tV (.bool (decide (1 ≠ 0)))]) ::
  rT (tT [tQ B64 m (mkRat (bev (l.take 300)) 1), tV (.bool (decide (1 ≠ 0)))]) ::
  rT (tQ B64 m (mkRat (bev (l.take 300)) 1)) ::
  rT (tV (.bool (decide (1 ≠ 0)))) ::
  rE 0 27 (tQ B64 m (mkRat (bev (l.take 300)) 1)) p3 ::
  []) hz hd (by kernel_rfl) ?_ ?_
 refine ⟨?_, ?_, ?_, ?_, ?_, ?_, ?_, ?_, trivial⟩
 exact zMv hz (so S0 H0)
 exact zC1 hz Try.func38 (sd 0 rfl) (fun _ _ h0 => c_fb h0 (by decide))
 exact zC1 hz Try.func16 (kc (v := .int .u64 1)) (k1 (fun _ => c_of (by decide)))
 exact zC2 hz Try.func18 (sd 1 rfl) (sd 2 rfl) (fun _ _ _ h0 h1 => cq_from (l := m) h0 h1 (by decide) (by decide) hP.out (one_2400 hm) (by omega))
 exact zMv hz (sd 3 rfl)
 exact zExt hz (sd 4 rfl)
 exact zExt hz (sd 4 rfl)
 exact zSE rfl (sv S6) (by simp [tagOf]) (Cp3.var tQ_nd) (sd 5 rfl) st_q64
 intro a' γ' W' hz' hd' hC hk hh
 have tp1 := Cp1.lt
 replace Cp1 := kC hC Cp1 (by simp [tagOf, n_p1_p3])
 have tp2 := Cp2.lt
 replace Cp2 := kC hC Cp2 (by simp [tagOf, n_p2_p3])
 replace Cp3 := gotE (T := tQ B64 m (mkRat (bev (l.take 300)) 1)) (id := 27) (p := p3) 7 hh rfl rfl
 have tp4 := Cp4.lt
 replace Cp4 := kC hC Cp4 (by simp [tagOf, n_p4_p3])
 replace S4 := kp hk S4
 replace S5 := kp hk S5
 replace S0 := kp hk S0
 replace H0 := Ty.aft _ H0 hC
 replace S6 := kp hk S6
 replace S8 := kp hk S8
 replace S9 := kp hk S9
 clear S31
 clear tp1 tp2 tp4
 replace HB := RelC.aftM HB hC (by intro m hm; simp at hm; rcases hm with rfl <;> assumption)
 clear hC hk hh; replace hz := hz'; replace hd := hd'; clear hz' hd'
 refine wp_seq ?_
 refine wp_seq ?_
 refine region_text (M := []) (
  rT (tV (.bool false)) ::
  rT (tV (.bool true)) ::
  []) hz hd (by kernel_rfl) ?_ ?_
 refine ⟨?_, ?_, trivial⟩
 exact zMv hz (sv S9)
 exact zNot hz (sd 0 rfl)
 intro a' γ' W' hz' hd' hC hk hh
 have tp1 := Cp1.lt
 replace Cp1 := kC hC Cp1
 have tp2 := Cp2.lt
 replace Cp2 := kC hC Cp2
 have tp3 := Cp3.lt
 replace Cp3 := kC hC Cp3
 have tp4 := Cp4.lt
 replace Cp4 := kC hC Cp4
 replace S4 := kp hk S4
 replace S5 := kp hk S5
 replace S0 := kp hk S0
 replace H0 := Ty.aft _ H0 hC
 replace S6 := kp hk S6
 replace S8 := kp hk S8
 clear S9
 have S40 := gotV hz' 1 hh rfl rfl rfl rfl
 clear tp1 tp2 tp3 tp4
 replace HB := aft_call HB (RelC.below_nil hC)
 clear hC hk hh; replace hz := hz'; replace hd := hd'; clear hz' hd'
 refine wp_cond_true S40.ev ?_
 refine region_text (M := [p4]) (
  rT (tBy 300 (l.take 300)) ::
  rT (tN B32 300 (bev (l.take 300))) ::
  rT (tN B32 2 1) ::
  rT (tT [tQ B32 m (mkRat (bev (l.take 300)) 1), tV (.bool (decide (1 ≠ 0)))]) ::
  rT (tT [tQ B32 m (mkRat (bev (l.take 300)) 1), tV (.bool (decide (1 ≠ 0)))]) ::
  rT (tQ B32 m (mkRat (bev (l.take 300)) 1)) ::
  rT (tV (.bool (decide (1 ≠ 0)))) ::
  rE 0 35 (tQ B32 m (mkRat (bev (l.take 300)) 1)) p4 ::
  []) hz hd (by kernel_rfl) ?_ ?_
 refine ⟨?_, ?_, ?_, ?_, ?_, ?_, ?_, ?_, trivial⟩
 exact zMv hz (so S0 H0)
 exact zC1 hz Try.func39 (sd 0 rfl) (fun _ _ h0 => d_fb h0 (by decide))
 exact zC1 hz Try.func28 (kc (v := .int .u64 1)) (k1 (fun _ => d_of (by decide)))
 exact zC2 hz Try.func30 (sd 1 rfl) (sd 2 rfl) (fun _ _ _ h0 h1 => dq_from (l := m) h0 h1 (by decide) (by decide) hP.out (one_2400 hm) (by omega))
 exact zMv hz (sd 3 rfl)
 exact zExt hz (sd 4 rfl)
 exact zExt hz (sd 4 rfl)
 exact zSE rfl (sv S8) (by simp [tagOf]) (Cp4.var tQ_nd) (sd 5 rfl) st_q32
 intro a' γ' W' hz' hd' hC hk hh
 have tp1 := Cp1.lt
 replace Cp1 := kC hC Cp1 (by simp [tagOf, n_p1_p4])
 have tp2 := Cp2.lt
 replace Cp2 := kC hC Cp2 (by simp [tagOf, n_p2_p4])
 have tp3 := Cp3.lt
 replace Cp3 := kC hC Cp3 (by simp [tagOf, n_p3_p4])
 replace Cp4 := gotE (T := tQ B32 m (mkRat (bev (l.take 300)) 1)) (id := 35) (p := p4) 7 hh rfl rfl
 replace S4 := kp hk S4
 replace S5 := kp hk S5
 clear S0 H0
 replace S6 := kp hk S6
 replace S8 := kp hk S8
 clear S40
 clear tp1 tp2 tp3
 replace HB := RelC.aftM HB hC (by intro m hm; simp at hm; rcases hm with rfl <;> assumption)
 clear hC hk hh; replace hz := hz'; replace hd := hd'; clear hz' hd'
 refine wp_seq ?_
 refine region_drawn (M := [p1, p2]) (
  rT (tQ B64 m (mkRat (bev (l.take 300)) 1)) ::
  rT (tQ B32 m (mkRat (bev (l.take 300)) 1)) ::
  rE 0 27 (tQ B64 m (mkRat (bev (l.take 300)) 1)) p1 ::
  rE 1 35 (tQ B32 m (mkRat (bev (l.take 300)) 1)) p2 ::
  []) hz hd (by kernel_rfl) (by kernel_rfl) ?_ ?_
 refine ⟨?_, ?_, ?_, ?_, trivial⟩
 exact zLd hz (sv S6) Cp3 ld_q64 (by simp [tagOf, n_p3_p1, n_p3_p2])
 exact zLd hz (sv S8) Cp4 ld_q32 (by simp [tagOf, n_p4_p1, n_p4_p2])
 exact zSE rfl (sv S4) (by simp [tagOf]) (Cp1.var tQ_nd) (sd 0 rfl) st_q64
 exact zSE rfl (sv S5) (by simp [tagOf, n_p2_p1]) (Cp2.var tR_nd) (sd 1 rfl) st_q32
 intro a' γ' W' hz' hd' hC hk hh
 replace Cp1 := gotE (T := tQ B64 m (mkRat (bev (l.take 300)) 1)) (id := 27) (p := p1) 2 hh rfl rfl
 replace Cp2 := gotE (T := tQ B32 m (mkRat (bev (l.take 300)) 1)) (id := 35) (p := p2) 3 hh rfl rfl
 have tp3 := Cp3.lt
 clear Cp3
 have tp4 := Cp4.lt
 clear Cp4
 replace S4 := kp hk S4
 replace S5 := kp hk S5
 clear S6
 clear S8
 clear tp3 tp4
 replace HB := RelC.aftM HB hC (by intro m hm; simp at hm; rcases hm with rfl | rfl <;> assumption)
 clear hC hk hh; replace hz := hz'; replace hd := hd'; clear hz' hd'
 refine wp_ret ?_
 refine ret_to (T := tT [tQ B64 m (mkRat (bev (l.take 300)) 1), tQ B32 m (mkRat (bev (l.take 300)) 1)]) (ret2_q (by kernel_rfl) S4 S5 hd Cp1 Cp2 HB) ?_
 exact to2 (tQ_to (by decide) (by unfold mk3; rw [Decidable.not_not.1 hc5]; rfl) (by omega)) (tQ_to (by decide) (by unfold mk3; rw [Decidable.not_not.1 hc5]; rfl) (by omega))

end Go.Proofs.Ytfgnleoaibcegaa.Rg

namespace Go.Proofs.Ytfgnleoaibcegaa.Rg

open Go.RowKit

/-- One row of bytes is not behind another one. -/
def leB : List Nat → List Nat → Bool
  | [], _ => true
  | _ :: _, [] => false
  | a :: x, b :: y => decide (a < b) || (decide (a = b) && leB x y)
theorem leB_refl : ∀ x, leB x x = true
  | [] => rfl
  | a :: x => by unfold leB; rw [leB_refl x, decide_eq_true (rfl : a = a)]; simp
theorem leB_run : ∀ (x y : List Nat), (∀ d ∈ x, d < 256) → (∀ d ∈ y, d < 256) → (Op.bytesLess (x.map UInt8.ofNat) (y.map UInt8.ofNat) || (x.map UInt8.ofNat == y.map UInt8.ofNat)) = leB x y
  | [], [], _, _ => rfl
  | [], b :: y, _, _ => rfl
  | a :: x, [], _, _ => rfl
  | a :: x, b :: y, hx, hy => by
    have ha := hx a List.mem_cons_self
    have hb := hy b List.mem_cons_self
    have ih := leB_run x y (fun d h => hx d (List.mem_cons_of_mem _ h)) fun d h => hy d (List.mem_cons_of_mem _ h)
    have e1 : (UInt8.ofNat a < UInt8.ofNat b) = (a < b) := by
      rw [UInt8.lt_iff_toNat_lt, UInt8.toNat_ofNat', UInt8.toNat_ofNat', Nat.mod_eq_of_lt (by omega), Nat.mod_eq_of_lt (by omega)]
    have e2 : (UInt8.ofNat a = UInt8.ofNat b) = (a = b) := by
      rw [← UInt8.toNat_inj, UInt8.toNat_ofNat', UInt8.toNat_ofNat', Nat.mod_eq_of_lt (by omega), Nat.mod_eq_of_lt (by omega)]
    simp only [List.map_cons, Op.bytesLess, List.cons_beq_cons]
    unfold leB
    rw [← ih]
    have e3 : (UInt8.ofNat a == UInt8.ofNat b) = decide (a = b) := by
      rw [Bool.eq_iff_iff, beq_iff_eq, decide_eq_true_eq, e2]
    rw [e3]
    simp only [e1]
    cases decide (a < b) <;> cases decide (a = b) <;> simp
theorem readD_cons (a : Nat) (x : List Nat) : readD (a :: x) = (a - 48) * 10 ^ x.length + readD x := by
  have := readD_append [a] x
  have e : readD [a] = a - 48 := by
    have := readD_snoc [] a
    rw [readD_nil] at this
    simpa using this
  rw [e] at this
  simpa using this
/-- Digits of as much places: the lesser number's are not behind. -/
theorem leB_read : ∀ (x y : List Nat), x.length = y.length → (∀ d ∈ x, 48 ≤ d ∧ d ≤ 57) → (∀ d ∈ y, 48 ≤ d ∧ d ≤ 57) → readD x ≤ readD y → leB x y = true
  | [], y, _, _, _, _ => by cases y <;> rfl
  | a :: x, [], h, _, _, _ => by simp at h
  | a :: x, b :: y, h, hx, hy, hv => by
    have hl : x.length = y.length := by simpa using h
    rw [readD_cons, readD_cons, hl] at hv
    have h1 := readD_lt x fun d hd => (hx d (List.mem_cons_of_mem _ hd)).2
    have h2 := readD_lt y fun d hd => (hy d (List.mem_cons_of_mem _ hd)).2
    rw [hl] at h1
    have ha := hx a List.mem_cons_self
    have hb := hy b List.mem_cons_self
    unfold leB
    by_cases c : a < b
    · rw [decide_eq_true c]; rfl
    · have hab : a = b := by
        rcases Nat.lt_or_ge b a with c2 | c2
        · exfalso
          have : (b - 48 + 1) * 10 ^ y.length ≤ (a - 48) * 10 ^ y.length := Nat.mul_le_mul_right _ (by omega)
          rw [Nat.add_mul, Nat.one_mul] at this
          omega
        · omega
      rw [hab] at hv
      rw [decide_eq_true hab, leB_read x y hl (fun d hd => hx d (List.mem_cons_of_mem _ hd)) (fun d hd => hy d (List.mem_cons_of_mem _ hd)) (by omega)]
      simp
/-- The same sign laid into both at the same place. -/
theorem leB_ins (c : Nat) : ∀ (k : Nat) (x y : List Nat), x.length = y.length → leB x y = true → leB (x.take k ++ [c] ++ x.drop k) (y.take k ++ [c] ++ y.drop k) = true
  | 0, x, y, _, h => by
    show leB (c :: x) (c :: y) = true
    unfold leB; rw [h, decide_eq_true (rfl : c = c)]; simp
  | k + 1, [], [], _, _ => leB_refl _
  | k + 1, [], b :: y, h, _ => by simp at h
  | k + 1, a :: x, [], h, _ => by simp at h
  | k + 1, a :: x, b :: y, h, hv => by
    show leB (a :: (x.take k ++ [c] ++ x.drop k)) (b :: (y.take k ++ [c] ++ y.drop k)) = true
    have hl : x.length = y.length := by simpa using h
    unfold leB at hv ⊢
    rcases (Bool.or_eq_true _ _ ▸ hv : decide (a < b) = true ∨ (decide (a = b) && leB x y) = true) with h1 | h1
    · rw [h1]; rfl
    · obtain ⟨h2, h3⟩ := Bool.and_eq_true_iff.1 h1
      rw [h2, leB_ins c k x y hl h3]; simp
theorem txt_mono {N M : Nat} (h : N ≤ M) : (txt N).length ≤ (txt M).length := by
  have h1 := readD_lt (txt M) fun d hd => (txt_byte M d hd).2
  rw [readD_txt] at h1
  rcases Nat.eq_zero_or_pos N with c | c
  · subst c; exact txt_pos M
  · rw [txt_length N, decs_pos c]
    exact digs_length_le two_le_ten (Nat.lt_of_le_of_lt h h1)
theorem readD_rep (k : Nat) (X : List Nat) : readD (List.replicate k 48 ++ X) = readD X := by
  induction k with
  | zero => rfl
  | succ k ih =>
    rw [List.replicate_succ, List.cons_append, readD_cons, ih]; simp
theorem padT_read (N n : Nat) : readD (padT N n) = N := by
  unfold padT
  split
  · rw [readD_rep, readD_txt]
  · exact readD_txt N
theorem padT_dig (N n : Nat) : ∀ d ∈ padT N n, 48 ≤ d ∧ d ≤ 57 := by
  intro d hd
  unfold padT at hd
  split at hd
  · rcases List.mem_append.1 hd with h | h
    · have := List.eq_of_mem_replicate h; omega
    · exact txt_byte N d h
  · exact txt_byte N d hd
theorem padT_eq_len (N n : Nat) : (padT N n).length = max (txt N).length (n + 1) := by
  unfold padT
  split
  · rw [List.length_append, List.length_replicate]; omega
  · omega
theorem decS_len (N n : Nat) : (decS N n).length = if n = 0 then (txt N).length else max (txt N).length (n + 1) + 1 := by
  unfold decS
  split
  · rfl
  · have h := padT_eq_len N n
    rw [List.length_append, List.length_append, List.length_take, List.length_drop, List.length_singleton, h]
    omega
theorem decS_byte (N n : Nat) : ∀ d ∈ decS N n, d < 256 := by
  intro d hd
  unfold decS at hd
  split at hd
  · have := txt_byte N d hd; omega
  · rcases List.mem_append.1 hd with h | h
    · rcases List.mem_append.1 h with h | h
      · have := padT_dig N n d (List.mem_of_mem_take h); omega
      · simp at h; omega
    · have := padT_dig N n d (List.mem_of_mem_drop h); omega
/-- The greater number's text is no lesser. -/
theorem decS_mono {N M : Nat} (n : Nat) (h : N ≤ M) : (decS N n).length ≤ (decS M n).length ∧ ((decS N n).length = (decS M n).length → leB (decS N n) (decS M n) = true) := by
  have ht := txt_mono h
  refine ⟨?_, fun hl => ?_⟩
  · rw [decS_len, decS_len]; split <;> omega
  · rw [decS_len, decS_len] at hl
    unfold decS
    split
    · rename_i hn
      rw [if_pos hn, if_pos hn] at hl
      exact leB_read _ _ hl (txt_byte N) (txt_byte M) (by rw [readD_txt, readD_txt]; exact h)
    · rename_i hn
      rw [if_neg hn, if_neg hn] at hl
      have hp : (padT N n).length = (padT M n).length := by rw [padT_eq_len, padT_eq_len]; omega
      rw [hp]
      exact leB_ins 46 _ _ _ hp (leB_read _ _ hp (padT_dig N n) (padT_dig M n) (by rw [padT_read, padT_read]; exact h))
theorem run_leB {L M : List Nat} (hL : ∀ d ∈ L, d < 256) (hM : ∀ d ∈ M, d < 256) (h : leB L M = true) {ox oy : Operand} (w : World) : (do eqGuard .leq 9 ox oy (.string (strB L)) (.string (strB M)); binOp .leq 9 (.string (strB L)) (.string (strB M)) : Sem Value).run Try.prog w = .ok (.bool true) w := by
  have h1 := leB_run L M hL hM
  rw [h, ← strB_data, ← strB_data, ← ByteArray.toList_eq, ← ByteArray.toList_eq, Bool.or_eq_true, beq_iff_eq] at h1
  simp [go_sem]
  exact h1
end Go.Proofs.Ytfgnleoaibcegaa.Rg

namespace Go.Proofs.Ytfgnleoaibcegaa.Rg

open Go.RowKit

section

variable {x y : Rat}
theorem rat_cross (hx : 0 ≤ x) (h : x ≤ y) : x.num.toNat * y.den ≤ y.num.toNat * x.den := by
  have hy : 0 ≤ y := Rat.le_trans hx h
  have h1 := (Rat.le_iff x y).1 h
  rw [← num_i hx, ← num_i hy] at h1
  exact_mod_cast h1
theorem tfD_mono (hx : 0 ≤ x) (h : x ≤ y) : tfD x.num.toNat x.den ≤ tfD y.num.toNat y.den := nearN_mono x.den_pos y.den_pos (rat_cross hx h)
theorem rnD_mono (n : Nat) (hx : 0 ≤ x) (h : x ≤ y) : rn (x.num.toNat * 10 ^ n) x.den ≤ rn (y.num.toNat * 10 ^ n) y.den := by
  refine rn_mono x.den_pos y.den_pos ?_
  have := Nat.mul_le_mul_right (10 ^ n) (rat_cross hx h)
  rw [Nat.mul_right_comm, Nat.mul_right_comm y.num.toNat]
  exact this
theorem flN_mono {a b : Nat} (h : a ≤ b) (hb : b < 9218868437227405312) : flN a ≤ flN b := by
  unfold flN; rw [if_pos (by omega), if_pos hb]; exact h
theorem mk3_nonneg (l k : List Nat) : 0 ≤ mk3 l k := by
  unfold mk3
  rw [← Rat.divInt_ofNat]
  exact Rat.divInt_nonneg (Int.natCast_nonneg _) (Int.natCast_nonneg _)
theorem le_add_r {d : Rat} (hd : 0 ≤ d) : x ≤ x + d := by grind
end

section

variable {l m p q n : Nat} {L M S : List Nat} {x : Rat} {v v0 v1 : Value} {w : World}
theorem l_made3_n {l1 l2 : Nat} (ex : mk3 L M = x) (h0 : (tBy l1 L).p v0 w) (h1 : (tBy l2 M).p v1 w) (b1 : l1 ≤ 9223372036854775807) (b2 : l2 ≤ 9223372036854775807) (hm : 2400 ≤ m) : Calls Try.prog 11 #[v0, v1] w (Ret (tT [tQ B64 m x, tQ B32 m x]) w) := by
  rw [← ex]
  obtain ⟨A, a, c, e1, e2, e3, e4⟩ := h0
  obtain ⟨A', a', c', e1', e2', e3', e4'⟩ := h1
  exact l_made3 (m := m) ⟨A, a, c, e1, e2, e3, by omega⟩ ⟨A', a', c', e1', e2', e3', by omega⟩ hm
theorem c_decimal_n (h : (tQ B64 l x).p v w) (eS : decS (rn (x.num.toNat * 10 ^ n) x.den) n = S) (hl : l ≤ 1000000) (hn : n ≤ 100) : Calls Try.prog 15 #[v, .int .i64 ((n : Nat) : Int)] w (Ret (tT [tV (.string (strB S)), tV (.bool true)]) w) := by
  have := c_decimal h rfl rfl hl hn
  rw [eS] at this; exact this
end
theorem o_andK {z K : Int} {N : Nat} {ox oy : Operand} {id : TypeId} (e : bits .and .i64 z K = (N : Int)) (w : World) : (do eqGuard .and id ox oy (.int .i64 z) (.int .i64 K); binOp .and id (.int .i64 z) (.int .i64 K) : Sem Value).run Try.prog w = .ok (.int .i64 ((N : Nat) : Int)) w := by
  simp [go_sem, e]
theorem o_gtr_no {a b : Nat} {ox oy : Operand} {id : TypeId} (h : a ≤ b) (w : World) : (do eqGuard .gtr id ox oy (.int .u64 ((a : Nat) : Int)) (.int .u64 ((b : Nat) : Int)); binOp .gtr id (.int .u64 ((a : Nat) : Int)) (.int .u64 ((b : Nat) : Int)) : Sem Value).run Try.prog w = .ok (.bool false) w := by
  have h2 : ¬ ((b : Nat) : Int) < ((a : Nat) : Int) := by omega
  simp [go_sem]; omega
end Go.Proofs.Ytfgnleoaibcegaa.Rg

namespace Go.Proofs.Ytfgnleoaibcegaa.Rg

open Go.RowKit Go.ChangeShapes Go.WideShapes Go.ChangeAt Go.Deep

theorem ret_out3 {P : Program} {f : FuncId} {args : Array Value} {w : World} {v : Value} (h : Calls P f args w (Ret (tV v) w)) : Calls P f args w fun e w' => e = .returned v ∧ Below w.heap.size w w' := by
  refine h.mono ?_
  rintro e w' ⟨u, rfl, h1, h2⟩
  have h1 : u = v := h1
  exact ⟨by rw [h1], h2⟩
end Go.Proofs.Ytfgnleoaibcegaa.Rg

namespace Go.Proofs.Ytfgnleoaibcegaa.Rg

open Go.RowKit

set_option maxRecDepth 10000 in
set_option maxHeartbeats 2000000 in
theorem numRises_ret {l k r : List Nat} {z : Int} {v0 v1 v2 : Value} {w : World} (h0 : (tBy 9223372036854775807 l).p v0 w) (h1 : (tBy 9223372036854775807 k).p v1 w) (h2 : (tBy 9223372036854775807 r).p v2 w)  :
    Calls Try.prog 4 #[v0, v1, v2, .int .i64 (z)] w (Ret (tV (.bool true)) w) := by
 refine enter Try.func4 rfl Try.ntmps4 (by simp) ?_
 intro a hz hd ha
 have S0 := ha 0 _ rfl
 have H0 := h0
 have S1 := ha 1 _ rfl
 have H1 := h1
 have S2 := ha 2 _ rfl
 have H2 := h2
 have S3 := ha 3 _ rfl
 clear ha
 have HB : Below w.heap.size w w := Below.refl _ _
 obtain ⟨x, ex⟩ : ∃ x, mk3 l k = x := ⟨_, rfl⟩
 obtain ⟨d, ed⟩ : ∃ x, mk3 r k = x := ⟨_, rfl⟩
 have hx : 0 ≤ x := ex ▸ mk3_nonneg l k
 have hd0 : 0 ≤ d := ed ▸ mk3_nonneg r k
 have hxy : x ≤ x + d := le_add_r hd0
 have hD := tfD_mono hx hxy
 obtain ⟨n, hn, eN⟩ := and_i64 z 6 (by decide)
 have hn : n < 64 := hn
 have eN : bits .and .i64 z 63 = (n : Int) := eN
 have hS := decS_mono n (rnD_mono n hx hxy)
 have hb1 := decS_byte (rn (x.num.toNat * 10 ^ n) x.den) n
 have hb2 := decS_byte (rn ((x + d).num.toNat * 10 ^ n) (x + d).den) n
 obtain ⟨T1, eT1⟩ : ∃ S, decS (rn (x.num.toNat * 10 ^ n) x.den) n = S := ⟨_, rfl⟩
 obtain ⟨T2, eT2⟩ : ∃ S, decS (rn ((x + d).num.toNat * 10 ^ n) (x + d).den) n = S := ⟨_, rfl⟩
 rw [eT1, eT2] at hS
 rw [eT1] at hb1
 rw [eT2] at hb2
 refine wp_seq ?_
 refine region_text (M := []) (
  rT (tV (.bool false)) ::
  []) hz hd (by kernel_rfl) ?_ ?_
 refine ⟨?_, trivial⟩
 exact zAs hz kc
 intro a' γ' W' hz' hd' hC hk hh
 replace S0 := kp hk S0
 replace H0 := Ty.aft _ H0 hC
 replace S1 := kp hk S1
 replace H1 := Ty.aft _ H1 hC
 replace S2 := kp hk S2
 replace H2 := Ty.aft _ H2 hC
 replace S3 := kp hk S3
 have S8 := gotV hz' 0 hh rfl rfl rfl rfl
 replace HB := aft_call HB (RelC.below_nil hC)
 clear hC hk hh; replace hz := hz'; replace hd := hd'; clear hz' hd'
 refine wp_seq ?_
 refine region_text (M := []) (
  rT (tBy 9223372036854775807 l) ::
  rT (tBy 9223372036854775807 k) ::
  rT (tT [tQ B64 2400 x, tQ B32 2400 x]) ::
  rT (tT [tQ B64 2400 x, tQ B32 2400 x]) ::
  rT (tQ B64 2400 x) ::
  rT (tQ B32 2400 x) ::
  rVar 6 27 2 ::
  rVar 7 35 2 ::
  rB 6 27 (tQ B64 2400 x) (some 6) 7 ::
  rB 7 35 (tQ B32 2400 x) (some 7) 8 ::
  []) hz hd (by kernel_rfl) ?_ ?_
 refine ⟨?_, ?_, ?_, ?_, ?_, ?_, ?_, ?_, ?_, ?_, trivial⟩
 exact zMv hz (so S0 H0)
 exact zMv hz (so S1 H1)
 exact zC2 hz Try.func11 (sd 0 rfl) (sd 1 rfl) (fun _ _ _ h0 h1 => l_made3_n (m := 2400) ex h0 h1 (by decide) (by decide) (by decide))
 exact zMv hz (sd 2 rfl)
 exact zExt hz (sd 3 rfl)
 exact zExt hz (sd 3 rfl)
 exact zAl hz nd_rat al_r64
 exact zAl hz nd_rat al_r32
 exact zSt (sd 4 rfl) st_q64
 exact zSt (sd 5 rfl) st_q32
 intro a' γ' W' hz' hd' hC hk hh
 clear S0 H0
 replace S1 := kp hk S1
 replace H1 := Ty.aft _ H1 hC
 replace S2 := kp hk S2
 replace H2 := Ty.aft _ H2 hC
 replace S3 := kp hk S3
 replace S8 := kp hk S8
 obtain ⟨p1, S9, Cp1, lp1, gp1⟩ := gotB hz' 8 hC hh rfl rfl rfl rfl rfl rfl
 have bp1 : w.heap.size ≤ p1 := Nat.le_trans HB.size lp1
 clear lp1 gp1
 replace HB := aft_call HB (RelC.below_nil hC)
 clear hC hk hh; replace hz := hz'; replace hd := hd'; clear hz' hd'
 refine wp_seq ?_
 refine region_text (M := []) (
  rT (tBy 9223372036854775807 r) ::
  rT (tBy 9223372036854775807 k) ::
  rT (tT [tQ B64 2400 d, tQ B32 2400 d]) ::
  rT (tT [tQ B64 2400 d, tQ B32 2400 d]) ::
  rT (tQ B64 2400 d) ::
  rT (tQ B32 2400 d) ::
  rVar 6 27 2 ::
  rVar 7 35 2 ::
  rB 6 27 (tQ B64 2400 d) (some 6) 7 ::
  rB 7 35 (tQ B32 2400 d) (some 7) 8 ::
  []) hz hd (by kernel_rfl) ?_ ?_
 refine ⟨?_, ?_, ?_, ?_, ?_, ?_, ?_, ?_, ?_, ?_, trivial⟩
 exact zMv hz (so S2 H2)
 exact zMv hz (so S1 H1)
 exact zC2 hz Try.func11 (sd 0 rfl) (sd 1 rfl) (fun _ _ _ h0 h1 => l_made3_n (m := 2400) ed h0 h1 (by decide) (by decide) (by decide))
 exact zMv hz (sd 2 rfl)
 exact zExt hz (sd 3 rfl)
 exact zExt hz (sd 3 rfl)
 exact zAl hz nd_rat al_r64
 exact zAl hz nd_rat al_r32
 exact zSt (sd 4 rfl) st_q64
 exact zSt (sd 5 rfl) st_q32
 intro a' γ' W' hz' hd' hC hk hh
 have ep1 := Cp1.lt
 have tp1 := Cp1.lt
 replace Cp1 := kC hC Cp1
 clear S1 H1
 clear S2 H2
 replace S3 := kp hk S3
 replace S8 := kp hk S8
 replace S9 := kp hk S9
 obtain ⟨p2, S11, Cp2, lp2, gp2⟩ := gotB hz' 8 hC hh rfl rfl rfl rfl rfl rfl
 have n_p2_p1 : p2 ≠ p1 := by omega
 have n_p1_p2 : p1 ≠ p2 := by have := ep1; omega
 have bp2 : w.heap.size ≤ p2 := Nat.le_trans HB.size lp2
 clear lp2 gp2
 clear tp1
 clear ep1
 replace HB := aft_call HB (RelC.below_nil hC)
 clear hC hk hh; replace hz := hz'; replace hd := hd'; clear hz' hd'
 refine wp_seq ?_
 refine region_text (M := []) (
  rT (tQ B64 2400 x) ::
  rT (tQ B64 2400 d) ::
  rT (tQ B64 4801 (x + d)) ::
  rVar 3 27 2 ::
  rB 3 27 (tQ B64 4801 (x + d)) (some 3) 4 ::
  []) hz hd (by kernel_rfl) ?_ ?_
 refine ⟨?_, ?_, ?_, ?_, ?_, trivial⟩
 exact zLd hz (sv S9) Cp1 ld_q64
 exact zLd hz (sv S11) Cp2 ld_q64
 exact zC2 hz Try.func12 (sd 0 rfl) (sd 1 rfl) (fun _ _ _ h0 h1 => cq_add h0 h1 (by decide) (by decide))
 exact zAl hz nd_rat al_r64
 exact zSt (sd 2 rfl) st_q64
 intro a' γ' W' hz' hd' hC hk hh
 have ep1 := Cp1.lt
 have ep2 := Cp2.lt
 have tp1 := Cp1.lt
 replace Cp1 := kC hC Cp1
 have tp2 := Cp2.lt
 clear Cp2
 replace S3 := kp hk S3
 replace S8 := kp hk S8
 replace S9 := kp hk S9
 clear S11
 obtain ⟨p3, S13, Cp3, lp3, gp3⟩ := gotB hz' 4 hC hh rfl rfl rfl rfl rfl rfl
 have n_p3_p1 : p3 ≠ p1 := by omega
 have n_p1_p3 : p1 ≠ p3 := by have := ep1; omega
 have bp3 : w.heap.size ≤ p3 := Nat.le_trans HB.size lp3
 clear lp3 gp3
 clear tp1 tp2
 clear ep1 ep2
 replace HB := aft_call HB (RelC.below_nil hC)
 clear hC hk hh; replace hz := hz'; replace hd := hd'; clear hz' hd'
 refine wp_seq ?_
 refine region_text (M := []) (
  rT (tQ B64 2400 x) ::
  rT (tT [tV (.float .f64 (flN (tfD x.num.toNat x.den))), tV (.bool (decide (tfD x.num.toNat x.den < 9218868437227405312)))]) ::
  rT (tT [tV (.float .f64 (flN (tfD x.num.toNat x.den))), tV (.bool (decide (tfD x.num.toNat x.den < 9218868437227405312)))]) ::
  rT (tV (.float .f64 (flN (tfD x.num.toNat x.den)))) ::
  rT (tV (.bool (decide (tfD x.num.toNat x.den < 9218868437227405312)))) ::
  rT (tV (.float .f64 (flN (tfD x.num.toNat x.den)))) ::
  rT (tV (.bool (decide (tfD x.num.toNat x.den < 9218868437227405312)))) ::
  []) hz hd (by kernel_rfl) ?_ ?_
 refine ⟨?_, ?_, ?_, ?_, ?_, ?_, ?_, trivial⟩
 exact zLd hz (sv S9) Cp1 ld_q64
 exact zC1 hz Try.func13 (sd 0 rfl) (fun _ _ h0 => c_tofloat_pq h0 rfl rfl (by decide))
 exact zMv hz (sd 1 rfl)
 exact zExt hz (sd 2 rfl)
 exact zExt hz (sd 2 rfl)
 exact zAs hz (sd 3 rfl)
 exact zAs hz (sd 4 rfl)
 intro a' γ' W' hz' hd' hC hk hh
 have tp1 := Cp1.lt
 replace Cp1 := kC hC Cp1
 have tp3 := Cp3.lt
 replace Cp3 := kC hC Cp3
 replace S3 := kp hk S3
 replace S8 := kp hk S8
 replace S9 := kp hk S9
 replace S13 := kp hk S13
 have S14 := gotV hz' 5 hh rfl rfl rfl rfl
 have S15 := gotV hz' 6 hh rfl rfl rfl rfl
 clear tp1 tp3
 replace HB := aft_call HB (RelC.below_nil hC)
 clear hC hk hh; replace hz := hz'; replace hd := hd'; clear hz' hd'
 refine wp_seq ?_
 refine region_text (M := []) (
  rT (tQ B64 4801 (x + d)) ::
  rT (tT [tV (.float .f64 (flN (tfD (x + d).num.toNat (x + d).den))), tV (.bool (decide (tfD (x + d).num.toNat (x + d).den < 9218868437227405312)))]) ::
  rT (tT [tV (.float .f64 (flN (tfD (x + d).num.toNat (x + d).den))), tV (.bool (decide (tfD (x + d).num.toNat (x + d).den < 9218868437227405312)))]) ::
  rT (tV (.float .f64 (flN (tfD (x + d).num.toNat (x + d).den)))) ::
  rT (tV (.bool (decide (tfD (x + d).num.toNat (x + d).den < 9218868437227405312)))) ::
  rT (tV (.float .f64 (flN (tfD (x + d).num.toNat (x + d).den)))) ::
  rT (tV (.bool (decide (tfD (x + d).num.toNat (x + d).den < 9218868437227405312)))) ::
  []) hz hd (by kernel_rfl) ?_ ?_
 refine ⟨?_, ?_, ?_, ?_, ?_, ?_, ?_, trivial⟩
 exact zLd hz (sv S13) Cp3 ld_q64
 exact zC1 hz Try.func13 (sd 0 rfl) (fun _ _ h0 => c_tofloat_pq h0 rfl rfl (by decide))
 exact zMv hz (sd 1 rfl)
 exact zExt hz (sd 2 rfl)
 exact zExt hz (sd 2 rfl)
 exact zAs hz (sd 3 rfl)
 exact zAs hz (sd 4 rfl)
 intro a' γ' W' hz' hd' hC hk hh
 have tp1 := Cp1.lt
 replace Cp1 := kC hC Cp1
 have tp3 := Cp3.lt
 replace Cp3 := kC hC Cp3
 replace S3 := kp hk S3
 replace S8 := kp hk S8
 replace S9 := kp hk S9
 replace S13 := kp hk S13
 replace S14 := kp hk S14
 replace S15 := kp hk S15
 have S16 := gotV hz' 5 hh rfl rfl rfl rfl
 have S17 := gotV hz' 6 hh rfl rfl rfl rfl
 clear tp1 tp3
 replace HB := aft_call HB (RelC.below_nil hC)
 clear hC hk hh; replace hz := hz'; replace hd := hd'; clear hz' hd'
 refine wp_seq ?_
 refine wp_seq ?_
 by_cases hc4 : tfD (x + d).num.toNat (x + d).den < 9218868437227405312
 rw [decide_eq_true hc4] at S17
 have hc5 : tfD x.num.toNat x.den < 9218868437227405312 := (Nat.lt_of_le_of_lt hD hc4)
 rw [decide_eq_true hc5] at S15
 refine region_text (M := []) (
  rT (tV (.bool true)) ::
  rT (tV (.bool true)) ::
  rT (tV (.bool true)) ::
  rT (tV (.bool false)) ::
  rT (tV (.bool false)) ::
  rT (tV (.float .f64 (flN (tfD x.num.toNat x.den)))) ::
  rT (tV (.int .u64 ((flN (tfD x.num.toNat x.den) : Nat) : Int))) ::
  rT (tV (.float .f64 (flN (tfD (x + d).num.toNat (x + d).den)))) ::
  rT (tV (.int .u64 ((flN (tfD (x + d).num.toNat (x + d).den) : Nat) : Int))) ::
  rT (tV (.bool false)) ::
  rT (tV (.bool false)) ::
  rT (tV (.bool false)) ::
  []) hz hd (by kernel_rfl) ?_ ?_
 refine ⟨?_, ?_, ?_, ?_, ?_, ?_, ?_, ?_, ?_, ?_, ?_, ?_, trivial⟩
 exact zMv hz (sv S17)
 exact zMv hz (sd 0 rfl)
 exact zMv hz (sv S15) (g := gT 1 rfl)
 exact zNot hz (sd 2 rfl) (g := gT 1 rfl)
 exact zMv hz (sd 3 rfl) (g := gT 1 rfl)
 exact zMv hz (sv S14) (g := gT 4 rfl)
 exact zC1 hz Try.func14 (sd 5 rfl) (k1 (fun _ => c_bits)) (g := gT 4 rfl)
 exact zMv hz (sv S16) (g := gT 4 rfl)
 exact zC1 hz Try.func14 (sd 7 rfl) (k1 (fun _ => c_bits)) (g := gT 4 rfl)
 exact sBin rfl rfl rfl hz rfl (gT 4 rfl) rfl (sd 6 rfl) (sd 8 rfl) (fun w => o_gtr_no (flN_mono hD hc4) w)
 exact zPF hz (sd 4 rfl) (sd 9 rfl) (g := gT 1 rfl)
 exact zPT hz (sd 1 rfl) (sd 10 rfl)
 intro a' γ' W' hz' hd' hC hk hh
 have tp1 := Cp1.lt
 replace Cp1 := kC hC Cp1
 have tp3 := Cp3.lt
 replace Cp3 := kC hC Cp3
 replace S3 := kp hk S3
 replace S8 := kp hk S8
 replace S9 := kp hk S9
 replace S13 := kp hk S13
 clear S14
 clear S15
 clear S16
 clear S17
 have S58 := gotV hz' 11 hh rfl rfl rfl rfl
 clear tp1 tp3
 replace HB := aft_call HB (RelC.below_nil hC)
 clear hC hk hh; replace hz := hz'; replace hd := hd'; clear hz' hd'
 refine wp_cond_false S58.ev ?_
 refine wp_skip ?_
 refine wp_seq ?_
 refine region_text (M := []) (
  rT (tQ B64 2400 x) ::
  rT (tV (.int .i64 (z))) ::
  rT (tV (.int .i64 ((n : Nat) : Int))) ::
  rT (tT [tV (.string (strB T1)), tV (.bool true)]) ::
  rT (tT [tV (.string (strB T1)), tV (.bool true)]) ::
  rT (tV (.string (strB T1))) ::
  rT (tV (.bool true)) ::
  rT (tV (.string (strB T1))) ::
  rT (tV (.bool true)) ::
  []) hz hd (by kernel_rfl) ?_ ?_
 refine ⟨?_, ?_, ?_, ?_, ?_, ?_, ?_, ?_, ?_, trivial⟩
 exact zLd hz (sv S9) Cp1 ld_q64
 exact zMv hz (sv S3)
 exact sBin rfl rfl rfl hz rfl (Gd.none_ rfl) rfl (sd 1 rfl) kc (fun w => o_andK eN w)
 exact zC2 hz Try.func15 (sd 0 rfl) (sd 2 rfl) (k01 (fun _ _ h0 => c_decimal_n h0 eT1 (by decide) (by omega)))
 exact zMv hz (sd 3 rfl)
 exact zExt hz (sd 4 rfl)
 exact zExt hz (sd 4 rfl)
 exact zAs hz (sd 5 rfl)
 exact zAs hz (sd 6 rfl)
 intro a' γ' W' hz' hd' hC hk hh
 have tp1 := Cp1.lt
 clear Cp1
 have tp3 := Cp3.lt
 replace Cp3 := kC hC Cp3
 replace S3 := kp hk S3
 replace S8 := kp hk S8
 clear S9
 replace S13 := kp hk S13
 clear S58
 have S18 := gotV hz' 7 hh rfl rfl rfl rfl
 clear tp1 tp3
 replace HB := aft_call HB (RelC.below_nil hC)
 clear hC hk hh; replace hz := hz'; replace hd := hd'; clear hz' hd'
 refine wp_seq ?_
 refine region_text (M := []) (
  rT (tQ B64 4801 (x + d)) ::
  rT (tV (.int .i64 (z))) ::
  rT (tV (.int .i64 ((n : Nat) : Int))) ::
  rT (tT [tV (.string (strB T2)), tV (.bool true)]) ::
  rT (tT [tV (.string (strB T2)), tV (.bool true)]) ::
  rT (tV (.string (strB T2))) ::
  rT (tV (.bool true)) ::
  rT (tV (.string (strB T2))) ::
  rT (tV (.bool true)) ::
  []) hz hd (by kernel_rfl) ?_ ?_
 refine ⟨?_, ?_, ?_, ?_, ?_, ?_, ?_, ?_, ?_, trivial⟩
 exact zLd hz (sv S13) Cp3 ld_q64
 exact zMv hz (sv S3)
 exact sBin rfl rfl rfl hz rfl (Gd.none_ rfl) rfl (sd 1 rfl) kc (fun w => o_andK eN w)
 exact zC2 hz Try.func15 (sd 0 rfl) (sd 2 rfl) (k01 (fun _ _ h0 => c_decimal_n h0 eT2 (by decide) (by omega)))
 exact zMv hz (sd 3 rfl)
 exact zExt hz (sd 4 rfl)
 exact zExt hz (sd 4 rfl)
 exact zAs hz (sd 5 rfl)
 exact zAs hz (sd 6 rfl)
 intro a' γ' W' hz' hd' hC hk hh
 have tp3 := Cp3.lt
 clear Cp3
 clear S3
 replace S8 := kp hk S8
 clear S13
 replace S18 := kp hk S18
 have S20 := gotV hz' 7 hh rfl rfl rfl rfl
 clear tp3
 replace HB := aft_call HB (RelC.below_nil hC)
 clear hC hk hh; replace hz := hz'; replace hd := hd'; clear hz' hd'
 refine wp_seq ?_
 by_cases hc6 : T1.length < T2.length
 refine region_text (M := []) (
  rT (tV (.string (strB T1))) ::
  rT (tV (.int .i64 ((T1.length : Nat) : Int))) ::
  rT (tV (.string (strB T2))) ::
  rT (tV (.int .i64 ((T2.length : Nat) : Int))) ::
  rT (tV (.bool true)) ::
  rT (tV (.bool true)) ::
  rT (tV undef) ::
  rT (tV undef) ::
  rT (tV undef) ::
  rT (tV undef) ::
  rT (tV undef) ::
  rT (tV undef) ::
  rT (tV undef) ::
  rT (tV undef) ::
  rT (tV undef) ::
  rT (tV undef) ::
  rT (tV (.bool true)) ::
  rT (tV (.bool true)) ::
  rT (tV (.bool true)) ::
  rT (tV (.bool true)) ::
  rT (tV (.bool true)) ::
  []) hz hd (by kernel_rfl) ?_ ?_
 refine ⟨?_, ?_, ?_, ?_, ?_, ?_, ?_, ?_, ?_, ?_, ?_, ?_, ?_, ?_, ?_, ?_, ?_, ?_, ?_, ?_, ?_, trivial⟩
 exact zMv hz (sv S18)
 exact zB1len hz rfl (sd 0 rfl) (fun w => s_len w)
 exact zMv hz (sv S20)
 exact zB1len hz rfl (sd 2 rfl) (fun w => s_len w)
 exact sBin rfl rfl rfl hz rfl (Gd.none_ rfl) rfl (sd 1 rfl) (sd 3 rfl) (fun w => run_t (P := T1.length < T2.length) ((fun w => n_lt w) w) hc6)
 exact zMv hz (sd 4 rfl)
 exact zSkU hz (gN 5 rfl)
 exact zSkU hz (gN 5 rfl)
 exact zSkU hz (gN 5 rfl)
 exact zSkU hz (gN 5 rfl)
 exact zSkU hz (gN 5 rfl)
 exact zSkU hz (gN 5 rfl)
 exact zSkU hz (gU 11 rfl)
 exact zSkU hz (gU 11 rfl)
 exact zSkU hz (gU 11 rfl)
 exact zSkU hz (gN 5 rfl)
 exact zPT hz (sd 5 rfl) kc
 exact zMv hz (sd 16 rfl)
 exact zC0 hz Try.func10 (fun _ => l_started) (g := gT 17 rfl)
 exact zPT hz (sd 17 rfl) (sd 18 rfl)
 exact zAs hz (sd 19 rfl)
 intro a' γ' W' hz' hd' hC hk hh
 clear S8
 clear S18
 clear S20
 have S8 := gotV hz' 20 hh rfl rfl rfl rfl
 replace HB := aft_call HB (RelC.below_nil hC)
 clear hC hk hh; replace hz := hz'; replace hd := hd'; clear hz' hd'
 refine wp_ret ?_
 refine ret_to (T := tV (.bool true)) (ret1 (by kernel_rfl) S8 hd ⟨_, rfl, rfl, HB⟩) ?_
 exact fun _ _ h => h
 have hc7 : T1.length = T2.length := (by have := hc6; have := hS.1; omega)
 refine region_text (M := []) (
  rT (tV (.string (strB T1))) ::
  rT (tV (.int .i64 ((T1.length : Nat) : Int))) ::
  rT (tV (.string (strB T2))) ::
  rT (tV (.int .i64 ((T2.length : Nat) : Int))) ::
  rT (tV (.bool false)) ::
  rT (tV (.bool false)) ::
  rT (tV (.string (strB T1))) ::
  rT (tV (.int .i64 ((T1.length : Nat) : Int))) ::
  rT (tV (.string (strB T2))) ::
  rT (tV (.int .i64 ((T2.length : Nat) : Int))) ::
  rT (tV (.bool true)) ::
  rT (tV (.bool true)) ::
  rT (tV (.string (strB T1))) ::
  rT (tV (.string (strB T2))) ::
  rT (tV (.bool true)) ::
  rT (tV (.bool true)) ::
  rT (tV (.bool true)) ::
  rT (tV (.bool true)) ::
  rT (tV (.bool true)) ::
  rT (tV (.bool true)) ::
  rT (tV (.bool true)) ::
  []) hz hd (by kernel_rfl) ?_ ?_
 refine ⟨?_, ?_, ?_, ?_, ?_, ?_, ?_, ?_, ?_, ?_, ?_, ?_, ?_, ?_, ?_, ?_, ?_, ?_, ?_, ?_, ?_, trivial⟩
 exact zMv hz (sv S18)
 exact zB1len hz rfl (sd 0 rfl) (fun w => s_len w)
 exact zMv hz (sv S20)
 exact zB1len hz rfl (sd 2 rfl) (fun w => s_len w)
 exact sBin rfl rfl rfl hz rfl (Gd.none_ rfl) rfl (sd 1 rfl) (sd 3 rfl) (fun w => run_f (P := T1.length < T2.length) ((fun w => n_lt w) w) hc6)
 exact zMv hz (sd 4 rfl)
 exact zMv hz (sv S18) (g := gT 5 rfl)
 exact zB1len hz rfl (sd 6 rfl) (fun w => s_len w) (g := gT 5 rfl)
 exact zMv hz (sv S20) (g := gT 5 rfl)
 exact zB1len hz rfl (sd 8 rfl) (fun w => s_len w) (g := gT 5 rfl)
 exact sBin rfl rfl rfl hz rfl (gT 5 rfl) rfl (sd 7 rfl) (sd 9 rfl) (fun w => run_t (P := T1.length = T2.length) ((fun w => n_eq w) w) hc7)
 exact zMv hz (sd 10 rfl) (g := gT 5 rfl)
 exact zMv hz (sv S18) (g := gT 11 rfl)
 exact zMv hz (sv S20) (g := gT 11 rfl)
 exact sBin rfl rfl rfl hz rfl (gT 11 rfl) rfl (sd 12 rfl) (sd 13 rfl) (fun w => run_leB hb1 hb2 (hS.2 hc7) w)
 exact zPT hz (sd 11 rfl) (sd 14 rfl) (g := gT 5 rfl)
 exact zPF hz (sd 5 rfl) (sd 15 rfl)
 exact zMv hz (sd 16 rfl)
 exact zC0 hz Try.func10 (fun _ => l_started) (g := gT 17 rfl)
 exact zPT hz (sd 17 rfl) (sd 18 rfl)
 exact zAs hz (sd 19 rfl)
 intro a' γ' W' hz' hd' hC hk hh
 clear S8
 clear S18
 clear S20
 have S8 := gotV hz' 20 hh rfl rfl rfl rfl
 replace HB := aft_call HB (RelC.below_nil hC)
 clear hC hk hh; replace hz := hz'; replace hd := hd'; clear hz' hd'
 refine wp_ret ?_
 refine ret_to (T := tV (.bool true)) (ret1 (by kernel_rfl) S8 hd ⟨_, rfl, rfl, HB⟩) ?_
 exact fun _ _ h => h
 rw [decide_eq_false hc4] at S17
 refine region_text (M := []) (
  rT (tV (.bool false)) ::
  rT (tV (.bool false)) ::
  rT (tV undef) ::
  rT (tV undef) ::
  rT (tV undef) ::
  rT (tV undef) ::
  rT (tV undef) ::
  rT (tV undef) ::
  rT (tV undef) ::
  rT (tV undef) ::
  rT (tV undef) ::
  rT (tV (.bool false)) ::
  []) hz hd (by kernel_rfl) ?_ ?_
 refine ⟨?_, ?_, ?_, ?_, ?_, ?_, ?_, ?_, ?_, ?_, ?_, ?_, trivial⟩
 exact zMv hz (sv S17)
 exact zMv hz (sd 0 rfl)
 exact zSkU hz (gN 1 rfl)
 exact zSkU hz (gN 1 rfl)
 exact zSkU hz (gN 1 rfl)
 exact zSkU hz (gU 4 rfl)
 exact zSkU hz (gU 4 rfl)
 exact zSkU hz (gU 4 rfl)
 exact zSkU hz (gU 4 rfl)
 exact zSkU hz (gU 4 rfl)
 exact zSkU hz (gN 1 rfl)
 exact zPF hz (sd 1 rfl) kc
 intro a' γ' W' hz' hd' hC hk hh
 have tp1 := Cp1.lt
 replace Cp1 := kC hC Cp1
 have tp3 := Cp3.lt
 replace Cp3 := kC hC Cp3
 replace S3 := kp hk S3
 replace S8 := kp hk S8
 replace S9 := kp hk S9
 replace S13 := kp hk S13
 clear S14
 clear S15
 clear S16
 clear S17
 have S58 := gotV hz' 11 hh rfl rfl rfl rfl
 clear tp1 tp3
 replace HB := aft_call HB (RelC.below_nil hC)
 clear hC hk hh; replace hz := hz'; replace hd := hd'; clear hz' hd'
 refine wp_cond_false S58.ev ?_
 refine wp_skip ?_
 refine wp_seq ?_
 refine region_text (M := []) (
  rT (tQ B64 2400 x) ::
  rT (tV (.int .i64 (z))) ::
  rT (tV (.int .i64 ((n : Nat) : Int))) ::
  rT (tT [tV (.string (strB T1)), tV (.bool true)]) ::
  rT (tT [tV (.string (strB T1)), tV (.bool true)]) ::
  rT (tV (.string (strB T1))) ::
  rT (tV (.bool true)) ::
  rT (tV (.string (strB T1))) ::
  rT (tV (.bool true)) ::
  []) hz hd (by kernel_rfl) ?_ ?_
 refine ⟨?_, ?_, ?_, ?_, ?_, ?_, ?_, ?_, ?_, trivial⟩
 exact zLd hz (sv S9) Cp1 ld_q64
 exact zMv hz (sv S3)
 exact sBin rfl rfl rfl hz rfl (Gd.none_ rfl) rfl (sd 1 rfl) kc (fun w => o_andK eN w)
 exact zC2 hz Try.func15 (sd 0 rfl) (sd 2 rfl) (k01 (fun _ _ h0 => c_decimal_n h0 eT1 (by decide) (by omega)))
 exact zMv hz (sd 3 rfl)
 exact zExt hz (sd 4 rfl)
 exact zExt hz (sd 4 rfl)
 exact zAs hz (sd 5 rfl)
 exact zAs hz (sd 6 rfl)
 intro a' γ' W' hz' hd' hC hk hh
 have tp1 := Cp1.lt
 clear Cp1
 have tp3 := Cp3.lt
 replace Cp3 := kC hC Cp3
 replace S3 := kp hk S3
 replace S8 := kp hk S8
 clear S9
 replace S13 := kp hk S13
 clear S58
 have S18 := gotV hz' 7 hh rfl rfl rfl rfl
 clear tp1 tp3
 replace HB := aft_call HB (RelC.below_nil hC)
 clear hC hk hh; replace hz := hz'; replace hd := hd'; clear hz' hd'
 refine wp_seq ?_
 refine region_text (M := []) (
  rT (tQ B64 4801 (x + d)) ::
  rT (tV (.int .i64 (z))) ::
  rT (tV (.int .i64 ((n : Nat) : Int))) ::
  rT (tT [tV (.string (strB T2)), tV (.bool true)]) ::
  rT (tT [tV (.string (strB T2)), tV (.bool true)]) ::
  rT (tV (.string (strB T2))) ::
  rT (tV (.bool true)) ::
  rT (tV (.string (strB T2))) ::
  rT (tV (.bool true)) ::
  []) hz hd (by kernel_rfl) ?_ ?_
 refine ⟨?_, ?_, ?_, ?_, ?_, ?_, ?_, ?_, ?_, trivial⟩
 exact zLd hz (sv S13) Cp3 ld_q64
 exact zMv hz (sv S3)
 exact sBin rfl rfl rfl hz rfl (Gd.none_ rfl) rfl (sd 1 rfl) kc (fun w => o_andK eN w)
 exact zC2 hz Try.func15 (sd 0 rfl) (sd 2 rfl) (k01 (fun _ _ h0 => c_decimal_n h0 eT2 (by decide) (by omega)))
 exact zMv hz (sd 3 rfl)
 exact zExt hz (sd 4 rfl)
 exact zExt hz (sd 4 rfl)
 exact zAs hz (sd 5 rfl)
 exact zAs hz (sd 6 rfl)
 intro a' γ' W' hz' hd' hC hk hh
 have tp3 := Cp3.lt
 clear Cp3
 clear S3
 replace S8 := kp hk S8
 clear S13
 replace S18 := kp hk S18
 have S20 := gotV hz' 7 hh rfl rfl rfl rfl
 clear tp3
 replace HB := aft_call HB (RelC.below_nil hC)
 clear hC hk hh; replace hz := hz'; replace hd := hd'; clear hz' hd'
 refine wp_seq ?_
 by_cases hc8 : T1.length < T2.length
 refine region_text (M := []) (
  rT (tV (.string (strB T1))) ::
  rT (tV (.int .i64 ((T1.length : Nat) : Int))) ::
  rT (tV (.string (strB T2))) ::
  rT (tV (.int .i64 ((T2.length : Nat) : Int))) ::
  rT (tV (.bool true)) ::
  rT (tV (.bool true)) ::
  rT (tV undef) ::
  rT (tV undef) ::
  rT (tV undef) ::
  rT (tV undef) ::
  rT (tV undef) ::
  rT (tV undef) ::
  rT (tV undef) ::
  rT (tV undef) ::
  rT (tV undef) ::
  rT (tV undef) ::
  rT (tV (.bool true)) ::
  rT (tV (.bool true)) ::
  rT (tV (.bool true)) ::
  rT (tV (.bool true)) ::
  rT (tV (.bool true)) ::
  []) hz hd (by kernel_rfl) ?_ ?_
 refine ⟨?_, ?_, ?_, ?_, ?_, ?_, ?_, ?_, ?_, ?_, ?_, ?_, ?_, ?_, ?_, ?_, ?_, ?_, ?_, ?_, ?_, trivial⟩
 exact zMv hz (sv S18)
 exact zB1len hz rfl (sd 0 rfl) (fun w => s_len w)
 exact zMv hz (sv S20)
 exact zB1len hz rfl (sd 2 rfl) (fun w => s_len w)
 exact sBin rfl rfl rfl hz rfl (Gd.none_ rfl) rfl (sd 1 rfl) (sd 3 rfl) (fun w => run_t (P := T1.length < T2.length) ((fun w => n_lt w) w) hc8)
 exact zMv hz (sd 4 rfl)
 exact zSkU hz (gN 5 rfl)
 exact zSkU hz (gN 5 rfl)
 exact zSkU hz (gN 5 rfl)
 exact zSkU hz (gN 5 rfl)
 exact zSkU hz (gN 5 rfl)
 exact zSkU hz (gN 5 rfl)
 exact zSkU hz (gU 11 rfl)
 exact zSkU hz (gU 11 rfl)
 exact zSkU hz (gU 11 rfl)
 exact zSkU hz (gN 5 rfl)
 exact zPT hz (sd 5 rfl) kc
 exact zMv hz (sd 16 rfl)
 exact zC0 hz Try.func10 (fun _ => l_started) (g := gT 17 rfl)
 exact zPT hz (sd 17 rfl) (sd 18 rfl)
 exact zAs hz (sd 19 rfl)
 intro a' γ' W' hz' hd' hC hk hh
 clear S8
 clear S18
 clear S20
 have S8 := gotV hz' 20 hh rfl rfl rfl rfl
 replace HB := aft_call HB (RelC.below_nil hC)
 clear hC hk hh; replace hz := hz'; replace hd := hd'; clear hz' hd'
 refine wp_ret ?_
 refine ret_to (T := tV (.bool true)) (ret1 (by kernel_rfl) S8 hd ⟨_, rfl, rfl, HB⟩) ?_
 exact fun _ _ h => h
 have hc9 : T1.length = T2.length := (by have := hc8; have := hS.1; omega)
 refine region_text (M := []) (
  rT (tV (.string (strB T1))) ::
  rT (tV (.int .i64 ((T1.length : Nat) : Int))) ::
  rT (tV (.string (strB T2))) ::
  rT (tV (.int .i64 ((T2.length : Nat) : Int))) ::
  rT (tV (.bool false)) ::
  rT (tV (.bool false)) ::
  rT (tV (.string (strB T1))) ::
  rT (tV (.int .i64 ((T1.length : Nat) : Int))) ::
  rT (tV (.string (strB T2))) ::
  rT (tV (.int .i64 ((T2.length : Nat) : Int))) ::
  rT (tV (.bool true)) ::
  rT (tV (.bool true)) ::
  rT (tV (.string (strB T1))) ::
  rT (tV (.string (strB T2))) ::
  rT (tV (.bool true)) ::
  rT (tV (.bool true)) ::
  rT (tV (.bool true)) ::
  rT (tV (.bool true)) ::
  rT (tV (.bool true)) ::
  rT (tV (.bool true)) ::
  rT (tV (.bool true)) ::
  []) hz hd (by kernel_rfl) ?_ ?_
 refine ⟨?_, ?_, ?_, ?_, ?_, ?_, ?_, ?_, ?_, ?_, ?_, ?_, ?_, ?_, ?_, ?_, ?_, ?_, ?_, ?_, ?_, trivial⟩
 exact zMv hz (sv S18)
 exact zB1len hz rfl (sd 0 rfl) (fun w => s_len w)
 exact zMv hz (sv S20)
 exact zB1len hz rfl (sd 2 rfl) (fun w => s_len w)
 exact sBin rfl rfl rfl hz rfl (Gd.none_ rfl) rfl (sd 1 rfl) (sd 3 rfl) (fun w => run_f (P := T1.length < T2.length) ((fun w => n_lt w) w) hc8)
 exact zMv hz (sd 4 rfl)
 exact zMv hz (sv S18) (g := gT 5 rfl)
 exact zB1len hz rfl (sd 6 rfl) (fun w => s_len w) (g := gT 5 rfl)
 exact zMv hz (sv S20) (g := gT 5 rfl)
 exact zB1len hz rfl (sd 8 rfl) (fun w => s_len w) (g := gT 5 rfl)
 exact sBin rfl rfl rfl hz rfl (gT 5 rfl) rfl (sd 7 rfl) (sd 9 rfl) (fun w => run_t (P := T1.length = T2.length) ((fun w => n_eq w) w) hc9)
 exact zMv hz (sd 10 rfl) (g := gT 5 rfl)
 exact zMv hz (sv S18) (g := gT 11 rfl)
 exact zMv hz (sv S20) (g := gT 11 rfl)
 exact sBin rfl rfl rfl hz rfl (gT 11 rfl) rfl (sd 12 rfl) (sd 13 rfl) (fun w => run_leB hb1 hb2 (hS.2 hc9) w)
 exact zPT hz (sd 11 rfl) (sd 14 rfl) (g := gT 5 rfl)
 exact zPF hz (sd 5 rfl) (sd 15 rfl)
 exact zMv hz (sd 16 rfl)
 exact zC0 hz Try.func10 (fun _ => l_started) (g := gT 17 rfl)
 exact zPT hz (sd 17 rfl) (sd 18 rfl)
 exact zAs hz (sd 19 rfl)
 intro a' γ' W' hz' hd' hC hk hh
 clear S8
 clear S18
 clear S20
 have S8 := gotV hz' 20 hh rfl rfl rfl rfl
 replace HB := aft_call HB (RelC.below_nil hC)
 clear hC hk hh; replace hz := hz'; replace hd := hd'; clear hz' hd'
 refine wp_ret ?_
 refine ret_to (T := tV (.bool true)) (ret1 (by kernel_rfl) S8 hd ⟨_, rfl, rfl, HB⟩) ?_
 exact fun _ _ h => h

end Go.Proofs.Ytfgnleoaibcegaa.Rg

namespace Go.Proofs.Ytfgnleoaibcegaa.Rg

open Go.RowKit Go.ChangeShapes Go.WideShapes Go.ChangeAt Go.Deep

theorem by_in3 {w : World} {A : Option Addr} {n c : Nat} {l : List Int} (h : InI .u8 1 1 w A n c l) : (tBy 9223372036854775807 (l.map Int.toNat)).p (.slice A n c) w :=
  ⟨A, n, c, rfl, bat_in h, h.le, by have := h.le; have := h.reach; omega⟩
theorem numRises_walk (A0 : Option Addr) (n0 c0 : Nat) (l0 : List Int) (A1 : Option Addr) (n1 c1 : Nat) (l1 : List Int) (A2 : Option Addr) (n2 c2 : Nat) (l2 : List Int) (z : Int) (w : World) (h0 : InI .u8 1 1 w A0 n0 c0 l0) (h1 : InI .u8 1 1 w A1 n1 c1 l1) (h2 : InI .u8 1 1 w A2 n2 c2 l2) (hz : (Lit.int .i64 z).wf = true) :
    Calls Try.prog 4 #[.slice A0 n0 c0, .slice A1 n1 c1, .slice A2 n2 c2, .int .i64 z] w fun e w' => e = .returned (.bool true) ∧ Below w.heap.size w w' :=
  ret_out3 (numRises_ret (by_in3 h0) (by_in3 h1) (by_in3 h2))
end Go.Proofs.Ytfgnleoaibcegaa.Rg
