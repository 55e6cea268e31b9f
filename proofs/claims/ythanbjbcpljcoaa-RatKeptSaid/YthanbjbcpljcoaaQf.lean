/-
  Walks and plain laws, put together: TE TF TD TG.
-/
import Derived.Test.YthanbjbcpljcoaaQe
set_option linter.unusedVariables false
set_option linter.unusedSimpArgs false
namespace Go.Proofs.Ythanbjbcpljcoaa.Rg

open Go.RowKit

theorem tQ32 {l : Nat} {x : Rat} {v : Value} {w : World} (h : (tQ B32 l x).p v w) : ∃ p q, (tR B32 l l p q).p v w ∧ x.num = (p : Int) ∧ x.den = q ∧ 0 < q ∧ p < 2 ^ l ∧ q < 2 ^ l := by
  obtain ⟨p, q, h, e1, e2, e3, h4, h5⟩ := h
  have hq : q ≠ 0 := e3 rfl
  rw [und_of hq] at e2 h5
  exact ⟨p, q, h, e1, e2, by omega, h4, h5⟩
theorem tQ_02 {v : Value} {w : World} : (tR B32 2 2 0 1).p v w → (tQ B32 1 0).p v w := fun h => tQ_mk (by decide) h rfl rfl (fun _ => by decide) (by decide) (by decide)
section

variable {l l1 l2 : Nat} {x y : Rat} {v0 v1 : Value} {w : World}
theorem dq_add (h0 : (tQ B32 l1 x).p v0 w) (h1 : (tQ B32 l2 y).p v1 w) (b1 : l1 ≤ 100000000) (b2 : l2 ≤ 100000000) : Calls Try.prog 22 #[v0, v1] w (Ret (tQ B32 (l1 + l2 + 1) (x + y)) w) := by
  obtain ⟨p, q, h, e1, e2, hq, h3, h4⟩ := tQ32 h0
  obtain ⟨p', q', h', e1', e2', hq', h3', h4'⟩ := tQ32 h1
  refine (d_radd h h' (by omega) (by omega) (by omega) (by omega) hq hq').mono ?_
  rintro e w' ⟨v, rfl, hv, hb⟩
  exact ⟨v, rfl, tQ_low (by decide) hv (Nat.mul_ne_zero (by omega) (by omega)) (q_add e1 e2 e1' e2') (bits_cross h3 h4 h3' h4') (bits_le (bits_mul h4 h4') (by omega)), hb⟩
theorem dq_zero : Calls Try.prog 44 #[] w (Ret (tQ B32 1 0) w) := by
  refine d_qzero.mono ?_
  rintro e w' ⟨v, rfl, hv, hb⟩
  exact ⟨v, rfl, tQ_02 hv, hb⟩
end

/-! ### In variables -/
section

variable {b l : Nat} {x : Rat}
theorem tQ_nil {w : World} : (tQ B64 1 0).p (.agg #[.slice none 0 0, .slice none 0 0]) w := tQ_0 tR_nil
theorem tQ_nd : ∀ v w, (tQ b l x).p v w → v.cells.size = 2 ∧ ∀ u ∈ v.cells, notDig u := fun v w ⟨_, _, h, _⟩ => tR_nd v w h
theorem ld_q64 {p : Nat} : ∀ v w, (tQ b l x).p v w → Blk w p 29 v.cells → (Instr.loadAt 29 (.pointer (some ⟨p, 0, none⟩))).run Try.prog w = .ok v w := fun v w ⟨_, _, h, _⟩ hb => ld_r64 v w h hb
theorem box_q64 : ∀ v w, (tQ b l x).p v w → (Instr.box 29 v).run Try.prog w = .ok (.pointer (some ⟨w.heap.size, 0, none⟩)) (w.alloc (.cells v.cells 29)) := fun v w ⟨_, _, h, _⟩ => box_r64 v w h
theorem st_q64 : StoreOk Try.prog 29 (tQ b l x) 2 := fun v w p us ⟨_, _, h, _⟩ hk hb => st_r64 v w p us h hk hb
theorem ld_q32 {p : Nat} : ∀ v w, (tQ b l x).p v w → Blk w p 33 v.cells → (Instr.loadAt 33 (.pointer (some ⟨p, 0, none⟩))).run Try.prog w = .ok v w := fun v w ⟨_, _, h, _⟩ hb => ld_r32 v w h hb
theorem box_q32 : ∀ v w, (tQ b l x).p v w → (Instr.box 33 v).run Try.prog w = .ok (.pointer (some ⟨w.heap.size, 0, none⟩)) (w.alloc (.cells v.cells 33)) := fun v w ⟨_, _, h, _⟩ => box_r32 v w h
theorem st_q32 : StoreOk Try.prog 33 (tQ b l x) 2 := fun v w p us ⟨_, _, h, _⟩ hk hb => st_r32 v w p us h hk hb
end
theorem bodyPost_mono {P : Program} {fn : Func} {R R' : Ending → World → Prop} {ex : Exit} {a : Act} {w : World} (h : bodyPost P fn R ex a w) (hR : ∀ e w, R e w → R' e w) : bodyPost P fn R' ex a w := by
  cases ex with
  | normal => obtain ⟨h1, v, h2, h3⟩ := h; exact ⟨h1, v, h2, hR _ _ h3⟩
  | ret => obtain ⟨h1, v, h2, h3⟩ := h; exact ⟨h1, v, h2, hR _ _ h3⟩
  | panic c => exact ⟨h.1, hR _ _ h.2⟩
  | outgrown => exact hR _ _ h
  | exit _ => exact h.elim
  | goto _ => exact h.elim
theorem ret_to {P : Program} {fn : Func} {T T' : Ty} {w0 w : World} {ex : Exit} {a : Act} (h : bodyPost P fn (Ret T w0) ex a w) (hT : ∀ v w, T.p v w → T'.p v w) : bodyPost P fn (Ret T' w0) ex a w :=
  bodyPost_mono h fun e w ⟨v, h1, h2, h3⟩ => ⟨v, h1, hT _ _ h2, h3⟩
theorem to2 {T1 T2 U1 U2 : Ty} (h1 : ∀ v w, T1.p v w → U1.p v w) (h2 : ∀ v w, T2.p v w → U2.p v w) : ∀ v w, (tT [T1, T2]).p v w → (tT [U1, U2]).p v w := by
  rintro v w ⟨m, rfl, h⟩
  match m, h with
  | [a, b], ⟨ha, hb, _⟩ => exact ⟨_, rfl, h1 _ _ ha, h2 _ _ hb, trivial⟩
theorem tQ_to {b l m : Nat} {x y : Rat} (hb : 2 ≤ b) (e : x = y) (hl : l ≤ m) : ∀ v w, (tQ b l x).p v w → (tQ b m y).p v w := by subst e; exact tQ_le hb hl
theorem tV_to {x y : Value} (e : x = y) : ∀ v w, (tV x).p v w → (tV y).p v w := fun v w h => h.trans e
theorem retct_q64 {fn : Func} {w0 : World} {a : Act} {w : World} {b t1 t2 p1 l : Nat} {x : Rat} {v2 : Value} (h : fn.results = #[.cell t1 29, .tmp t2]) (s1 : Sl a t1 (.pointer (some ⟨p1, 0, none⟩))) (s2 : Sl a t2 v2) (hdf : a.defers = []) (c1 : Cell 29 (tQ b l x) p1 w) (hb : Below w0.heap.size w0 w) : bodyPost Try.prog fn (Ret (tT [tQ b l x, tV v2]) w0) .ret a w := by
  obtain ⟨v, b1, p, q, h', r⟩ := c1
  exact ret_to (retct_r64 h s1 s2 hdf ⟨v, b1, h'⟩ hb) (to2 (fun v w hv => ⟨p, q, hv, r⟩) fun _ _ h => h)
theorem retct_q32 {fn : Func} {w0 : World} {a : Act} {w : World} {b t1 t2 p1 l : Nat} {x : Rat} {v2 : Value} (h : fn.results = #[.cell t1 33, .tmp t2]) (s1 : Sl a t1 (.pointer (some ⟨p1, 0, none⟩))) (s2 : Sl a t2 v2) (hdf : a.defers = []) (c1 : Cell 33 (tQ b l x) p1 w) (hb : Below w0.heap.size w0 w) : bodyPost Try.prog fn (Ret (tT [tQ b l x, tV v2]) w0) .ret a w := by
  obtain ⟨v, b1, p, q, h', r⟩ := c1
  exact ret_to (retct_r32 h s1 s2 hdf ⟨v, b1, h'⟩ hb) (to2 (fun v w hv => ⟨p, q, hv, r⟩) fun _ _ h => h)
end Go.Proofs.Ythanbjbcpljcoaa.Rg

namespace Go.Proofs.Ythanbjbcpljcoaa.Rg

open Go.RowKit

section

variable {P : Prop} [Decidable P] {m : Sem Value} {pr : Program} {w : World}
theorem run_t (h : m.run pr w = .ok (.bool (decide P)) w) (hp : P) : m.run pr w = .ok (.bool true) w := by rw [h, decide_eq_true hp]
theorem run_f (h : m.run pr w = .ok (.bool (decide P)) w) (hp : ¬ P) : m.run pr w = .ok (.bool false) w := by rw [h, decide_eq_false hp]
end
theorem rat_tri (x y : Rat) : x < y ∨ x = y ∨ y < x := by grind
theorem cmpQ_gtr (x y : Rat) : decide (cmpQ x y > 0) = decide (y < x) := by
  unfold cmpQ; rcases rat_tri x y with h | h | h
  · have : ¬ y < x := by grind
    simp [h, this]
  · subst h; simp [Rat.lt_irrefl]
  · have : ¬ x < y := by grind
    simp [h, this]
theorem cmpQ_neg (x y : Rat) : -cmpQ x y = cmpQ y x := by
  unfold cmpQ; rcases rat_tri x y with h | h | h
  · have : ¬ y < x := by grind
    simp [h, this]
  · subst h; simp [Rat.lt_irrefl]
  · have : ¬ x < y := by grind
    simp [h, this]
theorem cmpQ_lss (x y : Rat) : decide (cmpQ x y < 0) = decide (x < y) := by
  rw [← cmpQ_gtr y x, ← cmpQ_neg x y, decide_eq_decide]; omega
theorem cmpQ_eq1 (x y : Rat) : decide (cmpQ x y = 1) = decide (y < x) := by
  rw [← cmpQ_gtr x y, decide_eq_decide]
  unfold cmpQ; split <;> (try split) <;> omega
theorem cmpQ_eqm (x y : Rat) : decide (cmpQ x y = -1) = decide (x < y) := by
  rw [← cmpQ_lss x y, decide_eq_decide]
  unfold cmpQ; split <;> (try split) <;> omega
section

variable {id id' : TypeId} {ox oy : Operand} {a b : Int} {w : World}
theorem run_lss : (do eqGuard .lss id ox oy (.int .i64 a) (.int .i64 b); binOp .lss id (.int .i64 a) (.int .i64 b) : Sem Value).run Try.prog w = .ok (.bool (decide (a < b))) w := by simp [go_sem]
theorem run_eql : (do eqGuard .eql 3 ox oy (.int .i64 a) (.int .i64 b); binOp .eql 3 (.int .i64 a) (.int .i64 b) : Sem Value).run Try.prog w = .ok (.bool (decide (a = b))) w := by
  have e : (a == b) = decide (a = b) := by rw [Bool.eq_iff_iff]; simp
  simp [go_sem, e]
theorem run_cQ_eq1 (x y : Rat) (w : World) : (do eqGuard .eql 3 ox oy (.int .i64 (cmpQ x y)) (.int .i64 1); binOp .eql 3 (.int .i64 (cmpQ x y)) (.int .i64 1) : Sem Value).run Try.prog w = .ok (.bool (decide (y < x))) w := by rw [run_eql, cmpQ_eq1]
theorem run_cQ_eqm (x y : Rat) (w : World) : (do eqGuard .eql 3 ox oy (.int .i64 (cmpQ x y)) (.int .i64 (-1)); binOp .eql 3 (.int .i64 (cmpQ x y)) (.int .i64 (-1)) : Sem Value).run Try.prog w = .ok (.bool (decide (x < y))) w := by rw [run_eql, cmpQ_eqm]
end
section

variable {P : Program} {ops : Array Oper} {Q : Exit → Act → World → Prop} {a0 : Act} {M : List Nat} {W : World} {rels : List Rel} {i : Nat} {o : Oper} {T T' : Ty} {N d : Nat} {x y : Operand}
end

end Go.Proofs.Ythanbjbcpljcoaa.Rg

namespace Go.Proofs.Ythanbjbcpljcoaa.Rg

open Go.RowKit

def ofQ (a b : Int) : Rat := if 0 ≤ a ∧ 1 ≤ b then mkRat a b.toNat else 0
def OfOk (a b : Int) : Prop := 0 ≤ a ∧ 1 ≤ b
instance (a b : Int) : Decidable (OfOk a b) := inferInstanceAs (Decidable (_ ∧ _))
def IntQ (x : Rat) : Prop := x.den = 1 ∧ x.num < 9223372036854775808
instance (x : Rat) : Decidable (IntQ x) := inferInstanceAs (Decidable (_ ∧ _))
section

variable {l l1 : Nat} {x : Rat} {v0 : Value} {w : World}
theorem ldp_q32 {p : Nat} : ∀ v w, (tQ B32 l x).p v w → Blk w p 33 v.cells → ∃ u, (Instr.loadAt 31 (.pointer (some ⟨p, 0, none⟩))).run Try.prog w = .ok u w ∧ (tN B32 l x.num.toNat).p u w := fun v w ⟨_, _, h, e1, _⟩ hb => by rw [e1]; exact ldp_r32 v w h hb
theorem ldq_q32 {p : Nat} : ∀ v w, (tQ B32 l x).p v w → Blk w p 33 v.cells → ∃ u, (Instr.loadAt 31 (.pointer (some ⟨p, 1, none⟩))).run Try.prog w = .ok u w ∧ (tN B32 l x.den).p u w := fun v w ⟨_, q, h, _, e2, e3, _⟩ hb => by rw [e2, und_of (e3 rfl)]; exact ldq_r32 v w h hb
theorem cq_of {a b : Int} (ha : a < 9223372036854775808) (hb : b < 9223372036854775808) : Calls Try.prog 30 #[.int .i64 a, .int .i64 b] w (Ret (tT [tQ B64 63 (ofQ a b), tV (.bool (decide (OfOk a b)))]) w) := by
  by_cases h1 : a < 0
  · refine (c_of_n (l1 := 0) (l2 := 0) (l3 := 0) (l4 := 0) (p := 0) (q := 0) (p' := 0) (q' := 0) h1).mono ?_
    rintro e w' ⟨v, rfl, hv, hb⟩
    refine ⟨v, rfl, to2 (fun v w h => ?_) (tV_to (by rw [decide_eq_false (by unfold OfOk; omega)])) _ _ hv, hb⟩
    unfold ofQ; rw [if_neg (by omega)]; exact tQ_le (by decide) (by omega) _ _ (tQ_0 h)
  · by_cases h2 : b < 1
    · refine (c_of_z (l1 := 0) (l2 := 0) (l3 := 0) (l4 := 0) (p := 0) (q := 0) (p' := 0) (q' := 0) h1 h2).mono ?_
      rintro e w' ⟨v, rfl, hv, hb⟩
      refine ⟨v, rfl, to2 (fun v w h => ?_) (tV_to (by rw [decide_eq_false (by unfold OfOk; omega)])) _ _ hv, hb⟩
      unfold ofQ; rw [if_neg (by omega)]; exact tQ_le (by decide) (by omega) _ _ (tQ_0 h)
    · obtain ⟨a, rfl⟩ := Int.eq_ofNat_of_zero_le (show 0 ≤ a by omega)
      obtain ⟨b, rfl⟩ := Int.eq_ofNat_of_zero_le (show 0 ≤ b by omega)
      have ha' : a < 2 ^ 63 := by omega
      have hb' : b < 2 ^ 63 := by omega
      refine (c_of_p (l1 := 0) (l2 := 0) (l3 := 0) (l4 := 0) (p := 0) (q := 0) (p' := 0) (q' := 0) (x := a) (y := b) (by omega) (by omega) (by omega) (by unfold B64; omega) (by unfold B64; omega)).mono ?_
      rintro e w' ⟨v, rfl, hv, hbl⟩
      refine ⟨v, rfl, to2 (fun v w h => ?_) (tV_to (by rw [decide_eq_true (by unfold OfOk; omega)])) _ _ hv, hbl⟩
      unfold ofQ; rw [if_pos (by omega)]
      exact tQ_low (by decide) h (by omega) (by rw [Int.toNat_natCast]) ha' hb'
end

theorem bl_iff (q : Nat) : ((bl q : Nat) : Int) = 0 ↔ q = 0 := by
  constructor
  · intro h
    rcases Nat.eq_zero_or_pos q with h1 | h1
    · exact h1
    · have := bl_pos (n := q) (by omega); omega
  · rintro rfl; rfl
theorem num_i {x : Rat} (h : 0 ≤ x) : ((x.num.toNat : Nat) : Int) = x.num := Int.toNat_of_nonneg (Rat.num_nonneg.2 h)
set_option maxRecDepth 10000 in
set_option maxHeartbeats 2000000 in
theorem cq_from {l l1 l2 p q : Nat} {v0 v1 : Value} {w : World} (h0 : (tN B64 l1 p).p v0 w) (h1 : (tN B64 l2 q).p v1 w) (b1 : l1 ≤ 100000000) (b2 : l2 ≤ 100000000) (hp : p < 2 ^ l) (hq : q < 2 ^ l) (hl : 1 ≤ l) :
    Calls Try.prog 11 #[v0, v1] w (Ret (tT [tQ B64 l (mkRat p q), tV (.bool (decide (q ≠ 0)))]) w) := by
 refine enter Try.func11 rfl Try.ntmps11 (by simp) ?_
 intro a hz hd ha
 have S0 := ha 0 _ rfl
 have H0 := h0
 have S1 := ha 1 _ rfl
 have H1 := h1
 clear ha
 have HB : Below w.heap.size w w := Below.refl _ _
 refine wp_seq ?_
 refine region_text (M := []) (
  rB 0 27 (tN B64 l1 p) none 0 ::
  rB 1 27 (tN B64 l2 q) none 0 ::
  rB 2 29 (tQ B64 1 0) none 0 ::
  rT (tV (.bool false)) ::
  []) hz hd (by kernel_rfl) ?_ ?_
 refine ⟨?_, ?_, ?_, ?_, trivial⟩
 exact zBox hz (so S0 H0) box_n64
 exact zBox hz (so S1 H1) box_n64
 exact zNew hz (fun _ => tQ_nil) al_r64
 exact zAs hz kc
 intro a' γ' W' hz' hd' hC hk hh
 clear S0 H0
 clear S1 H1
 obtain ⟨p1, S2, Cp1, lp1, gp1⟩ := gotB hz' 0 hC hh rfl rfl rfl rfl rfl rfl
 obtain ⟨p2, S3, Cp2, lp2, gp2⟩ := gotB hz' 1 hC hh rfl rfl rfl rfl rfl rfl
 obtain ⟨p3, S4, Cp3, lp3, gp3⟩ := gotB hz' 2 hC hh rfl rfl rfl rfl rfl rfl
 have S5 := gotV hz' 3 hh rfl rfl rfl rfl
 have n_p1_p3 : p1 ≠ p3 := by intro e; rw [e, gp3] at gp1; omega
 have n_p2_p3 : p2 ≠ p3 := by intro e; rw [e, gp3] at gp2; omega
 have bp3 : w.heap.size ≤ p3 := Nat.le_trans HB.size lp3
 clear lp1 gp1 lp2 gp2 lp3 gp3
 replace HB := aft_call HB (RelC.below_nil hC)
 clear hC hk hh; replace hz := hz'; replace hd := hd'; clear hz' hd'
 refine wp_seq ?_
 refine wp_seq ?_
 refine region_text (M := []) (
  rT (tN B64 l2 q) ::
  rT (tV (.int .i64 ((bl q : Nat) : Int))) ::
  rT (tV (.bool (decide (q = 0)))) ::
  []) hz hd (by kernel_rfl) ?_ ?_
 refine ⟨?_, ?_, ?_, trivial⟩
 exact zLd hz (sv S3) Cp2 ld_n64
 exact zC1 hz Try.func47 (sd 0 rfl) (fun _ _ h0 => c_len h0 (by rw [big_eq]; omega))
 exact sBin rfl rfl rfl hz rfl (Gd.none_ rfl) rfl (sd 1 rfl) kc (fun w => by rw [run_eql]; congr 2; rw [decide_eq_decide]; exact bl_iff q)
 intro a' γ' W' hz' hd' hC hk hh
 replace Cp1 := kC hC Cp1
 replace Cp2 := kC hC Cp2
 have tp3 := Cp3.lt
 replace Cp3 := kC hC Cp3
 replace S2 := kp hk S2
 replace S3 := kp hk S3
 replace S4 := kp hk S4
 replace S5 := kp hk S5
 have S8 := gotV hz' 2 hh rfl rfl rfl rfl
 clear tp3
 replace HB := aft_call HB (RelC.below_nil hC)
 clear hC hk hh; replace hz := hz'; replace hd := hd'; clear hz' hd'
 by_cases hc4 : q = 0
 rw [decide_eq_true hc4] at S8
 refine wp_cond_true S8.ev ?_
 refine wp_seq ?_
 refine region_text (M := [p3]) (
  rT (tQ B64 1 0) ::
  rE 0 29 (tQ B64 1 0) p3 ::
  rT (tV (.bool false)) ::
  []) hz hd (by kernel_rfl) ?_ ?_
 refine ⟨?_, ?_, ?_, trivial⟩
 exact sBuild0 rfl rfl rfl hz rfl (Gd.none_ rfl) rfl bd_r64 (fun _ => tQ_nil)
 exact zSE rfl (sv S4) (by simp [tagOf]) (Cp3.var tQ_nd) (sd 0 rfl) st_q64
 exact zAs hz kc
 intro a' γ' W' hz' hd' hC hk hh
 replace Cp1 := kC hC Cp1 (by simp [tagOf, n_p1_p3])
 replace Cp2 := kC hC Cp2 (by simp [tagOf, n_p2_p3])
 replace Cp3 := gotE (T := tQ B64 1 0) (id := 29) (p := p3) 1 hh rfl rfl
 replace S2 := kp hk S2
 replace S3 := kp hk S3
 replace S4 := kp hk S4
 clear S5
 clear S8
 have S5 := gotV hz' 2 hh rfl rfl rfl rfl
 replace HB := RelC.aftM HB hC (by intro m hm; simp at hm; rcases hm with rfl <;> assumption)
 clear hC hk hh; replace hz := hz'; replace hd := hd'; clear hz' hd'
 refine wp_ret ?_
 refine ret_to (T := tT [tQ B64 1 0, tV (.bool false)]) (retct_q64 (by kernel_rfl) S4 S5 hd Cp3 HB) ?_
 exact to2 (fun v w h => by rw [hc4, Rat.mkRat_zero]; exact tQ_le (by decide) hl _ _ h) (tV_to (by rw [decide_eq_false (fun h => h hc4)]))
 rw [decide_eq_false hc4] at S8
 refine wp_cond_false S8.ev ?_
 refine wp_skip ?_
 refine wp_seq ?_
 refine region_text (M := [p3]) (
  rT (tN B64 l1 p) ::
  rT (tN B64 l2 q) ::
  rT (tR B64 l1 l2 (p / Nat.gcd p q) (q / Nat.gcd p q)) ::
  rE 0 29 (tR B64 l1 l2 (p / Nat.gcd p q) (q / Nat.gcd p q)) p3 ::
  rT (tV (.bool true)) ::
  []) hz hd (by kernel_rfl) ?_ ?_
 refine ⟨?_, ?_, ?_, ?_, ?_, trivial⟩
 exact zLd hz (sv S2) Cp1 ld_n64 (by simp [tagOf, n_p1_p3])
 exact zLd hz (sv S3) Cp2 ld_n64 (by simp [tagOf, n_p2_p3])
 exact zC2 hz Try.func48 (sd 0 rfl) (sd 1 rfl) (fun _ _ _ h0 h1 => c_lowest (l3 := 0) (l4 := 0) (p' := 0) (q' := 0) h0 h1 (by omega) (by omega) (by omega) (by omega))
 exact zSE rfl (sv S4) (by simp [tagOf]) (Cp3.var tQ_nd) (sd 2 rfl) st_r64
 exact zAs hz kc
 intro a' γ' W' hz' hd' hC hk hh
 clear Cp1
 clear Cp2
 replace Cp3 := gotE (T := tR B64 l1 l2 (p / Nat.gcd p q) (q / Nat.gcd p q)) (id := 29) (p := p3) 3 hh rfl rfl
 clear S2
 clear S3
 replace S4 := kp hk S4
 clear S5
 clear S8
 have S5 := gotV hz' 4 hh rfl rfl rfl rfl
 replace HB := RelC.aftM HB hC (by intro m hm; simp at hm; rcases hm with rfl <;> assumption)
 clear hC hk hh; replace hz := hz'; replace hd := hd'; clear hz' hd'
 refine wp_ret ?_
 refine ret_to (T := tT [tR B64 l1 l2 (p / Nat.gcd p q) (q / Nat.gcd p q), tV (.bool true)]) (retct_r64 (by kernel_rfl) S4 S5 hd Cp3 HB) ?_
 exact to2 (fun v w h => tQ_low (by decide) h hc4 rfl hp hq) (tV_to (by rw [decide_eq_true hc4]))

set_option maxRecDepth 10000 in
set_option maxHeartbeats 2000000 in
theorem dq_from {l l1 l2 p q : Nat} {v0 v1 : Value} {w : World} (h0 : (tN B32 l1 p).p v0 w) (h1 : (tN B32 l2 q).p v1 w) (b1 : l1 ≤ 100000000) (b2 : l2 ≤ 100000000) (hp : p < 2 ^ l) (hq : q < 2 ^ l) (hl : 1 ≤ l) :
    Calls Try.prog 14 #[v0, v1] w (Ret (tT [tQ B32 l (mkRat p q), tV (.bool (decide (q ≠ 0)))]) w) := by
 refine enter Try.func14 rfl Try.ntmps14 (by simp) ?_
 intro a hz hd ha
 have S0 := ha 0 _ rfl
 have H0 := h0
 have S1 := ha 1 _ rfl
 have H1 := h1
 clear ha
 have HB : Below w.heap.size w w := Below.refl _ _
 refine wp_seq ?_
 refine region_text (M := []) (
  rB 0 31 (tN B32 l1 p) none 0 ::
  rB 1 31 (tN B32 l2 q) none 0 ::
  rB 2 33 (tR B32 0 0 0 0) none 0 ::
  rT (tV (.bool false)) ::
  []) hz hd (by kernel_rfl) ?_ ?_
 refine ⟨?_, ?_, ?_, ?_, trivial⟩
 exact zBox hz (so S0 H0) box_n32
 exact zBox hz (so S1 H1) box_n32
 exact zNew hz (fun _ => tR_nil) al_r32
 exact zAs hz kc
 intro a' γ' W' hz' hd' hC hk hh
 clear S0 H0
 clear S1 H1
 obtain ⟨p1, S2, Cp1, lp1, gp1⟩ := gotB hz' 0 hC hh rfl rfl rfl rfl rfl rfl
 obtain ⟨p2, S3, Cp2, lp2, gp2⟩ := gotB hz' 1 hC hh rfl rfl rfl rfl rfl rfl
 obtain ⟨p3, S4, Cp3, lp3, gp3⟩ := gotB hz' 2 hC hh rfl rfl rfl rfl rfl rfl
 have S5 := gotV hz' 3 hh rfl rfl rfl rfl
 have n_p1_p3 : p1 ≠ p3 := by intro e; rw [e, gp3] at gp1; omega
 have n_p2_p3 : p2 ≠ p3 := by intro e; rw [e, gp3] at gp2; omega
 have bp3 : w.heap.size ≤ p3 := Nat.le_trans HB.size lp3
 clear lp1 gp1 lp2 gp2 lp3 gp3
 replace HB := aft_call HB (RelC.below_nil hC)
 clear hC hk hh; replace hz := hz'; replace hd := hd'; clear hz' hd'
 refine wp_seq ?_
 refine wp_seq ?_
 refine region_text (M := []) (
  rT (tN B32 l2 q) ::
  rT (tV (.bool (decide (q = 0)))) ::
  []) hz hd (by kernel_rfl) ?_ ?_
 refine ⟨?_, ?_, trivial⟩
 exact zLd hz (sv S3) Cp2 ld_n32
 exact zC1 hz Try.func23 (sd 0 rfl) (fun _ _ h0 => d_zero h0)
 intro a' γ' W' hz' hd' hC hk hh
 replace Cp1 := kC hC Cp1
 replace Cp2 := kC hC Cp2
 have tp3 := Cp3.lt
 replace Cp3 := kC hC Cp3
 replace S2 := kp hk S2
 replace S3 := kp hk S3
 replace S4 := kp hk S4
 replace S5 := kp hk S5
 have S7 := gotV hz' 1 hh rfl rfl rfl rfl
 clear tp3
 replace HB := aft_call HB (RelC.below_nil hC)
 clear hC hk hh; replace hz := hz'; replace hd := hd'; clear hz' hd'
 by_cases hc4 : q = 0
 rw [decide_eq_true hc4] at S7
 refine wp_cond_true S7.ev ?_
 refine wp_seq ?_
 refine region_text (M := [p3]) (
  rT (tQ B32 1 0) ::
  rE 0 33 (tQ B32 1 0) p3 ::
  rT (tV (.bool false)) ::
  []) hz hd (by kernel_rfl) ?_ ?_
 refine ⟨?_, ?_, ?_, trivial⟩
 exact zC0 hz Try.func44 (fun _ => dq_zero)
 exact zSE rfl (sv S4) (by simp [tagOf]) (Cp3.var tR_nd) (sd 0 rfl) st_q32
 exact zAs hz kc
 intro a' γ' W' hz' hd' hC hk hh
 replace Cp1 := kC hC Cp1 (by simp [tagOf, n_p1_p3])
 replace Cp2 := kC hC Cp2 (by simp [tagOf, n_p2_p3])
 replace Cp3 := gotE (T := tQ B32 1 0) (id := 33) (p := p3) 1 hh rfl rfl
 replace S2 := kp hk S2
 replace S3 := kp hk S3
 replace S4 := kp hk S4
 clear S5
 clear S7
 have S5 := gotV hz' 2 hh rfl rfl rfl rfl
 replace HB := RelC.aftM HB hC (by intro m hm; simp at hm; rcases hm with rfl <;> assumption)
 clear hC hk hh; replace hz := hz'; replace hd := hd'; clear hz' hd'
 refine wp_ret ?_
 refine ret_to (T := tT [tQ B32 1 0, tV (.bool false)]) (retct_q32 (by kernel_rfl) S4 S5 hd Cp3 HB) ?_
 exact to2 (fun v w h => by rw [hc4, Rat.mkRat_zero]; exact tQ_le (by decide) hl _ _ h) (tV_to (by rw [decide_eq_false (fun h => h hc4)]))
 rw [decide_eq_false hc4] at S7
 refine wp_cond_false S7.ev ?_
 refine wp_skip ?_
 refine wp_seq ?_
 refine region_text (M := [p3]) (
  rT (tN B32 l1 p) ::
  rT (tN B32 l2 q) ::
  rT (tR B32 l1 l2 (p / Nat.gcd p q) (q / Nat.gcd p q)) ::
  rE 0 33 (tR B32 l1 l2 (p / Nat.gcd p q) (q / Nat.gcd p q)) p3 ::
  rT (tV (.bool true)) ::
  []) hz hd (by kernel_rfl) ?_ ?_
 refine ⟨?_, ?_, ?_, ?_, ?_, trivial⟩
 exact zLd hz (sv S2) Cp1 ld_n32 (by simp [tagOf, n_p1_p3])
 exact zLd hz (sv S3) Cp2 ld_n32 (by simp [tagOf, n_p2_p3])
 exact zC2 hz Try.func50 (sd 0 rfl) (sd 1 rfl) (fun _ _ _ h0 h1 => d_made h0 h1 (by omega) (by omega) (by omega))
 exact zSE rfl (sv S4) (by simp [tagOf]) (Cp3.var tR_nd) (sd 2 rfl) st_r32
 exact zAs hz kc
 intro a' γ' W' hz' hd' hC hk hh
 clear Cp1
 clear Cp2
 replace Cp3 := gotE (T := tR B32 l1 l2 (p / Nat.gcd p q) (q / Nat.gcd p q)) (id := 33) (p := p3) 3 hh rfl rfl
 clear S2
 clear S3
 replace S4 := kp hk S4
 clear S5
 clear S7
 have S5 := gotV hz' 4 hh rfl rfl rfl rfl
 replace HB := RelC.aftM HB hC (by intro m hm; simp at hm; rcases hm with rfl <;> assumption)
 clear hC hk hh; replace hz := hz'; replace hd := hd'; clear hz' hd'
 refine wp_ret ?_
 refine ret_to (T := tT [tR B32 l1 l2 (p / Nat.gcd p q) (q / Nat.gcd p q), tV (.bool true)]) (retct_r32 (by kernel_rfl) S4 S5 hd Cp3 HB) ?_
 exact to2 (fun v w h => tQ_low (by decide) h hc4 rfl hp hq) (tV_to (by rw [decide_eq_true hc4]))

set_option maxRecDepth 10000 in
set_option maxHeartbeats 2000000 in
theorem dq_of {a1 a2 : Int} {w : World}  (ha : a1 < 9223372036854775808) (hb : a2 < 9223372036854775808) :
    Calls Try.prog 31 #[.int .i64 a1, .int .i64 a2] w (Ret (tT [tQ B32 63 (ofQ a1 a2), tV (.bool (decide (OfOk a1 a2)))]) w) := by
 refine enter Try.func31 rfl Try.ntmps31 (by simp) ?_
 intro a hz hd ha
 have S0 := ha 0 _ rfl
 have S1 := ha 1 _ rfl
 clear ha
 have HB : Below w.heap.size w w := Below.refl _ _
 refine wp_seq ?_
 refine region_text (M := []) (
  rB 0 33 (tR B32 0 0 0 0) none 0 ::
  rT (tV (.bool false)) ::
  []) hz hd (by kernel_rfl) ?_ ?_
 refine ⟨?_, ?_, trivial⟩
 exact zNew hz (fun _ => tR_nil) al_r32
 exact zAs hz kc
 intro a' γ' W' hz' hd' hC hk hh
 replace S0 := kp hk S0
 replace S1 := kp hk S1
 obtain ⟨p1, S4, Cp1, lp1, gp1⟩ := gotB hz' 0 hC hh rfl rfl rfl rfl rfl rfl
 have S5 := gotV hz' 1 hh rfl rfl rfl rfl
 have bp1 : w.heap.size ≤ p1 := Nat.le_trans HB.size lp1
 clear lp1 gp1
 replace HB := aft_call HB (RelC.below_nil hC)
 clear hC hk hh; replace hz := hz'; replace hd := hd'; clear hz' hd'
 refine wp_seq ?_
 refine wp_seq ?_
 by_cases hc2 : a1 < 0
 refine region_text (M := []) (
  rT (tV (.int .i64 a1)) ::
  rT (tV (.bool true)) ::
  rT (tV (.bool true)) ::
  rT (tV undef) ::
  rT (tV undef) ::
  rT (tV (.bool true)) ::
  []) hz hd (by kernel_rfl) ?_ ?_
 refine ⟨?_, ?_, ?_, ?_, ?_, ?_, trivial⟩
 exact zMv hz (sv S0)
 exact sBin rfl rfl rfl hz rfl (Gd.none_ rfl) rfl (sd 0 rfl) kc (fun w => run_t (P := a1 < 0) ((fun w => run_lss) w) hc2)
 exact zMv hz (sd 1 rfl)
 exact zSkU hz (gN 2 rfl)
 exact zSkU hz (gN 2 rfl)
 exact zPT hz (sd 2 rfl) kc
 intro a' γ' W' hz' hd' hC hk hh
 have tp1 := Cp1.lt
 replace Cp1 := kC hC Cp1
 replace S0 := kp hk S0
 replace S1 := kp hk S1
 replace S4 := kp hk S4
 replace S5 := kp hk S5
 have S11 := gotV hz' 5 hh rfl rfl rfl rfl
 clear tp1
 replace HB := aft_call HB (RelC.below_nil hC)
 clear hC hk hh; replace hz := hz'; replace hd := hd'; clear hz' hd'
 refine wp_cond_true S11.ev ?_
 refine wp_seq ?_
 refine region_text (M := [p1]) (
  rT (tQ B32 1 0) ::
  rE 0 33 (tQ B32 1 0) p1 ::
  rT (tV (.bool false)) ::
  []) hz hd (by kernel_rfl) ?_ ?_
 refine ⟨?_, ?_, ?_, trivial⟩
 exact zC0 hz Try.func44 (fun _ => dq_zero)
 exact zSE rfl (sv S4) (by simp [tagOf]) (Cp1.var tR_nd) (sd 0 rfl) st_q32
 exact zAs hz kc
 intro a' γ' W' hz' hd' hC hk hh
 replace Cp1 := gotE (T := tQ B32 1 0) (id := 33) (p := p1) 1 hh rfl rfl
 replace S0 := kp hk S0
 replace S1 := kp hk S1
 replace S4 := kp hk S4
 clear S5
 clear S11
 have S5 := gotV hz' 2 hh rfl rfl rfl rfl
 replace HB := RelC.aftM HB hC (by intro m hm; simp at hm; rcases hm with rfl <;> assumption)
 clear hC hk hh; replace hz := hz'; replace hd := hd'; clear hz' hd'
 refine wp_ret ?_
 refine ret_to (T := tT [tQ B32 1 0, tV (.bool false)]) (retct_q32 (by kernel_rfl) S4 S5 hd Cp1 HB) ?_
 exact to2 (tQ_to (by decide) (by unfold ofQ; rw [if_neg (by omega)]) (by omega)) (tV_to (by rw [decide_eq_false (by unfold OfOk; omega)]))
 refine region_text (M := []) (
  rT (tV (.int .i64 a1)) ::
  rT (tV (.bool false)) ::
  rT (tV (.bool false)) ::
  rT (tV (.int .i64 a2)) ::
  rT (tV (.bool (decide (a2 < 1)))) ::
  rT (tV (.bool (decide (a2 < 1)))) ::
  []) hz hd (by kernel_rfl) ?_ ?_
 refine ⟨?_, ?_, ?_, ?_, ?_, ?_, trivial⟩
 exact zMv hz (sv S0)
 exact sBin rfl rfl rfl hz rfl (Gd.none_ rfl) rfl (sd 0 rfl) kc (fun w => run_f (P := a1 < 0) ((fun w => run_lss) w) hc2)
 exact zMv hz (sd 1 rfl)
 exact zMv hz (sv S1) (g := gT 2 rfl)
 exact sBin rfl rfl rfl hz rfl (gT 2 rfl) rfl (sd 3 rfl) kc (fun w => run_lss)
 exact zPF hz (sd 2 rfl) (sd 4 rfl)
 intro a' γ' W' hz' hd' hC hk hh
 have tp1 := Cp1.lt
 replace Cp1 := kC hC Cp1
 replace S0 := kp hk S0
 replace S1 := kp hk S1
 replace S4 := kp hk S4
 replace S5 := kp hk S5
 have S11 := gotV hz' 5 hh rfl rfl rfl rfl
 clear tp1
 replace HB := aft_call HB (RelC.below_nil hC)
 clear hC hk hh; replace hz := hz'; replace hd := hd'; clear hz' hd'
 by_cases hc3 : a2 < 1
 rw [decide_eq_true hc3] at S11
 refine wp_cond_true S11.ev ?_
 refine wp_seq ?_
 refine region_text (M := [p1]) (
  rT (tQ B32 1 0) ::
  rE 0 33 (tQ B32 1 0) p1 ::
  rT (tV (.bool false)) ::
  []) hz hd (by kernel_rfl) ?_ ?_
 refine ⟨?_, ?_, ?_, trivial⟩
 exact zC0 hz Try.func44 (fun _ => dq_zero)
 exact zSE rfl (sv S4) (by simp [tagOf]) (Cp1.var tR_nd) (sd 0 rfl) st_q32
 exact zAs hz kc
 intro a' γ' W' hz' hd' hC hk hh
 replace Cp1 := gotE (T := tQ B32 1 0) (id := 33) (p := p1) 1 hh rfl rfl
 replace S0 := kp hk S0
 replace S1 := kp hk S1
 replace S4 := kp hk S4
 clear S5
 clear S11
 have S5 := gotV hz' 2 hh rfl rfl rfl rfl
 replace HB := RelC.aftM HB hC (by intro m hm; simp at hm; rcases hm with rfl <;> assumption)
 clear hC hk hh; replace hz := hz'; replace hd := hd'; clear hz' hd'
 refine wp_ret ?_
 refine ret_to (T := tT [tQ B32 1 0, tV (.bool false)]) (retct_q32 (by kernel_rfl) S4 S5 hd Cp1 HB) ?_
 exact to2 (tQ_to (by decide) (by unfold ofQ; rw [if_neg (by omega)]) (by omega)) (tV_to (by rw [decide_eq_false (by unfold OfOk; omega)]))
 rw [decide_eq_false hc3] at S11
 refine wp_cond_false S11.ev ?_
 refine wp_skip ?_
 refine wp_seq ?_
 refine region_text (M := [p1]) (
  rT (tV (.int .i64 a1)) ::
  rT (tV (.int .u64 ((a1.toNat : Nat) : Int))) ::
  rT (tN B32 2 a1.toNat) ::
  rT (tV (.int .i64 a2)) ::
  rT (tV (.int .u64 ((a2.toNat : Nat) : Int))) ::
  rT (tN B32 2 a2.toNat) ::
  rT (tR B32 2 2 (a1.toNat / Nat.gcd a1.toNat a2.toNat) (a2.toNat / Nat.gcd a1.toNat a2.toNat)) ::
  rE 0 33 (tR B32 2 2 (a1.toNat / Nat.gcd a1.toNat a2.toNat) (a2.toNat / Nat.gcd a1.toNat a2.toNat)) p1 ::
  rT (tV (.bool true)) ::
  []) hz hd (by kernel_rfl) ?_ ?_
 refine ⟨?_, ?_, ?_, ?_, ?_, ?_, ?_, ?_, ?_, trivial⟩
 exact zMv hz (sv S0)
 exact sConv (T' := tV (.int .i64 a1)) rfl rfl rfl hz rfl (Gd.none_ rfl) rfl (sd 0 rfl) (fun v w h => by have h : v = .int .i64 a1 := h; subst h; exact ⟨_, by simp [go_sem, IntKind.wrap_u64]; omega, rfl⟩)
 exact zC1 hz Try.func16 (sd 1 rfl) (k1 (fun _ => d_of (by unfold B64; omega)))
 exact zMv hz (sv S1)
 exact sConv (T' := tV (.int .i64 a2)) rfl rfl rfl hz rfl (Gd.none_ rfl) rfl (sd 3 rfl) (fun v w h => by have h : v = .int .i64 a2 := h; subst h; exact ⟨_, by simp [go_sem, IntKind.wrap_u64]; omega, rfl⟩)
 exact zC1 hz Try.func16 (sd 4 rfl) (k1 (fun _ => d_of (by unfold B64; omega)))
 exact zC2 hz Try.func50 (sd 2 rfl) (sd 5 rfl) (fun _ _ _ h0 h1 => d_made h0 h1 (by omega) (by omega) (by omega))
 exact zSE rfl (sv S4) (by simp [tagOf]) (Cp1.var tR_nd) (sd 6 rfl) st_r32
 exact zAs hz kc
 intro a' γ' W' hz' hd' hC hk hh
 replace Cp1 := gotE (T := tR B32 2 2 (a1.toNat / Nat.gcd a1.toNat a2.toNat) (a2.toNat / Nat.gcd a1.toNat a2.toNat)) (id := 33) (p := p1) 7 hh rfl rfl
 clear S0
 clear S1
 replace S4 := kp hk S4
 clear S5
 clear S11
 have S5 := gotV hz' 8 hh rfl rfl rfl rfl
 replace HB := RelC.aftM HB hC (by intro m hm; simp at hm; rcases hm with rfl <;> assumption)
 clear hC hk hh; replace hz := hz'; replace hd := hd'; clear hz' hd'
 refine wp_ret ?_
 refine ret_to (T := tT [tR B32 2 2 (a1.toNat / Nat.gcd a1.toNat a2.toNat) (a2.toNat / Nat.gcd a1.toNat a2.toNat), tV (.bool true)]) (retct_r32 (by kernel_rfl) S4 S5 hd Cp1 HB) ?_
 exact to2 (fun v w h => by unfold ofQ; rw [if_pos (by omega)]; exact tQ_low (by decide) h (by omega) (by rw [Int.toNat_of_nonneg (by omega)]) (by omega) (by omega)) (tV_to (by rw [decide_eq_true (by unfold OfOk; omega)]))

end Go.Proofs.Ythanbjbcpljcoaa.Rg

namespace Go.Proofs.Ythanbjbcpljcoaa.Rg

open Go.RowKit

theorem bat_take {w : World} {A : Option Addr} {n c k : Nat} {l : List Nat} (h : BAt w A n c l) (hk : k ≤ n) : BAt w A k c (l.take k) := by
  refine ⟨⟨by rw [bv_length, List.length_take, h.len]; omega, fun hk0 => ?_⟩, fun d hd => h.byte d (List.mem_of_mem_take hd)⟩
  obtain ⟨ad, e, hlt, hc⟩ := h.reads.2 (by omega)
  refine ⟨ad, e, hlt, fun j u hu => hc j u ?_⟩
  have hj : j < k := by have := (List.getElem?_eq_some_iff.1 hu).1; rw [bv_length, List.length_take] at this; omega
  unfold bv at hu ⊢
  rw [List.map_take, List.getElem?_take_of_lt hj] at hu
  exact hu
set_option maxHeartbeats 400000 in
theorem cut2_any (A : Option Addr) (n c : Nat) (l : List Nat) (w : World) (h : BAt w A n c l) (hnc : n ≤ c) :
    Calls Try.prog 10 #[.slice A n c] w fun e w' => ∃ n1, e = .returned (.slice A n1 c) ∧ BAt w' A n1 c (l.take 120) ∧ n1 ≤ 120 ∧ n1 ≤ c ∧ w = w' := by
  by_cases hn : n ≤ 120
  · have hl : l.take 120 = l := List.take_of_length_le (by rw [h.len]; exact hn)
    have b1 : decide ((120 : Int) < (n : Int)) = false := decide_eq_false (by omega)
    rw [hl]
    have H := Lib.hid h
    clear h
    go_enter Try.func10, Try.ntmps10
    go_wp2_with fail
    go_ret
    exact ⟨n, rfl, H.out, hn, hnc, rfl⟩
  · have hb := bat_take h (show 120 ≤ n by omega)
    have b1 : decide ((120 : Int) < (n : Int)) = true := decide_eq_true (by omega)
    have b2 : (120 : Int) ≤ (c : Int) := by omega
    have H := Lib.hid hb
    clear hb h
    go_enter Try.func10, Try.ntmps10
    go_wp2_with fail
    go_ret
    exact ⟨120, rfl, H.out, by omega, by omega, rfl⟩
theorem l_cut {lim : Nat} {l : List Nat} {v1 : Value} {w : World} (h1 : (tBy lim l).p v1 w) :
    Calls Try.prog 10 #[v1] w (Ret (tBy 120 (l.take 120)) w) := by
  obtain ⟨A, n, c, rfl, h, h2, -⟩ := h1
  refine (cut2_any A n c l w h h2).mono ?_
  rintro e w' ⟨k, rfl, hd, hk, hkc, rfl⟩
  exact ⟨_, rfl, ⟨A, k, c, rfl, hd, hkc, hk⟩, Below.refl _ _⟩
/-- The bytes of two parts. -/
def tF (l k : List Nat) : Ty := ⟨fun v w => ∃ A n c A' n' c', v = .agg #[.slice A n c, .slice A' n' c'] ∧ BAt w A n c l ∧ n ≤ c ∧ n ≤ 9223372036854775807 ∧ BAt w A' n' c' k ∧ n' ≤ c' ∧ n' ≤ 9223372036854775807,
  fun _ _ _ _ _ _ g ⟨A, n, c, A', n', c', e, h, h1, h2, h3, h4⟩ => ⟨A, n, c, A', n', c', e, bat_grow g h, h1, h2, bat_grow g h3, h4⟩⟩
section

variable {l k : List Nat}
theorem box_f : ∀ v w, (tF l k).p v w → (Instr.box 24 v).run Try.prog w = .ok (.pointer (some ⟨w.heap.size, 0, none⟩)) (w.alloc (.cells v.cells 24)) := by
  rintro v w ⟨A, n, c, A', n', c', rfl, -, -, -, -, -, -⟩
  simp [go_sem, Value.cells]
theorem ld_f {p : Nat} : ∀ v w, (tF l k).p v w → Blk w p 24 v.cells → (Instr.loadAt 24 (.pointer (some ⟨p, 0, none⟩))).run Try.prog w = .ok v w := by
  rintro v w ⟨A, n, c, A', n', c', rfl, -, -, -, -, -, -⟩ hb
  have h0 := hb.cell 0
  have h1 := hb.cell 1
  simp [Value.cells] at h0 h1
  simp [go_sem, h0, h1]
theorem ldp_f {p : Nat} : ∀ v w, (tF l k).p v w → Blk w p 24 v.cells → ∃ u, (Instr.loadAt 22 (.pointer (some ⟨p, 0, none⟩))).run Try.prog w = .ok u w ∧ (tBy 9223372036854775807 l).p u w := by
  rintro v w ⟨A, n, c, A', n', c', rfl, h, h1, h2, -, -, -⟩ hb
  have h0 := hb.cell 0
  simp [Value.cells] at h0
  exact ⟨.slice A n c, by simp [go_sem, h0], A, n, c, rfl, h, h1, h2⟩
theorem ldq_f {p : Nat} : ∀ v w, (tF l k).p v w → Blk w p 24 v.cells → ∃ u, (Instr.loadAt 22 (.pointer (some ⟨p, 1, none⟩))).run Try.prog w = .ok u w ∧ (tBy 9223372036854775807 k).p u w := by
  rintro v w ⟨A, n, c, A', n', c', rfl, -, -, -, h, h1, h2⟩ hb
  have h0 := hb.cell 1
  simp [Value.cells] at h0
  exact ⟨.slice A' n' c', by simp [go_sem, h0], A', n', c', rfl, h, h1, h2⟩
theorem bev_bits {l : List Nat} {m : Nat} (hm : 960 ≤ m) (h : ∀ d ∈ l, d < 256) : bev (l.take 120) < 2 ^ m := by
  refine Nat.lt_of_lt_of_le (bev_lt fun d hd => h d (List.mem_of_mem_take hd)) ?_
  rw [show (256 : Nat) = 2 ^ 8 from rfl, ← Nat.pow_mul]
  exact Nat.pow_le_pow_right (by omega) (by have := List.length_take_le 120 l; omega)
theorem tF_bits {v : Value} {w : World} {m : Nat} (hm : 960 ≤ m) (h : (tF l k).p v w) : bev (l.take 120) < 2 ^ m ∧ bev (k.take 120) < 2 ^ m := by
  obtain ⟨A, n, c, A', n', c', rfl, h, -, -, h', -, -⟩ := h
  exact ⟨bev_bits hm h.byte, bev_bits hm h'.byte⟩
theorem one_960 {m : Nat} (hm : 960 ≤ m) : 1 < 2 ^ m := Nat.one_lt_two_pow (by omega)
end
/-- The fraction that is made of two rows of bytes. -/
def mkF (l k : List Nat) : Rat := mkRat (bev (l.take 120)) (und (bev (k.take 120)))
theorem str_eq {ox oy : Operand} (x y : Nat) (w : World) : (do eqGuard .eql 9 ox oy (.string (strB (bytesOf x))) (.string (strB (bytesOf y))); binOp .eql 9 (.string (strB (bytesOf x))) (.string (strB (bytesOf y))) : Sem Value).run Try.prog w = .ok (.bool (decide (x = y))) w := by
  have := bytes_beq x y
  simp [go_sem, this]
theorem ret2_q {fn : Func} {w0 : World} {a : Act} {w : World} {t1 t2 p1 p2 l1 l2 : Nat} {x1 x2 : Rat} (h : fn.results = #[.cell t1 29, .cell t2 33]) (s1 : Sl a t1 (.pointer (some ⟨p1, 0, none⟩))) (s2 : Sl a t2 (.pointer (some ⟨p2, 0, none⟩))) (hdf : a.defers = [])
    (c1 : Cell 29 (tQ B64 l1 x1) p1 w) (c2 : Cell 33 (tQ B32 l2 x2) p2 w) (hb : Below w0.heap.size w0 w) : bodyPost Try.prog fn (Ret (tT [tQ B64 l1 x1, tQ B32 l2 x2]) w0) .ret a w := by
  obtain ⟨v1, b1, h1⟩ := c1
  obtain ⟨v2, b2, h2⟩ := c2
  refine bodyPost_ret (v := .tuple #[v1, v2]) ?_ hdf ⟨_, rfl, ⟨[v1, v2], rfl, h1, h2, trivial⟩, hb⟩
  obtain ⟨p, q, ⟨A, n, c, A2, n2, c2, rfl, -⟩, -⟩ := h1
  obtain ⟨p', q', ⟨A', n', c', A3, n3, c3, rfl, -⟩, -⟩ := h2
  have e1 := b1.cell 0
  have e2 := b2.cell 0
  have e3 := b1.cell 1
  have e4 := b2.cell 1
  unfold Sl at s1 s2
  simp [Value.cells] at e1 e2 e3 e4
  simp [results, h, go_sem, s1, s2, e1, e2, e3, e4]

theorem rat_same {x y : Rat} (hx : 0 ≤ x) (hy : 0 ≤ y) (h1 : x.num.toNat = y.num.toNat) (h2 : x.den = y.den) : x = y := by
  have a := num_i hx
  have b := num_i hy
  exact Rat.ext (by rw [← a, ← b, h1]) h2

set_option maxRecDepth 10000 in
set_option maxHeartbeats 2000000 in
theorem l_samenat {l1 l2 x y : Nat} {v0 v1 : Value} {w : World} (h0 : (tN B64 l1 x).p v0 w) (h1 : (tN B32 l2 y).p v1 w) (b1 : l1 ≤ 1099511627776) (b2 : l2 ≤ 1099511627776) :
    Calls Try.prog 34 #[v0, v1] w (Ret (tV (.bool (decide (x = y)))) w) := by
 refine enter Try.func34 rfl Try.ntmps34 (by simp) ?_
 intro a hz hd ha
 have S0 := ha 0 _ rfl
 have H0 := h0
 have S1 := ha 1 _ rfl
 have H1 := h1
 clear ha
 have HB : Below w.heap.size w w := Below.refl _ _
 refine wp_seq ?_
 refine region_text (M := []) (
  rB 0 27 (tN B64 l1 x) none 0 ::
  rB 1 31 (tN B32 l2 y) none 0 ::
  rT (tV (.bool false)) ::
  []) hz hd (by kernel_rfl) ?_ ?_
 refine ⟨?_, ?_, ?_, trivial⟩
 exact zBox hz (so S0 H0) box_n64
 exact zBox hz (so S1 H1) box_n32
 exact zAs hz kc
 intro a' γ' W' hz' hd' hC hk hh
 clear S0 H0
 clear S1 H1
 obtain ⟨p1, S2, Cp1, lp1, gp1⟩ := gotB hz' 0 hC hh rfl rfl rfl rfl rfl rfl
 obtain ⟨p2, S3, Cp2, lp2, gp2⟩ := gotB hz' 1 hC hh rfl rfl rfl rfl rfl rfl
 have S4 := gotV hz' 2 hh rfl rfl rfl rfl
 clear lp1 gp1 lp2 gp2
 replace HB := aft_call HB (RelC.below_nil hC)
 clear hC hk hh; replace hz := hz'; replace hd := hd'; clear hz' hd'
 refine wp_seq ?_
 refine region_drawn (M := []) (
  rT (tN B64 l1 x) ::
  rT (tBy (8 * l1) (bytesOf x)) ::
  rT (tV (.string (strB (bytesOf x)))) ::
  rT (tN B32 l2 y) ::
  rT (tBy (8 * l2) (bytesOf y)) ::
  rT (tV (.string (strB (bytesOf y)))) ::
  rT (tV (.bool (decide (x = y)))) ::
  rT (tV (.bool (decide (x = y)))) ::
  []) hz hd (by kernel_rfl) (by kernel_rfl) ?_ ?_
 refine ⟨?_, ?_, ?_, ?_, ?_, ?_, ?_, ?_, trivial⟩
 exact zLd hz (sv S2) Cp1 ld_n64
 exact zC1 hz Try.func19 (sd 0 rfl) (fun _ _ h0 => c_bytes h0 (by rw [big_eq]; omega))
 exact sConv (T' := tBy (8 * l1) (bytesOf x)) rfl rfl rfl hz rfl (Gd.none_ rfl) rfl (sd 1 rfl) (fun v w h => ⟨_, cv_by (lim := 8 * l1) (l := bytesOf x) v w h, rfl⟩)
 exact zLd hz (sv S3) Cp2 ld_n32
 exact zC1 hz Try.func63 (sd 3 rfl) (fun _ _ h0 => d_bytes h0 (by rw [big_eq]; omega))
 exact sConv (T' := tBy (8 * l2) (bytesOf y)) rfl rfl rfl hz rfl (Gd.none_ rfl) rfl (sd 4 rfl) (fun v w h => ⟨_, cv_by (lim := 8 * l2) (l := bytesOf y) v w h, rfl⟩)
 exact sBin rfl rfl rfl hz rfl (Gd.none_ rfl) rfl (sd 2 rfl) (sd 5 rfl) (fun w => str_eq x y w)
 exact zAs hz (sd 6 rfl)
 intro a' γ' W' hz' hd' hC hk hh
 clear Cp1
 clear Cp2
 clear S2
 clear S3
 clear S4
 have S4 := gotV hz' 7 hh rfl rfl rfl rfl
 replace HB := aft_call HB (RelC.below_nil hC)
 clear hC hk hh; replace hz := hz'; replace hd := hd'; clear hz' hd'
 refine wp_ret ?_
 refine ret_to (T := tV (.bool (decide (x = y)))) (ret1 (by kernel_rfl) S4 hd ⟨_, rfl, rfl, HB⟩) ?_
 exact fun _ _ h => h

set_option maxRecDepth 10000 in
set_option maxHeartbeats 2000000 in
theorem l_same {l1 l2 : Nat} {x y : Rat} {v0 v1 : Value} {w : World} (h0 : (tQ B64 l1 x).p v0 w) (h1 : (tQ B32 l2 y).p v1 w) (b1 : l1 ≤ 10000000) (b2 : l2 ≤ 10000000) :
    Calls Try.prog 21 #[v0, v1] w (Ret (tV (.bool (decide (x = y)))) w) := by
 refine enter Try.func21 rfl Try.ntmps21 (by simp) ?_
 intro a hz hd ha
 have S0 := ha 0 _ rfl
 have H0 := h0
 have S1 := ha 1 _ rfl
 have H1 := h1
 clear ha
 have HB : Below w.heap.size w w := Below.refl _ _
 refine wp_seq ?_
 refine region_text (M := []) (
  rB 0 29 (tQ B64 l1 x) none 0 ::
  rB 1 33 (tQ B32 l2 y) none 0 ::
  rT (tV (.bool false)) ::
  []) hz hd (by kernel_rfl) ?_ ?_
 refine ⟨?_, ?_, ?_, trivial⟩
 exact zBox hz (so S0 H0) box_q64
 exact zBox hz (so S1 H1) box_q32
 exact zAs hz kc
 intro a' γ' W' hz' hd' hC hk hh
 clear S0 H0
 clear S1 H1
 obtain ⟨p1, S2, Cp1, lp1, gp1⟩ := gotB hz' 0 hC hh rfl rfl rfl rfl rfl rfl
 obtain ⟨p2, S3, Cp2, lp2, gp2⟩ := gotB hz' 1 hC hh rfl rfl rfl rfl rfl rfl
 have S4 := gotV hz' 2 hh rfl rfl rfl rfl
 clear lp1 gp1 lp2 gp2
 replace HB := aft_call HB (RelC.below_nil hC)
 clear hC hk hh; replace hz := hz'; replace hd := hd'; clear hz' hd'
 refine wp_seq ?_
 refine region_text (M := []) (
  rT (tQ B64 l1 x) ::
  rT (tT [tN B64 l1 x.num.toNat, tN B64 (l1 + 1) x.den]) ::
  rT (tT [tN B64 l1 x.num.toNat, tN B64 (l1 + 1) x.den]) ::
  rT (tN B64 l1 x.num.toNat) ::
  rT (tN B64 (l1 + 1) x.den) ::
  rVar 5 27 1 ::
  rVar 6 27 1 ::
  rB 5 27 (tN B64 l1 x.num.toNat) (some 5) 6 ::
  rB 6 27 (tN B64 (l1 + 1) x.den) (some 6) 7 ::
  []) hz hd (by kernel_rfl) ?_ ?_
 refine ⟨?_, ?_, ?_, ?_, ?_, ?_, ?_, ?_, ?_, trivial⟩
 exact zLd hz (sv S2) Cp1 ld_q64
 exact zC1 hz Try.func18 (sd 0 rfl) (fun _ _ h0 => cq_parts h0 (by omega))
 exact zMv hz (sd 1 rfl)
 exact zExt hz (sd 2 rfl)
 exact zExt hz (sd 2 rfl)
 exact zAl hz nd_slice al_n64
 exact zAl hz nd_slice al_n64
 exact zSt (sd 3 rfl) st_n64
 exact zSt (sd 4 rfl) st_n64
 intro a' γ' W' hz' hd' hC hk hh
 have ep1 := Cp1.lt
 have ep2 := Cp2.lt
 clear Cp1
 replace Cp2 := kC hC Cp2
 clear S2
 replace S3 := kp hk S3
 replace S4 := kp hk S4
 obtain ⟨p3, S5, Cp3, lp3, gp3⟩ := gotB hz' 7 hC hh rfl rfl rfl rfl rfl rfl
 obtain ⟨p4, S6, Cp4, lp4, gp4⟩ := gotB hz' 8 hC hh rfl rfl rfl rfl rfl rfl
 have n_p3_p4 : p3 ≠ p4 := by intro e; rw [e, gp4] at gp3; omega
 have n_p4_p3 : p4 ≠ p3 := by intro e; rw [e, gp3] at gp4; omega
 have n_p2_p3 : p2 ≠ p3 := by have := ep2; omega
 have n_p2_p4 : p2 ≠ p4 := by have := ep2; omega
 have bp3 : w.heap.size ≤ p3 := Nat.le_trans HB.size lp3
 have bp4 : w.heap.size ≤ p4 := Nat.le_trans HB.size lp4
 clear lp3 gp3 lp4 gp4
 clear ep1 ep2
 replace HB := aft_call HB (RelC.below_nil hC)
 clear hC hk hh; replace hz := hz'; replace hd := hd'; clear hz' hd'
 refine wp_seq ?_
 by_cases hc5 : x.num.toNat = y.num.toNat
 refine region_text (M := []) (
  rT (tN B64 l1 x.num.toNat) ::
  rT (tV (.pointer (some ⟨p2, 0, none⟩))) ::
  rT (tN B32 l2 y.num.toNat) ::
  rT (tV (.bool true)) ::
  rT (tV (.bool true)) ::
  rT (tN B64 (l1 + 1) x.den) ::
  rT (tV (.pointer (some ⟨p2, 1, none⟩))) ::
  rT (tN B32 l2 y.den) ::
  rT (tV (.bool (decide (x.den = y.den)))) ::
  rT (tV (.bool (decide (x.den = y.den)))) ::
  rT (tV (.bool (decide (x.den = y.den)))) ::
  []) hz hd (by kernel_rfl) ?_ ?_
 refine ⟨?_, ?_, ?_, ?_, ?_, ?_, ?_, ?_, ?_, ?_, ?_, trivial⟩
 exact zLd hz (sv S5) Cp3 ld_n64
 exact sFA rfl rfl rfl hz rfl (Gd.none_ rfl) rfl (sv S3) (fun w => by simp [go_sem])
 exact zLdP hz (sd 1 rfl) Cp2 ldp_q32
 exact zC2 hz Try.func34 (sd 0 rfl) (sd 2 rfl) (fun _ _ _ h0 h1 => (by have hq := l_samenat h0 h1 (by omega) (by omega); simp only [decide_eq_true hc5] at hq; exact hq))
 exact zMv hz (sd 3 rfl)
 exact zLd hz (sv S6) Cp4 ld_n64 (g := gT 4 rfl)
 exact sFA rfl rfl rfl hz rfl (gT 4 rfl) rfl (sv S3) (fun w => by simp [go_sem])
 exact zLdP hz (sd 6 rfl) Cp2 ldq_q32 (g := gT 4 rfl)
 exact zC2 hz Try.func34 (sd 5 rfl) (sd 7 rfl) (fun _ _ _ h0 h1 => l_samenat h0 h1 (by omega) (by omega)) (g := gT 4 rfl)
 exact zPT hz (sd 4 rfl) (sd 8 rfl)
 exact zAs hz (sd 9 rfl)
 intro a' γ' W' hz' hd' hC hk hh
 clear Cp2
 have tp3 := Cp3.lt
 clear Cp3
 have tp4 := Cp4.lt
 clear Cp4
 clear S3
 clear S4
 clear S5
 clear S6
 have S4 := gotV hz' 10 hh rfl rfl rfl rfl
 clear tp3 tp4
 replace HB := aft_call HB (RelC.below_nil hC)
 clear hC hk hh; replace hz := hz'; replace hd := hd'; clear hz' hd'
 refine wp_ret ?_
 refine ret_to (T := tV (.bool (decide (x.den = y.den)))) (ret1 (by kernel_rfl) S4 hd ⟨_, rfl, rfl, HB⟩) ?_
 exact tV_to (congrArg Value.bool (decide_eq_decide.2 ⟨fun g => rat_same (tQ_nonneg h0) (tQ_nonneg h1) hc5 g, fun g => by rw [g]⟩))
 refine region_text (M := []) (
  rT (tN B64 l1 x.num.toNat) ::
  rT (tV (.pointer (some ⟨p2, 0, none⟩))) ::
  rT (tN B32 l2 y.num.toNat) ::
  rT (tV (.bool false)) ::
  rT (tV (.bool false)) ::
  rT (tV undef) ::
  rT (tV undef) ::
  rT (tV undef) ::
  rT (tV undef) ::
  rT (tV (.bool false)) ::
  rT (tV (.bool false)) ::
  []) hz hd (by kernel_rfl) ?_ ?_
 refine ⟨?_, ?_, ?_, ?_, ?_, ?_, ?_, ?_, ?_, ?_, ?_, trivial⟩
 exact zLd hz (sv S5) Cp3 ld_n64
 exact sFA rfl rfl rfl hz rfl (Gd.none_ rfl) rfl (sv S3) (fun w => by simp [go_sem])
 exact zLdP hz (sd 1 rfl) Cp2 ldp_q32
 exact zC2 hz Try.func34 (sd 0 rfl) (sd 2 rfl) (fun _ _ _ h0 h1 => (by have hq := l_samenat h0 h1 (by omega) (by omega); simp only [decide_eq_false hc5] at hq; exact hq))
 exact zMv hz (sd 3 rfl)
 exact zSkU hz (gN 4 rfl)
 exact zSkU hz (gN 4 rfl)
 exact zSkU hz (gN 4 rfl)
 exact zSkU hz (gN 4 rfl)
 exact zPF hz (sd 4 rfl) kc
 exact zAs hz (sd 9 rfl)
 intro a' γ' W' hz' hd' hC hk hh
 clear Cp2
 have tp3 := Cp3.lt
 clear Cp3
 have tp4 := Cp4.lt
 clear Cp4
 clear S3
 clear S4
 clear S5
 clear S6
 have S4 := gotV hz' 10 hh rfl rfl rfl rfl
 clear tp3 tp4
 replace HB := aft_call HB (RelC.below_nil hC)
 clear hC hk hh; replace hz := hz'; replace hd := hd'; clear hz' hd'
 refine wp_ret ?_
 refine ret_to (T := tV (.bool false)) (ret1 (by kernel_rfl) S4 hd ⟨_, rfl, rfl, HB⟩) ?_
 exact tV_to (by rw [decide_eq_false (fun g => hc5 (by rw [g]))])

set_option maxRecDepth 10000 in
set_option maxHeartbeats 2000000 in
theorem l_made {l k : List Nat} {v0 : Value} {w : World} (h0 : (tF l k).p v0 w)  :
    Calls Try.prog 9 #[v0] w (Ret (tT [tQ B64 960 (mkF l k), tQ B32 960 (mkF l k)]) w) := by
 refine enter Try.func9 rfl Try.ntmps9 (by simp) ?_
 intro a hz hd ha
 have S0 := ha 0 _ rfl
 have H0 := h0
 clear ha
 have HB : Below w.heap.size w w := Below.refl _ _
 have hP := Lib.hid (tF_bits (m := 960) (Nat.le_refl _) h0)
 refine wp_seq ?_
 refine region_text (M := []) (
  rB 0 24 (tF l k) none 0 ::
  rB 1 29 (tQ B64 1 0) none 0 ::
  rB 2 33 (tR B32 0 0 0 0) none 0 ::
  []) hz hd (by kernel_rfl) ?_ ?_
 refine ⟨?_, ?_, ?_, trivial⟩
 exact zBox hz (so S0 H0) box_f
 exact zNew hz (fun _ => tQ_nil) al_r64
 exact zNew hz (fun _ => tR_nil) al_r32
 intro a' γ' W' hz' hd' hC hk hh
 clear S0 H0
 obtain ⟨p1, S1, Cp1, lp1, gp1⟩ := gotB hz' 0 hC hh rfl rfl rfl rfl rfl rfl
 obtain ⟨p2, S2, Cp2, lp2, gp2⟩ := gotB hz' 1 hC hh rfl rfl rfl rfl rfl rfl
 obtain ⟨p3, S3, Cp3, lp3, gp3⟩ := gotB hz' 2 hC hh rfl rfl rfl rfl rfl rfl
 have n_p1_p2 : p1 ≠ p2 := by intro e; rw [e, gp2] at gp1; omega
 have n_p1_p3 : p1 ≠ p3 := by intro e; rw [e, gp3] at gp1; omega
 have n_p2_p3 : p2 ≠ p3 := by intro e; rw [e, gp3] at gp2; omega
 have n_p3_p2 : p3 ≠ p2 := by intro e; rw [e, gp2] at gp3; omega
 have bp2 : w.heap.size ≤ p2 := Nat.le_trans HB.size lp2
 have bp3 : w.heap.size ≤ p3 := Nat.le_trans HB.size lp3
 clear lp1 gp1 lp2 gp2 lp3 gp3
 replace HB := aft_call HB (RelC.below_nil hC)
 clear hC hk hh; replace hz := hz'; replace hd := hd'; clear hz' hd'
 refine wp_seq ?_
 refine region_drawn (M := []) (
  rT (tV (.pointer (some ⟨p1, 0, none⟩))) ::
  rT (tBy 9223372036854775807 l) ::
  rT (tBy 120 (l.take 120)) ::
  rT (tN B64 120 (bev (l.take 120))) ::
  rT (tV (.pointer (some ⟨p1, 1, none⟩))) ::
  rT (tBy 9223372036854775807 k) ::
  rT (tBy 120 (k.take 120)) ::
  rT (tN B64 120 (bev (k.take 120))) ::
  rVar 8 27 1 ::
  rVar 9 27 1 ::
  rB 8 27 (tN B64 120 (bev (l.take 120))) (some 8) 9 ::
  rB 9 27 (tN B64 120 (bev (k.take 120))) (some 9) 10 ::
  []) hz hd (by kernel_rfl) (by kernel_rfl) ?_ ?_
 refine ⟨?_, ?_, ?_, ?_, ?_, ?_, ?_, ?_, ?_, ?_, ?_, ?_, trivial⟩
 exact sFA rfl rfl rfl hz rfl (Gd.none_ rfl) rfl (sv S1) (fun w => by simp [go_sem])
 exact zLdP hz (sd 0 rfl) Cp1 ldp_f
 exact zC1 hz Try.func10 (sd 1 rfl) (fun _ _ h0 => l_cut h0)
 exact zC1 hz Try.func12 (sd 2 rfl) (fun _ _ h0 => c_fb h0 (by decide))
 exact sFA rfl rfl rfl hz rfl (Gd.none_ rfl) rfl (sv S1) (fun w => by simp [go_sem])
 exact zLdP hz (sd 4 rfl) Cp1 ldq_f
 exact zC1 hz Try.func10 (sd 5 rfl) (fun _ _ h0 => l_cut h0)
 exact zC1 hz Try.func12 (sd 6 rfl) (fun _ _ h0 => c_fb h0 (by decide))
 exact zAl hz nd_slice al_n64
 exact zAl hz nd_slice al_n64
 exact zSt (sd 3 rfl) st_n64
 exact zSt (sd 7 rfl) st_n64
 intro a' γ' W' hz' hd' hC hk hh
 have ep1 := Cp1.lt
 have ep2 := Cp2.lt
 have ep3 := Cp3.lt
 replace Cp1 := kC hC Cp1
 have tp2 := Cp2.lt
 replace Cp2 := kC hC Cp2
 have tp3 := Cp3.lt
 replace Cp3 := kC hC Cp3
 replace S1 := kp hk S1
 replace S2 := kp hk S2
 replace S3 := kp hk S3
 obtain ⟨p4, S4, Cp4, lp4, gp4⟩ := gotB hz' 10 hC hh rfl rfl rfl rfl rfl rfl
 obtain ⟨p5, S5, Cp5, lp5, gp5⟩ := gotB hz' 11 hC hh rfl rfl rfl rfl rfl rfl
 have n_p4_p2 : p4 ≠ p2 := by omega
 have n_p4_p3 : p4 ≠ p3 := by omega
 have n_p4_p5 : p4 ≠ p5 := by intro e; rw [e, gp5] at gp4; omega
 have n_p5_p2 : p5 ≠ p2 := by omega
 have n_p5_p3 : p5 ≠ p3 := by omega
 have n_p5_p4 : p5 ≠ p4 := by intro e; rw [e, gp4] at gp5; omega
 have n_p1_p4 : p1 ≠ p4 := by have := ep1; omega
 have n_p2_p4 : p2 ≠ p4 := by have := ep2; omega
 have n_p3_p4 : p3 ≠ p4 := by have := ep3; omega
 have n_p1_p5 : p1 ≠ p5 := by have := ep1; omega
 have n_p2_p5 : p2 ≠ p5 := by have := ep2; omega
 have n_p3_p5 : p3 ≠ p5 := by have := ep3; omega
 have bp4 : w.heap.size ≤ p4 := Nat.le_trans HB.size lp4
 have bp5 : w.heap.size ≤ p5 := Nat.le_trans HB.size lp5
 clear lp4 gp4 lp5 gp5
 clear tp2 tp3
 clear ep1 ep2 ep3
 replace HB := aft_call HB (RelC.below_nil hC)
 clear hC hk hh; replace hz := hz'; replace hd := hd'; clear hz' hd'
 refine wp_seq ?_
 refine region_drawn (M := []) (
  rT (tV (.pointer (some ⟨p1, 0, none⟩))) ::
  rT (tBy 9223372036854775807 l) ::
  rT (tBy 120 (l.take 120)) ::
  rT (tN B32 120 (bev (l.take 120))) ::
  rT (tV (.pointer (some ⟨p1, 1, none⟩))) ::
  rT (tBy 9223372036854775807 k) ::
  rT (tBy 120 (k.take 120)) ::
  rT (tN B32 120 (bev (k.take 120))) ::
  rVar 8 31 1 ::
  rVar 9 31 1 ::
  rB 8 31 (tN B32 120 (bev (l.take 120))) (some 8) 9 ::
  rB 9 31 (tN B32 120 (bev (k.take 120))) (some 9) 10 ::
  []) hz hd (by kernel_rfl) (by kernel_rfl) ?_ ?_
 refine ⟨?_, ?_, ?_, ?_, ?_, ?_, ?_, ?_, ?_, ?_, ?_, ?_, trivial⟩
 exact sFA rfl rfl rfl hz rfl (Gd.none_ rfl) rfl (sv S1) (fun w => by simp [go_sem])
 exact zLdP hz (sd 0 rfl) Cp1 ldp_f
 exact zC1 hz Try.func10 (sd 1 rfl) (fun _ _ h0 => l_cut h0)
 exact zC1 hz Try.func15 (sd 2 rfl) (fun _ _ h0 => d_fb h0 (by decide))
 exact sFA rfl rfl rfl hz rfl (Gd.none_ rfl) rfl (sv S1) (fun w => by simp [go_sem])
 exact zLdP hz (sd 4 rfl) Cp1 ldq_f
 exact zC1 hz Try.func10 (sd 5 rfl) (fun _ _ h0 => l_cut h0)
 exact zC1 hz Try.func15 (sd 6 rfl) (fun _ _ h0 => d_fb h0 (by decide))
 exact zAl hz nd_slice al_n32
 exact zAl hz nd_slice al_n32
 exact zSt (sd 3 rfl) st_n32
 exact zSt (sd 7 rfl) st_n32
 intro a' γ' W' hz' hd' hC hk hh
 have ep1 := Cp1.lt
 have ep2 := Cp2.lt
 have ep3 := Cp3.lt
 have ep4 := Cp4.lt
 have ep5 := Cp5.lt
 clear Cp1
 have tp2 := Cp2.lt
 replace Cp2 := kC hC Cp2
 have tp3 := Cp3.lt
 replace Cp3 := kC hC Cp3
 have tp4 := Cp4.lt
 replace Cp4 := kC hC Cp4
 have tp5 := Cp5.lt
 replace Cp5 := kC hC Cp5
 clear S1
 replace S2 := kp hk S2
 replace S3 := kp hk S3
 replace S4 := kp hk S4
 replace S5 := kp hk S5
 obtain ⟨p6, S6, Cp6, lp6, gp6⟩ := gotB hz' 10 hC hh rfl rfl rfl rfl rfl rfl
 obtain ⟨p7, S7, Cp7, lp7, gp7⟩ := gotB hz' 11 hC hh rfl rfl rfl rfl rfl rfl
 have n_p6_p2 : p6 ≠ p2 := by omega
 have n_p6_p3 : p6 ≠ p3 := by omega
 have n_p6_p4 : p6 ≠ p4 := by omega
 have n_p6_p5 : p6 ≠ p5 := by omega
 have n_p6_p7 : p6 ≠ p7 := by intro e; rw [e, gp7] at gp6; omega
 have n_p7_p2 : p7 ≠ p2 := by omega
 have n_p7_p3 : p7 ≠ p3 := by omega
 have n_p7_p4 : p7 ≠ p4 := by omega
 have n_p7_p5 : p7 ≠ p5 := by omega
 have n_p7_p6 : p7 ≠ p6 := by intro e; rw [e, gp6] at gp7; omega
 have n_p2_p6 : p2 ≠ p6 := by have := ep2; omega
 have n_p3_p6 : p3 ≠ p6 := by have := ep3; omega
 have n_p4_p6 : p4 ≠ p6 := by have := ep4; omega
 have n_p5_p6 : p5 ≠ p6 := by have := ep5; omega
 have n_p2_p7 : p2 ≠ p7 := by have := ep2; omega
 have n_p3_p7 : p3 ≠ p7 := by have := ep3; omega
 have n_p4_p7 : p4 ≠ p7 := by have := ep4; omega
 have n_p5_p7 : p5 ≠ p7 := by have := ep5; omega
 have bp6 : w.heap.size ≤ p6 := Nat.le_trans HB.size lp6
 have bp7 : w.heap.size ≤ p7 := Nat.le_trans HB.size lp7
 clear lp6 gp6 lp7 gp7
 clear tp2 tp3 tp4 tp5
 clear ep1 ep2 ep3 ep4 ep5
 replace HB := aft_call HB (RelC.below_nil hC)
 clear hC hk hh; replace hz := hz'; replace hd := hd'; clear hz' hd'
 refine wp_seq ?_
 refine wp_seq ?_
 refine region_text (M := []) (
  rT (tN B32 120 (bev (k.take 120))) ::
  rT (tV (.bool (decide (bev (k.take 120) = 0)))) ::
  []) hz hd (by kernel_rfl) ?_ ?_
 refine ⟨?_, ?_, trivial⟩
 exact zLd hz (sv S7) Cp7 ld_n32
 exact zC1 hz Try.func23 (sd 0 rfl) (fun _ _ h0 => d_zero h0)
 intro a' γ' W' hz' hd' hC hk hh
 have tp2 := Cp2.lt
 replace Cp2 := kC hC Cp2
 have tp3 := Cp3.lt
 replace Cp3 := kC hC Cp3
 have tp4 := Cp4.lt
 replace Cp4 := kC hC Cp4
 have tp5 := Cp5.lt
 replace Cp5 := kC hC Cp5
 have tp6 := Cp6.lt
 replace Cp6 := kC hC Cp6
 have tp7 := Cp7.lt
 replace Cp7 := kC hC Cp7
 replace S2 := kp hk S2
 replace S3 := kp hk S3
 replace S4 := kp hk S4
 replace S5 := kp hk S5
 replace S6 := kp hk S6
 replace S7 := kp hk S7
 have S29 := gotV hz' 1 hh rfl rfl rfl rfl
 clear tp2 tp3 tp4 tp5 tp6 tp7
 replace HB := aft_call HB (RelC.below_nil hC)
 clear hC hk hh; replace hz := hz'; replace hd := hd'; clear hz' hd'
 by_cases hc8 : bev (k.take 120) = 0
 rw [decide_eq_true hc8] at S29
 refine wp_cond_true S29.ev ?_
 refine wp_seq ?_
 refine region_text (M := [p5]) (
  rT (tN B64 1 1) ::
  rE 0 27 (tN B64 1 1) p5 ::
  []) hz hd (by kernel_rfl) ?_ ?_
 refine ⟨?_, ?_, trivial⟩
 exact zC1 hz Try.func13 (kc (v := .int .u64 1)) (k1 (fun _ => c_of (by decide)))
 exact zSE rfl (sv S5) (by simp [tagOf]) (Cp5.var tN_nd) (sd 0 rfl) st_n64
 intro a' γ' W' hz' hd' hC hk hh
 have tp2 := Cp2.lt
 replace Cp2 := kC hC Cp2 (by simp [tagOf, n_p2_p5])
 have tp3 := Cp3.lt
 replace Cp3 := kC hC Cp3 (by simp [tagOf, n_p3_p5])
 have tp4 := Cp4.lt
 replace Cp4 := kC hC Cp4 (by simp [tagOf, n_p4_p5])
 replace Cp5 := gotE (T := tN B64 1 1) (id := 27) (p := p5) 1 hh rfl rfl
 have tp6 := Cp6.lt
 replace Cp6 := kC hC Cp6 (by simp [tagOf, n_p6_p5])
 have tp7 := Cp7.lt
 replace Cp7 := kC hC Cp7 (by simp [tagOf, n_p7_p5])
 replace S2 := kp hk S2
 replace S3 := kp hk S3
 replace S4 := kp hk S4
 replace S5 := kp hk S5
 replace S6 := kp hk S6
 replace S7 := kp hk S7
 clear S29
 clear tp2 tp3 tp4 tp6 tp7
 replace HB := RelC.aftM HB hC (by intro m hm; simp at hm; rcases hm with rfl <;> assumption)
 clear hC hk hh; replace hz := hz'; replace hd := hd'; clear hz' hd'
 refine region_text (M := [p7]) (
  rT (tN B32 2 1) ::
  rE 0 31 (tN B32 2 1) p7 ::
  []) hz hd (by kernel_rfl) ?_ ?_
 refine ⟨?_, ?_, trivial⟩
 exact zC1 hz Try.func16 (kc (v := .int .u64 1)) (k1 (fun _ => d_of (by decide)))
 exact zSE rfl (sv S7) (by simp [tagOf]) (Cp7.var tN_nd) (sd 0 rfl) st_n32
 intro a' γ' W' hz' hd' hC hk hh
 have tp2 := Cp2.lt
 replace Cp2 := kC hC Cp2 (by simp [tagOf, n_p2_p7])
 have tp3 := Cp3.lt
 replace Cp3 := kC hC Cp3 (by simp [tagOf, n_p3_p7])
 have tp4 := Cp4.lt
 replace Cp4 := kC hC Cp4 (by simp [tagOf, n_p4_p7])
 have tp5 := Cp5.lt
 replace Cp5 := kC hC Cp5 (by simp [tagOf, n_p5_p7])
 have tp6 := Cp6.lt
 replace Cp6 := kC hC Cp6 (by simp [tagOf, n_p6_p7])
 replace Cp7 := gotE (T := tN B32 2 1) (id := 31) (p := p7) 1 hh rfl rfl
 replace S2 := kp hk S2
 replace S3 := kp hk S3
 replace S4 := kp hk S4
 replace S5 := kp hk S5
 replace S6 := kp hk S6
 replace S7 := kp hk S7
 clear tp2 tp3 tp4 tp5 tp6
 replace HB := RelC.aftM HB hC (by intro m hm; simp at hm; rcases hm with rfl <;> assumption)
 clear hC hk hh; replace hz := hz'; replace hd := hd'; clear hz' hd'
 refine wp_seq ?_
 refine region_text (M := []) (
  rT (tN B64 120 (bev (l.take 120))) ::
  rT (tN B64 1 1) ::
  rT (tT [tQ B64 960 (mkRat (bev (l.take 120)) 1), tV (.bool (decide (1 ≠ 0)))]) ::
  rT (tT [tQ B64 960 (mkRat (bev (l.take 120)) 1), tV (.bool (decide (1 ≠ 0)))]) ::
  rT (tQ B64 960 (mkRat (bev (l.take 120)) 1)) ::
  rT (tV (.bool (decide (1 ≠ 0)))) ::
  rVar 6 29 2 ::
  rB 6 29 (tQ B64 960 (mkRat (bev (l.take 120)) 1)) (some 6) 7 ::
  rT (tV (.bool (decide (1 ≠ 0)))) ::
  []) hz hd (by kernel_rfl) ?_ ?_
 refine ⟨?_, ?_, ?_, ?_, ?_, ?_, ?_, ?_, ?_, trivial⟩
 exact zLd hz (sv S4) Cp4 ld_n64
 exact zLd hz (sv S5) Cp5 ld_n64
 exact zC2 hz Try.func11 (sd 0 rfl) (sd 1 rfl) (fun _ _ _ h0 h1 => cq_from (l := 960) h0 h1 (by decide) (by decide) hP.out.1 (one_960 (m := 960) (Nat.le_refl _)) (by decide))
 exact zMv hz (sd 2 rfl)
 exact zExt hz (sd 3 rfl)
 exact zExt hz (sd 3 rfl)
 exact zAl hz nd_rat al_r64
 exact zSt (sd 4 rfl) st_q64
 exact zAs hz (sd 5 rfl)
 intro a' γ' W' hz' hd' hC hk hh
 have ep2 := Cp2.lt
 have ep3 := Cp3.lt
 have ep4 := Cp4.lt
 have ep5 := Cp5.lt
 have ep6 := Cp6.lt
 have ep7 := Cp7.lt
 have tp2 := Cp2.lt
 replace Cp2 := kC hC Cp2
 have tp3 := Cp3.lt
 replace Cp3 := kC hC Cp3
 have tp4 := Cp4.lt
 clear Cp4
 have tp5 := Cp5.lt
 clear Cp5
 have tp6 := Cp6.lt
 replace Cp6 := kC hC Cp6
 have tp7 := Cp7.lt
 replace Cp7 := kC hC Cp7
 replace S2 := kp hk S2
 replace S3 := kp hk S3
 clear S4
 clear S5
 replace S6 := kp hk S6
 replace S7 := kp hk S7
 obtain ⟨p9, S8, Cp9, lp9, gp9⟩ := gotB hz' 7 hC hh rfl rfl rfl rfl rfl rfl
 have n_p9_p2 : p9 ≠ p2 := by omega
 have n_p9_p3 : p9 ≠ p3 := by omega
 have n_p9_p6 : p9 ≠ p6 := by omega
 have n_p9_p7 : p9 ≠ p7 := by omega
 have n_p2_p9 : p2 ≠ p9 := by have := ep2; omega
 have n_p3_p9 : p3 ≠ p9 := by have := ep3; omega
 have n_p6_p9 : p6 ≠ p9 := by have := ep6; omega
 have n_p7_p9 : p7 ≠ p9 := by have := ep7; omega
 have bp9 : w.heap.size ≤ p9 := Nat.le_trans HB.size lp9
 clear lp9 gp9
 clear tp2 tp3 tp4 tp5 tp6 tp7
 clear ep2 ep3 ep4 ep5 ep6 ep7
 replace HB := aft_call HB (RelC.below_nil hC)
 clear hC hk hh; replace hz := hz'; replace hd := hd'; clear hz' hd'
 refine wp_seq ?_
 refine region_text (M := []) (
  rT (tN B32 120 (bev (l.take 120))) ::
  rT (tN B32 2 1) ::
  rT (tT [tQ B32 960 (mkRat (bev (l.take 120)) 1), tV (.bool (decide (1 ≠ 0)))]) ::
  rT (tT [tQ B32 960 (mkRat (bev (l.take 120)) 1), tV (.bool (decide (1 ≠ 0)))]) ::
  rT (tQ B32 960 (mkRat (bev (l.take 120)) 1)) ::
  rT (tV (.bool (decide (1 ≠ 0)))) ::
  rVar 6 33 2 ::
  rB 6 33 (tQ B32 960 (mkRat (bev (l.take 120)) 1)) (some 6) 7 ::
  rT (tV (.bool (decide (1 ≠ 0)))) ::
  []) hz hd (by kernel_rfl) ?_ ?_
 refine ⟨?_, ?_, ?_, ?_, ?_, ?_, ?_, ?_, ?_, trivial⟩
 exact zLd hz (sv S6) Cp6 ld_n32
 exact zLd hz (sv S7) Cp7 ld_n32
 exact zC2 hz Try.func14 (sd 0 rfl) (sd 1 rfl) (fun _ _ _ h0 h1 => dq_from (l := 960) h0 h1 (by decide) (by decide) hP.out.1 (one_960 (m := 960) (Nat.le_refl _)) (by decide))
 exact zMv hz (sd 2 rfl)
 exact zExt hz (sd 3 rfl)
 exact zExt hz (sd 3 rfl)
 exact zAl hz nd_rat al_r32
 exact zSt (sd 4 rfl) st_q32
 exact zAs hz (sd 5 rfl)
 intro a' γ' W' hz' hd' hC hk hh
 have ep2 := Cp2.lt
 have ep3 := Cp3.lt
 have ep6 := Cp6.lt
 have ep7 := Cp7.lt
 have ep9 := Cp9.lt
 have tp2 := Cp2.lt
 replace Cp2 := kC hC Cp2
 have tp3 := Cp3.lt
 replace Cp3 := kC hC Cp3
 have tp6 := Cp6.lt
 clear Cp6
 have tp7 := Cp7.lt
 clear Cp7
 have tp9 := Cp9.lt
 replace Cp9 := kC hC Cp9
 replace S2 := kp hk S2
 replace S3 := kp hk S3
 clear S6
 clear S7
 replace S8 := kp hk S8
 obtain ⟨p10, S10, Cp10, lp10, gp10⟩ := gotB hz' 7 hC hh rfl rfl rfl rfl rfl rfl
 have n_p10_p2 : p10 ≠ p2 := by omega
 have n_p10_p3 : p10 ≠ p3 := by omega
 have n_p10_p9 : p10 ≠ p9 := by omega
 have n_p2_p10 : p2 ≠ p10 := by have := ep2; omega
 have n_p3_p10 : p3 ≠ p10 := by have := ep3; omega
 have n_p9_p10 : p9 ≠ p10 := by have := ep9; omega
 have bp10 : w.heap.size ≤ p10 := Nat.le_trans HB.size lp10
 clear lp10 gp10
 clear tp2 tp3 tp6 tp7 tp9
 clear ep2 ep3 ep6 ep7 ep9
 replace HB := aft_call HB (RelC.below_nil hC)
 clear hC hk hh; replace hz := hz'; replace hd := hd'; clear hz' hd'
 refine wp_seq ?_
 refine region_drawn (M := [p2, p3]) (
  rT (tQ B64 960 (mkRat (bev (l.take 120)) 1)) ::
  rT (tQ B32 960 (mkRat (bev (l.take 120)) 1)) ::
  rE 0 29 (tQ B64 960 (mkRat (bev (l.take 120)) 1)) p2 ::
  rE 1 33 (tQ B32 960 (mkRat (bev (l.take 120)) 1)) p3 ::
  []) hz hd (by kernel_rfl) (by kernel_rfl) ?_ ?_
 refine ⟨?_, ?_, ?_, ?_, trivial⟩
 exact zLd hz (sv S8) Cp9 ld_q64 (by simp [tagOf, n_p9_p2, n_p9_p3])
 exact zLd hz (sv S10) Cp10 ld_q32 (by simp [tagOf, n_p10_p2, n_p10_p3])
 exact zSE rfl (sv S2) (by simp [tagOf]) (Cp2.var tQ_nd) (sd 0 rfl) st_q64
 exact zSE rfl (sv S3) (by simp [tagOf, n_p3_p2]) (Cp3.var tR_nd) (sd 1 rfl) st_q32
 intro a' γ' W' hz' hd' hC hk hh
 replace Cp2 := gotE (T := tQ B64 960 (mkRat (bev (l.take 120)) 1)) (id := 29) (p := p2) 2 hh rfl rfl
 replace Cp3 := gotE (T := tQ B32 960 (mkRat (bev (l.take 120)) 1)) (id := 33) (p := p3) 3 hh rfl rfl
 have tp9 := Cp9.lt
 clear Cp9
 have tp10 := Cp10.lt
 clear Cp10
 replace S2 := kp hk S2
 replace S3 := kp hk S3
 clear S8
 clear S10
 clear tp9 tp10
 replace HB := RelC.aftM HB hC (by intro m hm; simp at hm; rcases hm with rfl | rfl <;> assumption)
 clear hC hk hh; replace hz := hz'; replace hd := hd'; clear hz' hd'
 refine wp_ret ?_
 refine ret_to (T := tT [tQ B64 960 (mkRat (bev (l.take 120)) 1), tQ B32 960 (mkRat (bev (l.take 120)) 1)]) (ret2_q (by kernel_rfl) S2 S3 hd Cp2 Cp3 HB) ?_
 exact to2 (tQ_to (by decide) (by unfold mkF; rw [hc8]; rfl) (by omega)) (tQ_to (by decide) (by unfold mkF; rw [hc8]; rfl) (by omega))
 rw [decide_eq_false hc8] at S29
 refine wp_cond_false S29.ev ?_
 refine wp_skip ?_
 refine wp_seq ?_
 refine region_text (M := []) (
  rT (tN B64 120 (bev (l.take 120))) ::
  rT (tN B64 120 (bev (k.take 120))) ::
  rT (tT [tQ B64 960 (mkRat (bev (l.take 120)) (bev (k.take 120))), tV (.bool (decide (bev (k.take 120) ≠ 0)))]) ::
  rT (tT [tQ B64 960 (mkRat (bev (l.take 120)) (bev (k.take 120))), tV (.bool (decide (bev (k.take 120) ≠ 0)))]) ::
  rT (tQ B64 960 (mkRat (bev (l.take 120)) (bev (k.take 120)))) ::
  rT (tV (.bool (decide (bev (k.take 120) ≠ 0)))) ::
  rVar 6 29 2 ::
  rB 6 29 (tQ B64 960 (mkRat (bev (l.take 120)) (bev (k.take 120)))) (some 6) 7 ::
  rT (tV (.bool (decide (bev (k.take 120) ≠ 0)))) ::
  []) hz hd (by kernel_rfl) ?_ ?_
 refine ⟨?_, ?_, ?_, ?_, ?_, ?_, ?_, ?_, ?_, trivial⟩
 exact zLd hz (sv S4) Cp4 ld_n64
 exact zLd hz (sv S5) Cp5 ld_n64
 exact zC2 hz Try.func11 (sd 0 rfl) (sd 1 rfl) (fun _ _ _ h0 h1 => cq_from (l := 960) h0 h1 (by decide) (by decide) hP.out.1 hP.out.2 (by decide))
 exact zMv hz (sd 2 rfl)
 exact zExt hz (sd 3 rfl)
 exact zExt hz (sd 3 rfl)
 exact zAl hz nd_rat al_r64
 exact zSt (sd 4 rfl) st_q64
 exact zAs hz (sd 5 rfl)
 intro a' γ' W' hz' hd' hC hk hh
 have ep2 := Cp2.lt
 have ep3 := Cp3.lt
 have ep4 := Cp4.lt
 have ep5 := Cp5.lt
 have ep6 := Cp6.lt
 have ep7 := Cp7.lt
 have tp2 := Cp2.lt
 replace Cp2 := kC hC Cp2
 have tp3 := Cp3.lt
 replace Cp3 := kC hC Cp3
 have tp4 := Cp4.lt
 clear Cp4
 have tp5 := Cp5.lt
 clear Cp5
 have tp6 := Cp6.lt
 replace Cp6 := kC hC Cp6
 have tp7 := Cp7.lt
 replace Cp7 := kC hC Cp7
 replace S2 := kp hk S2
 replace S3 := kp hk S3
 clear S4
 clear S5
 replace S6 := kp hk S6
 replace S7 := kp hk S7
 clear S29
 obtain ⟨p11, S8, Cp11, lp11, gp11⟩ := gotB hz' 7 hC hh rfl rfl rfl rfl rfl rfl
 have n_p11_p2 : p11 ≠ p2 := by omega
 have n_p11_p3 : p11 ≠ p3 := by omega
 have n_p11_p6 : p11 ≠ p6 := by omega
 have n_p11_p7 : p11 ≠ p7 := by omega
 have n_p2_p11 : p2 ≠ p11 := by have := ep2; omega
 have n_p3_p11 : p3 ≠ p11 := by have := ep3; omega
 have n_p6_p11 : p6 ≠ p11 := by have := ep6; omega
 have n_p7_p11 : p7 ≠ p11 := by have := ep7; omega
 have bp11 : w.heap.size ≤ p11 := Nat.le_trans HB.size lp11
 clear lp11 gp11
 clear tp2 tp3 tp4 tp5 tp6 tp7
 clear ep2 ep3 ep4 ep5 ep6 ep7
 replace HB := aft_call HB (RelC.below_nil hC)
 clear hC hk hh; replace hz := hz'; replace hd := hd'; clear hz' hd'
 refine wp_seq ?_
 refine region_text (M := []) (
  rT (tN B32 120 (bev (l.take 120))) ::
  rT (tN B32 120 (bev (k.take 120))) ::
  rT (tT [tQ B32 960 (mkRat (bev (l.take 120)) (bev (k.take 120))), tV (.bool (decide (bev (k.take 120) ≠ 0)))]) ::
  rT (tT [tQ B32 960 (mkRat (bev (l.take 120)) (bev (k.take 120))), tV (.bool (decide (bev (k.take 120) ≠ 0)))]) ::
  rT (tQ B32 960 (mkRat (bev (l.take 120)) (bev (k.take 120)))) ::
  rT (tV (.bool (decide (bev (k.take 120) ≠ 0)))) ::
  rVar 6 33 2 ::
  rB 6 33 (tQ B32 960 (mkRat (bev (l.take 120)) (bev (k.take 120)))) (some 6) 7 ::
  rT (tV (.bool (decide (bev (k.take 120) ≠ 0)))) ::
  []) hz hd (by kernel_rfl) ?_ ?_
 refine ⟨?_, ?_, ?_, ?_, ?_, ?_, ?_, ?_, ?_, trivial⟩
 exact zLd hz (sv S6) Cp6 ld_n32
 exact zLd hz (sv S7) Cp7 ld_n32
 exact zC2 hz Try.func14 (sd 0 rfl) (sd 1 rfl) (fun _ _ _ h0 h1 => dq_from (l := 960) h0 h1 (by decide) (by decide) hP.out.1 hP.out.2 (by decide))
 exact zMv hz (sd 2 rfl)
 exact zExt hz (sd 3 rfl)
 exact zExt hz (sd 3 rfl)
 exact zAl hz nd_rat al_r32
 exact zSt (sd 4 rfl) st_q32
 exact zAs hz (sd 5 rfl)
 intro a' γ' W' hz' hd' hC hk hh
 have ep2 := Cp2.lt
 have ep3 := Cp3.lt
 have ep6 := Cp6.lt
 have ep7 := Cp7.lt
 have ep11 := Cp11.lt
 have tp2 := Cp2.lt
 replace Cp2 := kC hC Cp2
 have tp3 := Cp3.lt
 replace Cp3 := kC hC Cp3
 have tp6 := Cp6.lt
 clear Cp6
 have tp7 := Cp7.lt
 clear Cp7
 have tp11 := Cp11.lt
 replace Cp11 := kC hC Cp11
 replace S2 := kp hk S2
 replace S3 := kp hk S3
 clear S6
 clear S7
 replace S8 := kp hk S8
 obtain ⟨p12, S10, Cp12, lp12, gp12⟩ := gotB hz' 7 hC hh rfl rfl rfl rfl rfl rfl
 have n_p12_p2 : p12 ≠ p2 := by omega
 have n_p12_p3 : p12 ≠ p3 := by omega
 have n_p12_p11 : p12 ≠ p11 := by omega
 have n_p2_p12 : p2 ≠ p12 := by have := ep2; omega
 have n_p3_p12 : p3 ≠ p12 := by have := ep3; omega
 have n_p11_p12 : p11 ≠ p12 := by have := ep11; omega
 have bp12 : w.heap.size ≤ p12 := Nat.le_trans HB.size lp12
 clear lp12 gp12
 clear tp2 tp3 tp6 tp7 tp11
 clear ep2 ep3 ep6 ep7 ep11
 replace HB := aft_call HB (RelC.below_nil hC)
 clear hC hk hh; replace hz := hz'; replace hd := hd'; clear hz' hd'
 refine wp_seq ?_
 refine region_drawn (M := [p2, p3]) (
  rT (tQ B64 960 (mkRat (bev (l.take 120)) (bev (k.take 120)))) ::
  rT (tQ B32 960 (mkRat (bev (l.take 120)) (bev (k.take 120)))) ::
  rE 0 29 (tQ B64 960 (mkRat (bev (l.take 120)) (bev (k.take 120)))) p2 ::
  rE 1 33 (tQ B32 960 (mkRat (bev (l.take 120)) (bev (k.take 120)))) p3 ::
  []) hz hd (by kernel_rfl) (by kernel_rfl) ?_ ?_
 refine ⟨?_, ?_, ?_, ?_, trivial⟩
 exact zLd hz (sv S8) Cp11 ld_q64 (by simp [tagOf, n_p11_p2, n_p11_p3])
 exact zLd hz (sv S10) Cp12 ld_q32 (by simp [tagOf, n_p12_p2, n_p12_p3])
 exact zSE rfl (sv S2) (by simp [tagOf]) (Cp2.var tQ_nd) (sd 0 rfl) st_q64
 exact zSE rfl (sv S3) (by simp [tagOf, n_p3_p2]) (Cp3.var tR_nd) (sd 1 rfl) st_q32
 intro a' γ' W' hz' hd' hC hk hh
 replace Cp2 := gotE (T := tQ B64 960 (mkRat (bev (l.take 120)) (bev (k.take 120)))) (id := 29) (p := p2) 2 hh rfl rfl
 replace Cp3 := gotE (T := tQ B32 960 (mkRat (bev (l.take 120)) (bev (k.take 120)))) (id := 33) (p := p3) 3 hh rfl rfl
 have tp11 := Cp11.lt
 clear Cp11
 have tp12 := Cp12.lt
 clear Cp12
 replace S2 := kp hk S2
 replace S3 := kp hk S3
 clear S8
 clear S10
 clear tp11 tp12
 replace HB := RelC.aftM HB hC (by intro m hm; simp at hm; rcases hm with rfl | rfl <;> assumption)
 clear hC hk hh; replace hz := hz'; replace hd := hd'; clear hz' hd'
 refine wp_ret ?_
 refine ret_to (T := tT [tQ B64 960 (mkRat (bev (l.take 120)) (bev (k.take 120))), tQ B32 960 (mkRat (bev (l.take 120)) (bev (k.take 120)))]) (ret2_q (by kernel_rfl) S2 S3 hd Cp2 Cp3 HB) ?_
 exact to2 (tQ_to (by decide) (by unfold mkF; rw [und_of hc8]) (by omega)) (tQ_to (by decide) (by unfold mkF; rw [und_of hc8]) (by omega))

set_option maxRecDepth 10000 in
set_option maxHeartbeats 2000000 in
theorem l_told  {w : World}   :
    Calls Try.prog 20 #[] w (Ret (tV (.bool true)) w) := by
 refine enter Try.func20 rfl Try.ntmps20 (by simp) ?_
 intro a hz hd ha
 clear ha
 have HB : Below w.heap.size w w := Below.refl _ _
 refine wp_seq ?_
 refine region_text (M := []) (
  rT (tV (.bool false)) ::
  []) hz hd (by kernel_rfl) ?_ ?_
 refine ⟨?_, trivial⟩
 exact zAs hz kc
 intro a' γ' W' hz' hd' hC hk hh
 have S0 := gotV hz' 0 hh rfl rfl rfl rfl
 replace HB := aft_call HB (RelC.below_nil hC)
 clear hC hk hh; replace hz := hz'; replace hd := hd'; clear hz' hd'
 refine wp_seq ?_
 refine region_text (M := []) (
  rT (tT [tQ B64 63 (ofQ 6 4), tV (.bool (decide (OfOk 6 4)))]) ::
  rT (tT [tQ B64 63 (ofQ 6 4), tV (.bool (decide (OfOk 6 4)))]) ::
  rT (tQ B64 63 (ofQ 6 4)) ::
  rT (tV (.bool (decide (OfOk 6 4)))) ::
  rVar 4 29 2 ::
  rB 4 29 (tQ B64 63 (ofQ 6 4)) (some 4) 5 ::
  rT (tV (.bool (decide (OfOk 6 4)))) ::
  []) hz hd (by kernel_rfl) ?_ ?_
 refine ⟨?_, ?_, ?_, ?_, ?_, ?_, ?_, trivial⟩
 exact zC2 hz Try.func30 (kc (v := .int .i64 6)) (kc (v := .int .i64 4)) (k11 (fun _ => cq_of (a := 6) (b := 4) (by decide) (by decide)))
 exact zMv hz (sd 0 rfl)
 exact zExt hz (sd 1 rfl)
 exact zExt hz (sd 1 rfl)
 exact zAl hz nd_rat al_r64
 exact zSt (sd 2 rfl) st_q64
 exact zAs hz (sd 3 rfl)
 intro a' γ' W' hz' hd' hC hk hh
 replace S0 := kp hk S0
 obtain ⟨p1, S1, Cp1, lp1, gp1⟩ := gotB hz' 5 hC hh rfl rfl rfl rfl rfl rfl
 have S2 := gotV hz' 6 hh rfl rfl rfl rfl
 clear lp1 gp1
 replace HB := aft_call HB (RelC.below_nil hC)
 clear hC hk hh; replace hz := hz'; replace hd := hd'; clear hz' hd'
 refine wp_seq ?_
 refine region_text (M := []) (
  rT (tT [tQ B64 63 (ofQ 1 3), tV (.bool (decide (OfOk 1 3)))]) ::
  rT (tT [tQ B64 63 (ofQ 1 3), tV (.bool (decide (OfOk 1 3)))]) ::
  rT (tQ B64 63 (ofQ 1 3)) ::
  rT (tV (.bool (decide (OfOk 1 3)))) ::
  rVar 4 29 2 ::
  rB 4 29 (tQ B64 63 (ofQ 1 3)) (some 4) 5 ::
  rT (tV (.bool (decide (OfOk 1 3)))) ::
  []) hz hd (by kernel_rfl) ?_ ?_
 refine ⟨?_, ?_, ?_, ?_, ?_, ?_, ?_, trivial⟩
 exact zC2 hz Try.func30 (kc (v := .int .i64 1)) (kc (v := .int .i64 3)) (k11 (fun _ => cq_of (a := 1) (b := 3) (by decide) (by decide)))
 exact zMv hz (sd 0 rfl)
 exact zExt hz (sd 1 rfl)
 exact zExt hz (sd 1 rfl)
 exact zAl hz nd_rat al_r64
 exact zSt (sd 2 rfl) st_q64
 exact zAs hz (sd 3 rfl)
 intro a' γ' W' hz' hd' hC hk hh
 replace Cp1 := kC hC Cp1
 replace S0 := kp hk S0
 replace S1 := kp hk S1
 replace S2 := kp hk S2
 obtain ⟨p2, S3, Cp2, lp2, gp2⟩ := gotB hz' 5 hC hh rfl rfl rfl rfl rfl rfl
 have S4 := gotV hz' 6 hh rfl rfl rfl rfl
 clear lp2 gp2
 replace HB := aft_call HB (RelC.below_nil hC)
 clear hC hk hh; replace hz := hz'; replace hd := hd'; clear hz' hd'
 refine wp_seq ?_
 refine region_text (M := []) (
  rB 0 29 (tQ B64 1 0) none 0 ::
  []) hz hd (by kernel_rfl) ?_ ?_
 refine ⟨?_, trivial⟩
 exact zNew hz (fun _ => tQ_nil) al_r64
 intro a' γ' W' hz' hd' hC hk hh
 replace Cp1 := kC hC Cp1
 replace Cp2 := kC hC Cp2
 replace S0 := kp hk S0
 replace S1 := kp hk S1
 replace S2 := kp hk S2
 replace S3 := kp hk S3
 replace S4 := kp hk S4
 obtain ⟨p3, S5, Cp3, lp3, gp3⟩ := gotB hz' 0 hC hh rfl rfl rfl rfl rfl rfl
 clear lp3 gp3
 replace HB := aft_call HB (RelC.below_nil hC)
 clear hC hk hh; replace hz := hz'; replace hd := hd'; clear hz' hd'
 refine wp_seq ?_
 refine region_text (M := []) (
  rT (tT [tQ B32 63 (ofQ 3 2), tV (.bool (decide (OfOk 3 2)))]) ::
  rT (tT [tQ B32 63 (ofQ 3 2), tV (.bool (decide (OfOk 3 2)))]) ::
  rT (tQ B32 63 (ofQ 3 2)) ::
  rT (tV (.bool (decide (OfOk 3 2)))) ::
  rVar 4 33 2 ::
  rB 4 33 (tQ B32 63 (ofQ 3 2)) (some 4) 5 ::
  rT (tV (.bool (decide (OfOk 3 2)))) ::
  []) hz hd (by kernel_rfl) ?_ ?_
 refine ⟨?_, ?_, ?_, ?_, ?_, ?_, ?_, trivial⟩
 exact zC2 hz Try.func31 (kc (v := .int .i64 3)) (kc (v := .int .i64 2)) (k11 (fun _ => dq_of (a1 := 3) (a2 := 2) (by decide) (by decide)))
 exact zMv hz (sd 0 rfl)
 exact zExt hz (sd 1 rfl)
 exact zExt hz (sd 1 rfl)
 exact zAl hz nd_rat al_r32
 exact zSt (sd 2 rfl) st_q32
 exact zAs hz (sd 3 rfl)
 intro a' γ' W' hz' hd' hC hk hh
 replace Cp1 := kC hC Cp1
 replace Cp2 := kC hC Cp2
 replace Cp3 := kC hC Cp3
 replace S0 := kp hk S0
 replace S1 := kp hk S1
 replace S2 := kp hk S2
 replace S3 := kp hk S3
 replace S4 := kp hk S4
 replace S5 := kp hk S5
 obtain ⟨p4, S6, Cp4, lp4, gp4⟩ := gotB hz' 5 hC hh rfl rfl rfl rfl rfl rfl
 clear lp4 gp4
 replace HB := aft_call HB (RelC.below_nil hC)
 clear hC hk hh; replace hz := hz'; replace hd := hd'; clear hz' hd'
 refine wp_seq ?_
 refine region_text (M := []) (
  rT (tT [tQ B32 63 (ofQ 11 6), tV (.bool (decide (OfOk 11 6)))]) ::
  rT (tT [tQ B32 63 (ofQ 11 6), tV (.bool (decide (OfOk 11 6)))]) ::
  rT (tQ B32 63 (ofQ 11 6)) ::
  rT (tV (.bool (decide (OfOk 11 6)))) ::
  rVar 4 33 2 ::
  rB 4 33 (tQ B32 63 (ofQ 11 6)) (some 4) 5 ::
  rT (tV (.bool (decide (OfOk 11 6)))) ::
  []) hz hd (by kernel_rfl) ?_ ?_
 refine ⟨?_, ?_, ?_, ?_, ?_, ?_, ?_, trivial⟩
 exact zC2 hz Try.func31 (kc (v := .int .i64 11)) (kc (v := .int .i64 6)) (k11 (fun _ => dq_of (a1 := 11) (a2 := 6) (by decide) (by decide)))
 exact zMv hz (sd 0 rfl)
 exact zExt hz (sd 1 rfl)
 exact zExt hz (sd 1 rfl)
 exact zAl hz nd_rat al_r32
 exact zSt (sd 2 rfl) st_q32
 exact zAs hz (sd 3 rfl)
 intro a' γ' W' hz' hd' hC hk hh
 replace Cp1 := kC hC Cp1
 replace Cp2 := kC hC Cp2
 replace Cp3 := kC hC Cp3
 replace Cp4 := kC hC Cp4
 replace S0 := kp hk S0
 replace S1 := kp hk S1
 replace S2 := kp hk S2
 replace S3 := kp hk S3
 replace S4 := kp hk S4
 replace S5 := kp hk S5
 replace S6 := kp hk S6
 obtain ⟨p5, S8, Cp5, lp5, gp5⟩ := gotB hz' 5 hC hh rfl rfl rfl rfl rfl rfl
 clear lp5 gp5
 replace HB := aft_call HB (RelC.below_nil hC)
 clear hC hk hh; replace hz := hz'; replace hd := hd'; clear hz' hd'
 refine wp_seq ?_
 have hc6 : OfOk 6 4 := (by decide +kernel)
 rw [decide_eq_true hc6] at S2
 have hc7 : OfOk 1 3 := (by decide +kernel)
 rw [decide_eq_true hc7] at S4
 have hc8 : ofQ 6 4 = ofQ 3 2 := (by decide +kernel)
 have hc9 : (ofQ 6 4) + (ofQ 1 3) = ofQ 11 6 := (by decide +kernel)
 have hc10 : ofQ 1 3 < ofQ 6 4 := (by decide +kernel)
 have hc11 : 0 < ofQ 1 3 := (by decide +kernel)
 refine region_drawn (M := []) (
  rT (tV (.bool true)) ::
  rT (tV (.bool true)) ::
  rT (tV (.bool true)) ::
  rT (tV (.bool true)) ::
  rT (tV (.bool true)) ::
  rT (tQ B64 63 (ofQ 6 4)) ::
  rT (tQ B32 63 (ofQ 3 2)) ::
  rT (tV (.bool true)) ::
  rT (tV (.bool true)) ::
  rT (tV (.bool true)) ::
  rT (tQ B64 63 (ofQ 6 4)) ::
  rT (tQ B64 63 (ofQ 1 3)) ::
  rT (tQ B64 127 ((ofQ 6 4) + (ofQ 1 3))) ::
  rT (tQ B32 63 (ofQ 11 6)) ::
  rT (tV (.bool true)) ::
  rT (tV (.bool true)) ::
  rT (tV (.bool true)) ::
  rT (tQ B64 63 (ofQ 6 4)) ::
  rT (tQ B64 63 (ofQ 1 3)) ::
  rT (tV (.int .i64 (cmpQ (ofQ 6 4) (ofQ 1 3)))) ::
  rT (tV (.bool true)) ::
  rT (tV (.bool true)) ::
  rT (tV (.bool true)) ::
  rT (tQ B64 1 0) ::
  rT (tQ B64 63 (ofQ 1 3)) ::
  rT (tV (.int .i64 (cmpQ 0 (ofQ 1 3)))) ::
  rT (tV (.bool true)) ::
  rT (tV (.bool true)) ::
  rT (tV (.bool true)) ::
  rT (tQ B64 1 0) ::
  rT (tQ B32 1 0) ::
  rT (tV (.bool (decide (0 = 0)))) ::
  rT (tV (.bool (decide (0 = 0)))) ::
  rT (tV (.bool (decide (0 = 0)))) ::
  []) hz hd (by kernel_rfl) (by kernel_rfl) ?_ ?_
 refine ⟨?_, ?_, ?_, ?_, ?_, ?_, ?_, ?_, ?_, ?_, ?_, ?_, ?_, ?_, ?_, ?_, ?_, ?_, ?_, ?_, ?_, ?_, ?_, ?_, ?_, ?_, ?_, ?_, ?_, ?_, ?_, ?_, ?_, ?_, trivial⟩
 exact zMv hz (sv S2)
 exact zMv hz (sd 0 rfl)
 exact zMv hz (sv S4) (g := gT 1 rfl)
 exact zPT hz (sd 1 rfl) (sd 2 rfl)
 exact zMv hz (sd 3 rfl)
 exact zLd hz (sv S1) Cp1 ld_q64 (g := gT 4 rfl)
 exact zLd hz (sv S6) Cp4 ld_q32 (g := gT 4 rfl)
 exact zC2 hz Try.func21 (sd 5 rfl) (sd 6 rfl) (fun _ _ _ h0 h1 => (by have hq := l_same h0 h1 (by decide) (by decide); simp only [decide_eq_true hc8] at hq; exact hq)) (g := gT 4 rfl)
 exact zPT hz (sd 4 rfl) (sd 7 rfl)
 exact zMv hz (sd 8 rfl)
 exact zLd hz (sv S1) Cp1 ld_q64 (g := gT 9 rfl)
 exact zLd hz (sv S3) Cp2 ld_q64 (g := gT 9 rfl)
 exact zC2 hz Try.func17 (sd 10 rfl) (sd 11 rfl) (fun _ _ _ h0 h1 => cq_add h0 h1 (by decide) (by decide)) (g := gT 9 rfl)
 exact zLd hz (sv S8) Cp5 ld_q32 (g := gT 9 rfl)
 exact zC2 hz Try.func21 (sd 12 rfl) (sd 13 rfl) (fun _ _ _ h0 h1 => (by have hq := l_same h0 h1 (by decide) (by decide); simp only [decide_eq_true hc9] at hq; exact hq)) (g := gT 9 rfl)
 exact zPT hz (sd 9 rfl) (sd 14 rfl)
 exact zMv hz (sd 15 rfl)
 exact zLd hz (sv S1) Cp1 ld_q64 (g := gT 16 rfl)
 exact zLd hz (sv S3) Cp2 ld_q64 (g := gT 16 rfl)
 exact zC2 hz Try.func38 (sd 17 rfl) (sd 18 rfl) (fun _ _ _ h0 h1 => cq_cmp h0 h1 (by decide) (by decide)) (g := gT 16 rfl)
 exact sBin rfl rfl rfl hz rfl (gT 16 rfl) rfl (sd 19 rfl) kc (fun w => run_t (P := ofQ 1 3 < ofQ 6 4) ((fun w => run_cQ_eq1 (ofQ 6 4) (ofQ 1 3) w) w) hc10)
 exact zPT hz (sd 16 rfl) (sd 20 rfl)
 exact zMv hz (sd 21 rfl)
 exact zLd hz (sv S5) Cp3 ld_q64 (g := gT 22 rfl)
 exact zLd hz (sv S3) Cp2 ld_q64 (g := gT 22 rfl)
 exact zC2 hz Try.func38 (sd 23 rfl) (sd 24 rfl) (fun _ _ _ h0 h1 => cq_cmp h0 h1 (by decide) (by decide)) (g := gT 22 rfl)
 exact sBin rfl rfl rfl hz rfl (gT 22 rfl) rfl (sd 25 rfl) kc (fun w => run_t (P := 0 < ofQ 1 3) ((fun w => run_cQ_eqm 0 (ofQ 1 3) w) w) hc11)
 exact zPT hz (sd 22 rfl) (sd 26 rfl)
 exact zMv hz (sd 27 rfl)
 exact zLd hz (sv S5) Cp3 ld_q64 (g := gT 28 rfl)
 exact zC0 hz Try.func44 (fun _ => dq_zero) (g := gT 28 rfl)
 exact zC2 hz Try.func21 (sd 29 rfl) (sd 30 rfl) (fun _ _ _ h0 h1 => l_same h0 h1 (by decide) (by decide)) (g := gT 28 rfl)
 exact zPT hz (sd 28 rfl) (sd 31 rfl)
 exact zAs hz (sd 32 rfl)
 intro a' γ' W' hz' hd' hC hk hh
 clear Cp1
 clear Cp2
 clear Cp3
 clear Cp4
 clear Cp5
 clear S0
 clear S1
 clear S2
 clear S3
 clear S4
 clear S5
 clear S6
 clear S8
 have S0 := gotV hz' 33 hh rfl rfl rfl rfl
 replace HB := aft_call HB (RelC.below_nil hC)
 clear hC hk hh; replace hz := hz'; replace hd := hd'; clear hz' hd'
 refine wp_ret ?_
 refine ret_to (T := tV (.bool (decide (0 = 0)))) (ret1 (by kernel_rfl) S0 hd ⟨_, rfl, rfl, HB⟩) ?_
 exact fun _ _ h => h

end Go.Proofs.Ythanbjbcpljcoaa.Rg
