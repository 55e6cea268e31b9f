/-
  Walks and plain laws, put together: TE TF TD.
-/
import Derived.Test.YtfgnleoaibcegaaGreatQe
set_option linter.unusedVariables false
set_option linter.unusedSimpArgs false
namespace Go.Proofs.YtfgnleoaibcegaaGreat.Rg

open Go.RowKit
theorem tQ_02 {v : Value} {w : World} : (tR B32 2 2 0 1).p v w → (tQ B32 1 0).p v w := fun h => tQ_mk (by decide) h rfl rfl (fun _ => by decide) (by decide) (by decide)
section

variable {l l1 l2 : Nat} {x y : Rat} {v0 v1 : Value} {w : World}
theorem dq_zero : Calls Tryz.prog 58 #[] w (Ret (tQ B32 1 0) w) := by
  refine d_qzero.mono ?_
  rintro e w' ⟨v, rfl, hv, hb⟩
  exact ⟨v, rfl, tQ_02 hv, hb⟩
end

/-! ### In variables -/
section

variable {b l : Nat} {x : Rat}
theorem tQ_nil {w : World} : (tQ B64 1 0).p (.agg #[.slice none 0 0, .slice none 0 0]) w := tQ_0 tR_nil
theorem tQ_nd : ∀ v w, (tQ b l x).p v w → v.cells.size = 2 ∧ ∀ u ∈ v.cells, notDig u := fun v w ⟨_, _, h, _⟩ => tR_nd v w h
theorem ld_q64 {p : Nat} : ∀ v w, (tQ b l x).p v w → Blk w p 28 v.cells → (Instr.loadAt 28 (.pointer (some ⟨p, 0, none⟩))).run Tryz.prog w = .ok v w := fun v w ⟨_, _, h, _⟩ hb => ld_r64 v w h hb
theorem box_q64 : ∀ v w, (tQ b l x).p v w → (Instr.box 28 v).run Tryz.prog w = .ok (.pointer (some ⟨w.heap.size, 0, none⟩)) (w.alloc (.cells v.cells 28)) := fun v w ⟨_, _, h, _⟩ => box_r64 v w h
theorem st_q64 : StoreOk Tryz.prog 28 (tQ b l x) 2 := fun v w p us ⟨_, _, h, _⟩ hk hb => st_r64 v w p us h hk hb
theorem ld_q32 {p : Nat} : ∀ v w, (tQ b l x).p v w → Blk w p 32 v.cells → (Instr.loadAt 32 (.pointer (some ⟨p, 0, none⟩))).run Tryz.prog w = .ok v w := fun v w ⟨_, _, h, _⟩ hb => ld_r32 v w h hb
theorem st_q32 : StoreOk Tryz.prog 32 (tQ b l x) 2 := fun v w p us ⟨_, _, h, _⟩ hk hb => st_r32 v w p us h hk hb
end
theorem bodyPost_mono {P : Program} {fn : Func} {R R' : Ending → World → Prop} {ex : Exit} {a : Act} {w : World} (h : bodyPost P fn R ex a w) (hR : ∀ e w, R e w → R' e w) : bodyPost P fn R' ex a w := by
  cases ex with
  | normal => obtain ⟨h1, v, h2, h3⟩ := h; exact ⟨h1, v, h2, hR _ _ h3⟩
  | ret => obtain ⟨h1, v, h2, h3⟩ := h; exact ⟨h1, v, h2, hR _ _ h3⟩
  | panic c => exact ⟨h.1, hR _ _ h.2⟩
  | outgrown => exact hR _ _ h
  | exit _ => exact h.elim
  | goto _ => exact h.elim
theorem ret_to {P : Program} {fn : Func} {T T' : Ty} {w0 w : World} {ex : Exit} {a : Act} (h : bodyPost P fn (Ret T w0) ex a w) (hT : ∀ v w, T.p v w → T'.p v w) : bodyPost P fn (Ret T' w0) ex a w :=
  bodyPost_mono h fun e w ⟨v, h1, h2, h3⟩ => ⟨v, h1, hT _ _ h2, h3⟩
theorem to2 {T1 T2 U1 U2 : Ty} (h1 : ∀ v w, T1.p v w → U1.p v w) (h2 : ∀ v w, T2.p v w → U2.p v w) : ∀ v w, (tT [T1, T2]).p v w → (tT [U1, U2]).p v w := by
  rintro v w ⟨m, rfl, h⟩
  match m, h with
  | [a, b], ⟨ha, hb, _⟩ => exact ⟨_, rfl, h1 _ _ ha, h2 _ _ hb, trivial⟩
theorem tQ_to {b l m : Nat} {x y : Rat} (hb : 2 ≤ b) (e : x = y) (hl : l ≤ m) : ∀ v w, (tQ b l x).p v w → (tQ b m y).p v w := by subst e; exact tQ_le hb hl
theorem tV_to {x y : Value} (e : x = y) : ∀ v w, (tV x).p v w → (tV y).p v w := fun v w h => h.trans e
theorem ret1_q64 {fn : Func} {w0 : World} {a : Act} {w : World} {b t1 p1 l : Nat} {x : Rat} (h : fn.results = #[.cell t1 28]) (s1 : Sl a t1 (.pointer (some ⟨p1, 0, none⟩))) (hdf : a.defers = []) (c1 : Cell 28 (tQ b l x) p1 w) (hb : Below w0.heap.size w0 w) : bodyPost Tryz.prog fn (Ret (tQ b l x) w0) .ret a w := by
  obtain ⟨v, b1, p, q, h', r⟩ := c1
  exact ret_to (ret1_r64 h s1 hdf ⟨v, b1, h'⟩ hb) fun v w hv => ⟨p, q, hv, r⟩
theorem retct_q64 {fn : Func} {w0 : World} {a : Act} {w : World} {b t1 t2 p1 l : Nat} {x : Rat} {v2 : Value} (h : fn.results = #[.cell t1 28, .tmp t2]) (s1 : Sl a t1 (.pointer (some ⟨p1, 0, none⟩))) (s2 : Sl a t2 v2) (hdf : a.defers = []) (c1 : Cell 28 (tQ b l x) p1 w) (hb : Below w0.heap.size w0 w) : bodyPost Tryz.prog fn (Ret (tT [tQ b l x, tV v2]) w0) .ret a w := by
  obtain ⟨v, b1, p, q, h', r⟩ := c1
  exact ret_to (retct_r64 h s1 s2 hdf ⟨v, b1, h'⟩ hb) (to2 (fun v w hv => ⟨p, q, hv, r⟩) fun _ _ h => h)
theorem retct_q32 {fn : Func} {w0 : World} {a : Act} {w : World} {b t1 t2 p1 l : Nat} {x : Rat} {v2 : Value} (h : fn.results = #[.cell t1 32, .tmp t2]) (s1 : Sl a t1 (.pointer (some ⟨p1, 0, none⟩))) (s2 : Sl a t2 v2) (hdf : a.defers = []) (c1 : Cell 32 (tQ b l x) p1 w) (hb : Below w0.heap.size w0 w) : bodyPost Tryz.prog fn (Ret (tT [tQ b l x, tV v2]) w0) .ret a w := by
  obtain ⟨v, b1, p, q, h', r⟩ := c1
  exact ret_to (retct_r32 h s1 s2 hdf ⟨v, b1, h'⟩ hb) (to2 (fun v w hv => ⟨p, q, hv, r⟩) fun _ _ h => h)
end Go.Proofs.YtfgnleoaibcegaaGreat.Rg

namespace Go.Proofs.YtfgnleoaibcegaaGreat.Rg

open Go.RowKit

section

variable {P : Prop} [Decidable P] {m : Sem Value} {pr : Program} {w : World}
theorem run_t (h : m.run pr w = .ok (.bool (decide P)) w) (hp : P) : m.run pr w = .ok (.bool true) w := by rw [h, decide_eq_true hp]
theorem run_f (h : m.run pr w = .ok (.bool (decide P)) w) (hp : ¬ P) : m.run pr w = .ok (.bool false) w := by rw [h, decide_eq_false hp]
end
theorem rat_tri (x y : Rat) : x < y ∨ x = y ∨ y < x := by grind
theorem cmpQ_gtr (x y : Rat) : decide (cmpQ x y > 0) = decide (y < x) := by
  unfold cmpQ; rcases rat_tri x y with h | h | h
  · have : ¬ y < x := by grind
    simp [h, this]
  · subst h; simp [Rat.lt_irrefl]
  · have : ¬ x < y := by grind
    simp [h, this]
theorem cmpQ_neg (x y : Rat) : -cmpQ x y = cmpQ y x := by
  unfold cmpQ; rcases rat_tri x y with h | h | h
  · have : ¬ y < x := by grind
    simp [h, this]
  · subst h; simp [Rat.lt_irrefl]
  · have : ¬ x < y := by grind
    simp [h, this]
theorem cmpQ_lss (x y : Rat) : decide (cmpQ x y < 0) = decide (x < y) := by
  rw [← cmpQ_gtr y x, ← cmpQ_neg x y, decide_eq_decide]; omega
theorem cmpQ_leq (x y : Rat) : decide (cmpQ x y ≤ 0) = decide (x ≤ y) := by
  have h := cmpQ_gtr x y
  rw [decide_eq_decide] at h ⊢
  rw [← Rat.not_lt, ← h]; omega
theorem cmpQ_eql (x y : Rat) : decide (cmpQ x y = 0) = decide (x = y) := by
  have h1 := cmpQ_lss x y
  have h2 := cmpQ_gtr x y
  rw [decide_eq_decide] at h1 h2 ⊢
  constructor
  · intro h; rw [h] at h1 h2; grind
  · rintro rfl; unfold cmpQ; simp [Rat.lt_irrefl]
theorem cmpI_gtr (x y : Nat) : decide (cmpI x y > 0) = decide (y < x) := by
  rw [decide_eq_decide]; unfold cmpI; split <;> (try split) <;> omega
theorem cmpI_eql (x y : Nat) : decide (cmpI x y = 0) = decide (x = y) := by
  rw [decide_eq_decide]; unfold cmpI; split <;> (try split) <;> omega
section

variable {id id' : TypeId} {ox oy : Operand} {a b : Int} {w : World}
theorem run_gtr : (do eqGuard .gtr id ox oy (.int .i64 a) (.int .i64 b); binOp .gtr id (.int .i64 a) (.int .i64 b) : Sem Value).run Tryz.prog w = .ok (.bool (decide (a > b))) w := by simp [go_sem]
theorem run_lss : (do eqGuard .lss id ox oy (.int .i64 a) (.int .i64 b); binOp .lss id (.int .i64 a) (.int .i64 b) : Sem Value).run Tryz.prog w = .ok (.bool (decide (a < b))) w := by simp [go_sem]
theorem run_leq : (do eqGuard .leq id ox oy (.int .i64 a) (.int .i64 b); binOp .leq id (.int .i64 a) (.int .i64 b) : Sem Value).run Tryz.prog w = .ok (.bool (decide (a ≤ b))) w := by simp [go_sem]
theorem run_eql : (do eqGuard .eql 3 ox oy (.int .i64 a) (.int .i64 b); binOp .eql 3 (.int .i64 a) (.int .i64 b) : Sem Value).run Tryz.prog w = .ok (.bool (decide (a = b))) w := by
  have e : (a == b) = decide (a = b) := by rw [Bool.eq_iff_iff]; simp
  simp [go_sem, e]
theorem run_neq : (do eqGuard .neq 3 ox oy (.int .i64 a) (.int .i64 b); binOp .neq 3 (.int .i64 a) (.int .i64 b) : Sem Value).run Tryz.prog w = .ok (.bool (decide (a ≠ b))) w := by
  have e : (a != b) = decide (a ≠ b) := by rw [Bool.eq_iff_iff]; simp
  simp [go_sem, e]
theorem run_cQ_leq (x y : Rat) (w : World) : (do eqGuard .leq id ox oy (.int .i64 (cmpQ x y)) (.int .i64 0); binOp .leq id (.int .i64 (cmpQ x y)) (.int .i64 0) : Sem Value).run Tryz.prog w = .ok (.bool (decide (x ≤ y))) w := by rw [run_leq, cmpQ_leq]
theorem run_cQ_eql (x y : Rat) (w : World) : (do eqGuard .eql 3 ox oy (.int .i64 (cmpQ x y)) (.int .i64 0); binOp .eql 3 (.int .i64 (cmpQ x y)) (.int .i64 0) : Sem Value).run Tryz.prog w = .ok (.bool (decide (x = y))) w := by rw [run_eql, cmpQ_eql]
theorem run_cQ_neq (x y : Rat) (w : World) : (do eqGuard .neq 3 ox oy (.int .i64 (cmpQ x y)) (.int .i64 0); binOp .neq 3 (.int .i64 (cmpQ x y)) (.int .i64 0) : Sem Value).run Tryz.prog w = .ok (.bool (decide (x ≠ y))) w := by rw [run_neq, decide_not, decide_not, cmpQ_eql]
theorem run_cI_gtr (x y : Nat) (w : World) : (do eqGuard .gtr id ox oy (.int .i64 (cmpI x y)) (.int .i64 0); binOp .gtr id (.int .i64 (cmpI x y)) (.int .i64 0) : Sem Value).run Tryz.prog w = .ok (.bool (decide (y < x))) w := by rw [run_gtr, cmpI_gtr]
theorem run_cI_eql (x y : Nat) (w : World) : (do eqGuard .eql 3 ox oy (.int .i64 (cmpI x y)) (.int .i64 0); binOp .eql 3 (.int .i64 (cmpI x y)) (.int .i64 0) : Sem Value).run Tryz.prog w = .ok (.bool (decide (x = y))) w := by rw [run_eql, cmpI_eql]
end
theorem rett2 {P : Program} {fn : Func} {w0 : World} {a : Act} {w : World} {t1 t2 : Nat} {v1 v2 : Value} (h : fn.results = #[.tmp t1, .tmp t2]) (s1 : Sl a t1 v1) (s2 : Sl a t2 v2) (hdf : a.defers = []) (hb : Below w0.heap.size w0 w) : bodyPost P fn (Ret (tT [tV v1, tV v2]) w0) .ret a w := by
  refine bodyPost_ret (v := .tuple #[v1, v2]) ?_ hdf ⟨_, rfl, ⟨[v1, v2], rfl, rfl, rfl, trivial⟩, hb⟩
  unfold Sl at s1 s2
  simp [results, h, go_sem, s1, s2]
section

variable {P : Program} {ops : Array Oper} {Q : Exit → Act → World → Prop} {a0 : Act} {M : List Nat} {W : World} {rels : List Rel} {i : Nat} {o : Oper} {T T' : Ty} {N d : Nat} {x y : Operand}
theorem sUn {op : UnOp} {id : TypeId} {u z : Value} (ho : ops[i]? = some o) (hr : rels[i]? = some (rT (tV z))) (hd : o.dst = some d) (hz : a0.tmps.size = N) (hlt : decide (d < N) = true) (g : Gd ops a0 M W rels i o true)
    (hop : o.op = .unOp op id x) (s : Src ops a0 M W rels i o x (tV u)) (h : ∀ w, (Op.unary op u).run P w = .ok z w) : StepOk P ops a0 M W Q rels i o :=
  sOp ho hr hd hz hlt g fun a γ w U => ⟨z, by
    have hx : a.eval x = u := s a γ w U
    unfold execOp; rw [hop]; simp only [hx, Sem.run_bind, h, Result.andThen, Sem.run_pure], rfl⟩
end

end Go.Proofs.YtfgnleoaibcegaaGreat.Rg

namespace Go.Proofs.YtfgnleoaibcegaaGreat.Rg

open Go.RowKit

def ofQ (a b : Int) : Rat := if 0 ≤ a ∧ 1 ≤ b then mkRat a b.toNat else 0
def OfOk (a b : Int) : Prop := 0 ≤ a ∧ 1 ≤ b
instance (a b : Int) : Decidable (OfOk a b) := inferInstanceAs (Decidable (_ ∧ _))
def divI (x : Rat) (n : Int) : Rat := if 1 ≤ n then x / n else 0
def IntQ (x : Rat) : Prop := x.den = 1 ∧ x.num < 9223372036854775808
instance (x : Rat) : Decidable (IntQ x) := inferInstanceAs (Decidable (_ ∧ _))
theorem ofQ_1 (n : Int) : ofQ n 1 = if 0 ≤ n then (n : Rat) else 0 := by
  unfold ofQ
  by_cases h : 0 ≤ n
  · rw [if_pos ⟨h, by decide⟩, if_pos h]; exact (Rat.mk_eq_mkRat n 1 (by decide) (by simp)).symm
  · rw [if_neg (fun g => h g.1), if_neg h]
theorem divI_of (x : Rat) (n : Int) : x / ofQ n 1 = divI x n := by
  rw [ofQ_1]; unfold divI
  by_cases h : 1 ≤ n
  · rw [if_pos (by omega), if_pos h]
  · rw [if_neg h]
    by_cases h0 : 0 ≤ n
    · have : n = 0 := by omega
      subst this; rw [if_pos (by decide)]; simp [Rat.div_def]
    · rw [if_neg h0]; simp [Rat.div_def]
theorem ofQ_ne (n : Int) : ofQ n 1 ≠ 0 ↔ 1 ≤ n := by
  rw [ofQ_1]
  by_cases h0 : 0 ≤ n
  · rw [if_pos h0, Ne, Rat.intCast_eq_zero_iff]; omega
  · rw [if_neg h0]; simp; omega
section

variable {l l1 : Nat} {x : Rat} {v0 : Value} {w : World}
theorem cq_of {a b : Int} (ha : a < 9223372036854775808) (hb : b < 9223372036854775808) : Calls Tryz.prog 35 #[.int .i64 a, .int .i64 b] w (Ret (tT [tQ B64 63 (ofQ a b), tV (.bool (decide (OfOk a b)))]) w) := by
  by_cases h1 : a < 0
  · refine (c_of_n (l1 := 0) (l2 := 0) (l3 := 0) (l4 := 0) (p := 0) (q := 0) (p' := 0) (q' := 0) h1).mono ?_
    rintro e w' ⟨v, rfl, hv, hb⟩
    refine ⟨v, rfl, to2 (fun v w h => ?_) (tV_to (by rw [decide_eq_false (by unfold OfOk; omega)])) _ _ hv, hb⟩
    unfold ofQ; rw [if_neg (by omega)]; exact tQ_le (by decide) (by omega) _ _ (tQ_0 h)
  · by_cases h2 : b < 1
    · refine (c_of_z (l1 := 0) (l2 := 0) (l3 := 0) (l4 := 0) (p := 0) (q := 0) (p' := 0) (q' := 0) h1 h2).mono ?_
      rintro e w' ⟨v, rfl, hv, hb⟩
      refine ⟨v, rfl, to2 (fun v w h => ?_) (tV_to (by rw [decide_eq_false (by unfold OfOk; omega)])) _ _ hv, hb⟩
      unfold ofQ; rw [if_neg (by omega)]; exact tQ_le (by decide) (by omega) _ _ (tQ_0 h)
    · obtain ⟨a, rfl⟩ := Int.eq_ofNat_of_zero_le (show 0 ≤ a by omega)
      obtain ⟨b, rfl⟩ := Int.eq_ofNat_of_zero_le (show 0 ≤ b by omega)
      have ha' : a < 2 ^ 63 := by omega
      have hb' : b < 2 ^ 63 := by omega
      refine (c_of_p (l1 := 0) (l2 := 0) (l3 := 0) (l4 := 0) (p := 0) (q := 0) (p' := 0) (q' := 0) (x := a) (y := b) (by omega) (by omega) (by omega) (by unfold B64; omega) (by unfold B64; omega)).mono ?_
      rintro e w' ⟨v, rfl, hv, hbl⟩
      refine ⟨v, rfl, to2 (fun v w h => ?_) (tV_to (by rw [decide_eq_true (by unfold OfOk; omega)])) _ _ hv, hbl⟩
      unfold ofQ; rw [if_pos (by omega)]
      exact tQ_low (by decide) h (by omega) (by rw [Int.toNat_natCast]) ha' hb'
end

theorem bl_iff (q : Nat) : ((bl q : Nat) : Int) = 0 ↔ q = 0 := by
  constructor
  · intro h
    rcases Nat.eq_zero_or_pos q with h1 | h1
    · exact h1
    · have := bl_pos (n := q) (by omega); omega
  · rintro rfl; rfl
theorem num_i {x : Rat} (h : 0 ≤ x) : ((x.num.toNat : Nat) : Int) = x.num := Int.toNat_of_nonneg (Rat.num_nonneg.2 h)
set_option maxRecDepth 10000 in
set_option maxHeartbeats 2000000 in
theorem cq_from {l l1 l2 p q : Nat} {v0 v1 : Value} {w : World} (h0 : (tN B64 l1 p).p v0 w) (h1 : (tN B64 l2 q).p v1 w) (b1 : l1 ≤ 100000000) (b2 : l2 ≤ 100000000) (hp : p < 2 ^ l) (hq : q < 2 ^ l) (hl : 1 ≤ l) :
    Calls Tryz.prog 20 #[v0, v1] w (Ret (tT [tQ B64 l (mkRat p q), tV (.bool (decide (q ≠ 0)))]) w) := by
 refine enter Tryz.func20 rfl Tryz.ntmps20 (by simp) ?_
 intro a hz hd ha
 have S0 := ha 0 _ rfl
 have H0 := h0
 have S1 := ha 1 _ rfl
 have H1 := h1
 clear ha
 have HB : Below w.heap.size w w := Below.refl _ _
 refine wp_seq ?_
 refine rt [rB 0 26 (tN B64 l1 p) none 0, rB 1 26 (tN B64 l2 q) none 0, rB 2 28 (tQ B64 1 0) none 0, rV (.bool false)] hz hd ?_ ?_
 refine ⟨?_, ?_, ?_, ?_, trivial⟩
 exact zBox hz (so S0 H0) box_n64
 exact zBox hz (so S1 H1) box_n64
 exact zNew hz (fun _ => tQ_nil) al_r64
 exact zAs hz kc
 clear hz hd
 intro a' γ' W' hz hd hC hk hh
 clear S0 H0
 clear S1 H1
 obtain ⟨p1, S2, Cp1, lp1, gp1⟩ := gotB hz 0 hC hh rfl rfl rfl rfl rfl rfl
 obtain ⟨p2, S3, Cp2, lp2, gp2⟩ := gotB hz 1 hC hh rfl rfl rfl rfl rfl rfl
 obtain ⟨p3, S4, Cp3, lp3, gp3⟩ := gotB hz 2 hC hh rfl rfl rfl rfl rfl rfl
 have S5 := gV hz 3 hh
 have n_p1_p3 : p1 ≠ p3 := by intro e; rw [e, gp3] at gp1; omega
 have n_p2_p3 : p2 ≠ p3 := by intro e; rw [e, gp3] at gp2; omega
 have bp3 := Nat.le_trans HB.size lp3
 clear lp1 gp1 lp2 gp2 lp3 gp3
 replace HB := aB HB hC
 clear hC hk hh
 refine wp_seq ?_
 refine wp_seq ?_
 refine rt [rT (tN B64 l2 q), rV (.int .i64 ((bl q : Nat) : Int)), rV (.bool (decide (q = 0)))] hz hd ?_ ?_
 refine ⟨?_, ?_, ?_, trivial⟩
 exact zLd hz (sv S3) Cp2 ld_n64
 exact zC1 hz Tryz.func42 (sd 0 rfl) (fun _ _ h0 => c_len h0 (by rw [big_eq]; omega))
 exact sBin rfl rfl rfl hz rfl (Gd.none_ rfl) rfl (sd 1 rfl) kc (fun w => by rw [run_eql]; congr 2; rw [decide_eq_decide]; exact bl_iff q)
 clear hz hd
 intro a' γ' W' hz hd hC hk hh
 replace Cp1 := kC hC Cp1
 replace Cp2 := kC hC Cp2
 have tp3 := Cp3.lt
 replace Cp3 := kC hC Cp3
 replace S2 := kp hk S2
 replace S3 := kp hk S3
 replace S4 := kp hk S4
 replace S5 := kp hk S5
 have S8 := gV hz 2 hh
 clear tp3
 replace HB := aB HB hC
 clear hC hk hh
 by_cases hc4 : q = 0
 rw [decide_eq_true hc4] at S8
 refine wp_cond_true S8.ev ?_
 refine wp_seq ?_
 refine region_text (M := [p3]) [rT (tQ B64 1 0), rE 0 28 (tQ B64 1 0) p3, rV (.bool false)] hz hd (by kernel_rfl) ?_ ?_
 refine ⟨?_, ?_, ?_, trivial⟩
 exact sBuild0 rfl rfl rfl hz rfl (Gd.none_ rfl) rfl bd_r64 (fun _ => tQ_nil)
 exact zSE rfl (sv S4) (by simp [tagOf]) (Cp3.var tQ_nd) (sd 0 rfl) st_q64
 exact zAs hz kc
 clear hz hd
 intro a' γ' W' hz hd hC hk hh
 replace Cp1 := kC hC Cp1 (by simp [tagOf, n_p1_p3])
 replace Cp2 := kC hC Cp2 (by simp [tagOf, n_p2_p3])
 replace Cp3 := gotE (T := tQ B64 1 0) (id := 28) (p := p3) 1 hh rfl rfl
 replace S2 := kp hk S2
 replace S3 := kp hk S3
 replace S4 := kp hk S4
 clear S5
 clear S8
 have S5 := gV hz 2 hh
 replace HB := aM HB hC
 clear hC hk hh
 refine wp_ret ?_
 refine ret_to (T := tT [tQ B64 1 0, tV (.bool false)]) (retct_q64 (by kernel_rfl) S4 S5 hd Cp3 HB) ?_
 exact to2 (fun v w h => by rw [hc4, Rat.mkRat_zero]; exact tQ_le (by decide) hl _ _ h) (tV_to (by rw [decide_eq_false (fun h => h hc4)]))
 rw [decide_eq_false hc4] at S8
 refine wp_cond_false S8.ev ?_
 refine wp_skip ?_
 refine wp_seq ?_
 refine region_text (M := [p3]) [rT (tN B64 l1 p), rT (tN B64 l2 q), rT (tR B64 l1 l2 (p / Nat.gcd p q) (q / Nat.gcd p q)), rE 0 28 (tR B64 l1 l2 (p / Nat.gcd p q) (q / Nat.gcd p q)) p3, rV (.bool true)] hz hd (by kernel_rfl) ?_ ?_
 refine ⟨?_, ?_, ?_, ?_, ?_, trivial⟩
 exact zLd hz (sv S2) Cp1 ld_n64 (by simp [tagOf, n_p1_p3])
 exact zLd hz (sv S3) Cp2 ld_n64 (by simp [tagOf, n_p2_p3])
 exact zC2 hz Tryz.func68 (sd 0 rfl) (sd 1 rfl) (fun _ _ _ h0 h1 => c_lowest (l3 := 0) (l4 := 0) (p' := 0) (q' := 0) h0 h1 (by omega) (by omega) (by omega) (by omega))
 exact zSE rfl (sv S4) (by simp [tagOf]) (Cp3.var tQ_nd) (sd 2 rfl) st_r64
 exact zAs hz kc
 clear hz hd
 intro a' γ' W' hz hd hC hk hh
 clear Cp1
 clear Cp2
 replace Cp3 := gotE (T := tR B64 l1 l2 (p / Nat.gcd p q) (q / Nat.gcd p q)) (id := 28) (p := p3) 3 hh rfl rfl
 clear S2
 clear S3
 replace S4 := kp hk S4
 clear S5
 clear S8
 have S5 := gV hz 4 hh
 replace HB := aM HB hC
 clear hC hk hh
 refine wp_ret ?_
 refine ret_to (T := tT [tR B64 l1 l2 (p / Nat.gcd p q) (q / Nat.gcd p q), tV (.bool true)]) (retct_r64 (by kernel_rfl) S4 S5 hd Cp3 HB) ?_
 exact to2 (fun v w h => tQ_low (by decide) h hc4 rfl hp hq) (tV_to (by rw [decide_eq_true hc4]))

set_option maxRecDepth 10000 in
set_option maxHeartbeats 2000000 in
theorem dq_from {l l1 l2 p q : Nat} {v0 v1 : Value} {w : World} (h0 : (tN B32 l1 p).p v0 w) (h1 : (tN B32 l2 q).p v1 w) (b1 : l1 ≤ 100000000) (b2 : l2 ≤ 100000000) (hp : p < 2 ^ l) (hq : q < 2 ^ l) (hl : 1 ≤ l) :
    Calls Tryz.prog 15 #[v0, v1] w (Ret (tT [tQ B32 l (mkRat p q), tV (.bool (decide (q ≠ 0)))]) w) := by
 refine enter Tryz.func15 rfl Tryz.ntmps15 (by simp) ?_
 intro a hz hd ha
 have S0 := ha 0 _ rfl
 have H0 := h0
 have S1 := ha 1 _ rfl
 have H1 := h1
 clear ha
 have HB : Below w.heap.size w w := Below.refl _ _
 refine wp_seq ?_
 refine rt [rB 0 30 (tN B32 l1 p) none 0, rB 1 30 (tN B32 l2 q) none 0, rB 2 32 (tR B32 0 0 0 0) none 0, rV (.bool false)] hz hd ?_ ?_
 refine ⟨?_, ?_, ?_, ?_, trivial⟩
 exact zBox hz (so S0 H0) box_n32
 exact zBox hz (so S1 H1) box_n32
 exact zNew hz (fun _ => tR_nil) al_r32
 exact zAs hz kc
 clear hz hd
 intro a' γ' W' hz hd hC hk hh
 clear S0 H0
 clear S1 H1
 obtain ⟨p1, S2, Cp1, lp1, gp1⟩ := gotB hz 0 hC hh rfl rfl rfl rfl rfl rfl
 obtain ⟨p2, S3, Cp2, lp2, gp2⟩ := gotB hz 1 hC hh rfl rfl rfl rfl rfl rfl
 obtain ⟨p3, S4, Cp3, lp3, gp3⟩ := gotB hz 2 hC hh rfl rfl rfl rfl rfl rfl
 have S5 := gV hz 3 hh
 have n_p1_p3 : p1 ≠ p3 := by intro e; rw [e, gp3] at gp1; omega
 have n_p2_p3 : p2 ≠ p3 := by intro e; rw [e, gp3] at gp2; omega
 have bp3 := Nat.le_trans HB.size lp3
 clear lp1 gp1 lp2 gp2 lp3 gp3
 replace HB := aB HB hC
 clear hC hk hh
 refine wp_seq ?_
 refine wp_seq ?_
 refine rt [rT (tN B32 l2 q), rV (.bool (decide (q = 0)))] hz hd ?_ ?_
 refine ⟨?_, ?_, trivial⟩
 exact zLd hz (sv S3) Cp2 ld_n32
 exact zC1 hz Tryz.func64 (sd 0 rfl) (fun _ _ h0 => d_zero h0)
 clear hz hd
 intro a' γ' W' hz hd hC hk hh
 replace Cp1 := kC hC Cp1
 replace Cp2 := kC hC Cp2
 have tp3 := Cp3.lt
 replace Cp3 := kC hC Cp3
 replace S2 := kp hk S2
 replace S3 := kp hk S3
 replace S4 := kp hk S4
 replace S5 := kp hk S5
 have S7 := gV hz 1 hh
 clear tp3
 replace HB := aB HB hC
 clear hC hk hh
 by_cases hc4 : q = 0
 rw [decide_eq_true hc4] at S7
 refine wp_cond_true S7.ev ?_
 refine wp_seq ?_
 refine region_text (M := [p3]) [rT (tQ B32 1 0), rE 0 32 (tQ B32 1 0) p3, rV (.bool false)] hz hd (by kernel_rfl) ?_ ?_
 refine ⟨?_, ?_, ?_, trivial⟩
 exact zC0 hz Tryz.func58 (fun _ => dq_zero)
 exact zSE rfl (sv S4) (by simp [tagOf]) (Cp3.var tR_nd) (sd 0 rfl) st_q32
 exact zAs hz kc
 clear hz hd
 intro a' γ' W' hz hd hC hk hh
 replace Cp1 := kC hC Cp1 (by simp [tagOf, n_p1_p3])
 replace Cp2 := kC hC Cp2 (by simp [tagOf, n_p2_p3])
 replace Cp3 := gotE (T := tQ B32 1 0) (id := 32) (p := p3) 1 hh rfl rfl
 replace S2 := kp hk S2
 replace S3 := kp hk S3
 replace S4 := kp hk S4
 clear S5
 clear S7
 have S5 := gV hz 2 hh
 replace HB := aM HB hC
 clear hC hk hh
 refine wp_ret ?_
 refine ret_to (T := tT [tQ B32 1 0, tV (.bool false)]) (retct_q32 (by kernel_rfl) S4 S5 hd Cp3 HB) ?_
 exact to2 (fun v w h => by rw [hc4, Rat.mkRat_zero]; exact tQ_le (by decide) hl _ _ h) (tV_to (by rw [decide_eq_false (fun h => h hc4)]))
 rw [decide_eq_false hc4] at S7
 refine wp_cond_false S7.ev ?_
 refine wp_skip ?_
 refine wp_seq ?_
 refine region_text (M := [p3]) [rT (tN B32 l1 p), rT (tN B32 l2 q), rT (tR B32 l1 l2 (p / Nat.gcd p q) (q / Nat.gcd p q)), rE 0 32 (tR B32 l1 l2 (p / Nat.gcd p q) (q / Nat.gcd p q)) p3, rV (.bool true)] hz hd (by kernel_rfl) ?_ ?_
 refine ⟨?_, ?_, ?_, ?_, ?_, trivial⟩
 exact zLd hz (sv S2) Cp1 ld_n32 (by simp [tagOf, n_p1_p3])
 exact zLd hz (sv S3) Cp2 ld_n32 (by simp [tagOf, n_p2_p3])
 exact zC2 hz Tryz.func61 (sd 0 rfl) (sd 1 rfl) (fun _ _ _ h0 h1 => d_made h0 h1 (by omega) (by omega) (by omega))
 exact zSE rfl (sv S4) (by simp [tagOf]) (Cp3.var tR_nd) (sd 2 rfl) st_r32
 exact zAs hz kc
 clear hz hd
 intro a' γ' W' hz hd hC hk hh
 clear Cp1
 clear Cp2
 replace Cp3 := gotE (T := tR B32 l1 l2 (p / Nat.gcd p q) (q / Nat.gcd p q)) (id := 32) (p := p3) 3 hh rfl rfl
 clear S2
 clear S3
 replace S4 := kp hk S4
 clear S5
 clear S7
 have S5 := gV hz 4 hh
 replace HB := aM HB hC
 clear hC hk hh
 refine wp_ret ?_
 refine ret_to (T := tT [tR B32 l1 l2 (p / Nat.gcd p q) (q / Nat.gcd p q), tV (.bool true)]) (retct_r32 (by kernel_rfl) S4 S5 hd Cp3 HB) ?_
 exact to2 (fun v w h => tQ_low (by decide) h hc4 rfl hp hq) (tV_to (by rw [decide_eq_true hc4]))

set_option maxRecDepth 10000 in
set_option maxHeartbeats 2000000 in
theorem cq_divint {l1 : Nat} {x : Rat} {n : Int} {v0 : Value} {w : World} (h0 : (tQ B64 l1 x).p v0 w) (b1 : l1 ≤ 10000000) (hn : n < 9223372036854775808) :
    Calls Tryz.prog 36 #[v0, .int .i64 n] w (Ret (tT [tQ B64 (l1 + 64) (divI x n), tV (.bool (decide (1 ≤ n)))]) w) := by
 refine enter Tryz.func36 rfl Tryz.ntmps36 (by simp) ?_
 intro a hz hd ha
 have S0 := ha 0 _ rfl
 have H0 := h0
 have S1 := ha 1 _ rfl
 clear ha
 have HB : Below w.heap.size w w := Below.refl _ _
 refine wp_seq ?_
 refine rt [rB 0 28 (tQ B64 l1 x) none 0, rB 1 28 (tQ B64 1 0) none 0, rV (.bool false)] hz hd ?_ ?_
 refine ⟨?_, ?_, ?_, trivial⟩
 exact zBox hz (so S0 H0) box_q64
 exact zNew hz (fun _ => tQ_nil) al_r64
 exact zAs hz kc
 clear hz hd
 intro a' γ' W' hz hd hC hk hh
 clear S0 H0
 replace S1 := kp hk S1
 obtain ⟨p1, S2, Cp1, lp1, gp1⟩ := gotB hz 0 hC hh rfl rfl rfl rfl rfl rfl
 obtain ⟨p2, S4, Cp2, lp2, gp2⟩ := gotB hz 1 hC hh rfl rfl rfl rfl rfl rfl
 have S5 := gV hz 2 hh
 have n_p1_p2 : p1 ≠ p2 := by intro e; rw [e, gp2] at gp1; omega
 have bp2 := Nat.le_trans HB.size lp2
 clear lp1 gp1 lp2 gp2
 replace HB := aB HB hC
 clear hC hk hh
 refine wp_seq ?_
 refine rt [rV (.int .i64 n), rT (tT [tQ B64 63 (ofQ n 1), tV (.bool (decide (OfOk n 1)))]), rT (tT [tQ B64 63 (ofQ n 1), tV (.bool (decide (OfOk n 1)))]), rT (tQ B64 63 (ofQ n 1)), rV (.bool (decide (OfOk n 1))), rVar 5 28 2, rB 5 28 (tQ B64 63 (ofQ n 1)) (some 5) 6, rV (.bool (decide (OfOk n 1)))] hz hd ?_ ?_
 refine ⟨?_, ?_, ?_, ?_, ?_, ?_, ?_, ?_, trivial⟩
 exact zMv hz (sv S1)
 exact zC2 hz Tryz.func35 (sd 0 rfl) (kc (v := .int .i64 1)) (k11 (fun _ => cq_of (a := n) (b := 1) (by omega) (by omega)))
 exact zMv hz (sd 1 rfl)
 exact zExt hz (sd 2 rfl)
 exact zExt hz (sd 2 rfl)
 exact zAl hz nd_rat al_r64
 exact zSt (sd 3 rfl) st_q64
 exact zAs hz (sd 4 rfl)
 clear hz hd
 intro a' γ' W' hz hd hC hk hh
 replace Cp1 := kC hC Cp1
 have tp2 := Cp2.lt
 replace Cp2 := kC hC Cp2
 clear S1
 replace S2 := kp hk S2
 replace S4 := kp hk S4
 replace S5 := kp hk S5
 obtain ⟨p3, S6, Cp3, lp3, gp3⟩ := gotB hz 6 hC hh rfl rfl rfl rfl rfl rfl
 have n_p3_p2 : p3 ≠ p2 := by omega
 clear lp3 gp3
 clear tp2
 replace HB := aB HB hC
 clear hC hk hh
 refine wp_seq ?_
 refine region_text (M := [p2]) [rT (tQ B64 l1 x), rT (tQ B64 63 (ofQ n 1)), rT (tT [tQ B64 (l1 + 63 + 1) (x / (ofQ n 1)), tV (.bool (decide (ofQ n 1 ≠ 0)))]), rT (tQ B64 (l1 + 63 + 1) (x / (ofQ n 1))), rV (.bool (decide (ofQ n 1 ≠ 0))), rE 0 28 (tQ B64 (l1 + 63 + 1) (x / (ofQ n 1))) p2, rV (.bool (decide (ofQ n 1 ≠ 0)))] hz hd (by kernel_rfl) ?_ ?_
 refine ⟨?_, ?_, ?_, ?_, ?_, ?_, ?_, trivial⟩
 exact zLd hz (sv S2) Cp1 ld_q64 (by simp [tagOf, n_p1_p2])
 exact zLd hz (sv S6) Cp3 ld_q64 (by simp [tagOf, n_p3_p2])
 exact zC2 hz Tryz.func88 (sd 0 rfl) (sd 1 rfl) (fun _ _ _ h0 h1 => cq_div h0 h1 (by omega) (by decide))
 exact zExt hz (sd 2 rfl)
 exact zExt hz (sd 2 rfl)
 exact zSE rfl (sv S4) (by simp [tagOf]) (Cp2.var tQ_nd) (sd 3 rfl) st_q64
 exact zAs hz (sd 4 rfl)
 clear hz hd
 intro a' γ' W' hz hd hC hk hh
 clear Cp1
 replace Cp2 := gotE (T := tQ B64 (l1 + 63 + 1) (x / (ofQ n 1))) (id := 28) (p := p2) 5 hh rfl rfl
 clear Cp3
 clear S2
 replace S4 := kp hk S4
 clear S5
 clear S6
 have S5 := gV hz 6 hh
 replace HB := aM HB hC
 clear hC hk hh
 refine wp_ret ?_
 refine ret_to (T := tT [tQ B64 (l1 + 63 + 1) (x / (ofQ n 1)), tV (.bool (decide (ofQ n 1 ≠ 0)))]) (retct_q64 (by kernel_rfl) S4 S5 hd Cp2 HB) ?_
 exact to2 (tQ_to (by decide) (divI_of x n) (by omega)) (tV_to (congrArg Value.bool (decide_eq_decide.2 (ofQ_ne n))))

end Go.Proofs.YtfgnleoaibcegaaGreat.Rg
