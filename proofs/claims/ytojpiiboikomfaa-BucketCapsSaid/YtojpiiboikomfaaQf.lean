/-
  Walks and plain laws, put together: TE TF TD TG.
-/
import Derived.Test.YtojpiiboikomfaaQe
set_option linter.unusedVariables false
set_option linter.unusedSimpArgs false
namespace Go.Proofs.Ytojpiiboikomfaa.Rg

open Go.RowKit

theorem tQ32 {l : Nat} {x : Rat} {v : Value} {w : World} (h : (tQ B32 l x).p v w) : ∃ p q, (tR B32 l l p q).p v w ∧ x.num = (p : Int) ∧ x.den = q ∧ 0 < q ∧ p < 2 ^ l ∧ q < 2 ^ l := by
  obtain ⟨p, q, h, e1, e2, e3, h4, h5⟩ := h
  have hq : q ≠ 0 := e3 rfl
  rw [und_of hq] at e2 h5
  exact ⟨p, q, h, e1, e2, by omega, h4, h5⟩
theorem tQ_02 {v : Value} {w : World} : (tR B32 2 2 0 1).p v w → (tQ B32 1 0).p v w := fun h => tQ_mk (by decide) h rfl rfl (fun _ => by decide) (by decide) (by decide)
section

variable {l l1 l2 : Nat} {x y : Rat} {v0 v1 : Value} {w : World}
theorem dq_cmp (h0 : (tQ B32 l1 x).p v0 w) (h1 : (tQ B32 l2 y).p v1 w) (b1 : l1 ≤ 100000000) (b2 : l2 ≤ 100000000) : Calls Try.prog 18 #[v0, v1] w (Ret (tV (.int .i64 (cmpQ x y))) w) := by
  obtain ⟨p, q, h, e1, e2, hq, h3, h4⟩ := tQ32 h0
  obtain ⟨p', q', h', e1', e2', hq', h3', h4'⟩ := tQ32 h1
  rw [← q_cmp e1 e2 e1' e2']
  exact d_rcmp h h' (by omega) (by omega) (by omega) (by omega)
theorem dq_add (h0 : (tQ B32 l1 x).p v0 w) (h1 : (tQ B32 l2 y).p v1 w) (b1 : l1 ≤ 100000000) (b2 : l2 ≤ 100000000) : Calls Try.prog 16 #[v0, v1] w (Ret (tQ B32 (l1 + l2 + 1) (x + y)) w) := by
  obtain ⟨p, q, h, e1, e2, hq, h3, h4⟩ := tQ32 h0
  obtain ⟨p', q', h', e1', e2', hq', h3', h4'⟩ := tQ32 h1
  refine (d_radd h h' (by omega) (by omega) (by omega) (by omega) hq hq').mono ?_
  rintro e w' ⟨v, rfl, hv, hb⟩
  exact ⟨v, rfl, tQ_low (by decide) hv (Nat.mul_ne_zero (by omega) (by omega)) (q_add e1 e2 e1' e2') (bits_cross h3 h4 h3' h4') (bits_le (bits_mul h4 h4') (by omega)), hb⟩
theorem dq_mul (h0 : (tQ B32 l1 x).p v0 w) (h1 : (tQ B32 l2 y).p v1 w) (b1 : l1 ≤ 100000000) (b2 : l2 ≤ 100000000) : Calls Try.prog 41 #[v0, v1] w (Ret (tQ B32 (l1 + l2) (x * y)) w) := by
  obtain ⟨p, q, h, e1, e2, hq, h3, h4⟩ := tQ32 h0
  obtain ⟨p', q', h', e1', e2', hq', h3', h4'⟩ := tQ32 h1
  refine (d_rmul h h' (by omega) (by omega) (by omega) (by omega) hq hq').mono ?_
  rintro e w' ⟨v, rfl, hv, hb⟩
  exact ⟨v, rfl, tQ_low (by decide) hv (Nat.mul_ne_zero (by omega) (by omega)) (q_mul e1 e2 e1' e2') (bits_mul h3 h3') (bits_mul h4 h4'), hb⟩
theorem dq_div (h0 : (tQ B32 l1 x).p v0 w) (h1 : (tQ B32 l2 y).p v1 w) (b1 : l1 ≤ 100000000) (b2 : l2 ≤ 100000000) : Calls Try.prog 39 #[v0, v1] w (Ret (tT [tQ B32 (l1 + l2 + 1) (x / y), tV (.bool (decide (y ≠ 0)))]) w) := by
  obtain ⟨p, q, h, e1, e2, hq, h3, h4⟩ := tQ32 h0
  obtain ⟨p', q', h', e1', e2', hq', h3', h4'⟩ := tQ32 h1
  by_cases hs : p' = 0
  · have hy : y = 0 := (q_zero e1').1 hs
    refine (d_rdiv_z h h' (by omega) (by omega) (by omega) (by omega) (decide_eq_true hs)).mono ?_
    rintro e w' ⟨v, rfl, ⟨m, rfl, hv⟩, hb⟩
    match m, hv with
    | [u1, u2], ⟨hv, hv2, _⟩ =>
      refine ⟨_, rfl, ⟨_, rfl, ?_, by rw [decide_eq_false (fun h => h hy)]; exact hv2, trivial⟩, hb⟩
      rw [hy, Rat.div_def, Rat.inv_zero, Rat.mul_zero]
      exact tQ_le (by decide) (by omega) _ _ (tQ_02 hv)
  · have hy : y ≠ 0 := fun h => hs ((q_zero e1').2 h)
    refine (d_rdiv_p h h' (by omega) (by omega) (by omega) (by omega) (by omega) hq).mono ?_
    rintro e w' ⟨v, rfl, ⟨m, rfl, hv⟩, hb⟩
    match m, hv with
    | [u1, u2], ⟨hv, hv2, _⟩ =>
      refine ⟨_, rfl, ⟨_, rfl, ?_, by rw [decide_eq_true hy]; exact hv2, trivial⟩, hb⟩
      exact tQ_low (by decide) hv (Nat.mul_ne_zero (by omega) hs) (q_div e1 e2 e1' e2') (bits_le (bits_mul h3 h4') (by omega)) (bits_le (bits_mul h4 h3') (by omega))
theorem dq_zero : Calls Try.prog 35 #[] w (Ret (tQ B32 1 0) w) := by
  refine d_qzero.mono ?_
  rintro e w' ⟨v, rfl, hv, hb⟩
  exact ⟨v, rfl, tQ_02 hv, hb⟩
theorem dq_whole {p : Nat} (hp : p < 2 ^ l) (hl : l ≤ 64) : Calls Try.prog 17 #[.int .u64 (p : Int)] w (Ret (tQ B32 (l + 1) (p : Rat)) w) := by
  have h64 : p < B64 := Nat.lt_of_lt_of_le hp (by unfold B64; exact Nat.pow_le_pow_right (by omega) hl)
  refine (d_qwhole h64).mono ?_
  rintro e w' ⟨v, rfl, hv, hb⟩
  exact ⟨v, rfl, tQ_mk (by decide) hv rfl rfl (fun _ => by decide) (bits_le hp (by omega)) (by rw [Nat.pow_succ]; have := Nat.two_pow_pos l; show 1 < _; omega), hb⟩
end

/-! ### In variables -/
section

variable {b l : Nat} {x : Rat}
theorem tQ_nil {w : World} : (tQ B64 1 0).p (.agg #[.slice none 0 0, .slice none 0 0]) w := tQ_0 tR_nil
theorem tQ_nd : ∀ v w, (tQ b l x).p v w → v.cells.size = 2 ∧ ∀ u ∈ v.cells, notDig u := fun v w ⟨_, _, h, _⟩ => tR_nd v w h
theorem ld_q64 {p : Nat} : ∀ v w, (tQ b l x).p v w → Blk w p 55 v.cells → (Instr.loadAt 55 (.pointer (some ⟨p, 0, none⟩))).run Try.prog w = .ok v w := fun v w ⟨_, _, h, _⟩ hb => ld_r64 v w h hb
theorem box_q64 : ∀ v w, (tQ b l x).p v w → (Instr.box 55 v).run Try.prog w = .ok (.pointer (some ⟨w.heap.size, 0, none⟩)) (w.alloc (.cells v.cells 55)) := fun v w ⟨_, _, h, _⟩ => box_r64 v w h
theorem st_q64 : StoreOk Try.prog 55 (tQ b l x) 2 := fun v w p us ⟨_, _, h, _⟩ hk hb => st_r64 v w p us h hk hb
theorem ld_q32 {p : Nat} : ∀ v w, (tQ b l x).p v w → Blk w p 35 v.cells → (Instr.loadAt 35 (.pointer (some ⟨p, 0, none⟩))).run Try.prog w = .ok v w := fun v w ⟨_, _, h, _⟩ hb => ld_r32 v w h hb
theorem box_q32 : ∀ v w, (tQ b l x).p v w → (Instr.box 35 v).run Try.prog w = .ok (.pointer (some ⟨w.heap.size, 0, none⟩)) (w.alloc (.cells v.cells 35)) := fun v w ⟨_, _, h, _⟩ => box_r32 v w h
theorem st_q32 : StoreOk Try.prog 35 (tQ b l x) 2 := fun v w p us ⟨_, _, h, _⟩ hk hb => st_r32 v w p us h hk hb
end
theorem bodyPost_mono {P : Program} {fn : Func} {R R' : Ending → World → Prop} {ex : Exit} {a : Act} {w : World} (h : bodyPost P fn R ex a w) (hR : ∀ e w, R e w → R' e w) : bodyPost P fn R' ex a w := by
  cases ex with
  | normal => obtain ⟨h1, v, h2, h3⟩ := h; exact ⟨h1, v, h2, hR _ _ h3⟩
  | ret => obtain ⟨h1, v, h2, h3⟩ := h; exact ⟨h1, v, h2, hR _ _ h3⟩
  | panic c => exact ⟨h.1, hR _ _ h.2⟩
  | outgrown => exact hR _ _ h
  | exit _ => exact h.elim
  | goto _ => exact h.elim
theorem ret_to {P : Program} {fn : Func} {T T' : Ty} {w0 w : World} {ex : Exit} {a : Act} (h : bodyPost P fn (Ret T w0) ex a w) (hT : ∀ v w, T.p v w → T'.p v w) : bodyPost P fn (Ret T' w0) ex a w :=
  bodyPost_mono h fun e w ⟨v, h1, h2, h3⟩ => ⟨v, h1, hT _ _ h2, h3⟩
theorem to2 {T1 T2 U1 U2 : Ty} (h1 : ∀ v w, T1.p v w → U1.p v w) (h2 : ∀ v w, T2.p v w → U2.p v w) : ∀ v w, (tT [T1, T2]).p v w → (tT [U1, U2]).p v w := by
  rintro v w ⟨m, rfl, h⟩
  match m, h with
  | [a, b], ⟨ha, hb, _⟩ => exact ⟨_, rfl, h1 _ _ ha, h2 _ _ hb, trivial⟩
theorem tQ_to {b l m : Nat} {x y : Rat} (hb : 2 ≤ b) (e : x = y) (hl : l ≤ m) : ∀ v w, (tQ b l x).p v w → (tQ b m y).p v w := by subst e; exact tQ_le hb hl
theorem tV_to {x y : Value} (e : x = y) : ∀ v w, (tV x).p v w → (tV y).p v w := fun v w h => h.trans e
theorem ret1_q64 {fn : Func} {w0 : World} {a : Act} {w : World} {b t1 p1 l : Nat} {x : Rat} (h : fn.results = #[.cell t1 55]) (s1 : Sl a t1 (.pointer (some ⟨p1, 0, none⟩))) (hdf : a.defers = []) (c1 : Cell 55 (tQ b l x) p1 w) (hb : Below w0.heap.size w0 w) : bodyPost Try.prog fn (Ret (tQ b l x) w0) .ret a w := by
  obtain ⟨v, b1, p, q, h', r⟩ := c1
  exact ret_to (ret1_r64 h s1 hdf ⟨v, b1, h'⟩ hb) fun v w hv => ⟨p, q, hv, r⟩
theorem retct_q64 {fn : Func} {w0 : World} {a : Act} {w : World} {b t1 t2 p1 l : Nat} {x : Rat} {v2 : Value} (h : fn.results = #[.cell t1 55, .tmp t2]) (s1 : Sl a t1 (.pointer (some ⟨p1, 0, none⟩))) (s2 : Sl a t2 v2) (hdf : a.defers = []) (c1 : Cell 55 (tQ b l x) p1 w) (hb : Below w0.heap.size w0 w) : bodyPost Try.prog fn (Ret (tT [tQ b l x, tV v2]) w0) .ret a w := by
  obtain ⟨v, b1, p, q, h', r⟩ := c1
  exact ret_to (retct_r64 h s1 s2 hdf ⟨v, b1, h'⟩ hb) (to2 (fun v w hv => ⟨p, q, hv, r⟩) fun _ _ h => h)
theorem retct_q32 {fn : Func} {w0 : World} {a : Act} {w : World} {b t1 t2 p1 l : Nat} {x : Rat} {v2 : Value} (h : fn.results = #[.cell t1 35, .tmp t2]) (s1 : Sl a t1 (.pointer (some ⟨p1, 0, none⟩))) (s2 : Sl a t2 v2) (hdf : a.defers = []) (c1 : Cell 35 (tQ b l x) p1 w) (hb : Below w0.heap.size w0 w) : bodyPost Try.prog fn (Ret (tT [tQ b l x, tV v2]) w0) .ret a w := by
  obtain ⟨v, b1, p, q, h', r⟩ := c1
  exact ret_to (retct_r32 h s1 s2 hdf ⟨v, b1, h'⟩ hb) (to2 (fun v w hv => ⟨p, q, hv, r⟩) fun _ _ h => h)
end Go.Proofs.Ytojpiiboikomfaa.Rg

namespace Go.Proofs.Ytojpiiboikomfaa.Rg

open Go.RowKit

section

variable {P : Prop} [Decidable P] {m : Sem Value} {pr : Program} {w : World}
theorem run_t (h : m.run pr w = .ok (.bool (decide P)) w) (hp : P) : m.run pr w = .ok (.bool true) w := by rw [h, decide_eq_true hp]
theorem run_f (h : m.run pr w = .ok (.bool (decide P)) w) (hp : ¬ P) : m.run pr w = .ok (.bool false) w := by rw [h, decide_eq_false hp]
end
theorem rat_tri (x y : Rat) : x < y ∨ x = y ∨ y < x := by grind
theorem cmpQ_gtr (x y : Rat) : decide (cmpQ x y > 0) = decide (y < x) := by
  unfold cmpQ; rcases rat_tri x y with h | h | h
  · have : ¬ y < x := by grind
    simp [h, this]
  · subst h; simp [Rat.lt_irrefl]
  · have : ¬ x < y := by grind
    simp [h, this]
theorem cmpQ_neg (x y : Rat) : -cmpQ x y = cmpQ y x := by
  unfold cmpQ; rcases rat_tri x y with h | h | h
  · have : ¬ y < x := by grind
    simp [h, this]
  · subst h; simp [Rat.lt_irrefl]
  · have : ¬ x < y := by grind
    simp [h, this]
theorem cmpQ_lss (x y : Rat) : decide (cmpQ x y < 0) = decide (x < y) := by
  rw [← cmpQ_gtr y x, ← cmpQ_neg x y, decide_eq_decide]; omega
section

variable {id id' : TypeId} {ox oy : Operand} {a b : Int} {w : World}
theorem run_gtr : (do eqGuard .gtr id ox oy (.int .i64 a) (.int .i64 b); binOp .gtr id (.int .i64 a) (.int .i64 b) : Sem Value).run Try.prog w = .ok (.bool (decide (a > b))) w := by simp [go_sem]
theorem run_lss : (do eqGuard .lss id ox oy (.int .i64 a) (.int .i64 b); binOp .lss id (.int .i64 a) (.int .i64 b) : Sem Value).run Try.prog w = .ok (.bool (decide (a < b))) w := by simp [go_sem]
theorem run_geq : (do eqGuard .geq id ox oy (.int .i64 a) (.int .i64 b); binOp .geq id (.int .i64 a) (.int .i64 b) : Sem Value).run Try.prog w = .ok (.bool (decide (a ≥ b))) w := by simp [go_sem]
theorem run_eql : (do eqGuard .eql 3 ox oy (.int .i64 a) (.int .i64 b); binOp .eql 3 (.int .i64 a) (.int .i64 b) : Sem Value).run Try.prog w = .ok (.bool (decide (a = b))) w := by
  have e : (a == b) = decide (a = b) := by rw [Bool.eq_iff_iff]; simp
  simp [go_sem, e]
theorem run_gtru : (do eqGuard .gtr id ox oy (.int .u64 a) (.int .u64 b); binOp .gtr id (.int .u64 a) (.int .u64 b) : Sem Value).run Try.prog w = .ok (.bool (decide (a > b))) w := by simp [go_sem]
theorem run_eqlu : (do eqGuard .eql 22 ox oy (.int .u64 a) (.int .u64 b); binOp .eql 22 (.int .u64 a) (.int .u64 b) : Sem Value).run Try.prog w = .ok (.bool (decide (a = b))) w := by
  have e : (a == b) = decide (a = b) := by rw [Bool.eq_iff_iff]; simp
  simp [go_sem, e]
theorem run_cQ_gtr (x y : Rat) (w : World) : (do eqGuard .gtr id ox oy (.int .i64 (cmpQ x y)) (.int .i64 0); binOp .gtr id (.int .i64 (cmpQ x y)) (.int .i64 0) : Sem Value).run Try.prog w = .ok (.bool (decide (y < x))) w := by rw [run_gtr, cmpQ_gtr]
theorem run_cQ_lss (x y : Rat) (w : World) : (do eqGuard .lss id ox oy (.int .i64 (cmpQ x y)) (.int .i64 0); binOp .lss id (.int .i64 (cmpQ x y)) (.int .i64 0) : Sem Value).run Try.prog w = .ok (.bool (decide (x < y))) w := by rw [run_lss, cmpQ_lss]
end
theorem rett2 {P : Program} {fn : Func} {w0 : World} {a : Act} {w : World} {t1 t2 : Nat} {v1 v2 : Value} (h : fn.results = #[.tmp t1, .tmp t2]) (s1 : Sl a t1 v1) (s2 : Sl a t2 v2) (hdf : a.defers = []) (hb : Below w0.heap.size w0 w) : bodyPost P fn (Ret (tT [tV v1, tV v2]) w0) .ret a w := by
  refine bodyPost_ret (v := .tuple #[v1, v2]) ?_ hdf ⟨_, rfl, ⟨[v1, v2], rfl, rfl, rfl, trivial⟩, hb⟩
  unfold Sl at s1 s2
  simp [results, h, go_sem, s1, s2]
section

variable {P : Program} {ops : Array Oper} {Q : Exit → Act → World → Prop} {a0 : Act} {M : List Nat} {W : World} {rels : List Rel} {i : Nat} {o : Oper} {T T' : Ty} {N d : Nat} {x y : Operand}
theorem sUn {op : UnOp} {id : TypeId} {u z : Value} (ho : ops[i]? = some o) (hr : rels[i]? = some (rT (tV z))) (hd : o.dst = some d) (hz : a0.tmps.size = N) (hlt : decide (d < N) = true) (g : Gd ops a0 M W rels i o true)
    (hop : o.op = .unOp op id x) (s : Src ops a0 M W rels i o x (tV u)) (h : ∀ w, (Op.unary op u).run P w = .ok z w) : StepOk P ops a0 M W Q rels i o :=
  sOp ho hr hd hz hlt g fun a γ w U => ⟨z, by
    have hx : a.eval x = u := s a γ w U
    unfold execOp; rw [hop]; simp only [hx, Sem.run_bind, h, Result.andThen, Sem.run_pure], rfl⟩
end

end Go.Proofs.Ytojpiiboikomfaa.Rg

namespace Go.Proofs.Ytojpiiboikomfaa.Rg

open Go.RowKit

def ofQ (a b : Int) : Rat := if 0 ≤ a ∧ 1 ≤ b then mkRat a b.toNat else 0
def OfOk (a b : Int) : Prop := 0 ≤ a ∧ 1 ≤ b
instance (a b : Int) : Decidable (OfOk a b) := inferInstanceAs (Decidable (_ ∧ _))
def mulI (x : Rat) (n : Int) : Rat := if 0 ≤ n then x * n else 0
def divI (x : Rat) (n : Int) : Rat := if 1 ≤ n then x / n else 0
def IntQ (x : Rat) : Prop := x.den = 1 ∧ x.num < 9223372036854775808
instance (x : Rat) : Decidable (IntQ x) := inferInstanceAs (Decidable (_ ∧ _))
theorem ofQ_1 (n : Int) : ofQ n 1 = if 0 ≤ n then (n : Rat) else 0 := by
  unfold ofQ
  by_cases h : 0 ≤ n
  · rw [if_pos ⟨h, by decide⟩, if_pos h]; exact (Rat.mk_eq_mkRat n 1 (by decide) (by simp)).symm
  · rw [if_neg (fun g => h g.1), if_neg h]
theorem mulI_of (x : Rat) (n : Int) : x * ofQ n 1 = mulI x n := by
  rw [ofQ_1]; unfold mulI; split <;> simp
theorem divI_of (x : Rat) (n : Int) : x / ofQ n 1 = divI x n := by
  rw [ofQ_1]; unfold divI
  by_cases h : 1 ≤ n
  · rw [if_pos (by omega), if_pos h]
  · rw [if_neg h]
    by_cases h0 : 0 ≤ n
    · have : n = 0 := by omega
      subst this; rw [if_pos (by decide)]; simp [Rat.div_def]
    · rw [if_neg h0]; simp [Rat.div_def]
theorem ofQ_ne (n : Int) : ofQ n 1 ≠ 0 ↔ 1 ≤ n := by
  rw [ofQ_1]
  by_cases h0 : 0 ≤ n
  · rw [if_pos h0, Ne, Rat.intCast_eq_zero_iff]; omega
  · rw [if_neg h0]; simp; omega
theorem toNat_rat {n : Int} (h : 0 ≤ n) : ((n.toNat : Nat) : Rat) = (n : Rat) := by
  have : ((n.toNat : Nat) : Int) = n := Int.toNat_of_nonneg h
  rw [← Rat.intCast_natCast, this]
section

variable {l l1 : Nat} {x : Rat} {v0 : Value} {w : World}
theorem ldp_q32 {p : Nat} : ∀ v w, (tQ B32 l x).p v w → Blk w p 35 v.cells → ∃ u, (Instr.loadAt 33 (.pointer (some ⟨p, 0, none⟩))).run Try.prog w = .ok u w ∧ (tN B32 l x.num.toNat).p u w := fun v w ⟨_, _, h, e1, _⟩ hb => by rw [e1]; exact ldp_r32 v w h hb
theorem ldq_q32 {p : Nat} : ∀ v w, (tQ B32 l x).p v w → Blk w p 35 v.cells → ∃ u, (Instr.loadAt 33 (.pointer (some ⟨p, 1, none⟩))).run Try.prog w = .ok u w ∧ (tN B32 l x.den).p u w := fun v w ⟨_, q, h, _, e2, e3, _⟩ hb => by rw [e2, und_of (e3 rfl)]; exact ldq_r32 v w h hb
theorem cq_of {a b : Int} (ha : a < 9223372036854775808) (hb : b < 9223372036854775808) : Calls Try.prog 68 #[.int .i64 a, .int .i64 b] w (Ret (tT [tQ B64 63 (ofQ a b), tV (.bool (decide (OfOk a b)))]) w) := by
  by_cases h1 : a < 0
  · refine (c_of_n (l1 := 0) (l2 := 0) (l3 := 0) (l4 := 0) (p := 0) (q := 0) (p' := 0) (q' := 0) h1).mono ?_
    rintro e w' ⟨v, rfl, hv, hb⟩
    refine ⟨v, rfl, to2 (fun v w h => ?_) (tV_to (by rw [decide_eq_false (by unfold OfOk; omega)])) _ _ hv, hb⟩
    unfold ofQ; rw [if_neg (by omega)]; exact tQ_le (by decide) (by omega) _ _ (tQ_0 h)
  · by_cases h2 : b < 1
    · refine (c_of_z (l1 := 0) (l2 := 0) (l3 := 0) (l4 := 0) (p := 0) (q := 0) (p' := 0) (q' := 0) h1 h2).mono ?_
      rintro e w' ⟨v, rfl, hv, hb⟩
      refine ⟨v, rfl, to2 (fun v w h => ?_) (tV_to (by rw [decide_eq_false (by unfold OfOk; omega)])) _ _ hv, hb⟩
      unfold ofQ; rw [if_neg (by omega)]; exact tQ_le (by decide) (by omega) _ _ (tQ_0 h)
    · obtain ⟨a, rfl⟩ := Int.eq_ofNat_of_zero_le (show 0 ≤ a by omega)
      obtain ⟨b, rfl⟩ := Int.eq_ofNat_of_zero_le (show 0 ≤ b by omega)
      have ha' : a < 2 ^ 63 := by omega
      have hb' : b < 2 ^ 63 := by omega
      refine (c_of_p (l1 := 0) (l2 := 0) (l3 := 0) (l4 := 0) (p := 0) (q := 0) (p' := 0) (q' := 0) (x := a) (y := b) (by omega) (by omega) (by omega) (by unfold B64; omega) (by unfold B64; omega)).mono ?_
      rintro e w' ⟨v, rfl, hv, hbl⟩
      refine ⟨v, rfl, to2 (fun v w h => ?_) (tV_to (by rw [decide_eq_true (by unfold OfOk; omega)])) _ _ hv, hbl⟩
      unfold ofQ; rw [if_pos (by omega)]
      exact tQ_low (by decide) h (by omega) (by rw [Int.toNat_natCast]) ha' hb'
end

theorem bl_iff (q : Nat) : ((bl q : Nat) : Int) = 0 ↔ q = 0 := by
  constructor
  · intro h
    rcases Nat.eq_zero_or_pos q with h1 | h1
    · exact h1
    · have := bl_pos (n := q) (by omega); omega
  · rintro rfl; rfl
theorem num_i {x : Rat} (h : 0 ≤ x) : ((x.num.toNat : Nat) : Int) = x.num := Int.toNat_of_nonneg (Rat.num_nonneg.2 h)
set_option maxRecDepth 10000 in
set_option maxHeartbeats 2000000 in
theorem cq_from {l l1 l2 p q : Nat} {v0 v1 : Value} {w : World} (h0 : (tN B64 l1 p).p v0 w) (h1 : (tN B64 l2 q).p v1 w) (b1 : l1 ≤ 100000000) (b2 : l2 ≤ 100000000) (hp : p < 2 ^ l) (hq : q < 2 ^ l) (hl : 1 ≤ l) :
    Calls Try.prog 89 #[v0, v1] w (Ret (tT [tQ B64 l (mkRat p q), tV (.bool (decide (q ≠ 0)))]) w) := by
 refine enter Try.func89 rfl Try.ntmps89 (by simp) ?_
 intro a hz hd ha
 have S0 := ha 0 _ rfl
 have H0 := h0
 have S1 := ha 1 _ rfl
 have H1 := h1
 clear ha
 have HB : Below w.heap.size w w := Below.refl _ _
 refine wp_seq ?_
 refine region_text (M := []) (
  rB 0 53 (tN B64 l1 p) none 0 ::
  rB 1 53 (tN B64 l2 q) none 0 ::
  rB 2 55 (tQ B64 1 0) none 0 ::
  rT (tV (.bool false)) ::
  []) hz hd (by kernel_rfl) ?_ ?_
 refine ⟨?_, ?_, ?_, ?_, trivial⟩
 exact zBox hz (so S0 H0) box_n64
 exact zBox hz (so S1 H1) box_n64
 exact zNew hz (fun _ => tQ_nil) al_r64
 exact zAs hz kc
 intro a' γ' W' hz' hd' hC hk hh
 clear S0 H0
 clear S1 H1
 obtain ⟨p1, S2, Cp1, lp1, gp1⟩ := gotB hz' 0 hC hh rfl rfl rfl rfl rfl rfl
 obtain ⟨p2, S3, Cp2, lp2, gp2⟩ := gotB hz' 1 hC hh rfl rfl rfl rfl rfl rfl
 obtain ⟨p3, S4, Cp3, lp3, gp3⟩ := gotB hz' 2 hC hh rfl rfl rfl rfl rfl rfl
 have S5 := gotV hz' 3 hh rfl rfl rfl rfl
 have n_p1_p3 : p1 ≠ p3 := by intro e; rw [e, gp3] at gp1; omega
 have n_p2_p3 : p2 ≠ p3 := by intro e; rw [e, gp3] at gp2; omega
 have bp3 : w.heap.size ≤ p3 := Nat.le_trans HB.size lp3
 clear lp1 gp1 lp2 gp2 lp3 gp3
 replace HB := aft_call HB (RelC.below_nil hC)
 clear hC hk hh; replace hz := hz'; replace hd := hd'; clear hz' hd'
 refine wp_seq ?_
 refine wp_seq ?_
 refine region_text (M := []) (
  rT (tN B64 l2 q) ::
  rT (tV (.int .i64 ((bl q : Nat) : Int))) ::
  rT (tV (.bool (decide (q = 0)))) ::
  []) hz hd (by kernel_rfl) ?_ ?_
 refine ⟨?_, ?_, ?_, trivial⟩
 exact zLd hz (sv S3) Cp2 ld_n64
 exact zC1 hz Try.func85 (sd 0 rfl) (fun _ _ h0 => c_len h0 (by rw [big_eq]; omega))
 exact sBin rfl rfl rfl hz rfl (Gd.none_ rfl) rfl (sd 1 rfl) kc (fun w => by rw [run_eql]; congr 2; rw [decide_eq_decide]; exact bl_iff q)
 intro a' γ' W' hz' hd' hC hk hh
 replace Cp1 := kC hC Cp1
 replace Cp2 := kC hC Cp2
 have tp3 := Cp3.lt
 replace Cp3 := kC hC Cp3
 replace S2 := kp hk S2
 replace S3 := kp hk S3
 replace S4 := kp hk S4
 replace S5 := kp hk S5
 have S8 := gotV hz' 2 hh rfl rfl rfl rfl
 clear tp3
 replace HB := aft_call HB (RelC.below_nil hC)
 clear hC hk hh; replace hz := hz'; replace hd := hd'; clear hz' hd'
 by_cases hc4 : q = 0
 rw [decide_eq_true hc4] at S8
 refine wp_cond_true S8.ev ?_
 refine wp_seq ?_
 refine region_text (M := [p3]) (
  rT (tQ B64 1 0) ::
  rE 0 55 (tQ B64 1 0) p3 ::
  rT (tV (.bool false)) ::
  []) hz hd (by kernel_rfl) ?_ ?_
 refine ⟨?_, ?_, ?_, trivial⟩
 exact sBuild0 rfl rfl rfl hz rfl (Gd.none_ rfl) rfl bd_r64 (fun _ => tQ_nil)
 exact zSE rfl (sv S4) (by simp [tagOf]) (Cp3.var tQ_nd) (sd 0 rfl) st_q64
 exact zAs hz kc
 intro a' γ' W' hz' hd' hC hk hh
 replace Cp1 := kC hC Cp1 (by simp [tagOf, n_p1_p3])
 replace Cp2 := kC hC Cp2 (by simp [tagOf, n_p2_p3])
 replace Cp3 := gotE (T := tQ B64 1 0) (id := 55) (p := p3) 1 hh rfl rfl
 replace S2 := kp hk S2
 replace S3 := kp hk S3
 replace S4 := kp hk S4
 clear S5
 clear S8
 have S5 := gotV hz' 2 hh rfl rfl rfl rfl
 replace HB := RelC.aftM HB hC (by intro m hm; simp at hm; rcases hm with rfl <;> assumption)
 clear hC hk hh; replace hz := hz'; replace hd := hd'; clear hz' hd'
 refine wp_ret ?_
 refine ret_to (T := tT [tQ B64 1 0, tV (.bool false)]) (retct_q64 (by kernel_rfl) S4 S5 hd Cp3 HB) ?_
 exact to2 (fun v w h => by rw [hc4, Rat.mkRat_zero]; exact tQ_le (by decide) hl _ _ h) (tV_to (by rw [decide_eq_false (fun h => h hc4)]))
 rw [decide_eq_false hc4] at S8
 refine wp_cond_false S8.ev ?_
 refine wp_skip ?_
 refine wp_seq ?_
 refine region_text (M := [p3]) (
  rT (tN B64 l1 p) ::
  rT (tN B64 l2 q) ::
  rT (tR B64 l1 l2 (p / Nat.gcd p q) (q / Nat.gcd p q)) ::
  rE 0 55 (tR B64 l1 l2 (p / Nat.gcd p q) (q / Nat.gcd p q)) p3 ::
  rT (tV (.bool true)) ::
  []) hz hd (by kernel_rfl) ?_ ?_
 refine ⟨?_, ?_, ?_, ?_, ?_, trivial⟩
 exact zLd hz (sv S2) Cp1 ld_n64 (by simp [tagOf, n_p1_p3])
 exact zLd hz (sv S3) Cp2 ld_n64 (by simp [tagOf, n_p2_p3])
 exact zC2 hz Try.func71 (sd 0 rfl) (sd 1 rfl) (fun _ _ _ h0 h1 => c_lowest (l3 := 0) (l4 := 0) (p' := 0) (q' := 0) h0 h1 (by omega) (by omega) (by omega) (by omega))
 exact zSE rfl (sv S4) (by simp [tagOf]) (Cp3.var tQ_nd) (sd 2 rfl) st_r64
 exact zAs hz kc
 intro a' γ' W' hz' hd' hC hk hh
 clear Cp1
 clear Cp2
 replace Cp3 := gotE (T := tR B64 l1 l2 (p / Nat.gcd p q) (q / Nat.gcd p q)) (id := 55) (p := p3) 3 hh rfl rfl
 clear S2
 clear S3
 replace S4 := kp hk S4
 clear S5
 clear S8
 have S5 := gotV hz' 4 hh rfl rfl rfl rfl
 replace HB := RelC.aftM HB hC (by intro m hm; simp at hm; rcases hm with rfl <;> assumption)
 clear hC hk hh; replace hz := hz'; replace hd := hd'; clear hz' hd'
 refine wp_ret ?_
 refine ret_to (T := tT [tR B64 l1 l2 (p / Nat.gcd p q) (q / Nat.gcd p q), tV (.bool true)]) (retct_r64 (by kernel_rfl) S4 S5 hd Cp3 HB) ?_
 exact to2 (fun v w h => tQ_low (by decide) h hc4 rfl hp hq) (tV_to (by rw [decide_eq_true hc4]))

set_option maxRecDepth 10000 in
set_option maxHeartbeats 2000000 in
theorem dq_from {l l1 l2 p q : Nat} {v0 v1 : Value} {w : World} (h0 : (tN B32 l1 p).p v0 w) (h1 : (tN B32 l2 q).p v1 w) (b1 : l1 ≤ 100000000) (b2 : l2 ≤ 100000000) (hp : p < 2 ^ l) (hq : q < 2 ^ l) (hl : 1 ≤ l) :
    Calls Try.prog 37 #[v0, v1] w (Ret (tT [tQ B32 l (mkRat p q), tV (.bool (decide (q ≠ 0)))]) w) := by
 refine enter Try.func37 rfl Try.ntmps37 (by simp) ?_
 intro a hz hd ha
 have S0 := ha 0 _ rfl
 have H0 := h0
 have S1 := ha 1 _ rfl
 have H1 := h1
 clear ha
 have HB : Below w.heap.size w w := Below.refl _ _
 refine wp_seq ?_
 refine region_text (M := []) (
  rB 0 33 (tN B32 l1 p) none 0 ::
  rB 1 33 (tN B32 l2 q) none 0 ::
  rB 2 35 (tR B32 0 0 0 0) none 0 ::
  rT (tV (.bool false)) ::
  []) hz hd (by kernel_rfl) ?_ ?_
 refine ⟨?_, ?_, ?_, ?_, trivial⟩
 exact zBox hz (so S0 H0) box_n32
 exact zBox hz (so S1 H1) box_n32
 exact zNew hz (fun _ => tR_nil) al_r32
 exact zAs hz kc
 intro a' γ' W' hz' hd' hC hk hh
 clear S0 H0
 clear S1 H1
 obtain ⟨p1, S2, Cp1, lp1, gp1⟩ := gotB hz' 0 hC hh rfl rfl rfl rfl rfl rfl
 obtain ⟨p2, S3, Cp2, lp2, gp2⟩ := gotB hz' 1 hC hh rfl rfl rfl rfl rfl rfl
 obtain ⟨p3, S4, Cp3, lp3, gp3⟩ := gotB hz' 2 hC hh rfl rfl rfl rfl rfl rfl
 have S5 := gotV hz' 3 hh rfl rfl rfl rfl
 have n_p1_p3 : p1 ≠ p3 := by intro e; rw [e, gp3] at gp1; omega
 have n_p2_p3 : p2 ≠ p3 := by intro e; rw [e, gp3] at gp2; omega
 have bp3 : w.heap.size ≤ p3 := Nat.le_trans HB.size lp3
 clear lp1 gp1 lp2 gp2 lp3 gp3
 replace HB := aft_call HB (RelC.below_nil hC)
 clear hC hk hh; replace hz := hz'; replace hd := hd'; clear hz' hd'
 refine wp_seq ?_
 refine wp_seq ?_
 refine region_text (M := []) (
  rT (tN B32 l2 q) ::
  rT (tV (.bool (decide (q = 0)))) ::
  []) hz hd (by kernel_rfl) ?_ ?_
 refine ⟨?_, ?_, trivial⟩
 exact zLd hz (sv S3) Cp2 ld_n32
 exact zC1 hz Try.func69 (sd 0 rfl) (fun _ _ h0 => d_zero h0)
 intro a' γ' W' hz' hd' hC hk hh
 replace Cp1 := kC hC Cp1
 replace Cp2 := kC hC Cp2
 have tp3 := Cp3.lt
 replace Cp3 := kC hC Cp3
 replace S2 := kp hk S2
 replace S3 := kp hk S3
 replace S4 := kp hk S4
 replace S5 := kp hk S5
 have S7 := gotV hz' 1 hh rfl rfl rfl rfl
 clear tp3
 replace HB := aft_call HB (RelC.below_nil hC)
 clear hC hk hh; replace hz := hz'; replace hd := hd'; clear hz' hd'
 by_cases hc4 : q = 0
 rw [decide_eq_true hc4] at S7
 refine wp_cond_true S7.ev ?_
 refine wp_seq ?_
 refine region_text (M := [p3]) (
  rT (tQ B32 1 0) ::
  rE 0 35 (tQ B32 1 0) p3 ::
  rT (tV (.bool false)) ::
  []) hz hd (by kernel_rfl) ?_ ?_
 refine ⟨?_, ?_, ?_, trivial⟩
 exact zC0 hz Try.func35 (fun _ => dq_zero)
 exact zSE rfl (sv S4) (by simp [tagOf]) (Cp3.var tR_nd) (sd 0 rfl) st_q32
 exact zAs hz kc
 intro a' γ' W' hz' hd' hC hk hh
 replace Cp1 := kC hC Cp1 (by simp [tagOf, n_p1_p3])
 replace Cp2 := kC hC Cp2 (by simp [tagOf, n_p2_p3])
 replace Cp3 := gotE (T := tQ B32 1 0) (id := 35) (p := p3) 1 hh rfl rfl
 replace S2 := kp hk S2
 replace S3 := kp hk S3
 replace S4 := kp hk S4
 clear S5
 clear S7
 have S5 := gotV hz' 2 hh rfl rfl rfl rfl
 replace HB := RelC.aftM HB hC (by intro m hm; simp at hm; rcases hm with rfl <;> assumption)
 clear hC hk hh; replace hz := hz'; replace hd := hd'; clear hz' hd'
 refine wp_ret ?_
 refine ret_to (T := tT [tQ B32 1 0, tV (.bool false)]) (retct_q32 (by kernel_rfl) S4 S5 hd Cp3 HB) ?_
 exact to2 (fun v w h => by rw [hc4, Rat.mkRat_zero]; exact tQ_le (by decide) hl _ _ h) (tV_to (by rw [decide_eq_false (fun h => h hc4)]))
 rw [decide_eq_false hc4] at S7
 refine wp_cond_false S7.ev ?_
 refine wp_skip ?_
 refine wp_seq ?_
 refine region_text (M := [p3]) (
  rT (tN B32 l1 p) ::
  rT (tN B32 l2 q) ::
  rT (tR B32 l1 l2 (p / Nat.gcd p q) (q / Nat.gcd p q)) ::
  rE 0 35 (tR B32 l1 l2 (p / Nat.gcd p q) (q / Nat.gcd p q)) p3 ::
  rT (tV (.bool true)) ::
  []) hz hd (by kernel_rfl) ?_ ?_
 refine ⟨?_, ?_, ?_, ?_, ?_, trivial⟩
 exact zLd hz (sv S2) Cp1 ld_n32 (by simp [tagOf, n_p1_p3])
 exact zLd hz (sv S3) Cp2 ld_n32 (by simp [tagOf, n_p2_p3])
 exact zC2 hz Try.func42 (sd 0 rfl) (sd 1 rfl) (fun _ _ _ h0 h1 => d_made h0 h1 (by omega) (by omega) (by omega))
 exact zSE rfl (sv S4) (by simp [tagOf]) (Cp3.var tR_nd) (sd 2 rfl) st_r32
 exact zAs hz kc
 intro a' γ' W' hz' hd' hC hk hh
 clear Cp1
 clear Cp2
 replace Cp3 := gotE (T := tR B32 l1 l2 (p / Nat.gcd p q) (q / Nat.gcd p q)) (id := 35) (p := p3) 3 hh rfl rfl
 clear S2
 clear S3
 replace S4 := kp hk S4
 clear S5
 clear S7
 have S5 := gotV hz' 4 hh rfl rfl rfl rfl
 replace HB := RelC.aftM HB hC (by intro m hm; simp at hm; rcases hm with rfl <;> assumption)
 clear hC hk hh; replace hz := hz'; replace hd := hd'; clear hz' hd'
 refine wp_ret ?_
 refine ret_to (T := tT [tR B32 l1 l2 (p / Nat.gcd p q) (q / Nat.gcd p q), tV (.bool true)]) (retct_r32 (by kernel_rfl) S4 S5 hd Cp3 HB) ?_
 exact to2 (fun v w h => tQ_low (by decide) h hc4 rfl hp hq) (tV_to (by rw [decide_eq_true hc4]))

set_option maxRecDepth 10000 in
set_option maxHeartbeats 2000000 in
theorem cq_mulint {l1 : Nat} {x : Rat} {n : Int} {v0 : Value} {w : World} (h0 : (tQ B64 l1 x).p v0 w) (b1 : l1 ≤ 10000000) (hn : n < 9223372036854775808) :
    Calls Try.prog 50 #[v0, .int .i64 n] w (Ret (tT [tQ B64 (l1 + 64) (mulI x n), tV (.bool (decide (0 ≤ n)))]) w) := by
 refine enter Try.func50 rfl Try.ntmps50 (by simp) ?_
 intro a hz hd ha
 have S0 := ha 0 _ rfl
 have H0 := h0
 have S1 := ha 1 _ rfl
 clear ha
 have HB : Below w.heap.size w w := Below.refl _ _
 refine wp_seq ?_
 refine region_text (M := []) (
  rB 0 55 (tQ B64 l1 x) none 0 ::
  rB 1 55 (tQ B64 1 0) none 0 ::
  rT (tV (.bool false)) ::
  []) hz hd (by kernel_rfl) ?_ ?_
 refine ⟨?_, ?_, ?_, trivial⟩
 exact zBox hz (so S0 H0) box_q64
 exact zNew hz (fun _ => tQ_nil) al_r64
 exact zAs hz kc
 intro a' γ' W' hz' hd' hC hk hh
 clear S0 H0
 replace S1 := kp hk S1
 obtain ⟨p1, S2, Cp1, lp1, gp1⟩ := gotB hz' 0 hC hh rfl rfl rfl rfl rfl rfl
 obtain ⟨p2, S4, Cp2, lp2, gp2⟩ := gotB hz' 1 hC hh rfl rfl rfl rfl rfl rfl
 have S5 := gotV hz' 2 hh rfl rfl rfl rfl
 have n_p1_p2 : p1 ≠ p2 := by intro e; rw [e, gp2] at gp1; omega
 have bp2 : w.heap.size ≤ p2 := Nat.le_trans HB.size lp2
 clear lp1 gp1 lp2 gp2
 replace HB := aft_call HB (RelC.below_nil hC)
 clear hC hk hh; replace hz := hz'; replace hd := hd'; clear hz' hd'
 refine wp_seq ?_
 refine region_text (M := []) (
  rT (tV (.int .i64 n)) ::
  rT (tT [tQ B64 63 (ofQ n 1), tV (.bool (decide (OfOk n 1)))]) ::
  rT (tT [tQ B64 63 (ofQ n 1), tV (.bool (decide (OfOk n 1)))]) ::
  rT (tQ B64 63 (ofQ n 1)) ::
  rT (tV (.bool (decide (OfOk n 1)))) ::
  rVar 5 55 2 ::
  rB 5 55 (tQ B64 63 (ofQ n 1)) (some 5) 6 ::
  rT (tV (.bool (decide (OfOk n 1)))) ::
  []) hz hd (by kernel_rfl) ?_ ?_
 refine ⟨?_, ?_, ?_, ?_, ?_, ?_, ?_, ?_, trivial⟩
 exact zMv hz (sv S1)
 exact zC2 hz Try.func68 (sd 0 rfl) (kc (v := .int .i64 1)) (k11 (fun _ => cq_of (a := n) (b := 1) (by omega) (by omega)))
 exact zMv hz (sd 1 rfl)
 exact zExt hz (sd 2 rfl)
 exact zExt hz (sd 2 rfl)
 exact zAl hz nd_rat al_r64
 exact zSt (sd 3 rfl) st_q64
 exact zAs hz (sd 4 rfl)
 intro a' γ' W' hz' hd' hC hk hh
 replace Cp1 := kC hC Cp1
 have tp2 := Cp2.lt
 replace Cp2 := kC hC Cp2
 clear S1
 replace S2 := kp hk S2
 replace S4 := kp hk S4
 replace S5 := kp hk S5
 obtain ⟨p3, S6, Cp3, lp3, gp3⟩ := gotB hz' 6 hC hh rfl rfl rfl rfl rfl rfl
 have S7 := gotV hz' 7 hh rfl rfl rfl rfl
 have n_p3_p2 : p3 ≠ p2 := by omega
 clear lp3 gp3
 clear tp2
 replace HB := aft_call HB (RelC.below_nil hC)
 clear hC hk hh; replace hz := hz'; replace hd := hd'; clear hz' hd'
 refine wp_seq ?_
 refine region_text (M := [p2]) (
  rT (tQ B64 l1 x) ::
  rT (tQ B64 63 (ofQ n 1)) ::
  rT (tQ B64 (l1 + 63) (x * (ofQ n 1))) ::
  rT (tV (.bool (decide (OfOk n 1)))) ::
  rE 0 55 (tQ B64 (l1 + 63) (x * (ofQ n 1))) p2 ::
  rT (tV (.bool (decide (OfOk n 1)))) ::
  []) hz hd (by kernel_rfl) ?_ ?_
 refine ⟨?_, ?_, ?_, ?_, ?_, ?_, trivial⟩
 exact zLd hz (sv S2) Cp1 ld_q64 (by simp [tagOf, n_p1_p2])
 exact zLd hz (sv S6) Cp3 ld_q64 (by simp [tagOf, n_p3_p2])
 exact zC2 hz Try.func82 (sd 0 rfl) (sd 1 rfl) (fun _ _ _ h0 h1 => cq_mul h0 h1 (by omega) (by decide))
 exact zMv hz (sv S7)
 exact zSE rfl (sv S4) (by simp [tagOf]) (Cp2.var tQ_nd) (sd 2 rfl) st_q64
 exact zAs hz (sd 3 rfl)
 intro a' γ' W' hz' hd' hC hk hh
 clear Cp1
 replace Cp2 := gotE (T := tQ B64 (l1 + 63) (x * (ofQ n 1))) (id := 55) (p := p2) 4 hh rfl rfl
 clear Cp3
 clear S2
 replace S4 := kp hk S4
 clear S5
 clear S6
 clear S7
 have S5 := gotV hz' 5 hh rfl rfl rfl rfl
 replace HB := RelC.aftM HB hC (by intro m hm; simp at hm; rcases hm with rfl <;> assumption)
 clear hC hk hh; replace hz := hz'; replace hd := hd'; clear hz' hd'
 refine wp_ret ?_
 refine ret_to (T := tT [tQ B64 (l1 + 63) (x * (ofQ n 1)), tV (.bool (decide (OfOk n 1)))]) (retct_q64 (by kernel_rfl) S4 S5 hd Cp2 HB) ?_
 exact to2 (tQ_to (by decide) (mulI_of x n) (by omega)) (tV_to (congrArg Value.bool (decide_eq_decide.2 (by unfold OfOk; omega))))

set_option maxRecDepth 10000 in
set_option maxHeartbeats 2000000 in
theorem cq_divint {l1 : Nat} {x : Rat} {n : Int} {v0 : Value} {w : World} (h0 : (tQ B64 l1 x).p v0 w) (b1 : l1 ≤ 10000000) (hn : n < 9223372036854775808) :
    Calls Try.prog 33 #[v0, .int .i64 n] w (Ret (tT [tQ B64 (l1 + 64) (divI x n), tV (.bool (decide (1 ≤ n)))]) w) := by
 refine enter Try.func33 rfl Try.ntmps33 (by simp) ?_
 intro a hz hd ha
 have S0 := ha 0 _ rfl
 have H0 := h0
 have S1 := ha 1 _ rfl
 clear ha
 have HB : Below w.heap.size w w := Below.refl _ _
 refine wp_seq ?_
 refine region_text (M := []) (
  rB 0 55 (tQ B64 l1 x) none 0 ::
  rB 1 55 (tQ B64 1 0) none 0 ::
  rT (tV (.bool false)) ::
  []) hz hd (by kernel_rfl) ?_ ?_
 refine ⟨?_, ?_, ?_, trivial⟩
 exact zBox hz (so S0 H0) box_q64
 exact zNew hz (fun _ => tQ_nil) al_r64
 exact zAs hz kc
 intro a' γ' W' hz' hd' hC hk hh
 clear S0 H0
 replace S1 := kp hk S1
 obtain ⟨p1, S2, Cp1, lp1, gp1⟩ := gotB hz' 0 hC hh rfl rfl rfl rfl rfl rfl
 obtain ⟨p2, S4, Cp2, lp2, gp2⟩ := gotB hz' 1 hC hh rfl rfl rfl rfl rfl rfl
 have S5 := gotV hz' 2 hh rfl rfl rfl rfl
 have n_p1_p2 : p1 ≠ p2 := by intro e; rw [e, gp2] at gp1; omega
 have bp2 : w.heap.size ≤ p2 := Nat.le_trans HB.size lp2
 clear lp1 gp1 lp2 gp2
 replace HB := aft_call HB (RelC.below_nil hC)
 clear hC hk hh; replace hz := hz'; replace hd := hd'; clear hz' hd'
 refine wp_seq ?_
 refine region_text (M := []) (
  rT (tV (.int .i64 n)) ::
  rT (tT [tQ B64 63 (ofQ n 1), tV (.bool (decide (OfOk n 1)))]) ::
  rT (tT [tQ B64 63 (ofQ n 1), tV (.bool (decide (OfOk n 1)))]) ::
  rT (tQ B64 63 (ofQ n 1)) ::
  rT (tV (.bool (decide (OfOk n 1)))) ::
  rVar 5 55 2 ::
  rB 5 55 (tQ B64 63 (ofQ n 1)) (some 5) 6 ::
  rT (tV (.bool (decide (OfOk n 1)))) ::
  []) hz hd (by kernel_rfl) ?_ ?_
 refine ⟨?_, ?_, ?_, ?_, ?_, ?_, ?_, ?_, trivial⟩
 exact zMv hz (sv S1)
 exact zC2 hz Try.func68 (sd 0 rfl) (kc (v := .int .i64 1)) (k11 (fun _ => cq_of (a := n) (b := 1) (by omega) (by omega)))
 exact zMv hz (sd 1 rfl)
 exact zExt hz (sd 2 rfl)
 exact zExt hz (sd 2 rfl)
 exact zAl hz nd_rat al_r64
 exact zSt (sd 3 rfl) st_q64
 exact zAs hz (sd 4 rfl)
 intro a' γ' W' hz' hd' hC hk hh
 replace Cp1 := kC hC Cp1
 have tp2 := Cp2.lt
 replace Cp2 := kC hC Cp2
 clear S1
 replace S2 := kp hk S2
 replace S4 := kp hk S4
 replace S5 := kp hk S5
 obtain ⟨p3, S6, Cp3, lp3, gp3⟩ := gotB hz' 6 hC hh rfl rfl rfl rfl rfl rfl
 have n_p3_p2 : p3 ≠ p2 := by omega
 clear lp3 gp3
 clear tp2
 replace HB := aft_call HB (RelC.below_nil hC)
 clear hC hk hh; replace hz := hz'; replace hd := hd'; clear hz' hd'
 refine wp_seq ?_
 refine region_text (M := [p2]) (
  rT (tQ B64 l1 x) ::
  rT (tQ B64 63 (ofQ n 1)) ::
  rT (tT [tQ B64 (l1 + 63 + 1) (x / (ofQ n 1)), tV (.bool (decide (ofQ n 1 ≠ 0)))]) ::
  rT (tQ B64 (l1 + 63 + 1) (x / (ofQ n 1))) ::
  rT (tV (.bool (decide (ofQ n 1 ≠ 0)))) ::
  rE 0 55 (tQ B64 (l1 + 63 + 1) (x / (ofQ n 1))) p2 ::
  rT (tV (.bool (decide (ofQ n 1 ≠ 0)))) ::
  []) hz hd (by kernel_rfl) ?_ ?_
 refine ⟨?_, ?_, ?_, ?_, ?_, ?_, ?_, trivial⟩
 exact zLd hz (sv S2) Cp1 ld_q64 (by simp [tagOf, n_p1_p2])
 exact zLd hz (sv S6) Cp3 ld_q64 (by simp [tagOf, n_p3_p2])
 exact zC2 hz Try.func54 (sd 0 rfl) (sd 1 rfl) (fun _ _ _ h0 h1 => cq_div h0 h1 (by omega) (by decide))
 exact zExt hz (sd 2 rfl)
 exact zExt hz (sd 2 rfl)
 exact zSE rfl (sv S4) (by simp [tagOf]) (Cp2.var tQ_nd) (sd 3 rfl) st_q64
 exact zAs hz (sd 4 rfl)
 intro a' γ' W' hz' hd' hC hk hh
 clear Cp1
 replace Cp2 := gotE (T := tQ B64 (l1 + 63 + 1) (x / (ofQ n 1))) (id := 55) (p := p2) 5 hh rfl rfl
 clear Cp3
 clear S2
 replace S4 := kp hk S4
 clear S5
 clear S6
 have S5 := gotV hz' 6 hh rfl rfl rfl rfl
 replace HB := RelC.aftM HB hC (by intro m hm; simp at hm; rcases hm with rfl <;> assumption)
 clear hC hk hh; replace hz := hz'; replace hd := hd'; clear hz' hd'
 refine wp_ret ?_
 refine ret_to (T := tT [tQ B64 (l1 + 63 + 1) (x / (ofQ n 1)), tV (.bool (decide (ofQ n 1 ≠ 0)))]) (retct_q64 (by kernel_rfl) S4 S5 hd Cp2 HB) ?_
 exact to2 (tQ_to (by decide) (divI_of x n) (by omega)) (tV_to (congrArg Value.bool (decide_eq_decide.2 (ofQ_ne n))))

set_option maxRecDepth 10000 in
set_option maxHeartbeats 2000000 in
theorem dq_of {a1 a2 : Int} {w : World}  (ha : a1 < 9223372036854775808) (hb : a2 < 9223372036854775808) :
    Calls Try.prog 38 #[.int .i64 a1, .int .i64 a2] w (Ret (tT [tQ B32 63 (ofQ a1 a2), tV (.bool (decide (OfOk a1 a2)))]) w) := by
 refine enter Try.func38 rfl Try.ntmps38 (by simp) ?_
 intro a hz hd ha
 have S0 := ha 0 _ rfl
 have S1 := ha 1 _ rfl
 clear ha
 have HB : Below w.heap.size w w := Below.refl _ _
 refine wp_seq ?_
 refine region_text (M := []) (
  rB 0 35 (tR B32 0 0 0 0) none 0 ::
  rT (tV (.bool false)) ::
  []) hz hd (by kernel_rfl) ?_ ?_
 refine ⟨?_, ?_, trivial⟩
 exact zNew hz (fun _ => tR_nil) al_r32
 exact zAs hz kc
 intro a' γ' W' hz' hd' hC hk hh
 replace S0 := kp hk S0
 replace S1 := kp hk S1
 obtain ⟨p1, S4, Cp1, lp1, gp1⟩ := gotB hz' 0 hC hh rfl rfl rfl rfl rfl rfl
 have S5 := gotV hz' 1 hh rfl rfl rfl rfl
 have bp1 : w.heap.size ≤ p1 := Nat.le_trans HB.size lp1
 clear lp1 gp1
 replace HB := aft_call HB (RelC.below_nil hC)
 clear hC hk hh; replace hz := hz'; replace hd := hd'; clear hz' hd'
 refine wp_seq ?_
 refine wp_seq ?_
 by_cases hc2 : a1 < 0
 refine region_text (M := []) (
  rT (tV (.int .i64 a1)) ::
  rT (tV (.bool true)) ::
  rT (tV (.bool true)) ::
  rT (tV undef) ::
  rT (tV undef) ::
  rT (tV (.bool true)) ::
  []) hz hd (by kernel_rfl) ?_ ?_
 refine ⟨?_, ?_, ?_, ?_, ?_, ?_, trivial⟩
 exact zMv hz (sv S0)
 exact sBin rfl rfl rfl hz rfl (Gd.none_ rfl) rfl (sd 0 rfl) kc (fun w => run_t (P := a1 < 0) ((fun w => run_lss) w) hc2)
 exact zMv hz (sd 1 rfl)
 exact zSkU hz (gN 2 rfl)
 exact zSkU hz (gN 2 rfl)
 exact zPT hz (sd 2 rfl) kc
 intro a' γ' W' hz' hd' hC hk hh
 have tp1 := Cp1.lt
 replace Cp1 := kC hC Cp1
 replace S0 := kp hk S0
 replace S1 := kp hk S1
 replace S4 := kp hk S4
 replace S5 := kp hk S5
 have S11 := gotV hz' 5 hh rfl rfl rfl rfl
 clear tp1
 replace HB := aft_call HB (RelC.below_nil hC)
 clear hC hk hh; replace hz := hz'; replace hd := hd'; clear hz' hd'
 refine wp_cond_true S11.ev ?_
 refine wp_seq ?_
 refine region_text (M := [p1]) (
  rT (tQ B32 1 0) ::
  rE 0 35 (tQ B32 1 0) p1 ::
  rT (tV (.bool false)) ::
  []) hz hd (by kernel_rfl) ?_ ?_
 refine ⟨?_, ?_, ?_, trivial⟩
 exact zC0 hz Try.func35 (fun _ => dq_zero)
 exact zSE rfl (sv S4) (by simp [tagOf]) (Cp1.var tR_nd) (sd 0 rfl) st_q32
 exact zAs hz kc
 intro a' γ' W' hz' hd' hC hk hh
 replace Cp1 := gotE (T := tQ B32 1 0) (id := 35) (p := p1) 1 hh rfl rfl
 replace S0 := kp hk S0
 replace S1 := kp hk S1
 replace S4 := kp hk S4
 clear S5
 clear S11
 have S5 := gotV hz' 2 hh rfl rfl rfl rfl
 replace HB := RelC.aftM HB hC (by intro m hm; simp at hm; rcases hm with rfl <;> assumption)
 clear hC hk hh; replace hz := hz'; replace hd := hd'; clear hz' hd'
 refine wp_ret ?_
 refine ret_to (T := tT [tQ B32 1 0, tV (.bool false)]) (retct_q32 (by kernel_rfl) S4 S5 hd Cp1 HB) ?_
 exact to2 (tQ_to (by decide) (by unfold ofQ; rw [if_neg (by omega)]) (by omega)) (tV_to (by rw [decide_eq_false (by unfold OfOk; omega)]))
 refine region_text (M := []) (
  rT (tV (.int .i64 a1)) ::
  rT (tV (.bool false)) ::
  rT (tV (.bool false)) ::
  rT (tV (.int .i64 a2)) ::
  rT (tV (.bool (decide (a2 < 1)))) ::
  rT (tV (.bool (decide (a2 < 1)))) ::
  []) hz hd (by kernel_rfl) ?_ ?_
 refine ⟨?_, ?_, ?_, ?_, ?_, ?_, trivial⟩
 exact zMv hz (sv S0)
 exact sBin rfl rfl rfl hz rfl (Gd.none_ rfl) rfl (sd 0 rfl) kc (fun w => run_f (P := a1 < 0) ((fun w => run_lss) w) hc2)
 exact zMv hz (sd 1 rfl)
 exact zMv hz (sv S1) (g := gT 2 rfl)
 exact sBin rfl rfl rfl hz rfl (gT 2 rfl) rfl (sd 3 rfl) kc (fun w => run_lss)
 exact zPF hz (sd 2 rfl) (sd 4 rfl)
 intro a' γ' W' hz' hd' hC hk hh
 have tp1 := Cp1.lt
 replace Cp1 := kC hC Cp1
 replace S0 := kp hk S0
 replace S1 := kp hk S1
 replace S4 := kp hk S4
 replace S5 := kp hk S5
 have S11 := gotV hz' 5 hh rfl rfl rfl rfl
 clear tp1
 replace HB := aft_call HB (RelC.below_nil hC)
 clear hC hk hh; replace hz := hz'; replace hd := hd'; clear hz' hd'
 by_cases hc3 : a2 < 1
 rw [decide_eq_true hc3] at S11
 refine wp_cond_true S11.ev ?_
 refine wp_seq ?_
 refine region_text (M := [p1]) (
  rT (tQ B32 1 0) ::
  rE 0 35 (tQ B32 1 0) p1 ::
  rT (tV (.bool false)) ::
  []) hz hd (by kernel_rfl) ?_ ?_
 refine ⟨?_, ?_, ?_, trivial⟩
 exact zC0 hz Try.func35 (fun _ => dq_zero)
 exact zSE rfl (sv S4) (by simp [tagOf]) (Cp1.var tR_nd) (sd 0 rfl) st_q32
 exact zAs hz kc
 intro a' γ' W' hz' hd' hC hk hh
 replace Cp1 := gotE (T := tQ B32 1 0) (id := 35) (p := p1) 1 hh rfl rfl
 replace S0 := kp hk S0
 replace S1 := kp hk S1
 replace S4 := kp hk S4
 clear S5
 clear S11
 have S5 := gotV hz' 2 hh rfl rfl rfl rfl
 replace HB := RelC.aftM HB hC (by intro m hm; simp at hm; rcases hm with rfl <;> assumption)
 clear hC hk hh; replace hz := hz'; replace hd := hd'; clear hz' hd'
 refine wp_ret ?_
 refine ret_to (T := tT [tQ B32 1 0, tV (.bool false)]) (retct_q32 (by kernel_rfl) S4 S5 hd Cp1 HB) ?_
 exact to2 (tQ_to (by decide) (by unfold ofQ; rw [if_neg (by omega)]) (by omega)) (tV_to (by rw [decide_eq_false (by unfold OfOk; omega)]))
 rw [decide_eq_false hc3] at S11
 refine wp_cond_false S11.ev ?_
 refine wp_skip ?_
 refine wp_seq ?_
 refine region_text (M := [p1]) (
  rT (tV (.int .i64 a1)) ::
  rT (tV (.int .u64 ((a1.toNat : Nat) : Int))) ::
  rT (tN B32 2 a1.toNat) ::
  rT (tV (.int .i64 a2)) ::
  rT (tV (.int .u64 ((a2.toNat : Nat) : Int))) ::
  rT (tN B32 2 a2.toNat) ::
  rT (tR B32 2 2 (a1.toNat / Nat.gcd a1.toNat a2.toNat) (a2.toNat / Nat.gcd a1.toNat a2.toNat)) ::
  rE 0 35 (tR B32 2 2 (a1.toNat / Nat.gcd a1.toNat a2.toNat) (a2.toNat / Nat.gcd a1.toNat a2.toNat)) p1 ::
  rT (tV (.bool true)) ::
  []) hz hd (by kernel_rfl) ?_ ?_
 refine ⟨?_, ?_, ?_, ?_, ?_, ?_, ?_, ?_, ?_, trivial⟩
 exact zMv hz (sv S0)
 exact sConv (T' := tV (.int .i64 a1)) rfl rfl rfl hz rfl (Gd.none_ rfl) rfl (sd 0 rfl) (fun v_ w_ h_ => by have h_ : v_ = .int .i64 a1 := h_; subst h_; exact ⟨_, by simp [go_sem, IntKind.wrap_u64]; omega, rfl⟩)
 exact zC1 hz Try.func21 (sd 1 rfl) (k1 (fun _ => d_of (by unfold B64; omega)))
 exact zMv hz (sv S1)
 exact sConv (T' := tV (.int .i64 a2)) rfl rfl rfl hz rfl (Gd.none_ rfl) rfl (sd 3 rfl) (fun v_ w_ h_ => by have h_ : v_ = .int .i64 a2 := h_; subst h_; exact ⟨_, by simp [go_sem, IntKind.wrap_u64]; omega, rfl⟩)
 exact zC1 hz Try.func21 (sd 4 rfl) (k1 (fun _ => d_of (by unfold B64; omega)))
 exact zC2 hz Try.func42 (sd 2 rfl) (sd 5 rfl) (fun _ _ _ h0 h1 => d_made h0 h1 (by omega) (by omega) (by omega))
 exact zSE rfl (sv S4) (by simp [tagOf]) (Cp1.var tR_nd) (sd 6 rfl) st_r32
 exact zAs hz kc
 intro a' γ' W' hz' hd' hC hk hh
 replace Cp1 := gotE (T := tR B32 2 2 (a1.toNat / Nat.gcd a1.toNat a2.toNat) (a2.toNat / Nat.gcd a1.toNat a2.toNat)) (id := 35) (p := p1) 7 hh rfl rfl
 clear S0
 clear S1
 replace S4 := kp hk S4
 clear S5
 clear S11
 have S5 := gotV hz' 8 hh rfl rfl rfl rfl
 replace HB := RelC.aftM HB hC (by intro m hm; simp at hm; rcases hm with rfl <;> assumption)
 clear hC hk hh; replace hz := hz'; replace hd := hd'; clear hz' hd'
 refine wp_ret ?_
 refine ret_to (T := tT [tR B32 2 2 (a1.toNat / Nat.gcd a1.toNat a2.toNat) (a2.toNat / Nat.gcd a1.toNat a2.toNat), tV (.bool true)]) (retct_r32 (by kernel_rfl) S4 S5 hd Cp1 HB) ?_
 exact to2 (fun v w h => by unfold ofQ; rw [if_pos (by omega)]; exact tQ_low (by decide) h (by omega) (by rw [Int.toNat_of_nonneg (by omega)]) (by omega) (by omega)) (tV_to (by rw [decide_eq_true (by unfold OfOk; omega)]))

set_option maxRecDepth 10000 in
set_option maxHeartbeats 2000000 in
theorem dq_mulint {l1 : Nat} {x : Rat} {n : Int} {v0 : Value} {w : World} (h0 : (tQ B32 l1 x).p v0 w) (b1 : l1 ≤ 10000000) (hn : n < 9223372036854775808) :
    Calls Try.prog 15 #[v0, .int .i64 n] w (Ret (tT [tQ B32 (l1 + 64) (mulI x n), tV (.bool (decide (0 ≤ n)))]) w) := by
 refine enter Try.func15 rfl Try.ntmps15 (by simp) ?_
 intro a hz hd ha
 have S0 := ha 0 _ rfl
 have H0 := h0
 have S1 := ha 1 _ rfl
 clear ha
 have HB : Below w.heap.size w w := Below.refl _ _
 refine wp_seq ?_
 refine region_text (M := []) (
  rB 0 35 (tQ B32 l1 x) none 0 ::
  rB 1 35 (tR B32 0 0 0 0) none 0 ::
  rT (tV (.bool false)) ::
  []) hz hd (by kernel_rfl) ?_ ?_
 refine ⟨?_, ?_, ?_, trivial⟩
 exact zBox hz (so S0 H0) box_q32
 exact zNew hz (fun _ => tR_nil) al_r32
 exact zAs hz kc
 intro a' γ' W' hz' hd' hC hk hh
 clear S0 H0
 replace S1 := kp hk S1
 obtain ⟨p1, S2, Cp1, lp1, gp1⟩ := gotB hz' 0 hC hh rfl rfl rfl rfl rfl rfl
 obtain ⟨p2, S4, Cp2, lp2, gp2⟩ := gotB hz' 1 hC hh rfl rfl rfl rfl rfl rfl
 have S5 := gotV hz' 2 hh rfl rfl rfl rfl
 have n_p1_p2 : p1 ≠ p2 := by intro e; rw [e, gp2] at gp1; omega
 have bp2 : w.heap.size ≤ p2 := Nat.le_trans HB.size lp2
 clear lp1 gp1 lp2 gp2
 replace HB := aft_call HB (RelC.below_nil hC)
 clear hC hk hh; replace hz := hz'; replace hd := hd'; clear hz' hd'
 refine wp_seq ?_
 refine wp_seq ?_
 refine region_text (M := []) (
  rT (tV (.int .i64 n)) ::
  rT (tV (.bool (decide (n < 0)))) ::
  []) hz hd (by kernel_rfl) ?_ ?_
 refine ⟨?_, ?_, trivial⟩
 exact zMv hz (sv S1)
 exact sBin rfl rfl rfl hz rfl (Gd.none_ rfl) rfl (sd 0 rfl) kc (fun w => run_lss)
 intro a' γ' W' hz' hd' hC hk hh
 replace Cp1 := kC hC Cp1
 have tp2 := Cp2.lt
 replace Cp2 := kC hC Cp2
 replace S1 := kp hk S1
 replace S2 := kp hk S2
 replace S4 := kp hk S4
 replace S5 := kp hk S5
 have S7 := gotV hz' 1 hh rfl rfl rfl rfl
 clear tp2
 replace HB := aft_call HB (RelC.below_nil hC)
 clear hC hk hh; replace hz := hz'; replace hd := hd'; clear hz' hd'
 by_cases hc3 : n < 0
 rw [decide_eq_true hc3] at S7
 refine wp_cond_true S7.ev ?_
 refine wp_seq ?_
 refine region_text (M := [p2]) (
  rT (tQ B32 1 0) ::
  rE 0 35 (tQ B32 1 0) p2 ::
  rT (tV (.bool false)) ::
  []) hz hd (by kernel_rfl) ?_ ?_
 refine ⟨?_, ?_, ?_, trivial⟩
 exact zC0 hz Try.func35 (fun _ => dq_zero)
 exact zSE rfl (sv S4) (by simp [tagOf]) (Cp2.var tR_nd) (sd 0 rfl) st_q32
 exact zAs hz kc
 intro a' γ' W' hz' hd' hC hk hh
 replace Cp1 := kC hC Cp1 (by simp [tagOf, n_p1_p2])
 replace Cp2 := gotE (T := tQ B32 1 0) (id := 35) (p := p2) 1 hh rfl rfl
 replace S1 := kp hk S1
 replace S2 := kp hk S2
 replace S4 := kp hk S4
 clear S5
 clear S7
 have S5 := gotV hz' 2 hh rfl rfl rfl rfl
 replace HB := RelC.aftM HB hC (by intro m hm; simp at hm; rcases hm with rfl <;> assumption)
 clear hC hk hh; replace hz := hz'; replace hd := hd'; clear hz' hd'
 refine wp_ret ?_
 refine ret_to (T := tT [tQ B32 1 0, tV (.bool false)]) (retct_q32 (by kernel_rfl) S4 S5 hd Cp2 HB) ?_
 exact to2 (tQ_to (by decide) (by unfold mulI; rw [if_neg (by omega)]) (by omega)) (tV_to (by rw [decide_eq_false (by omega)]))
 rw [decide_eq_false hc3] at S7
 refine wp_cond_false S7.ev ?_
 refine wp_skip ?_
 refine wp_seq ?_
 refine region_drawn (M := [p2]) (
  rT (tQ B32 l1 x) ::
  rT (tV (.int .i64 n)) ::
  rT (tV (.int .u64 ((n.toNat : Nat) : Int))) ::
  rT (tQ B32 64 (((n.toNat : Nat) : Rat))) ::
  rT (tQ B32 (l1 + 64) (x * (((n.toNat : Nat) : Rat)))) ::
  rE 0 35 (tQ B32 (l1 + 64) (x * (((n.toNat : Nat) : Rat)))) p2 ::
  rT (tV (.bool true)) ::
  []) hz hd (by kernel_rfl) (by kernel_rfl) ?_ ?_
 refine ⟨?_, ?_, ?_, ?_, ?_, ?_, ?_, trivial⟩
 exact zLd hz (sv S2) Cp1 ld_q32 (by simp [tagOf, n_p1_p2])
 exact zMv hz (sv S1)
 exact sConv (T' := tV (.int .i64 n)) rfl rfl rfl hz rfl (Gd.none_ rfl) rfl (sd 1 rfl) (fun v_ w_ h_ => by have h_ : v_ = .int .i64 n := h_; subst h_; exact ⟨_, by simp [go_sem, IntKind.wrap_u64]; omega, rfl⟩)
 exact zC1 hz Try.func17 (sd 2 rfl) (k1 (fun _ => dq_whole (l := 63) (by omega) (by decide)))
 exact zC2 hz Try.func41 (sd 0 rfl) (sd 3 rfl) (fun _ _ _ h0 h1 => dq_mul h0 h1 (by omega) (by decide))
 exact zSE rfl (sv S4) (by simp [tagOf]) (Cp2.var tR_nd) (sd 4 rfl) st_q32
 exact zAs hz kc
 intro a' γ' W' hz' hd' hC hk hh
 clear Cp1
 replace Cp2 := gotE (T := tQ B32 (l1 + 64) (x * (((n.toNat : Nat) : Rat)))) (id := 35) (p := p2) 5 hh rfl rfl
 clear S1
 clear S2
 replace S4 := kp hk S4
 clear S5
 clear S7
 have S5 := gotV hz' 6 hh rfl rfl rfl rfl
 replace HB := RelC.aftM HB hC (by intro m hm; simp at hm; rcases hm with rfl <;> assumption)
 clear hC hk hh; replace hz := hz'; replace hd := hd'; clear hz' hd'
 refine wp_ret ?_
 refine ret_to (T := tT [tQ B32 (l1 + 64) (x * (((n.toNat : Nat) : Rat))), tV (.bool true)]) (retct_q32 (by kernel_rfl) S4 S5 hd Cp2 HB) ?_
 exact to2 (tQ_to (by decide) (by unfold mulI; rw [if_pos (by omega), toNat_rat (by omega)]) (by omega)) (tV_to (by rw [decide_eq_true (by omega)]))

set_option maxRecDepth 10000 in
set_option maxHeartbeats 2000000 in
theorem dq_divint {l1 : Nat} {x : Rat} {n : Int} {v0 : Value} {w : World} (h0 : (tQ B32 l1 x).p v0 w) (b1 : l1 ≤ 10000000) (hn : n < 9223372036854775808) :
    Calls Try.prog 13 #[v0, .int .i64 n] w (Ret (tT [tQ B32 (l1 + 65) (divI x n), tV (.bool (decide (1 ≤ n)))]) w) := by
 refine enter Try.func13 rfl Try.ntmps13 (by simp) ?_
 intro a hz hd ha
 have S0 := ha 0 _ rfl
 have H0 := h0
 have S1 := ha 1 _ rfl
 clear ha
 have HB : Below w.heap.size w w := Below.refl _ _
 refine wp_seq ?_
 refine region_text (M := []) (
  rB 0 35 (tQ B32 l1 x) none 0 ::
  rB 1 35 (tR B32 0 0 0 0) none 0 ::
  rT (tV (.bool false)) ::
  []) hz hd (by kernel_rfl) ?_ ?_
 refine ⟨?_, ?_, ?_, trivial⟩
 exact zBox hz (so S0 H0) box_q32
 exact zNew hz (fun _ => tR_nil) al_r32
 exact zAs hz kc
 intro a' γ' W' hz' hd' hC hk hh
 clear S0 H0
 replace S1 := kp hk S1
 obtain ⟨p1, S2, Cp1, lp1, gp1⟩ := gotB hz' 0 hC hh rfl rfl rfl rfl rfl rfl
 obtain ⟨p2, S4, Cp2, lp2, gp2⟩ := gotB hz' 1 hC hh rfl rfl rfl rfl rfl rfl
 have S5 := gotV hz' 2 hh rfl rfl rfl rfl
 have n_p1_p2 : p1 ≠ p2 := by intro e; rw [e, gp2] at gp1; omega
 have bp2 : w.heap.size ≤ p2 := Nat.le_trans HB.size lp2
 clear lp1 gp1 lp2 gp2
 replace HB := aft_call HB (RelC.below_nil hC)
 clear hC hk hh; replace hz := hz'; replace hd := hd'; clear hz' hd'
 refine wp_seq ?_
 refine wp_seq ?_
 refine region_text (M := []) (
  rT (tV (.int .i64 n)) ::
  rT (tV (.bool (decide (n < 1)))) ::
  []) hz hd (by kernel_rfl) ?_ ?_
 refine ⟨?_, ?_, trivial⟩
 exact zMv hz (sv S1)
 exact sBin rfl rfl rfl hz rfl (Gd.none_ rfl) rfl (sd 0 rfl) kc (fun w => run_lss)
 intro a' γ' W' hz' hd' hC hk hh
 replace Cp1 := kC hC Cp1
 have tp2 := Cp2.lt
 replace Cp2 := kC hC Cp2
 replace S1 := kp hk S1
 replace S2 := kp hk S2
 replace S4 := kp hk S4
 replace S5 := kp hk S5
 have S7 := gotV hz' 1 hh rfl rfl rfl rfl
 clear tp2
 replace HB := aft_call HB (RelC.below_nil hC)
 clear hC hk hh; replace hz := hz'; replace hd := hd'; clear hz' hd'
 by_cases hc3 : n < 1
 rw [decide_eq_true hc3] at S7
 refine wp_cond_true S7.ev ?_
 refine wp_seq ?_
 refine region_text (M := [p2]) (
  rT (tQ B32 1 0) ::
  rE 0 35 (tQ B32 1 0) p2 ::
  rT (tV (.bool false)) ::
  []) hz hd (by kernel_rfl) ?_ ?_
 refine ⟨?_, ?_, ?_, trivial⟩
 exact zC0 hz Try.func35 (fun _ => dq_zero)
 exact zSE rfl (sv S4) (by simp [tagOf]) (Cp2.var tR_nd) (sd 0 rfl) st_q32
 exact zAs hz kc
 intro a' γ' W' hz' hd' hC hk hh
 replace Cp1 := kC hC Cp1 (by simp [tagOf, n_p1_p2])
 replace Cp2 := gotE (T := tQ B32 1 0) (id := 35) (p := p2) 1 hh rfl rfl
 replace S1 := kp hk S1
 replace S2 := kp hk S2
 replace S4 := kp hk S4
 clear S5
 clear S7
 have S5 := gotV hz' 2 hh rfl rfl rfl rfl
 replace HB := RelC.aftM HB hC (by intro m hm; simp at hm; rcases hm with rfl <;> assumption)
 clear hC hk hh; replace hz := hz'; replace hd := hd'; clear hz' hd'
 refine wp_ret ?_
 refine ret_to (T := tT [tQ B32 1 0, tV (.bool false)]) (retct_q32 (by kernel_rfl) S4 S5 hd Cp2 HB) ?_
 exact to2 (tQ_to (by decide) (by unfold divI; rw [if_neg (by omega)]) (by omega)) (tV_to (by rw [decide_eq_false (by omega)]))
 rw [decide_eq_false hc3] at S7
 refine wp_cond_false S7.ev ?_
 refine wp_skip ?_
 refine wp_seq ?_
 refine region_drawn (M := [p2]) (
  rT (tQ B32 l1 x) ::
  rT (tV (.int .i64 n)) ::
  rT (tV (.int .u64 ((n.toNat : Nat) : Int))) ::
  rT (tQ B32 64 (((n.toNat : Nat) : Rat))) ::
  rT (tT [tQ B32 (l1 + 64 + 1) (x / (((n.toNat : Nat) : Rat))), tV (.bool (decide (((n.toNat : Nat) : Rat) ≠ 0)))]) ::
  rT (tQ B32 (l1 + 64 + 1) (x / (((n.toNat : Nat) : Rat)))) ::
  rT (tV (.bool (decide (((n.toNat : Nat) : Rat) ≠ 0)))) ::
  rE 0 35 (tQ B32 (l1 + 64 + 1) (x / (((n.toNat : Nat) : Rat)))) p2 ::
  rT (tV (.bool (decide (((n.toNat : Nat) : Rat) ≠ 0)))) ::
  []) hz hd (by kernel_rfl) (by kernel_rfl) ?_ ?_
 refine ⟨?_, ?_, ?_, ?_, ?_, ?_, ?_, ?_, ?_, trivial⟩
 exact zLd hz (sv S2) Cp1 ld_q32 (by simp [tagOf, n_p1_p2])
 exact zMv hz (sv S1)
 exact sConv (T' := tV (.int .i64 n)) rfl rfl rfl hz rfl (Gd.none_ rfl) rfl (sd 1 rfl) (fun v_ w_ h_ => by have h_ : v_ = .int .i64 n := h_; subst h_; exact ⟨_, by simp [go_sem, IntKind.wrap_u64]; omega, rfl⟩)
 exact zC1 hz Try.func17 (sd 2 rfl) (k1 (fun _ => dq_whole (l := 63) (by omega) (by decide)))
 exact zC2 hz Try.func39 (sd 0 rfl) (sd 3 rfl) (fun _ _ _ h0 h1 => dq_div h0 h1 (by omega) (by decide))
 exact zExt hz (sd 4 rfl)
 exact zExt hz (sd 4 rfl)
 exact zSE rfl (sv S4) (by simp [tagOf]) (Cp2.var tR_nd) (sd 5 rfl) st_q32
 exact zAs hz (sd 6 rfl)
 intro a' γ' W' hz' hd' hC hk hh
 clear Cp1
 replace Cp2 := gotE (T := tQ B32 (l1 + 64 + 1) (x / (((n.toNat : Nat) : Rat)))) (id := 35) (p := p2) 7 hh rfl rfl
 clear S1
 clear S2
 replace S4 := kp hk S4
 clear S5
 clear S7
 have S5 := gotV hz' 8 hh rfl rfl rfl rfl
 replace HB := RelC.aftM HB hC (by intro m hm; simp at hm; rcases hm with rfl <;> assumption)
 clear hC hk hh; replace hz := hz'; replace hd := hd'; clear hz' hd'
 refine wp_ret ?_
 refine ret_to (T := tT [tQ B32 (l1 + 64 + 1) (x / (((n.toNat : Nat) : Rat))), tV (.bool (decide (((n.toNat : Nat) : Rat) ≠ 0)))]) (retct_q32 (by kernel_rfl) S4 S5 hd Cp2 HB) ?_
 exact to2 (tQ_to (by decide) (by unfold divI; rw [if_pos (by omega), toNat_rat (by omega)]) (by omega)) (tV_to (congrArg Value.bool (decide_eq_decide.2 (by rw [toNat_rat (by omega), Ne, Rat.intCast_eq_zero_iff]; omega))))

end Go.Proofs.Ytojpiiboikomfaa.Rg

namespace Go.Proofs.Ytojpiiboikomfaa.Rg

open Go.RowKit
section

variable {l k : List Nat}
end
theorem str_eq {ox oy : Operand} (x y : Nat) (w : World) : (do eqGuard .eql 9 ox oy (.string (strB (bytesOf x))) (.string (strB (bytesOf y))); binOp .eql 9 (.string (strB (bytesOf x))) (.string (strB (bytesOf y))) : Sem Value).run Try.prog w = .ok (.bool (decide (x = y))) w := by
  have := bytes_beq x y
  simp [go_sem, this]
theorem rat_same {x y : Rat} (hx : 0 ≤ x) (hy : 0 ≤ y) (h1 : x.num.toNat = y.num.toNat) (h2 : x.den = y.den) : x = y := by
  have a := num_i hx
  have b := num_i hy
  exact Rat.ext (by rw [← a, ← b, h1]) h2

set_option maxRecDepth 10000 in
set_option maxHeartbeats 2000000 in
theorem l_samenat {l1 l2 x y : Nat} {v0 v1 : Value} {w : World} (h0 : (tN B64 l1 x).p v0 w) (h1 : (tN B32 l2 y).p v1 w) (b1 : l1 ≤ 1099511627776) (b2 : l2 ≤ 1099511627776) :
    Calls Try.prog 49 #[v0, v1] w (Ret (tV (.bool (decide (x = y)))) w) := by
 refine enter Try.func49 rfl Try.ntmps49 (by simp) ?_
 intro a hz hd ha
 have S0 := ha 0 _ rfl
 have H0 := h0
 have S1 := ha 1 _ rfl
 have H1 := h1
 clear ha
 have HB : Below w.heap.size w w := Below.refl _ _
 refine wp_seq ?_
 refine region_text (M := []) (
  rB 0 53 (tN B64 l1 x) none 0 ::
  rB 1 33 (tN B32 l2 y) none 0 ::
  rT (tV (.bool false)) ::
  []) hz hd (by kernel_rfl) ?_ ?_
 refine ⟨?_, ?_, ?_, trivial⟩
 exact zBox hz (so S0 H0) box_n64
 exact zBox hz (so S1 H1) box_n32
 exact zAs hz kc
 intro a' γ' W' hz' hd' hC hk hh
 clear S0 H0
 clear S1 H1
 obtain ⟨p1, S2, Cp1, lp1, gp1⟩ := gotB hz' 0 hC hh rfl rfl rfl rfl rfl rfl
 obtain ⟨p2, S3, Cp2, lp2, gp2⟩ := gotB hz' 1 hC hh rfl rfl rfl rfl rfl rfl
 have S4 := gotV hz' 2 hh rfl rfl rfl rfl
 clear lp1 gp1 lp2 gp2
 replace HB := aft_call HB (RelC.below_nil hC)
 clear hC hk hh; replace hz := hz'; replace hd := hd'; clear hz' hd'
 refine wp_seq ?_
 refine region_drawn (M := []) (
  rT (tN B64 l1 x) ::
  rT (tBy (8 * l1) (bytesOf x)) ::
  rT (tV (.string (strB (bytesOf x)))) ::
  rT (tN B32 l2 y) ::
  rT (tBy (8 * l2) (bytesOf y)) ::
  rT (tV (.string (strB (bytesOf y)))) ::
  rT (tV (.bool (decide (x = y)))) ::
  rT (tV (.bool (decide (x = y)))) ::
  []) hz hd (by kernel_rfl) (by kernel_rfl) ?_ ?_
 refine ⟨?_, ?_, ?_, ?_, ?_, ?_, ?_, ?_, trivial⟩
 exact zLd hz (sv S2) Cp1 ld_n64
 exact zC1 hz Try.func80 (sd 0 rfl) (fun _ _ h0 => c_bytes h0 (by rw [big_eq]; omega))
 exact sConv (T' := tBy (8 * l1) (bytesOf x)) rfl rfl rfl hz rfl (Gd.none_ rfl) rfl (sd 1 rfl) (fun v w h => ⟨_, cv_by (lim := 8 * l1) (l := bytesOf x) v w h, rfl⟩)
 exact zLd hz (sv S3) Cp2 ld_n32
 exact zC1 hz Try.func81 (sd 3 rfl) (fun _ _ h0 => d_bytes h0 (by rw [big_eq]; omega))
 exact sConv (T' := tBy (8 * l2) (bytesOf y)) rfl rfl rfl hz rfl (Gd.none_ rfl) rfl (sd 4 rfl) (fun v w h => ⟨_, cv_by (lim := 8 * l2) (l := bytesOf y) v w h, rfl⟩)
 exact sBin rfl rfl rfl hz rfl (Gd.none_ rfl) rfl (sd 2 rfl) (sd 5 rfl) (fun w => str_eq x y w)
 exact zAs hz (sd 6 rfl)
 intro a' γ' W' hz' hd' hC hk hh
 clear Cp1
 clear Cp2
 clear S2
 clear S3
 clear S4
 have S4 := gotV hz' 7 hh rfl rfl rfl rfl
 replace HB := aft_call HB (RelC.below_nil hC)
 clear hC hk hh; replace hz := hz'; replace hd := hd'; clear hz' hd'
 refine wp_ret ?_
 refine ret_to (T := tV (.bool (decide (x = y)))) (ret1 (by kernel_rfl) S4 hd ⟨_, rfl, rfl, HB⟩) ?_
 exact fun _ _ h => h

set_option maxRecDepth 10000 in
set_option maxHeartbeats 2000000 in
theorem l_same {l1 l2 : Nat} {x y : Rat} {v0 v1 : Value} {w : World} (h0 : (tQ B64 l1 x).p v0 w) (h1 : (tQ B32 l2 y).p v1 w) (b1 : l1 ≤ 10000000) (b2 : l2 ≤ 10000000) :
    Calls Try.prog 22 #[v0, v1] w (Ret (tV (.bool (decide (x = y)))) w) := by
 refine enter Try.func22 rfl Try.ntmps22 (by simp) ?_
 intro a hz hd ha
 have S0 := ha 0 _ rfl
 have H0 := h0
 have S1 := ha 1 _ rfl
 have H1 := h1
 clear ha
 have HB : Below w.heap.size w w := Below.refl _ _
 refine wp_seq ?_
 refine region_text (M := []) (
  rB 0 55 (tQ B64 l1 x) none 0 ::
  rB 1 35 (tQ B32 l2 y) none 0 ::
  rT (tV (.bool false)) ::
  []) hz hd (by kernel_rfl) ?_ ?_
 refine ⟨?_, ?_, ?_, trivial⟩
 exact zBox hz (so S0 H0) box_q64
 exact zBox hz (so S1 H1) box_q32
 exact zAs hz kc
 intro a' γ' W' hz' hd' hC hk hh
 clear S0 H0
 clear S1 H1
 obtain ⟨p1, S2, Cp1, lp1, gp1⟩ := gotB hz' 0 hC hh rfl rfl rfl rfl rfl rfl
 obtain ⟨p2, S3, Cp2, lp2, gp2⟩ := gotB hz' 1 hC hh rfl rfl rfl rfl rfl rfl
 have S4 := gotV hz' 2 hh rfl rfl rfl rfl
 clear lp1 gp1 lp2 gp2
 replace HB := aft_call HB (RelC.below_nil hC)
 clear hC hk hh; replace hz := hz'; replace hd := hd'; clear hz' hd'
 refine wp_seq ?_
 refine region_text (M := []) (
  rT (tQ B64 l1 x) ::
  rT (tT [tN B64 l1 x.num.toNat, tN B64 (l1 + 1) x.den]) ::
  rT (tT [tN B64 l1 x.num.toNat, tN B64 (l1 + 1) x.den]) ::
  rT (tN B64 l1 x.num.toNat) ::
  rT (tN B64 (l1 + 1) x.den) ::
  rVar 5 53 1 ::
  rVar 6 53 1 ::
  rB 5 53 (tN B64 l1 x.num.toNat) (some 5) 6 ::
  rB 6 53 (tN B64 (l1 + 1) x.den) (some 6) 7 ::
  []) hz hd (by kernel_rfl) ?_ ?_
 refine ⟨?_, ?_, ?_, ?_, ?_, ?_, ?_, ?_, ?_, trivial⟩
 exact zLd hz (sv S2) Cp1 ld_q64
 exact zC1 hz Try.func48 (sd 0 rfl) (fun _ _ h0 => cq_parts h0 (by omega))
 exact zMv hz (sd 1 rfl)
 exact zExt hz (sd 2 rfl)
 exact zExt hz (sd 2 rfl)
 exact zAl hz nd_slice al_n64
 exact zAl hz nd_slice al_n64
 exact zSt (sd 3 rfl) st_n64
 exact zSt (sd 4 rfl) st_n64
 intro a' γ' W' hz' hd' hC hk hh
 have ep1 := Cp1.lt
 have ep2 := Cp2.lt
 clear Cp1
 replace Cp2 := kC hC Cp2
 clear S2
 replace S3 := kp hk S3
 replace S4 := kp hk S4
 obtain ⟨p3, S5, Cp3, lp3, gp3⟩ := gotB hz' 7 hC hh rfl rfl rfl rfl rfl rfl
 obtain ⟨p4, S6, Cp4, lp4, gp4⟩ := gotB hz' 8 hC hh rfl rfl rfl rfl rfl rfl
 have n_p3_p4 : p3 ≠ p4 := by intro e; rw [e, gp4] at gp3; omega
 have n_p4_p3 : p4 ≠ p3 := by intro e; rw [e, gp3] at gp4; omega
 have n_p2_p3 : p2 ≠ p3 := by have := ep2; omega
 have n_p2_p4 : p2 ≠ p4 := by have := ep2; omega
 have bp3 : w.heap.size ≤ p3 := Nat.le_trans HB.size lp3
 have bp4 : w.heap.size ≤ p4 := Nat.le_trans HB.size lp4
 clear lp3 gp3 lp4 gp4
 clear ep1 ep2
 replace HB := aft_call HB (RelC.below_nil hC)
 clear hC hk hh; replace hz := hz'; replace hd := hd'; clear hz' hd'
 refine wp_seq ?_
 by_cases hc5 : x.num.toNat = y.num.toNat
 refine region_text (M := []) (
  rT (tN B64 l1 x.num.toNat) ::
  rT (tV (.pointer (some ⟨p2, 0, none⟩))) ::
  rT (tN B32 l2 y.num.toNat) ::
  rT (tV (.bool true)) ::
  rT (tV (.bool true)) ::
  rT (tN B64 (l1 + 1) x.den) ::
  rT (tV (.pointer (some ⟨p2, 1, none⟩))) ::
  rT (tN B32 l2 y.den) ::
  rT (tV (.bool (decide (x.den = y.den)))) ::
  rT (tV (.bool (decide (x.den = y.den)))) ::
  rT (tV (.bool (decide (x.den = y.den)))) ::
  []) hz hd (by kernel_rfl) ?_ ?_
 refine ⟨?_, ?_, ?_, ?_, ?_, ?_, ?_, ?_, ?_, ?_, ?_, trivial⟩
 exact zLd hz (sv S5) Cp3 ld_n64
 exact sFA rfl rfl rfl hz rfl (Gd.none_ rfl) rfl (sv S3) (fun w => by simp [go_sem])
 exact zLdP hz (sd 1 rfl) Cp2 ldp_q32
 exact zC2 hz Try.func49 (sd 0 rfl) (sd 2 rfl) (fun _ _ _ h0 h1 => (by have hq := l_samenat h0 h1 (by omega) (by omega); simp only [decide_eq_true hc5] at hq; exact hq))
 exact zMv hz (sd 3 rfl)
 exact zLd hz (sv S6) Cp4 ld_n64 (g := gT 4 rfl)
 exact sFA rfl rfl rfl hz rfl (gT 4 rfl) rfl (sv S3) (fun w => by simp [go_sem])
 exact zLdP hz (sd 6 rfl) Cp2 ldq_q32 (g := gT 4 rfl)
 exact zC2 hz Try.func49 (sd 5 rfl) (sd 7 rfl) (fun _ _ _ h0 h1 => l_samenat h0 h1 (by omega) (by omega)) (g := gT 4 rfl)
 exact zPT hz (sd 4 rfl) (sd 8 rfl)
 exact zAs hz (sd 9 rfl)
 intro a' γ' W' hz' hd' hC hk hh
 clear Cp2
 have tp3 := Cp3.lt
 clear Cp3
 have tp4 := Cp4.lt
 clear Cp4
 clear S3
 clear S4
 clear S5
 clear S6
 have S4 := gotV hz' 10 hh rfl rfl rfl rfl
 clear tp3 tp4
 replace HB := aft_call HB (RelC.below_nil hC)
 clear hC hk hh; replace hz := hz'; replace hd := hd'; clear hz' hd'
 refine wp_ret ?_
 refine ret_to (T := tV (.bool (decide (x.den = y.den)))) (ret1 (by kernel_rfl) S4 hd ⟨_, rfl, rfl, HB⟩) ?_
 exact tV_to (congrArg Value.bool (decide_eq_decide.2 ⟨fun g => rat_same (tQ_nonneg h0) (tQ_nonneg h1) hc5 g, fun g => by rw [g]⟩))
 refine region_text (M := []) (
  rT (tN B64 l1 x.num.toNat) ::
  rT (tV (.pointer (some ⟨p2, 0, none⟩))) ::
  rT (tN B32 l2 y.num.toNat) ::
  rT (tV (.bool false)) ::
  rT (tV (.bool false)) ::
  rT (tV undef) ::
  rT (tV undef) ::
  rT (tV undef) ::
  rT (tV undef) ::
  rT (tV (.bool false)) ::
  rT (tV (.bool false)) ::
  []) hz hd (by kernel_rfl) ?_ ?_
 refine ⟨?_, ?_, ?_, ?_, ?_, ?_, ?_, ?_, ?_, ?_, ?_, trivial⟩
 exact zLd hz (sv S5) Cp3 ld_n64
 exact sFA rfl rfl rfl hz rfl (Gd.none_ rfl) rfl (sv S3) (fun w => by simp [go_sem])
 exact zLdP hz (sd 1 rfl) Cp2 ldp_q32
 exact zC2 hz Try.func49 (sd 0 rfl) (sd 2 rfl) (fun _ _ _ h0 h1 => (by have hq := l_samenat h0 h1 (by omega) (by omega); simp only [decide_eq_false hc5] at hq; exact hq))
 exact zMv hz (sd 3 rfl)
 exact zSkU hz (gN 4 rfl)
 exact zSkU hz (gN 4 rfl)
 exact zSkU hz (gN 4 rfl)
 exact zSkU hz (gN 4 rfl)
 exact zPF hz (sd 4 rfl) kc
 exact zAs hz (sd 9 rfl)
 intro a' γ' W' hz' hd' hC hk hh
 clear Cp2
 have tp3 := Cp3.lt
 clear Cp3
 have tp4 := Cp4.lt
 clear Cp4
 clear S3
 clear S4
 clear S5
 clear S6
 have S4 := gotV hz' 10 hh rfl rfl rfl rfl
 clear tp3 tp4
 replace HB := aft_call HB (RelC.below_nil hC)
 clear hC hk hh; replace hz := hz'; replace hd := hd'; clear hz' hd'
 refine wp_ret ?_
 refine ret_to (T := tV (.bool false)) (ret1 (by kernel_rfl) S4 hd ⟨_, rfl, rfl, HB⟩) ?_
 exact tV_to (by rw [decide_eq_false (fun g => hc5 (by rw [g]))])

end Go.Proofs.Ytojpiiboikomfaa.Rg
