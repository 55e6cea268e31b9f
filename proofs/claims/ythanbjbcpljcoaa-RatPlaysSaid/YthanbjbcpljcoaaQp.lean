/-
  Walks and plain laws.
-/
import Derived.Test.YthanbjbcpljcoaaQf
set_option linter.unusedVariables false
set_option linter.unusedSimpArgs false
namespace Go.Proofs.Ythanbjbcpljcoaa.Rg

open Go.RowKit

theorem rat_addI (x : Rat) (f : Int) : (x + f).num = x.num + f * x.den ∧ (x + f).den = x.den := by
  have hc : Nat.gcd (x.num + f * x.den).natAbs x.den = 1 := by
    have h := x.reduced
    have : Int.gcd (x.num + f * x.den) x.den = 1 := by rw [Int.gcd_add_mul_right_left]; exact h
    simpa [Int.gcd] using this
  have e : x + f = ⟨x.num + f * x.den, x.den, x.den_nz, hc⟩ := by
    rw [Rat.mk_eq_mkRat, Rat.add_def']
    simp
  rw [e]; exact ⟨rfl, rfl⟩
theorem rat_inv {x : Rat} (h : 0 < x) : (1 / x).num = x.den ∧ ((1 / x).den : Int) = x.num := by
  have hn : 0 < x.num := by
    have h1 : 0 ≤ x.num := Rat.num_nonneg.2 (Rat.le_of_lt h)
    have h2 : x.num ≠ 0 := fun e => by rw [Rat.num_eq_zero.1 e] at h; exact Rat.lt_irrefl h
    omega
  rw [Rat.div_def, Rat.one_mul, Rat.num_inv, Rat.den_inv]
  refine ⟨by rw [Int.sign_eq_one_of_pos hn]; omega, ?_⟩
  rw [if_neg (by omega)]; omega
/-- z is the fraction of the least denominator from a to b, and among those the least. -/
structure Sim (a b z : Rat) : Prop where
  lo : a ≤ z
  hi : z ≤ b
  least : ∀ w : Rat, a ≤ w → w ≤ b → z.den ≤ w.den ∧ z.num ≤ w.num
theorem Sim.uniq {a b z z' : Rat} (h : Sim a b z) (h' : Sim a b z') : z = z' := by
  have h1 := h.least z' h'.lo h'.hi
  have h2 := h'.least z h.lo h.hi
  exact Rat.ext (by omega) (by omega)
theorem le_num {w : Rat} (h : 0 ≤ w) : w ≤ (w.num : Rat) := by
  have hn := Rat.num_nonneg.2 h
  have hd := w.den_pos
  rw [Rat.le_iff]
  simp
  have := Int.mul_le_mul_of_nonneg_left (show (1 : Int) ≤ w.den by omega) hn
  simpa using this
theorem sim_int {a b : Rat} (h0 : 0 ≤ a) (h : (a.ceil : Rat) ≤ b) : Sim a b (a.ceil : Rat) :=
  ⟨Rat.le_ceil, h, fun w h1 h2 => ⟨w.den_pos, by
    have : a.ceil ≤ w.num := Rat.ceil_le_iff.2 (Rat.le_trans h1 (le_num (Rat.le_trans h0 h1)))
    simpa using this⟩⟩
section

variable {a b : Rat} (h0 : 0 ≤ a) (hab : a ≤ b) (hc : ¬ (a.ceil : Rat) ≤ b)

include h0 hab hc
theorem fl_lt : (a.floor : Rat) < a := by
  have _ := h0
  have h1 := Rat.floor_le a
  rcases Rat.le_iff_lt_or_eq.1 h1 with h | h
  · exact h
  · exfalso; apply hc
    have : a.ceil = a.floor := by rw [← h]; simp [Rat.ceil_intCast, Rat.floor_intCast]
    rw [this, h]; exact hab
theorem b_lt : b < ((a.floor + 1 : Int) : Rat) := by
  have _ := h0
  have _ := hab
  have h1 : b < (a.ceil : Rat) := Rat.not_le.1 hc
  have h2 : a.ceil ≤ a.floor + 1 := Rat.ceil_le_iff.2 (Rat.le_of_lt (Rat.lt_floor_add_one a))
  exact Std.lt_of_lt_of_le h1 (Rat.intCast_le_intCast.2 h2)
theorem fl_nonneg : 0 ≤ a.floor := by
  have _ := hab
  have _ := hc
  have := Rat.le_floor_iff (x := 0) (a := a)
  exact this.2 (by simpa using h0)
theorem dfs {w : Rat} (h1 : a ≤ w) (h2 : w ≤ b) : 0 < w - a.floor ∧ (1 / (w - a.floor)).num = w.den ∧ ((1 / (w - a.floor)).den : Int) = w.num - a.floor * w.den ∧ (1 / (w - a.floor)).den < w.den := by
  have hf := fl_lt h0 hab hc
  have hb := b_lt h0 hab hc
  have hp : 0 < w - a.floor := by grind
  have hi := rat_inv hp
  have hs := rat_addI w (-a.floor)
  have e : w + ((-a.floor : Int) : Rat) = w - a.floor := by rw [Rat.intCast_neg, Rat.sub_eq_add_neg]
  rw [e] at hs
  rw [hs.1, hs.2] at hi
  refine ⟨hp, hi.1, by rw [hi.2]; rw [Int.neg_mul]; omega, ?_⟩
  have h3 : w < ((a.floor + 1 : Int) : Rat) := by grind
  rw [Rat.lt_iff, Rat.num_intCast, Rat.den_intCast] at h3
  simp at h3
  have h4 := hi.2
  have h5 : (a.floor + 1) * (w.den : Int) = a.floor * w.den + w.den := by rw [Int.add_mul, Int.one_mul]
  rw [Int.neg_mul] at h4
  omega
theorem inv_anti {u v : Rat} (hu : 0 < u) (huv : u ≤ v) : 1 / v ≤ 1 / u := by
  have _ := h0
  have _ := hab
  have _ := hc
  have hv : 0 < v := by grind
  have hu' : 0 < u⁻¹ := Rat.inv_pos.2 hu
  have hv' : 0 < v⁻¹ := Rat.inv_pos.2 hv
  rw [Rat.div_def, Rat.div_def, Rat.one_mul, Rat.one_mul]
  have e1 : v⁻¹ = u * (u⁻¹ * v⁻¹) := by grind
  have e2 : u⁻¹ = v * (u⁻¹ * v⁻¹) := by grind
  rw [e1]; conv => rhs; rw [e2]
  exact Rat.mul_le_mul_of_nonneg_right huv (Rat.le_of_lt (Rat.mul_pos hu' hv'))
theorem sim_step {z : Rat} (hz : Sim (1 / (b - a.floor)) (1 / (a - a.floor)) z) : Sim a b ((a.floor : Rat) + 1 / z) := by
  have hfn := fl_nonneg h0 hab hc
  obtain ⟨ha1, ha2, ha3, ha4⟩ := dfs h0 hab hc (w := a) Rat.le_refl hab
  obtain ⟨hb1, hb2, hb3, hb4⟩ := dfs h0 hab hc (w := b) hab Rat.le_refl
  have hlo : 0 < 1 / (b - a.floor) := by rw [Rat.div_def, Rat.one_mul]; exact Rat.inv_pos.2 hb1
  have hz0 : 0 < z := by have := hz.lo; grind
  have h1 := inv_anti h0 hab hc hlo hz.lo
  have h2 := inv_anti h0 hab hc hz0 hz.hi
  have e1 : 1 / (1 / (b - a.floor)) = b - a.floor := by rw [Rat.div_def, Rat.div_def, Rat.one_mul, Rat.one_mul, Rat.inv_inv]
  have e2 : 1 / (1 / (a - a.floor)) = a - a.floor := by rw [Rat.div_def, Rat.div_def, Rat.one_mul, Rat.one_mul, Rat.inv_inv]
  rw [e1] at h1; rw [e2] at h2
  refine ⟨by grind, by grind, fun w hw1 hw2 => ?_⟩
  obtain ⟨hw3, hw4, hw5, hw6⟩ := dfs h0 hab hc hw1 hw2
  have hl1 : 1 / (b - a.floor) ≤ 1 / (w - a.floor) := inv_anti h0 hab hc hw3 (by grind)
  have hl2 : 1 / (w - a.floor) ≤ 1 / (a - a.floor) := inv_anti h0 hab hc ha1 (by grind)
  obtain ⟨m1, m2⟩ := hz.least _ hl1 hl2
  have hi := rat_inv hz0
  have hs := rat_addI (1 / z) a.floor
  rw [Rat.add_comm] at hs
  rw [hi.1] at hs
  have hd : (((a.floor : Rat) + 1 / z).den : Int) = z.num := by rw [hs.2]; exact hi.2
  refine ⟨by omega, ?_⟩
  rw [hs.1, hi.2]
  have h3 : a.floor * z.num ≤ a.floor * w.den := Int.mul_le_mul_of_nonneg_left (by omega) hfn
  omega
end
theorem sim_ex : ∀ (n : Nat) (a b : Rat), 0 ≤ a → a ≤ b → a.den + b.den ≤ n → ∃ z, Sim a b z := by
  intro n
  induction n with
  | zero => intro a b _ _ h; have := a.den_pos; omega
  | succ n ih =>
    intro a b h0 hab hn
    by_cases hc : (a.ceil : Rat) ≤ b
    · exact ⟨_, sim_int h0 hc⟩
    · obtain ⟨ha1, ha2, ha3, ha4⟩ := dfs h0 hab hc (w := a) Rat.le_refl hab
      obtain ⟨hb1, hb2, hb3, hb4⟩ := dfs h0 hab hc (w := b) hab Rat.le_refl
      have hlo : 0 < 1 / (b - a.floor) := by rw [Rat.div_def, Rat.one_mul]; exact Rat.inv_pos.2 hb1
      obtain ⟨z, hz⟩ := ih (1 / (b - a.floor)) (1 / (a - a.floor)) (Rat.le_of_lt hlo) (inv_anti h0 hab hc ha1 (by grind)) (by omega)
      exact ⟨_, sim_step h0 hab hc hz⟩
open Classical in
noncomputable def btw0 (a b : Rat) : Rat := if h : ∃ z, Sim a b z then h.choose else 0
theorem btw0_sim {a b : Rat} (h0 : 0 ≤ a) (hab : a ≤ b) : Sim a b (btw0 a b) := by
  have h := sim_ex _ a b h0 hab (Nat.le_refl _)
  unfold btw0; rw [dif_pos h]; exact h.choose_spec
/-- The simplest fraction between two. -/
noncomputable def btw (x y : Rat) : Rat := if y < x then btw0 y x else btw0 x y
theorem btw0_int {a b : Rat} (h0 : 0 ≤ a) (hab : a ≤ b) (hc : (a.ceil : Rat) ≤ b) : btw0 a b = a.ceil := (btw0_sim h0 hab).uniq (sim_int h0 hc)
theorem btw0_step {a b : Rat} (h0 : 0 ≤ a) (hab : a ≤ b) (hc : ¬ (a.ceil : Rat) ≤ b) : btw0 a b = (a.floor : Rat) + 1 / btw0 (1 / (b - a.floor)) (1 / (a - a.floor)) := by
  obtain ⟨ha1, ha2, ha3, ha4⟩ := dfs h0 hab hc (w := a) Rat.le_refl hab
  obtain ⟨hb1, hb2, hb3, hb4⟩ := dfs h0 hab hc (w := b) hab Rat.le_refl
  have hlo : 0 < 1 / (b - a.floor) := by rw [Rat.div_def, Rat.one_mul]; exact Rat.inv_pos.2 hb1
  exact (btw0_sim h0 hab).uniq (sim_step h0 hab hc (btw0_sim (Rat.le_of_lt hlo) (inv_anti h0 hab hc ha1 (by grind))))

section

variable {a b : Rat} (h0 : 0 ≤ a)

include h0
theorem ceil_rat : ((a.ceil.toNat : Nat) : Rat) = (a.ceil : Rat) := toNat_rat (by
  have : (0 : Int) ≤ a.ceil := by
    rcases Int.lt_or_le a.ceil 0 with h | h
    · exfalso
      have h1 := Rat.le_ceil (x := a)
      have h2 : (a.ceil : Rat) < ((0 : Int) : Rat) := Rat.intCast_lt_intCast.2 h
      have h3 : ((0 : Int) : Rat) = 0 := rfl
      grind
    · exact h
  exact this)
theorem floor_rat : ((a.floor.toNat : Nat) : Rat) = (a.floor : Rat) := toNat_rat (by
  have := Rat.le_floor_iff (x := 0) (a := a)
  exact this.2 (by simpa using h0))
theorem ceil_num : a.ceil.toNat ≤ a.num.toNat := by
  have : a.ceil ≤ a.num := Rat.ceil_le_iff.2 (le_num h0)
  omega
theorem floor_num : a.floor.toNat ≤ a.num.toNat := by
  have h1 : a.floor ≤ a.num := by
    have := Rat.floor_le a
    exact Rat.intCast_le_intCast.1 (Rat.le_trans this (le_num h0))
  omega
end

section

variable {B l m : Nat} {a b : Rat} {v v1 v2 : Value} {w : World}
theorem tQ_bits (h : (tQ B l a).p v w) : a.num.toNat < 2 ^ l ∧ a.den < 2 ^ l := by
  obtain ⟨p, q, -, e1, e2, -, h3, h4⟩ := h
  rw [e1, e2]; exact ⟨h3, h4⟩
theorem tQ_fit (hb : 2 ≤ B) (h : (tQ B m a).p v w) (h1 : a.num.toNat < 2 ^ l) (h2 : a.den < 2 ^ l) : (tQ B l a).p v w := by
  obtain ⟨p, q, h, e1, e2, e3, -, -⟩ := h
  rw [e1] at h1; rw [e2] at h2
  exact tQ_mk hb h e1 e2 e3 h1 h2
theorem sub_fl {f : Rat} (hf : f = (a.floor : Rat)) (h : (a.floor : Rat) ≤ b) : ((1 : Nat) : Rat) / subQ b f = 1 / (b - a.floor) := by
  subst hf; unfold subQ; rw [if_pos h]; rfl
/-- What the inner call is handed: both parts are no longer than l bits. -/
theorem inner (hB : 2 ≤ B) (h0 : 0 ≤ a) (hab : a ≤ b) (hc : ¬ (a.ceil : Rat) ≤ b) {x : Rat} (h1 : a ≤ x) (h2 : x ≤ b) (hx : x.den < 2 ^ l) (h : (tQ B m (((1 : Nat) : Rat) / subQ x ((a.floor.toNat : Nat) : Rat))).p v w) : (tQ B l (1 / (x - a.floor))).p v w := by
  have hf := fl_lt h0 hab hc
  rw [sub_fl (floor_rat h0) (by grind)] at h
  obtain ⟨d1, d2, d3, d4⟩ := dfs h0 hab hc h1 h2
  exact tQ_fit hB h (by rw [d2]; exact hx) (by omega)
theorem btw_bits (h0 : 0 ≤ a) (hab : a ≤ b) (h1 : a.num.toNat < 2 ^ l) (h2 : a.den < 2 ^ l) : (btw0 a b).num.toNat < 2 ^ l ∧ (btw0 a b).den < 2 ^ l := by
  obtain ⟨g1, g2⟩ := (btw0_sim h0 hab).least a Rat.le_refl hab
  exact ⟨by omega, by omega⟩
end
theorem inner_dens {a b : Rat} (h0 : 0 ≤ a) (hab : a ≤ b) (hc : ¬ (a.ceil : Rat) ≤ b) {n : Nat} (hn : a.den + b.den ≤ n + 1) : (1 / (b - a.floor)).den + (1 / (a - a.floor)).den ≤ n := by
  obtain ⟨ha1, ha2, ha3, ha4⟩ := dfs h0 hab hc (w := a) Rat.le_refl hab
  obtain ⟨hb1, hb2, hb3, hb4⟩ := dfs h0 hab hc (w := b) hab Rat.le_refl
  omega
theorem inner_le {a b : Rat} (h0 : 0 ≤ a) (hab : a ≤ b) (hc : ¬ (a.ceil : Rat) ≤ b) : 1 / (b - a.floor) ≤ 1 / (a - a.floor) := by
  obtain ⟨ha1, ha2, ha3, ha4⟩ := dfs h0 hab hc (w := a) Rat.le_refl hab
  exact inv_anti h0 hab hc ha1 (by grind)
theorem mk_w32 {l1 l2 l p : Nat} (hl : 1 ≤ l) (hp : p < 2 ^ l) : ∀ u v w, (tN B32 l1 p).p u w → (tN B32 l2 1).p v w → ∃ z, (Instr.build 33 #[(0, u), (1, v)]).run Try.prog w = .ok z w ∧ (tQ B32 l (p : Rat)).p z w := by
  intro u v w h1 h2
  obtain ⟨z, h3, h4⟩ := mk_r32 u v w h1 h2
  exact ⟨z, h3, tQ_mk (by decide) h4 rfl rfl (fun _ => by decide) hp (Nat.lt_of_lt_of_le (by decide : 1 < 2 ^ 1) (Nat.pow_le_pow_right (by omega) hl))⟩
/-! ### Rows of fractions -/
def RowQ (id : TypeId) (b l : Nat) (xs : List Rat) (p : Nat) (w : World) : Prop := ∃ cs, Blk w p id cs ∧ ∀ k, k < xs.length → ∃ u v, cs[2 * k]? = some u ∧ cs[2 * k + 1]? = some v ∧ (tQ b l (xs.getD k 0)).p (.agg #[u, v]) w
theorem RowQ.lt {id : TypeId} {b l p : Nat} {xs : List Rat} {w : World} (h : RowQ id b l xs p w) : p < w.heap.size := by obtain ⟨cs, h, _⟩ := h; exact h.lt
theorem RowQ.grow {id : TypeId} {b l p t : Nat} {xs : List Rat} {γ γ' : Nat → Nat} {w w' : World} (g : Grow t γ w γ' w') (h : RowQ id b l xs p w) (hp : t = 0 ∨ γ p ≠ t) : RowQ id b l xs p w' := by
  obtain ⟨cs, h1, h2⟩ := h
  refine ⟨cs, g.blk hp h1, fun k hk => ?_⟩
  obtain ⟨u, v, e1, e2, h3⟩ := h2 k hk
  exact ⟨u, v, e1, e2, (tQ b l (xs.getD k 0)).l _ _ _ _ _ _ g h3⟩
theorem RowQ.aft {id : TypeId} {b l p : Nat} {xs : List Rat} {M : List Nat} {W w : World} {γ : Nat → Nat} (h : RowQ id b l xs p W) (hc : RelC M W γ w) (hp : tagOf M 1000 p = 0) : RowQ id b l xs p w := h.grow hc.1 (.inr (by unfold mt; rw [if_pos hp]; omega))
/-- A new row of fractions (operation j). -/
def rRow (j : Nat) (id : TypeId) (b l : Nat) (xs : List Rat) : Rel :=
  ⟨none, 0, j + 1, fun v γ w => ∃ p, v = .slice (some ⟨p, 0, none⟩) xs.length xs.length ∧ γ p = j + 1 ∧ RowQ id b l xs p w,
    fun t γ w γ' w' v ht g ⟨p, e, hγ, h⟩ => ⟨p, e, by rw [g.tag p h.lt]; exact hγ, h.grow g (by omega)⟩⟩
section

variable {P : Program} {ops : Array Oper} {Q : Exit → Act → World → Prop} {a0 : Act} {M : List Nat} {W : World} {rels : List Rel} {i : Nat} {o : Oper} {T T' : Ty} {N d : Nat} {x y z : Operand}
theorem sRow3 {id sid : TypeId} {b l : Nat} {x1 x2 x3 : Rat} (hz : a0.tmps.size = N) (hop : o.op = .buildSlice sid 3 #[(0, x), (1, y), (2, z)]) (s1 : Src ops a0 M W rels i o x (tQ b l x1)) (s2 : Src ops a0 M W rels i o y (tQ b l x2)) (s3 : Src ops a0 M W rels i o z (tQ b l x3))
    (h : ∀ u v t u' v' t' w, (Instr.buildSlice sid 3 #[(0, .agg #[u, u']), (1, .agg #[v, v']), (2, .agg #[t, t'])]).run P w = .ok (.slice (some ⟨w.heap.size, 0, none⟩) 3 3) (w.alloc (.cells #[u, u', v, v', t, t'] id))) (g : Gd ops a0 M W rels i o true := by exact Gd.none_ rfl)
    (ho : ops[i]? = some o := by rfl) (hr : rels[i]? = some (rRow i id b l [x1, x2, x3]) := by rfl) (hd : o.dst = some d := by rfl) (hlt : decide (d < N) = true := by rfl) : StepOk P ops a0 M W Q rels i o := by
  intro a γ w K hc hag hearly hdep hkp hK
  have U : Up ops a0 M W rels i o a γ w := ⟨hc, hag, hearly, hdep, hkp⟩
  rw [if_pos (g a γ w U)]
  have h1 := s1 a γ w U
  have h2 := s2 a γ w U
  have h3 := s3 a γ w U
  obtain ⟨p1, q1, ⟨A1, n1, c1, A1', n1', c1', e1, -⟩, -⟩ := (show (tQ b l x1).p _ _ from h1)
  obtain ⟨p2, q2, ⟨A2, n2, c2, A2', n2', c2', e2, -⟩, -⟩ := (show (tQ b l x2).p _ _ from h2)
  obtain ⟨p3, q3, ⟨A3, n3, c3, A3', n3', c3', e3, -⟩, -⟩ := (show (tQ b l x3).p _ _ from h3)
  have hrun := h (.slice A1 n1 c1) (.slice A2 n2 c2) (.slice A3 n3 c3) (.slice A1' n1' c1') (.slice A2' n2' c2') (.slice A3' n3' c3') w
  rw [← e1, ← e2, ← e3] at hrun
  have hrun' : (execOp a.eval o).run P w = .ok (.value (.slice (some ⟨w.heap.size, 0, none⟩) 3 3)) (w.alloc (.cells #[.slice A1 n1 c1, .slice A1' n1' c1', .slice A2 n2 c2, .slice A2' n2' c2', .slice A3 n3 c3, .slice A3' n3' c3'] id)) := by
    unfold execOp
    rw [hop]
    simp only [List.map_toArray, List.map_cons, List.map_nil, Sem.run_bind, hrun, Result.andThen, Sem.run_pure]
  unfold Oper.wp
  rw [hrun']
  refine hK _ (newTag γ w (i + 1)) _ (by unfold effOf; rw [hr]; exact Grow.alloc γ w _ _) (holds_put ho hr rfl hd (lt_of hz hlt hag) ⟨w.heap.size, rfl, by simp [newTag], _, Blk.new _ _ _, fun k hk => ?_⟩)
  rw [e1] at h1; rw [e2] at h2; rw [e3] at h3
  match k, hk with
  | 0, _ => exact ⟨_, _, rfl, rfl, (tQ b l x1).al h1 _⟩
  | 1, _ => exact ⟨_, _, rfl, rfl, (tQ b l x2).al h2 _⟩
  | 2, _ => exact ⟨_, _, rfl, rfl, (tQ b l x3).al h3 _⟩
/-- A call that is handed such a row. -/
theorem sCallRow {j t : Nat} {id : TypeId} {b l : Nat} {xs : List Rat} {f : FuncId} {fn : Func} {ts : Array TypeId} (hz : a0.tmps.size = N) (hf : P.funcs[f]? = some fn) (hr' : rels[j]? = some (rRow j id b l xs)) (h : ∀ p w, RowQ id b l xs p w → Calls P f #[.slice (some ⟨p, 0, none⟩) xs.length xs.length] w (Ret T w)) (g : Gd ops a0 M W rels i o true := by exact Gd.none_ rfl)
    (hop : o.op = .call { callee := .value (.func f), args := #[.tmp t], argTypes := ts } := by rfl) (hj : (ops[j]?).bind (·.dst) = some t := by rfl) (hw : waitsD o j = true := by rfl) (ho : ops[i]? = some o := by rfl) (hr : rels[i]? = some (rT T) := by rfl) (hd : o.dst = some d := by rfl) (hlt : decide (d < N) = true := by rfl) (hn : (fn.name == "runtime.NumGoroutine") = false := by kernel_rfl) (hb : fn.body.isNone = false := by kernel_rfl) : StepOk P ops a0 M W Q rels i o :=
  sCall ho hr hd hz hlt g hop hf hn hb fun a γ w U => by
    have h1 := U.dep j (.inl hw)
    unfold Holds at h1
    rw [hr'] at h1
    have e1 : valOf ops a j = a.eval (.tmp t) := by simp only [valOf, hj]; rfl
    obtain ⟨p, e, -, hp⟩ : (rRow j id b l xs).p (valOf ops a j) γ w := h1
    show Calls P f #[a.eval (.tmp t)] w _
    rw [← e1, e]
    exact h p w hp
theorem sLenK {id : TypeId} {A : Option Addr} {n c : Nat} (hz : a0.tmps.size = N) (hop : o.op = .call { callee := .builtin .len, args := #[x], argTypes := #[id] }) (s : Src ops a0 M W rels i o x (tV (.slice A n c))) (hid : ∀ w, (Builtin.len_ #[id] o.type #[.slice A n c]).run P w = .ok (.int .i64 n) w) (g : Gd ops a0 M W rels i o true := by exact Gd.none_ rfl)
    (ho : ops[i]? = some o := by rfl) (hr : rels[i]? = some (rT (tV (.int .i64 (n : Int)))) := by rfl) (hd : o.dst = some d := by rfl) (hlt : decide (d < N) = true := by rfl) : StepOk P ops a0 M W Q rels i o :=
  sOp ho hr hd hz hlt g fun a γ w U => by
    have e : a.eval x = .slice A n c := s a γ w U
    refine ⟨_, ?_, rfl⟩
    generalize a.eval = ρ at e ⊢
    unfold execOp; rw [hop]; simp [go_sem, e, hid]
theorem sIdxQ {id : TypeId} {p n k : Nat} {c : Int} (hop : o.op = .indexAddr id x y) (hz : a0.tmps.size = N) (sx : Src ops a0 M W rels i o x (tV (.slice (some ⟨p, 0, none⟩) n n))) (sy : Src ops a0 M W rels i o y (tV (.int .i64 c))) (h : ∀ w, (Instr.indexAt id (.slice (some ⟨p, 0, none⟩) n n) (.int .i64 c)).run P w = .ok (.pointer (some ⟨p, k, none⟩)) w)
    (g : Gd ops a0 M W rels i o true := by exact Gd.none_ rfl) (ho : ops[i]? = some o := by rfl) (hr : rels[i]? = some (rT (tV (.pointer (some ⟨p, k, none⟩)))) := by rfl) (hd : o.dst = some d := by rfl) (hlt : decide (d < N) = true := by rfl) : StepOk P ops a0 M W Q rels i o :=
  sOp ho hr hd hz hlt g fun a γ w U => by
    have e : a.eval x = .slice (some ⟨p, 0, none⟩) n n := sx a γ w U
    have e2 : a.eval y = .int .i64 c := sy a γ w U
    refine ⟨_, ?_, rfl⟩
    unfold execOp; rw [hop]; simp only [e, e2, Sem.run_bind, h, Result.andThen, Sem.run_pure]
theorem sLoadQ {id : TypeId} {p b l : Nat} {xs : List Rat} (k : Nat) (hz : a0.tmps.size = N) (sx : Src ops a0 M W rels i o x (tV (.pointer (some ⟨p, 2 * k, none⟩)))) (hR : RowQ id b l xs p W) (hp : tagOf M 1000 p = 0) (hk : k < xs.length)
    (ld : ∀ u v w, w.cell? ⟨p, 2 * k, none⟩ = some u → w.cell? ⟨p, 2 * k + 1, none⟩ = some v → (Instr.loadAt id (.pointer (some ⟨p, 2 * k, none⟩))).run P w = .ok (.agg #[u, v]) w)
    (g : Gd ops a0 M W rels i o true := by exact Gd.none_ rfl) (hop : o.op = .load id x := by rfl) (ho : ops[i]? = some o := by rfl) (hr : rels[i]? = some (rT (tQ b l (xs.getD k 0))) := by rfl) (hd : o.dst = some d := by rfl) (hlt : decide (d < N) = true := by rfl) : StepOk P ops a0 M W Q rels i o :=
  sOp ho hr hd hz hlt g fun a γ w U => by
    have e : a.eval x = .pointer (some ⟨p, 2 * k, none⟩) := sx a γ w U
    obtain ⟨cs, h1, h2⟩ := hR.aft U.c hp
    obtain ⟨u, v, e1, e2, h3⟩ := h2 k hk
    refine ⟨_, ?_, h3⟩
    have c1 : w.cell? ⟨p, 2 * k, none⟩ = some u := by rw [h1.cell]; exact e1
    have c2 : w.cell? ⟨p, 2 * k + 1, none⟩ = some v := by rw [h1.cell]; exact e2
    unfold execOp; rw [hop]; simp only [e, Sem.run_bind, ld u v w c1 c2, Result.andThen, Sem.run_pure]
end

set_option maxRecDepth 10000 in
set_option maxHeartbeats 2000000 in
theorem cq_turned {l1 l2 pf : Nat} {x f : Rat} {v0 : Value} {w : World} (h0 : (tQ B64 l1 x).p v0 w) (hf : Cell 29 (tQ B64 l2 f) pf w) (b1 : l1 ≤ 10000000) (b2 : l2 ≤ 10000000) :
    Calls Try.prog 66 #[v0, .pointer (some ⟨pf, 0, none⟩)] w (Ret (tQ B64 (l1 + l2 + 4) (((1 : Nat) : Rat) / subQ x f)) w) := by
 refine enter Try.func66 rfl Try.ntmps66 (by simp) ?_
 intro a hz hd ha
 have S0 := ha 0 _ rfl
 have H0 := h0
 have S1 := ha 1 _ rfl
 clear ha
 have HB : Below w.heap.size w w := Below.refl _ _
 have Cpf := hf
 refine wp_seq ?_
 refine region_text (M := []) (
  rB 0 29 (tQ B64 l1 x) none 0 ::
  rB 1 29 (tQ B64 1 0) none 0 ::
  []) hz hd (by kernel_rfl) ?_ ?_
 refine ⟨?_, ?_, trivial⟩
 exact zBox hz (so S0 H0) box_q64
 exact zNew hz (fun _ => tQ_nil) al_r64
 intro a' γ' W' hz' hd' hC hk hh
 have epf := Cpf.lt
 replace Cpf := kC hC Cpf
 clear S0 H0
 replace S1 := kp hk S1
 obtain ⟨p1, S2, Cp1, lp1, gp1⟩ := gotB hz' 0 hC hh rfl rfl rfl rfl rfl rfl
 obtain ⟨p2, S3, Cp2, lp2, gp2⟩ := gotB hz' 1 hC hh rfl rfl rfl rfl rfl rfl
 have n_p1_p2 : p1 ≠ p2 := by intro e; rw [e, gp2] at gp1; omega
 have n_pf_p2 : pf ≠ p2 := by have := epf; omega
 have bp2 : w.heap.size ≤ p2 := Nat.le_trans HB.size lp2
 clear lp1 gp1 lp2 gp2
 clear epf
 replace HB := aft_call HB (RelC.below_nil hC)
 clear hC hk hh; replace hz := hz'; replace hd := hd'; clear hz' hd'
 refine wp_seq ?_
 refine region_text (M := []) (
  rT (tQ B64 l1 x) ::
  rT (tQ B64 l2 f) ::
  rT (tT [tQ B64 (l1 + l2 + 1) (subQ x f), tV (.bool (decide (f ≤ x)))]) ::
  rT (tT [tQ B64 (l1 + l2 + 1) (subQ x f), tV (.bool (decide (f ≤ x)))]) ::
  rT (tQ B64 (l1 + l2 + 1) (subQ x f)) ::
  rT (tV (.bool (decide (f ≤ x)))) ::
  rVar 6 29 2 ::
  rB 6 29 (tQ B64 (l1 + l2 + 1) (subQ x f)) (some 6) 7 ::
  rT (tV (.bool (decide (f ≤ x)))) ::
  []) hz hd (by kernel_rfl) ?_ ?_
 refine ⟨?_, ?_, ?_, ?_, ?_, ?_, ?_, ?_, ?_, trivial⟩
 exact zLd hz (sv S2) Cp1 ld_q64
 exact zLd hz (sv S1) Cpf ld_q64
 exact zC2 hz Try.func37 (sd 0 rfl) (sd 1 rfl) (fun _ _ _ h0 h1 => cq_sub h0 h1 (by omega) (by omega))
 exact zMv hz (sd 2 rfl)
 exact zExt hz (sd 3 rfl)
 exact zExt hz (sd 3 rfl)
 exact zAl hz nd_rat al_r64
 exact zSt (sd 4 rfl) st_q64
 exact zAs hz (sd 5 rfl)
 intro a' γ' W' hz' hd' hC hk hh
 have epf := Cpf.lt
 have ep1 := Cp1.lt
 have ep2 := Cp2.lt
 clear Cpf
 clear Cp1
 have tp2 := Cp2.lt
 replace Cp2 := kC hC Cp2
 clear S1
 clear S2
 replace S3 := kp hk S3
 obtain ⟨p3, S4, Cp3, lp3, gp3⟩ := gotB hz' 7 hC hh rfl rfl rfl rfl rfl rfl
 have n_p3_p2 : p3 ≠ p2 := by omega
 have n_p2_p3 : p2 ≠ p3 := by have := ep2; omega
 have bp3 : w.heap.size ≤ p3 := Nat.le_trans HB.size lp3
 clear lp3 gp3
 clear tp2
 clear epf ep1 ep2
 replace HB := aft_call HB (RelC.below_nil hC)
 clear hC hk hh; replace hz := hz'; replace hd := hd'; clear hz' hd'
 refine wp_seq ?_
 refine region_drawn (M := []) (
  rT (tN B64 1 1) ::
  rT (tQ B64 2 (((1 : Nat) : Rat))) ::
  rT (tQ B64 (l1 + l2 + 1) (subQ x f)) ::
  rT (tT [tQ B64 (2 + (l1 + l2 + 1) + 1) ((((1 : Nat) : Rat)) / (subQ x f)), tV (.bool (decide (subQ x f ≠ 0)))]) ::
  rT (tT [tQ B64 (2 + (l1 + l2 + 1) + 1) ((((1 : Nat) : Rat)) / (subQ x f)), tV (.bool (decide (subQ x f ≠ 0)))]) ::
  rT (tQ B64 (2 + (l1 + l2 + 1) + 1) ((((1 : Nat) : Rat)) / (subQ x f))) ::
  rT (tV (.bool (decide (subQ x f ≠ 0)))) ::
  rVar 7 29 2 ::
  rB 7 29 (tQ B64 (2 + (l1 + l2 + 1) + 1) ((((1 : Nat) : Rat)) / (subQ x f))) (some 7) 8 ::
  rT (tV (.bool (decide (subQ x f ≠ 0)))) ::
  []) hz hd (by kernel_rfl) (by kernel_rfl) ?_ ?_
 refine ⟨?_, ?_, ?_, ?_, ?_, ?_, ?_, ?_, ?_, ?_, trivial⟩
 exact zC0 hz Try.func60 (fun _ => c_one (l1 := 0) (l2 := 0) (l3 := 0) (l4 := 0) (p := 0) (q := 0) (p' := 0) (q' := 0))
 exact zC1 hz Try.func65 (sd 0 rfl) (fun _ _ h0 => cq_whole (l := 1) h0 (by decide) (by decide))
 exact zLd hz (sv S4) Cp3 ld_q64
 exact zC2 hz Try.func40 (sd 1 rfl) (sd 2 rfl) (fun _ _ _ h0 h1 => cq_div h0 h1 (by decide) (by omega))
 exact zMv hz (sd 3 rfl)
 exact zExt hz (sd 4 rfl)
 exact zExt hz (sd 4 rfl)
 exact zAl hz nd_rat al_r64
 exact zSt (sd 5 rfl) st_q64
 exact zAs hz (sd 6 rfl)
 intro a' γ' W' hz' hd' hC hk hh
 have ep2 := Cp2.lt
 have ep3 := Cp3.lt
 have tp2 := Cp2.lt
 replace Cp2 := kC hC Cp2
 have tp3 := Cp3.lt
 clear Cp3
 replace S3 := kp hk S3
 clear S4
 obtain ⟨p4, S6, Cp4, lp4, gp4⟩ := gotB hz' 8 hC hh rfl rfl rfl rfl rfl rfl
 have n_p4_p2 : p4 ≠ p2 := by omega
 have n_p2_p4 : p2 ≠ p4 := by have := ep2; omega
 have bp4 : w.heap.size ≤ p4 := Nat.le_trans HB.size lp4
 clear lp4 gp4
 clear tp2 tp3
 clear ep2 ep3
 replace HB := aft_call HB (RelC.below_nil hC)
 clear hC hk hh; replace hz := hz'; replace hd := hd'; clear hz' hd'
 refine wp_seq ?_
 refine region_text (M := [p2]) (
  rT (tQ B64 (2 + (l1 + l2 + 1) + 1) ((((1 : Nat) : Rat)) / (subQ x f))) ::
  rE 0 29 (tQ B64 (2 + (l1 + l2 + 1) + 1) ((((1 : Nat) : Rat)) / (subQ x f))) p2 ::
  []) hz hd (by kernel_rfl) ?_ ?_
 refine ⟨?_, ?_, trivial⟩
 exact zLd hz (sv S6) Cp4 ld_q64 (by simp [tagOf, n_p4_p2])
 exact zSE rfl (sv S3) (by simp [tagOf]) (Cp2.var tQ_nd) (sd 0 rfl) st_q64
 intro a' γ' W' hz' hd' hC hk hh
 replace Cp2 := gotE (T := tQ B64 (2 + (l1 + l2 + 1) + 1) ((((1 : Nat) : Rat)) / (subQ x f))) (id := 29) (p := p2) 1 hh rfl rfl
 have tp4 := Cp4.lt
 clear Cp4
 replace S3 := kp hk S3
 clear S6
 clear tp4
 replace HB := RelC.aftM HB hC (by intro m hm; simp at hm; rcases hm with rfl <;> assumption)
 clear hC hk hh; replace hz := hz'; replace hd := hd'; clear hz' hd'
 refine wp_ret ?_
 refine ret_to (T := tQ B64 (2 + (l1 + l2 + 1) + 1) ((((1 : Nat) : Rat)) / (subQ x f))) (ret1_q64 (by kernel_rfl) S3 hd Cp2 HB) ?_
 exact tQ_le (by decide) (by omega)

set_option maxRecDepth 10000 in
set_option maxHeartbeats 2000000 in
theorem cq_btw_le {l : Nat} (b1 : l ≤ 1000000) : ∀ (n : Nat) (x y : Rat) (v0 v1 : Value) (w : World) (hab : x ≤ y) (hn : x.den + y.den ≤ n) (h0 : (tQ B64 l x).p v0 w) (h1 : (tQ B64 l y).p v1 w),
    Calls Try.prog 42 #[v0, v1] w (Ret (tQ B64 l (btw0 x y)) w) := by
 intro n
 induction n with
 | zero => intro x y v0 v1 w hab hn; have := x.den_pos; omega
 | succ n ih' =>
   intro x y v0 v1 w hab hn h0 h1
   have ih := fun x y v0 v1 w hab hn h0 h1 => ih' x y v0 v1 w hab hn h0 h1
   clear ih'
   refine enter Try.func42 rfl Try.ntmps42 (by simp) ?_
   intro a hz hd ha
   have S0 := ha 0 _ rfl
   have H0 := h0
   have S1 := ha 1 _ rfl
   have H1 := h1
   clear ha
   have HB : Below w.heap.size w w := Below.refl _ _
   have ha0 := tQ_nonneg h0
   have hda := (tQ_bits h0).2
   have hdb := (tQ_bits h1).2
   have hce : x.ceil.toNat < 2 ^ l := Nat.lt_of_le_of_lt (ceil_num ha0) (tQ_bits h0).1
   have hfl : x.floor.toNat < 2 ^ l := Nat.lt_of_le_of_lt (floor_num ha0) (tQ_bits h0).1
   refine wp_seq ?_
   refine region_text (M := []) (
       rB 0 29 (tQ B64 l x) none 0 ::
       rB 1 29 (tQ B64 l y) none 0 ::
       rB 2 29 (tQ B64 1 0) none 0 ::
       []) hz hd (by kernel_rfl) ?_ ?_
   · refine ⟨?_, ?_, ?_, trivial⟩
     · exact zBox hz (so S0 H0) box_q64
     · exact zBox hz (so S1 H1) box_q64
     · exact zNew hz (fun _ => tQ_nil) al_r64
   intro a' γ' W' hz' hd' hC hk hh
   clear S0 H0
   clear S1 H1
   obtain ⟨p1, S2, Cp1, lp1, gp1⟩ := gotB hz' 0 hC hh rfl rfl rfl rfl rfl rfl
   obtain ⟨p2, S3, Cp2, lp2, gp2⟩ := gotB hz' 1 hC hh rfl rfl rfl rfl rfl rfl
   obtain ⟨p3, S4, Cp3, lp3, gp3⟩ := gotB hz' 2 hC hh rfl rfl rfl rfl rfl rfl
   have n_p1_p2 : p1 ≠ p2 := by intro e; rw [e, gp2] at gp1; omega
   have n_p1_p3 : p1 ≠ p3 := by intro e; rw [e, gp3] at gp1; omega
   have n_p2_p1 : p2 ≠ p1 := by intro e; rw [e, gp1] at gp2; omega
   have n_p2_p3 : p2 ≠ p3 := by intro e; rw [e, gp3] at gp2; omega
   have n_p3_p1 : p3 ≠ p1 := by intro e; rw [e, gp1] at gp3; omega
   have n_p3_p2 : p3 ≠ p2 := by intro e; rw [e, gp2] at gp3; omega
   have bp1 : w.heap.size ≤ p1 := Nat.le_trans HB.size lp1
   have bp2 : w.heap.size ≤ p2 := Nat.le_trans HB.size lp2
   have bp3 : w.heap.size ≤ p3 := Nat.le_trans HB.size lp3
   clear lp1 gp1 lp2 gp2 lp3 gp3
   replace HB := aft_call HB (RelC.below_nil hC)
   clear hC hk hh; replace hz := hz'; replace hd := hd'; clear hz' hd'
   refine wp_seq ?_
   refine wp_seq ?_
   refine region_text (M := []) (
       rT (tQ B64 l x) ::
       rT (tQ B64 l y) ::
       rT (tV (.int .i64 (cmpQ x y))) ::
       rT (tV (.bool (decide (y < x)))) ::
       []) hz hd (by kernel_rfl) ?_ ?_
   · refine ⟨?_, ?_, ?_, ?_, trivial⟩
     · exact zLd hz (sv S2) Cp1 ld_q64
     · exact zLd hz (sv S3) Cp2 ld_q64
     · exact zC2 hz Try.func38 (sd 0 rfl) (sd 1 rfl) (fun _ _ _ h0 h1 => cq_cmp h0 h1 (by omega) (by omega))
     · exact sBin rfl rfl rfl hz rfl (Gd.none_ rfl) rfl (sd 2 rfl) kc (fun w => run_cQ_gtr x y w)
   intro a' γ' W' hz' hd' hC hk hh
   have tp1 := Cp1.lt
   replace Cp1 := kC hC Cp1
   have tp2 := Cp2.lt
   replace Cp2 := kC hC Cp2
   have tp3 := Cp3.lt
   replace Cp3 := kC hC Cp3
   replace S2 := kp hk S2
   replace S3 := kp hk S3
   replace S4 := kp hk S4
   have S13 := gotV hz' 3 hh rfl rfl rfl rfl
   clear tp1 tp2 tp3
   replace HB := aft_call HB (RelC.below_nil hC)
   clear hC hk hh; replace hz := hz'; replace hd := hd'; clear hz' hd'
   have hc4 : ¬ (y < x) := (by grind)
   rw [decide_eq_false hc4] at S13
   refine wp_cond_false S13.ev ?_
   refine wp_skip ?_
   refine wp_seq ?_
   refine wp_seq ?_
   refine region_text (M := []) (
       rT (tQ B64 l x) ::
       rT (tN B64 (l + 1) x.ceil.toNat) ::
       rT (tQ B64 (l + 1) (((x.ceil.toNat : Nat) : Rat))) ::
       rVar 3 29 2 ::
       rB 3 29 (tQ B64 (l + 1) (((x.ceil.toNat : Nat) : Rat))) (some 3) 4 ::
       []) hz hd (by kernel_rfl) ?_ ?_
   · refine ⟨?_, ?_, ?_, ?_, ?_, trivial⟩
     · exact zLd hz (sv S2) Cp1 ld_q64
     · exact zC1 hz Try.func28 (sd 0 rfl) (fun _ _ h0 => cq_ceil h0 (by omega))
     · exact zC1 hz Try.func65 (sd 1 rfl) (fun _ _ h0 => cq_whole (l := l) h0 (by omega) hce)
     · exact zAl hz nd_rat al_r64
     · exact zSt (sd 2 rfl) st_q64
   intro a' γ' W' hz' hd' hC hk hh
   have tp1 := Cp1.lt
   replace Cp1 := kC hC Cp1
   have tp2 := Cp2.lt
   replace Cp2 := kC hC Cp2
   have tp3 := Cp3.lt
   replace Cp3 := kC hC Cp3
   replace S2 := kp hk S2
   replace S3 := kp hk S3
   replace S4 := kp hk S4
   clear S13
   obtain ⟨p5, S5, Cp5, lp5, gp5⟩ := gotB hz' 4 hC hh rfl rfl rfl rfl rfl rfl
   have n_p5_p1 : p5 ≠ p1 := by omega
   have n_p5_p2 : p5 ≠ p2 := by omega
   have n_p5_p3 : p5 ≠ p3 := by omega
   clear lp5 gp5
   clear tp1 tp2 tp3
   replace HB := aft_call HB (RelC.below_nil hC)
   clear hC hk hh; replace hz := hz'; replace hd := hd'; clear hz' hd'
   refine wp_seq ?_
   refine region_text (M := []) (
       rT (tQ B64 (l + 1) (((x.ceil.toNat : Nat) : Rat))) ::
       rT (tQ B64 l y) ::
       rT (tV (.int .i64 (cmpQ (((x.ceil.toNat : Nat) : Rat)) y))) ::
       rT (tV (.bool (decide (((x.ceil.toNat : Nat) : Rat) ≤ y)))) ::
       []) hz hd (by kernel_rfl) ?_ ?_
   · refine ⟨?_, ?_, ?_, ?_, trivial⟩
     · exact zLd hz (sv S5) Cp5 ld_q64
     · exact zLd hz (sv S3) Cp2 ld_q64
     · exact zC2 hz Try.func38 (sd 0 rfl) (sd 1 rfl) (fun _ _ _ h0 h1 => cq_cmp h0 h1 (by omega) (by omega))
     · exact sBin rfl rfl rfl hz rfl (Gd.none_ rfl) rfl (sd 2 rfl) kc (fun w => run_cQ_leq (((x.ceil.toNat : Nat) : Rat)) y w)
   intro a' γ' W' hz' hd' hC hk hh
   have tp1 := Cp1.lt
   replace Cp1 := kC hC Cp1
   have tp2 := Cp2.lt
   replace Cp2 := kC hC Cp2
   have tp3 := Cp3.lt
   replace Cp3 := kC hC Cp3
   replace Cp5 := kC hC Cp5
   replace S2 := kp hk S2
   replace S3 := kp hk S3
   replace S4 := kp hk S4
   replace S5 := kp hk S5
   have S22 := gotV hz' 3 hh rfl rfl rfl rfl
   clear tp1 tp2 tp3
   replace HB := aft_call HB (RelC.below_nil hC)
   clear hC hk hh; replace hz := hz'; replace hd := hd'; clear hz' hd'
   by_cases hc6 : ((x.ceil.toNat : Nat) : Rat) ≤ y
   · rw [decide_eq_true hc6] at S22
     refine wp_cond_true S22.ev ?_
     refine wp_seq ?_
     refine region_text (M := [p3]) (
         rT (tQ B64 (l + 1) (((x.ceil.toNat : Nat) : Rat))) ::
         rE 0 29 (tQ B64 (l + 1) (((x.ceil.toNat : Nat) : Rat))) p3 ::
         []) hz hd (by kernel_rfl) ?_ ?_
     · refine ⟨?_, ?_, trivial⟩
       · exact zLd hz (sv S5) Cp5 ld_q64 (by simp [tagOf, n_p5_p3])
       · exact zSE rfl (sv S4) (by simp [tagOf]) (Cp3.var tQ_nd) (sd 0 rfl) st_q64
     intro a' γ' W' hz' hd' hC hk hh
     have tp1 := Cp1.lt
     replace Cp1 := kC hC Cp1 (by simp [tagOf, n_p1_p3])
     have tp2 := Cp2.lt
     replace Cp2 := kC hC Cp2 (by simp [tagOf, n_p2_p3])
     replace Cp3 := gotE (T := tQ B64 (l + 1) (((x.ceil.toNat : Nat) : Rat))) (id := 29) (p := p3) 1 hh rfl rfl
     clear Cp5
     replace S2 := kp hk S2
     replace S3 := kp hk S3
     replace S4 := kp hk S4
     clear S5
     clear S22
     clear tp1 tp2
     replace HB := RelC.aftM HB hC (by intro m hm; simp at hm; rcases hm with rfl <;> assumption)
     clear hC hk hh; replace hz := hz'; replace hd := hd'; clear hz' hd'
     refine wp_ret ?_
     refine ret_to (T := tQ B64 (l + 1) (((x.ceil.toNat : Nat) : Rat))) (ret1_q64 (by kernel_rfl) S4 hd Cp3 HB) ?_
     exact fun v w h => tQ_fit (by decide) (tQ_eq (by rw [btw0_int ha0 hab (by rw [← ceil_rat ha0]; assumption)]; exact ceil_rat ha0) _ _ h) (btw_bits ha0 hab (tQ_bits h0).1 hda).1 (btw_bits ha0 hab (tQ_bits h0).1 hda).2
   · rw [decide_eq_false hc6] at S22
     have hc : ¬ (x.ceil : Rat) ≤ y := by rw [← ceil_rat ha0]; exact hc6
     refine wp_cond_false S22.ev ?_
     refine wp_skip ?_
     refine wp_seq ?_
     refine region_text (M := []) (
         rT (tQ B64 l x) ::
         rT (tN B64 l x.floor.toNat) ::
         rT (tQ B64 (l + 1) (((x.floor.toNat : Nat) : Rat))) ::
         rVar 3 29 2 ::
         rB 3 29 (tQ B64 (l + 1) (((x.floor.toNat : Nat) : Rat))) (some 3) 4 ::
         []) hz hd (by kernel_rfl) ?_ ?_
     · refine ⟨?_, ?_, ?_, ?_, ?_, trivial⟩
       · exact zLd hz (sv S2) Cp1 ld_q64
       · exact zC1 hz Try.func27 (sd 0 rfl) (fun _ _ h0 => cq_floor h0 (by omega))
       · exact zC1 hz Try.func65 (sd 1 rfl) (fun _ _ h0 => cq_whole (l := l) h0 (by omega) hfl)
       · exact zAl hz nd_rat al_r64
       · exact zSt (sd 2 rfl) st_q64
     intro a' γ' W' hz' hd' hC hk hh
     have tp1 := Cp1.lt
     replace Cp1 := kC hC Cp1
     have tp2 := Cp2.lt
     replace Cp2 := kC hC Cp2
     have tp3 := Cp3.lt
     replace Cp3 := kC hC Cp3
     clear Cp5
     replace S2 := kp hk S2
     replace S3 := kp hk S3
     replace S4 := kp hk S4
     clear S5
     clear S22
     obtain ⟨p7, S6, Cp7, lp7, gp7⟩ := gotB hz' 4 hC hh rfl rfl rfl rfl rfl rfl
     have n_p7_p1 : p7 ≠ p1 := by omega
     have n_p7_p2 : p7 ≠ p2 := by omega
     have n_p7_p3 : p7 ≠ p3 := by omega
     clear lp7 gp7
     clear tp1 tp2 tp3
     replace HB := aft_call HB (RelC.below_nil hC)
     clear hC hk hh; replace hz := hz'; replace hd := hd'; clear hz' hd'
     refine wp_seq ?_
     refine region_text (M := []) (
         rT (tV (.func (.func 66) #[] #[.pointer (some ⟨p7, 0, none⟩)])) ::
         rT (tV (.func (.func 66) #[] #[.pointer (some ⟨p7, 0, none⟩)])) ::
         []) hz hd (by kernel_rfl) ?_ ?_
     · refine ⟨?_, ?_, trivial⟩
       · exact sMkFunc rfl rfl rfl hz rfl (Gd.none_ rfl) rfl (sv S6)
       · exact zAs hz (sd 0 rfl)
     intro a' γ' W' hz' hd' hC hk hh
     have tp1 := Cp1.lt
     replace Cp1 := kC hC Cp1
     have tp2 := Cp2.lt
     replace Cp2 := kC hC Cp2
     have tp3 := Cp3.lt
     replace Cp3 := kC hC Cp3
     replace Cp7 := kC hC Cp7
     replace S2 := kp hk S2
     replace S3 := kp hk S3
     replace S4 := kp hk S4
     replace S6 := kp hk S6
     have S7 := gotV hz' 1 hh rfl rfl rfl rfl
     clear tp1 tp2 tp3
     replace HB := aft_call HB (RelC.below_nil hC)
     clear hC hk hh; replace hz := hz'; replace hd := hd'; clear hz' hd'
     refine wp_seq ?_
     refine region_drawn (M := []) (
         rT (tN B64 1 1) ::
         rT (tQ B64 2 (((1 : Nat) : Rat))) ::
         rT (tV (.func (.func 66) #[] #[.pointer (some ⟨p7, 0, none⟩)])) ::
         rT (tQ B64 l y) ::
         rT (tQ B64 (l + ((l + 1)) + 4) (((1 : Nat) : Rat) / subQ y (((x.floor.toNat : Nat) : Rat)))) ::
         rT (tV (.func (.func 66) #[] #[.pointer (some ⟨p7, 0, none⟩)])) ::
         rT (tQ B64 l x) ::
         rT (tQ B64 (l + ((l + 1)) + 4) (((1 : Nat) : Rat) / subQ x (((x.floor.toNat : Nat) : Rat)))) ::
         rT (tQ B64 l (btw0 (1 / (y - x.floor)) (1 / (x - x.floor)))) ::
         rT (tT [tQ B64 (2 + l + 1) ((((1 : Nat) : Rat)) / (btw0 (1 / (y - x.floor)) (1 / (x - x.floor)))), tV (.bool (decide (btw0 (1 / (y - x.floor)) (1 / (x - x.floor)) ≠ 0)))]) ::
         rT (tT [tQ B64 (2 + l + 1) ((((1 : Nat) : Rat)) / (btw0 (1 / (y - x.floor)) (1 / (x - x.floor)))), tV (.bool (decide (btw0 (1 / (y - x.floor)) (1 / (x - x.floor)) ≠ 0)))]) ::
         rT (tQ B64 (2 + l + 1) ((((1 : Nat) : Rat)) / (btw0 (1 / (y - x.floor)) (1 / (x - x.floor))))) ::
         rT (tV (.bool (decide (btw0 (1 / (y - x.floor)) (1 / (x - x.floor)) ≠ 0)))) ::
         rVar 13 29 2 ::
         rB 13 29 (tQ B64 (2 + l + 1) ((((1 : Nat) : Rat)) / (btw0 (1 / (y - x.floor)) (1 / (x - x.floor))))) (some 13) 14 ::
         rT (tV (.bool (decide (btw0 (1 / (y - x.floor)) (1 / (x - x.floor)) ≠ 0)))) ::
         []) hz hd (by kernel_rfl) (by kernel_rfl) ?_ ?_
     · refine ⟨?_, ?_, ?_, ?_, ?_, ?_, ?_, ?_, ?_, ?_, ?_, ?_, ?_, ?_, ?_, ?_, trivial⟩
       · exact zC0 hz Try.func60 (fun _ => c_one (l1 := 0) (l2 := 0) (l3 := 0) (l4 := 0) (p := 0) (q := 0) (p' := 0) (q' := 0))
       · exact zC1 hz Try.func65 (sd 0 rfl) (fun _ _ h0 => cq_whole (l := 1) h0 (by decide) (by decide))
       · exact zMv hz (sv S7)
       · exact zLd hz (sv S3) Cp2 ld_q64
       · exact sCallF rfl rfl rfl hz rfl (Gd.none_ rfl) rfl (sd 2 rfl) Try.func66 (by kernel_rfl) (by kernel_rfl) fun a γ w U => (by show Calls _ _ #[a.eval (.tmp 32), .pointer (some ⟨p7, 0, none⟩)] _ _; exact cq_turned (Src.at_ (sd 3 rfl) U) (kC U.c Cp7) (by omega) (by omega))
       · exact zMv hz (sv S7)
       · exact zLd hz (sv S2) Cp1 ld_q64
       · exact sCallF rfl rfl rfl hz rfl (Gd.none_ rfl) rfl (sd 5 rfl) Try.func66 (by kernel_rfl) (by kernel_rfl) fun a γ w U => (by show Calls _ _ #[a.eval (.tmp 35), .pointer (some ⟨p7, 0, none⟩)] _ _; exact cq_turned (Src.at_ (sd 6 rfl) U) (kC U.c Cp7) (by omega) (by omega))
       · exact zC2 hz Try.func42 (sd 4 rfl) (sd 7 rfl) (fun _ _ _ h0 h1 => ih _ _ _ _ _ (inner_le ha0 hab hc) (inner_dens ha0 hab hc hn) (inner (by decide) ha0 hab hc (by first | exact Rat.le_refl | exact hab) (by first | exact Rat.le_refl | exact hab) (by first | exact hda | exact hdb) h0) (inner (by decide) ha0 hab hc (by first | exact Rat.le_refl | exact hab) (by first | exact Rat.le_refl | exact hab) (by first | exact hda | exact hdb) h1))
       · exact zC2 hz Try.func40 (sd 1 rfl) (sd 8 rfl) (fun _ _ _ h0 h1 => cq_div h0 h1 (by decide) (by omega))
       · exact zMv hz (sd 9 rfl)
       · exact zExt hz (sd 10 rfl)
       · exact zExt hz (sd 10 rfl)
       · exact zAl hz nd_rat al_r64
       · exact zSt (sd 11 rfl) st_q64
       · exact zAs hz (sd 12 rfl)
     intro a' γ' W' hz' hd' hC hk hh
     have tp1 := Cp1.lt
     clear Cp1
     have tp2 := Cp2.lt
     clear Cp2
     have tp3 := Cp3.lt
     replace Cp3 := kC hC Cp3
     replace Cp7 := kC hC Cp7
     clear S2
     clear S3
     replace S4 := kp hk S4
     replace S6 := kp hk S6
     clear S7
     obtain ⟨p8, S8, Cp8, lp8, gp8⟩ := gotB hz' 14 hC hh rfl rfl rfl rfl rfl rfl
     have n_p8_p3 : p8 ≠ p3 := by omega
     clear lp8 gp8
     clear tp1 tp2 tp3
     replace HB := aft_call HB (RelC.below_nil hC)
     clear hC hk hh; replace hz := hz'; replace hd := hd'; clear hz' hd'
     refine wp_seq ?_
     refine region_text (M := [p3]) (
         rT (tQ B64 (l + 1) (((x.floor.toNat : Nat) : Rat))) ::
         rT (tQ B64 (2 + l + 1) ((((1 : Nat) : Rat)) / (btw0 (1 / (y - x.floor)) (1 / (x - x.floor))))) ::
         rT (tQ B64 ((l + 1) + (2 + l + 1) + 1) ((((x.floor.toNat : Nat) : Rat)) + ((((1 : Nat) : Rat)) / (btw0 (1 / (y - x.floor)) (1 / (x - x.floor)))))) ::
         rE 0 29 (tQ B64 ((l + 1) + (2 + l + 1) + 1) ((((x.floor.toNat : Nat) : Rat)) + ((((1 : Nat) : Rat)) / (btw0 (1 / (y - x.floor)) (1 / (x - x.floor)))))) p3 ::
         []) hz hd (by kernel_rfl) ?_ ?_
     · refine ⟨?_, ?_, ?_, ?_, trivial⟩
       · exact zLd hz (sv S6) Cp7 ld_q64 (by simp [tagOf, n_p7_p3])
       · exact zLd hz (sv S8) Cp8 ld_q64 (by simp [tagOf, n_p8_p3])
       · exact zC2 hz Try.func17 (sd 0 rfl) (sd 1 rfl) (fun _ _ _ h0 h1 => cq_add h0 h1 (by omega) (by omega))
       · exact zSE rfl (sv S4) (by simp [tagOf]) (Cp3.var tQ_nd) (sd 2 rfl) st_q64
     intro a' γ' W' hz' hd' hC hk hh
     replace Cp3 := gotE (T := tQ B64 ((l + 1) + (2 + l + 1) + 1) ((((x.floor.toNat : Nat) : Rat)) + ((((1 : Nat) : Rat)) / (btw0 (1 / (y - x.floor)) (1 / (x - x.floor)))))) (id := 29) (p := p3) 3 hh rfl rfl
     clear Cp7
     clear Cp8
     replace S4 := kp hk S4
     clear S6
     clear S8
     replace HB := RelC.aftM HB hC (by intro m hm; simp at hm; rcases hm with rfl <;> assumption)
     clear hC hk hh; replace hz := hz'; replace hd := hd'; clear hz' hd'
     refine wp_ret ?_
     refine ret_to (T := tQ B64 ((l + 1) + (2 + l + 1) + 1) ((((x.floor.toNat : Nat) : Rat)) + ((((1 : Nat) : Rat)) / (btw0 (1 / (y - x.floor)) (1 / (x - x.floor)))))) (ret1_q64 (by kernel_rfl) S4 hd Cp3 HB) ?_
     exact fun v w h => tQ_fit (by decide) (tQ_eq (by rw [btw0_step ha0 hab hc, floor_rat ha0]; rfl) _ _ h) (btw_bits ha0 hab (tQ_bits h0).1 hda).1 (btw_bits ha0 hab (tQ_bits h0).1 hda).2

set_option maxRecDepth 10000 in
set_option maxHeartbeats 2000000 in
theorem cq_btw_gt {l : Nat} {x y : Rat} {v0 v1 : Value} {w : World} (b1 : l ≤ 1000000) (hlt : y < x) (h0 : (tQ B64 l x).p v0 w) (h1 : (tQ B64 l y).p v1 w) :
    Calls Try.prog 42 #[v0, v1] w (Ret (tQ B64 l (btw0 y x)) w) := by
 have hab : y ≤ x := Rat.le_of_lt hlt
 obtain ⟨n, hn⟩ : ∃ n, y.den + x.den ≤ n + 1 := ⟨_, Nat.le_succ _⟩
 have ih := fun (x y : Rat) v0 v1 w hab hn h0 h1 => cq_btw_le b1 n x y v0 v1 w hab hn h0 h1
 refine enter Try.func42 rfl Try.ntmps42 (by simp) ?_
 intro a hz hd ha
 have S0 := ha 0 _ rfl
 have H0 := h0
 have S1 := ha 1 _ rfl
 have H1 := h1
 clear ha
 have HB : Below w.heap.size w w := Below.refl _ _
 have ha0 := tQ_nonneg h1
 have hda := (tQ_bits h1).2
 have hdb := (tQ_bits h0).2
 have hce : y.ceil.toNat < 2 ^ l := Nat.lt_of_le_of_lt (ceil_num ha0) (tQ_bits h1).1
 have hfl : y.floor.toNat < 2 ^ l := Nat.lt_of_le_of_lt (floor_num ha0) (tQ_bits h1).1
 refine wp_seq ?_
 refine region_text (M := []) (
  rB 0 29 (tQ B64 l x) none 0 ::
  rB 1 29 (tQ B64 l y) none 0 ::
  rB 2 29 (tQ B64 1 0) none 0 ::
  []) hz hd (by kernel_rfl) ?_ ?_
 refine ⟨?_, ?_, ?_, trivial⟩
 exact zBox hz (so S0 H0) box_q64
 exact zBox hz (so S1 H1) box_q64
 exact zNew hz (fun _ => tQ_nil) al_r64
 intro a' γ' W' hz' hd' hC hk hh
 clear S0 H0
 clear S1 H1
 obtain ⟨p1, S2, Cp1, lp1, gp1⟩ := gotB hz' 0 hC hh rfl rfl rfl rfl rfl rfl
 obtain ⟨p2, S3, Cp2, lp2, gp2⟩ := gotB hz' 1 hC hh rfl rfl rfl rfl rfl rfl
 obtain ⟨p3, S4, Cp3, lp3, gp3⟩ := gotB hz' 2 hC hh rfl rfl rfl rfl rfl rfl
 have n_p1_p2 : p1 ≠ p2 := by intro e; rw [e, gp2] at gp1; omega
 have n_p1_p3 : p1 ≠ p3 := by intro e; rw [e, gp3] at gp1; omega
 have n_p2_p1 : p2 ≠ p1 := by intro e; rw [e, gp1] at gp2; omega
 have n_p2_p3 : p2 ≠ p3 := by intro e; rw [e, gp3] at gp2; omega
 have n_p3_p1 : p3 ≠ p1 := by intro e; rw [e, gp1] at gp3; omega
 have n_p3_p2 : p3 ≠ p2 := by intro e; rw [e, gp2] at gp3; omega
 have bp1 : w.heap.size ≤ p1 := Nat.le_trans HB.size lp1
 have bp2 : w.heap.size ≤ p2 := Nat.le_trans HB.size lp2
 have bp3 : w.heap.size ≤ p3 := Nat.le_trans HB.size lp3
 clear lp1 gp1 lp2 gp2 lp3 gp3
 replace HB := aft_call HB (RelC.below_nil hC)
 clear hC hk hh; replace hz := hz'; replace hd := hd'; clear hz' hd'
 refine wp_seq ?_
 refine wp_seq ?_
 refine region_text (M := []) (
  rT (tQ B64 l x) ::
  rT (tQ B64 l y) ::
  rT (tV (.int .i64 (cmpQ x y))) ::
  rT (tV (.bool (decide (y < x)))) ::
  []) hz hd (by kernel_rfl) ?_ ?_
 refine ⟨?_, ?_, ?_, ?_, trivial⟩
 exact zLd hz (sv S2) Cp1 ld_q64
 exact zLd hz (sv S3) Cp2 ld_q64
 exact zC2 hz Try.func38 (sd 0 rfl) (sd 1 rfl) (fun _ _ _ h0 h1 => cq_cmp h0 h1 (by omega) (by omega))
 exact sBin rfl rfl rfl hz rfl (Gd.none_ rfl) rfl (sd 2 rfl) kc (fun w => run_cQ_gtr x y w)
 intro a' γ' W' hz' hd' hC hk hh
 have tp1 := Cp1.lt
 replace Cp1 := kC hC Cp1
 have tp2 := Cp2.lt
 replace Cp2 := kC hC Cp2
 have tp3 := Cp3.lt
 replace Cp3 := kC hC Cp3
 replace S2 := kp hk S2
 replace S3 := kp hk S3
 replace S4 := kp hk S4
 have S13 := gotV hz' 3 hh rfl rfl rfl rfl
 clear tp1 tp2 tp3
 replace HB := aft_call HB (RelC.below_nil hC)
 clear hC hk hh; replace hz := hz'; replace hd := hd'; clear hz' hd'
 have hc4 : y < x := hlt
 rw [decide_eq_true hc4] at S13
 refine wp_cond_true S13.ev ?_
 refine region_text (M := [p1, p2]) (
  rT (tQ B64 l y) ::
  rT (tQ B64 l x) ::
  rE 0 29 (tQ B64 l y) p1 ::
  rE 1 29 (tQ B64 l x) p2 ::
  []) hz hd (by kernel_rfl) ?_ ?_
 refine ⟨?_, ?_, ?_, ?_, trivial⟩
 exact sLoadM rfl rfl rfl hz rfl (Gd.none_ rfl) rfl (sv S3) Cp2 (k := 1) (by simp [tagOf, n_p2_p1]) (by kernel_rfl) ld_q64
 exact sLoadM rfl rfl rfl hz rfl (Gd.none_ rfl) rfl (sv S2) Cp1 (k := 0) (by simp [tagOf]) (by kernel_rfl) ld_q64
 exact zSE rfl (sv S2) (by simp [tagOf]) (Cp1.var tQ_nd) (sd 0 rfl) st_q64
 exact zSE rfl (sv S3) (by simp [tagOf, n_p2_p1]) (Cp2.var tQ_nd) (sd 1 rfl) st_q64
 intro a' γ' W' hz' hd' hC hk hh
 replace Cp1 := gotE (T := tQ B64 l y) (id := 29) (p := p1) 2 hh rfl rfl
 replace Cp2 := gotE (T := tQ B64 l x) (id := 29) (p := p2) 3 hh rfl rfl
 have tp3 := Cp3.lt
 replace Cp3 := kC hC Cp3 (by simp [tagOf, n_p3_p1, n_p3_p2])
 replace S2 := kp hk S2
 replace S3 := kp hk S3
 replace S4 := kp hk S4
 clear S13
 clear tp3
 replace HB := RelC.aftM HB hC (by intro m hm; simp at hm; rcases hm with rfl | rfl <;> assumption)
 clear hC hk hh; replace hz := hz'; replace hd := hd'; clear hz' hd'
 refine wp_seq ?_
 refine wp_seq ?_
 refine region_text (M := []) (
  rT (tQ B64 l y) ::
  rT (tN B64 (l + 1) y.ceil.toNat) ::
  rT (tQ B64 (l + 1) (((y.ceil.toNat : Nat) : Rat))) ::
  rVar 3 29 2 ::
  rB 3 29 (tQ B64 (l + 1) (((y.ceil.toNat : Nat) : Rat))) (some 3) 4 ::
  []) hz hd (by kernel_rfl) ?_ ?_
 refine ⟨?_, ?_, ?_, ?_, ?_, trivial⟩
 exact zLd hz (sv S2) Cp1 ld_q64
 exact zC1 hz Try.func28 (sd 0 rfl) (fun _ _ h0 => cq_ceil h0 (by omega))
 exact zC1 hz Try.func65 (sd 1 rfl) (fun _ _ h0 => cq_whole (l := l) h0 (by omega) hce)
 exact zAl hz nd_rat al_r64
 exact zSt (sd 2 rfl) st_q64
 intro a' γ' W' hz' hd' hC hk hh
 have tp1 := Cp1.lt
 replace Cp1 := kC hC Cp1
 have tp2 := Cp2.lt
 replace Cp2 := kC hC Cp2
 have tp3 := Cp3.lt
 replace Cp3 := kC hC Cp3
 replace S2 := kp hk S2
 replace S3 := kp hk S3
 replace S4 := kp hk S4
 obtain ⟨p5, S5, Cp5, lp5, gp5⟩ := gotB hz' 4 hC hh rfl rfl rfl rfl rfl rfl
 have n_p5_p1 : p5 ≠ p1 := by omega
 have n_p5_p2 : p5 ≠ p2 := by omega
 have n_p5_p3 : p5 ≠ p3 := by omega
 clear lp5 gp5
 clear tp1 tp2 tp3
 replace HB := aft_call HB (RelC.below_nil hC)
 clear hC hk hh; replace hz := hz'; replace hd := hd'; clear hz' hd'
 refine wp_seq ?_
 refine region_text (M := []) (
  rT (tQ B64 (l + 1) (((y.ceil.toNat : Nat) : Rat))) ::
  rT (tQ B64 l x) ::
  rT (tV (.int .i64 (cmpQ (((y.ceil.toNat : Nat) : Rat)) x))) ::
  rT (tV (.bool (decide (((y.ceil.toNat : Nat) : Rat) ≤ x)))) ::
  []) hz hd (by kernel_rfl) ?_ ?_
 refine ⟨?_, ?_, ?_, ?_, trivial⟩
 exact zLd hz (sv S5) Cp5 ld_q64
 exact zLd hz (sv S3) Cp2 ld_q64
 exact zC2 hz Try.func38 (sd 0 rfl) (sd 1 rfl) (fun _ _ _ h0 h1 => cq_cmp h0 h1 (by omega) (by omega))
 exact sBin rfl rfl rfl hz rfl (Gd.none_ rfl) rfl (sd 2 rfl) kc (fun w => run_cQ_leq (((y.ceil.toNat : Nat) : Rat)) x w)
 intro a' γ' W' hz' hd' hC hk hh
 have tp1 := Cp1.lt
 replace Cp1 := kC hC Cp1
 have tp2 := Cp2.lt
 replace Cp2 := kC hC Cp2
 have tp3 := Cp3.lt
 replace Cp3 := kC hC Cp3
 replace Cp5 := kC hC Cp5
 replace S2 := kp hk S2
 replace S3 := kp hk S3
 replace S4 := kp hk S4
 replace S5 := kp hk S5
 have S22 := gotV hz' 3 hh rfl rfl rfl rfl
 clear tp1 tp2 tp3
 replace HB := aft_call HB (RelC.below_nil hC)
 clear hC hk hh; replace hz := hz'; replace hd := hd'; clear hz' hd'
 by_cases hc6 : ((y.ceil.toNat : Nat) : Rat) ≤ x
 rw [decide_eq_true hc6] at S22
 refine wp_cond_true S22.ev ?_
 refine wp_seq ?_
 refine region_text (M := [p3]) (
  rT (tQ B64 (l + 1) (((y.ceil.toNat : Nat) : Rat))) ::
  rE 0 29 (tQ B64 (l + 1) (((y.ceil.toNat : Nat) : Rat))) p3 ::
  []) hz hd (by kernel_rfl) ?_ ?_
 refine ⟨?_, ?_, trivial⟩
 exact zLd hz (sv S5) Cp5 ld_q64 (by simp [tagOf, n_p5_p3])
 exact zSE rfl (sv S4) (by simp [tagOf]) (Cp3.var tQ_nd) (sd 0 rfl) st_q64
 intro a' γ' W' hz' hd' hC hk hh
 have tp1 := Cp1.lt
 replace Cp1 := kC hC Cp1 (by simp [tagOf, n_p1_p3])
 have tp2 := Cp2.lt
 replace Cp2 := kC hC Cp2 (by simp [tagOf, n_p2_p3])
 replace Cp3 := gotE (T := tQ B64 (l + 1) (((y.ceil.toNat : Nat) : Rat))) (id := 29) (p := p3) 1 hh rfl rfl
 clear Cp5
 replace S2 := kp hk S2
 replace S3 := kp hk S3
 replace S4 := kp hk S4
 clear S5
 clear S22
 clear tp1 tp2
 replace HB := RelC.aftM HB hC (by intro m hm; simp at hm; rcases hm with rfl <;> assumption)
 clear hC hk hh; replace hz := hz'; replace hd := hd'; clear hz' hd'
 refine wp_ret ?_
 refine ret_to (T := tQ B64 (l + 1) (((y.ceil.toNat : Nat) : Rat))) (ret1_q64 (by kernel_rfl) S4 hd Cp3 HB) ?_
 exact fun v w h => tQ_fit (by decide) (tQ_eq (by rw [btw0_int ha0 hab (by rw [← ceil_rat ha0]; assumption)]; exact ceil_rat ha0) _ _ h) (btw_bits ha0 hab (tQ_bits h1).1 hda).1 (btw_bits ha0 hab (tQ_bits h1).1 hda).2
 rw [decide_eq_false hc6] at S22
 have hc : ¬ (y.ceil : Rat) ≤ x := by rw [← ceil_rat ha0]; exact hc6
 refine wp_cond_false S22.ev ?_
 refine wp_skip ?_
 refine wp_seq ?_
 refine region_text (M := []) (
  rT (tQ B64 l y) ::
  rT (tN B64 l y.floor.toNat) ::
  rT (tQ B64 (l + 1) (((y.floor.toNat : Nat) : Rat))) ::
  rVar 3 29 2 ::
  rB 3 29 (tQ B64 (l + 1) (((y.floor.toNat : Nat) : Rat))) (some 3) 4 ::
  []) hz hd (by kernel_rfl) ?_ ?_
 refine ⟨?_, ?_, ?_, ?_, ?_, trivial⟩
 exact zLd hz (sv S2) Cp1 ld_q64
 exact zC1 hz Try.func27 (sd 0 rfl) (fun _ _ h0 => cq_floor h0 (by omega))
 exact zC1 hz Try.func65 (sd 1 rfl) (fun _ _ h0 => cq_whole (l := l) h0 (by omega) hfl)
 exact zAl hz nd_rat al_r64
 exact zSt (sd 2 rfl) st_q64
 intro a' γ' W' hz' hd' hC hk hh
 have tp1 := Cp1.lt
 replace Cp1 := kC hC Cp1
 have tp2 := Cp2.lt
 replace Cp2 := kC hC Cp2
 have tp3 := Cp3.lt
 replace Cp3 := kC hC Cp3
 clear Cp5
 replace S2 := kp hk S2
 replace S3 := kp hk S3
 replace S4 := kp hk S4
 clear S5
 clear S22
 obtain ⟨p7, S6, Cp7, lp7, gp7⟩ := gotB hz' 4 hC hh rfl rfl rfl rfl rfl rfl
 have n_p7_p1 : p7 ≠ p1 := by omega
 have n_p7_p2 : p7 ≠ p2 := by omega
 have n_p7_p3 : p7 ≠ p3 := by omega
 clear lp7 gp7
 clear tp1 tp2 tp3
 replace HB := aft_call HB (RelC.below_nil hC)
 clear hC hk hh; replace hz := hz'; replace hd := hd'; clear hz' hd'
 refine wp_seq ?_
 refine region_text (M := []) (
  rT (tV (.func (.func 66) #[] #[.pointer (some ⟨p7, 0, none⟩)])) ::
  rT (tV (.func (.func 66) #[] #[.pointer (some ⟨p7, 0, none⟩)])) ::
  []) hz hd (by kernel_rfl) ?_ ?_
 refine ⟨?_, ?_, trivial⟩
 exact sMkFunc rfl rfl rfl hz rfl (Gd.none_ rfl) rfl (sv S6)
 exact zAs hz (sd 0 rfl)
 intro a' γ' W' hz' hd' hC hk hh
 have tp1 := Cp1.lt
 replace Cp1 := kC hC Cp1
 have tp2 := Cp2.lt
 replace Cp2 := kC hC Cp2
 have tp3 := Cp3.lt
 replace Cp3 := kC hC Cp3
 replace Cp7 := kC hC Cp7
 replace S2 := kp hk S2
 replace S3 := kp hk S3
 replace S4 := kp hk S4
 replace S6 := kp hk S6
 have S7 := gotV hz' 1 hh rfl rfl rfl rfl
 clear tp1 tp2 tp3
 replace HB := aft_call HB (RelC.below_nil hC)
 clear hC hk hh; replace hz := hz'; replace hd := hd'; clear hz' hd'
 refine wp_seq ?_
 refine region_drawn (M := []) (
  rT (tN B64 1 1) ::
  rT (tQ B64 2 (((1 : Nat) : Rat))) ::
  rT (tV (.func (.func 66) #[] #[.pointer (some ⟨p7, 0, none⟩)])) ::
  rT (tQ B64 l x) ::
  rT (tQ B64 (l + ((l + 1)) + 4) (((1 : Nat) : Rat) / subQ x (((y.floor.toNat : Nat) : Rat)))) ::
  rT (tV (.func (.func 66) #[] #[.pointer (some ⟨p7, 0, none⟩)])) ::
  rT (tQ B64 l y) ::
  rT (tQ B64 (l + ((l + 1)) + 4) (((1 : Nat) : Rat) / subQ y (((y.floor.toNat : Nat) : Rat)))) ::
  rT (tQ B64 l (btw0 (1 / (x - y.floor)) (1 / (y - y.floor)))) ::
  rT (tT [tQ B64 (2 + l + 1) ((((1 : Nat) : Rat)) / (btw0 (1 / (x - y.floor)) (1 / (y - y.floor)))), tV (.bool (decide (btw0 (1 / (x - y.floor)) (1 / (y - y.floor)) ≠ 0)))]) ::
  rT (tT [tQ B64 (2 + l + 1) ((((1 : Nat) : Rat)) / (btw0 (1 / (x - y.floor)) (1 / (y - y.floor)))), tV (.bool (decide (btw0 (1 / (x - y.floor)) (1 / (y - y.floor)) ≠ 0)))]) ::
  rT (tQ B64 (2 + l + 1) ((((1 : Nat) : Rat)) / (btw0 (1 / (x - y.floor)) (1 / (y - y.floor))))) ::
  rT (tV (.bool (decide (btw0 (1 / (x - y.floor)) (1 / (y - y.floor)) ≠ 0)))) ::
  rVar 13 29 2 ::
  rB 13 29 (tQ B64 (2 + l + 1) ((((1 : Nat) : Rat)) / (btw0 (1 / (x - y.floor)) (1 / (y - y.floor))))) (some 13) 14 ::
  rT (tV (.bool (decide (btw0 (1 / (x - y.floor)) (1 / (y - y.floor)) ≠ 0)))) ::
  []) hz hd (by kernel_rfl) (by kernel_rfl) ?_ ?_
 refine ⟨?_, ?_, ?_, ?_, ?_, ?_, ?_, ?_, ?_, ?_, ?_, ?_, ?_, ?_, ?_, ?_, trivial⟩
 exact zC0 hz Try.func60 (fun _ => c_one (l1 := 0) (l2 := 0) (l3 := 0) (l4 := 0) (p := 0) (q := 0) (p' := 0) (q' := 0))
 exact zC1 hz Try.func65 (sd 0 rfl) (fun _ _ h0 => cq_whole (l := 1) h0 (by decide) (by decide))
 exact zMv hz (sv S7)
 exact zLd hz (sv S3) Cp2 ld_q64
 exact sCallF rfl rfl rfl hz rfl (Gd.none_ rfl) rfl (sd 2 rfl) Try.func66 (by kernel_rfl) (by kernel_rfl) fun a γ w U => (by show Calls _ _ #[a.eval (.tmp 32), .pointer (some ⟨p7, 0, none⟩)] _ _; exact cq_turned (Src.at_ (sd 3 rfl) U) (kC U.c Cp7) (by omega) (by omega))
 exact zMv hz (sv S7)
 exact zLd hz (sv S2) Cp1 ld_q64
 exact sCallF rfl rfl rfl hz rfl (Gd.none_ rfl) rfl (sd 5 rfl) Try.func66 (by kernel_rfl) (by kernel_rfl) fun a γ w U => (by show Calls _ _ #[a.eval (.tmp 35), .pointer (some ⟨p7, 0, none⟩)] _ _; exact cq_turned (Src.at_ (sd 6 rfl) U) (kC U.c Cp7) (by omega) (by omega))
 exact zC2 hz Try.func42 (sd 4 rfl) (sd 7 rfl) (fun _ _ _ h0 h1 => ih _ _ _ _ _ (inner_le ha0 hab hc) (inner_dens ha0 hab hc hn) (inner (by decide) ha0 hab hc (by first | exact Rat.le_refl | exact hab) (by first | exact Rat.le_refl | exact hab) (by first | exact hda | exact hdb) h0) (inner (by decide) ha0 hab hc (by first | exact Rat.le_refl | exact hab) (by first | exact Rat.le_refl | exact hab) (by first | exact hda | exact hdb) h1))
 exact zC2 hz Try.func40 (sd 1 rfl) (sd 8 rfl) (fun _ _ _ h0 h1 => cq_div h0 h1 (by decide) (by omega))
 exact zMv hz (sd 9 rfl)
 exact zExt hz (sd 10 rfl)
 exact zExt hz (sd 10 rfl)
 exact zAl hz nd_rat al_r64
 exact zSt (sd 11 rfl) st_q64
 exact zAs hz (sd 12 rfl)
 intro a' γ' W' hz' hd' hC hk hh
 have tp1 := Cp1.lt
 clear Cp1
 have tp2 := Cp2.lt
 clear Cp2
 have tp3 := Cp3.lt
 replace Cp3 := kC hC Cp3
 replace Cp7 := kC hC Cp7
 clear S2
 clear S3
 replace S4 := kp hk S4
 replace S6 := kp hk S6
 clear S7
 obtain ⟨p8, S8, Cp8, lp8, gp8⟩ := gotB hz' 14 hC hh rfl rfl rfl rfl rfl rfl
 have n_p8_p3 : p8 ≠ p3 := by omega
 clear lp8 gp8
 clear tp1 tp2 tp3
 replace HB := aft_call HB (RelC.below_nil hC)
 clear hC hk hh; replace hz := hz'; replace hd := hd'; clear hz' hd'
 refine wp_seq ?_
 refine region_text (M := [p3]) (
  rT (tQ B64 (l + 1) (((y.floor.toNat : Nat) : Rat))) ::
  rT (tQ B64 (2 + l + 1) ((((1 : Nat) : Rat)) / (btw0 (1 / (x - y.floor)) (1 / (y - y.floor))))) ::
  rT (tQ B64 ((l + 1) + (2 + l + 1) + 1) ((((y.floor.toNat : Nat) : Rat)) + ((((1 : Nat) : Rat)) / (btw0 (1 / (x - y.floor)) (1 / (y - y.floor)))))) ::
  rE 0 29 (tQ B64 ((l + 1) + (2 + l + 1) + 1) ((((y.floor.toNat : Nat) : Rat)) + ((((1 : Nat) : Rat)) / (btw0 (1 / (x - y.floor)) (1 / (y - y.floor)))))) p3 ::
  []) hz hd (by kernel_rfl) ?_ ?_
 refine ⟨?_, ?_, ?_, ?_, trivial⟩
 exact zLd hz (sv S6) Cp7 ld_q64 (by simp [tagOf, n_p7_p3])
 exact zLd hz (sv S8) Cp8 ld_q64 (by simp [tagOf, n_p8_p3])
 exact zC2 hz Try.func17 (sd 0 rfl) (sd 1 rfl) (fun _ _ _ h0 h1 => cq_add h0 h1 (by omega) (by omega))
 exact zSE rfl (sv S4) (by simp [tagOf]) (Cp3.var tQ_nd) (sd 2 rfl) st_q64
 intro a' γ' W' hz' hd' hC hk hh
 replace Cp3 := gotE (T := tQ B64 ((l + 1) + (2 + l + 1) + 1) ((((y.floor.toNat : Nat) : Rat)) + ((((1 : Nat) : Rat)) / (btw0 (1 / (x - y.floor)) (1 / (y - y.floor)))))) (id := 29) (p := p3) 3 hh rfl rfl
 clear Cp7
 clear Cp8
 replace S4 := kp hk S4
 clear S6
 clear S8
 replace HB := RelC.aftM HB hC (by intro m hm; simp at hm; rcases hm with rfl <;> assumption)
 clear hC hk hh; replace hz := hz'; replace hd := hd'; clear hz' hd'
 refine wp_ret ?_
 refine ret_to (T := tQ B64 ((l + 1) + (2 + l + 1) + 1) ((((y.floor.toNat : Nat) : Rat)) + ((((1 : Nat) : Rat)) / (btw0 (1 / (x - y.floor)) (1 / (y - y.floor)))))) (ret1_q64 (by kernel_rfl) S4 hd Cp3 HB) ?_
 exact fun v w h => tQ_fit (by decide) (tQ_eq (by rw [btw0_step ha0 hab hc, floor_rat ha0]; rfl) _ _ h) (btw_bits ha0 hab (tQ_bits h1).1 hda).1 (btw_bits ha0 hab (tQ_bits h1).1 hda).2

set_option maxRecDepth 10000 in
set_option maxHeartbeats 2000000 in
theorem dq_btw_le {l : Nat} (hl : 1 ≤ l) (b1 : l ≤ 1000000) : ∀ (n : Nat) (x y : Rat) (v0 v1 : Value) (w : World) (hab : x ≤ y) (hn : x.den + y.den ≤ n) (h0 : (tQ B32 l x).p v0 w) (h1 : (tQ B32 l y).p v1 w),
    Calls Try.prog 75 #[v0, v1] w (Ret (tQ B32 l (btw0 x y)) w) := by
 intro n
 induction n with
 | zero => intro x y v0 v1 w hab hn; have := x.den_pos; omega
 | succ n ih' =>
   intro x y v0 v1 w hab hn h0 h1
   have ih := fun x y v0 v1 w hab hn h0 h1 => ih' x y v0 v1 w hab hn h0 h1
   clear ih'
   refine enter Try.func75 rfl Try.ntmps75 (by simp) ?_
   intro a hz hd ha
   have S0 := ha 0 _ rfl
   have H0 := h0
   have S1 := ha 1 _ rfl
   have H1 := h1
   clear ha
   have HB : Below w.heap.size w w := Below.refl _ _
   have ha0 := tQ_nonneg h0
   have hda := (tQ_bits h0).2
   have hdb := (tQ_bits h1).2
   have hce : x.ceil.toNat < 2 ^ l := Nat.lt_of_le_of_lt (ceil_num ha0) (tQ_bits h0).1
   have hfl : x.floor.toNat < 2 ^ l := Nat.lt_of_le_of_lt (floor_num ha0) (tQ_bits h0).1
   refine wp_seq ?_
   refine region_text (M := []) (
       rB 0 33 (tQ B32 l x) none 0 ::
       rB 1 33 (tQ B32 l y) none 0 ::
       rB 2 33 (tR B32 0 0 0 0) none 0 ::
       []) hz hd (by kernel_rfl) ?_ ?_
   · refine ⟨?_, ?_, ?_, trivial⟩
     · exact zBox hz (so S0 H0) box_q32
     · exact zBox hz (so S1 H1) box_q32
     · exact zNew hz (fun _ => tR_nil) al_r32
   intro a' γ' W' hz' hd' hC hk hh
   clear S0 H0
   clear S1 H1
   obtain ⟨p1, S2, Cp1, lp1, gp1⟩ := gotB hz' 0 hC hh rfl rfl rfl rfl rfl rfl
   obtain ⟨p2, S3, Cp2, lp2, gp2⟩ := gotB hz' 1 hC hh rfl rfl rfl rfl rfl rfl
   obtain ⟨p3, S4, Cp3, lp3, gp3⟩ := gotB hz' 2 hC hh rfl rfl rfl rfl rfl rfl
   have n_p1_p3 : p1 ≠ p3 := by intro e; rw [e, gp3] at gp1; omega
   have n_p2_p3 : p2 ≠ p3 := by intro e; rw [e, gp3] at gp2; omega
   have bp3 : w.heap.size ≤ p3 := Nat.le_trans HB.size lp3
   clear lp1 gp1 lp2 gp2 lp3 gp3
   replace HB := aft_call HB (RelC.below_nil hC)
   clear hC hk hh; replace hz := hz'; replace hd := hd'; clear hz' hd'
   refine wp_seq ?_
   refine wp_seq ?_
   refine region_text (M := []) (
       rT (tQ B32 l x) ::
       rT (tQ B32 l y) ::
       rT (tV (.int .i64 (cmpQ x y))) ::
       rT (tV (.bool (decide (y < x)))) ::
       []) hz hd (by kernel_rfl) ?_ ?_
   · refine ⟨?_, ?_, ?_, ?_, trivial⟩
     · exact zLd hz (sv S2) Cp1 ld_q32
     · exact zLd hz (sv S3) Cp2 ld_q32
     · exact zC2 hz Try.func76 (sd 0 rfl) (sd 1 rfl) (fun _ _ _ h0 h1 => dq_cmp h0 h1 (by omega) (by omega))
     · exact sBin rfl rfl rfl hz rfl (Gd.none_ rfl) rfl (sd 2 rfl) kc (fun w => run_cQ_gtr x y w)
   intro a' γ' W' hz' hd' hC hk hh
   replace Cp1 := kC hC Cp1
   replace Cp2 := kC hC Cp2
   have tp3 := Cp3.lt
   replace Cp3 := kC hC Cp3
   replace S2 := kp hk S2
   replace S3 := kp hk S3
   replace S4 := kp hk S4
   have S16 := gotV hz' 3 hh rfl rfl rfl rfl
   clear tp3
   replace HB := aft_call HB (RelC.below_nil hC)
   clear hC hk hh; replace hz := hz'; replace hd := hd'; clear hz' hd'
   have hc4 : ¬ (y < x) := (by grind)
   rw [decide_eq_false hc4] at S16
   refine wp_cond_false S16.ev ?_
   refine wp_skip ?_
   refine wp_seq ?_
   refine region_text (M := []) (
       rT (tQ B32 l x) ::
       rT (tN B32 (l + 3) x.ceil.toNat) ::
       rT (tN B32 2 1) ::
       rT (tQ B32 l (((x.ceil.toNat : Nat) : Rat))) ::
       rVar 4 33 2 ::
       rB 4 33 (tQ B32 l (((x.ceil.toNat : Nat) : Rat))) (some 4) 5 ::
       []) hz hd (by kernel_rfl) ?_ ?_
   · refine ⟨?_, ?_, ?_, ?_, ?_, ?_, trivial⟩
     · exact zLd hz (sv S2) Cp1 ld_q32
     · exact zC1 hz Try.func36 (sd 0 rfl) (fun _ _ h0 => dq_ceil h0 (by omega))
     · exact zC1 hz Try.func16 (kc (v := .int .u64 1)) (k1 (fun _ => d_of (by decide)))
     · exact zB2 hz (sd 1 rfl) (sd 2 rfl) (mk_w32 hl hce)
     · exact zAl hz nd_rat al_r32
     · exact zSt (sd 3 rfl) st_q32
   intro a' γ' W' hz' hd' hC hk hh
   replace Cp1 := kC hC Cp1
   replace Cp2 := kC hC Cp2
   have tp3 := Cp3.lt
   replace Cp3 := kC hC Cp3
   replace S2 := kp hk S2
   replace S3 := kp hk S3
   replace S4 := kp hk S4
   clear S16
   obtain ⟨p5, S5, Cp5, lp5, gp5⟩ := gotB hz' 5 hC hh rfl rfl rfl rfl rfl rfl
   have n_p5_p3 : p5 ≠ p3 := by omega
   clear lp5 gp5
   clear tp3
   replace HB := aft_call HB (RelC.below_nil hC)
   clear hC hk hh; replace hz := hz'; replace hd := hd'; clear hz' hd'
   refine wp_seq ?_
   refine wp_seq ?_
   refine region_text (M := []) (
       rT (tQ B32 l (((x.ceil.toNat : Nat) : Rat))) ::
       rT (tQ B32 l y) ::
       rT (tV (.int .i64 (cmpQ (((x.ceil.toNat : Nat) : Rat)) y))) ::
       rT (tV (.bool (decide (((x.ceil.toNat : Nat) : Rat) ≤ y)))) ::
       []) hz hd (by kernel_rfl) ?_ ?_
   · refine ⟨?_, ?_, ?_, ?_, trivial⟩
     · exact zLd hz (sv S5) Cp5 ld_q32
     · exact zLd hz (sv S3) Cp2 ld_q32
     · exact zC2 hz Try.func76 (sd 0 rfl) (sd 1 rfl) (fun _ _ _ h0 h1 => dq_cmp h0 h1 (by omega) (by omega))
     · exact sBin rfl rfl rfl hz rfl (Gd.none_ rfl) rfl (sd 2 rfl) kc (fun w => run_cQ_leq (((x.ceil.toNat : Nat) : Rat)) y w)
   intro a' γ' W' hz' hd' hC hk hh
   replace Cp1 := kC hC Cp1
   replace Cp2 := kC hC Cp2
   have tp3 := Cp3.lt
   replace Cp3 := kC hC Cp3
   replace Cp5 := kC hC Cp5
   replace S2 := kp hk S2
   replace S3 := kp hk S3
   replace S4 := kp hk S4
   replace S5 := kp hk S5
   have S27 := gotV hz' 3 hh rfl rfl rfl rfl
   clear tp3
   replace HB := aft_call HB (RelC.below_nil hC)
   clear hC hk hh; replace hz := hz'; replace hd := hd'; clear hz' hd'
   by_cases hc6 : ((x.ceil.toNat : Nat) : Rat) ≤ y
   · rw [decide_eq_true hc6] at S27
     refine wp_cond_true S27.ev ?_
     refine wp_seq ?_
     refine region_text (M := [p3]) (
         rT (tQ B32 l (((x.ceil.toNat : Nat) : Rat))) ::
         rE 0 33 (tQ B32 l (((x.ceil.toNat : Nat) : Rat))) p3 ::
         []) hz hd (by kernel_rfl) ?_ ?_
     · refine ⟨?_, ?_, trivial⟩
       · exact zLd hz (sv S5) Cp5 ld_q32 (by simp [tagOf, n_p5_p3])
       · exact zSE rfl (sv S4) (by simp [tagOf]) (Cp3.var tR_nd) (sd 0 rfl) st_q32
     intro a' γ' W' hz' hd' hC hk hh
     replace Cp1 := kC hC Cp1 (by simp [tagOf, n_p1_p3])
     replace Cp2 := kC hC Cp2 (by simp [tagOf, n_p2_p3])
     replace Cp3 := gotE (T := tQ B32 l (((x.ceil.toNat : Nat) : Rat))) (id := 33) (p := p3) 1 hh rfl rfl
     clear Cp5
     replace S2 := kp hk S2
     replace S3 := kp hk S3
     replace S4 := kp hk S4
     clear S5
     clear S27
     replace HB := RelC.aftM HB hC (by intro m hm; simp at hm; rcases hm with rfl <;> assumption)
     clear hC hk hh; replace hz := hz'; replace hd := hd'; clear hz' hd'
     refine wp_ret ?_
     refine ret_to (T := tQ B32 l (((x.ceil.toNat : Nat) : Rat))) (ret1_q32 (by kernel_rfl) S4 hd Cp3 HB) ?_
     exact fun v w h => tQ_fit (by decide) (tQ_eq (by rw [btw0_int ha0 hab (by rw [← ceil_rat ha0]; assumption)]; exact ceil_rat ha0) _ _ h) (btw_bits ha0 hab (tQ_bits h0).1 hda).1 (btw_bits ha0 hab (tQ_bits h0).1 hda).2
   · rw [decide_eq_false hc6] at S27
     have hc : ¬ (x.ceil : Rat) ≤ y := by rw [← ceil_rat ha0]; exact hc6
     refine wp_cond_false S27.ev ?_
     refine wp_skip ?_
     refine wp_seq ?_
     refine region_text (M := []) (
         rT (tQ B32 l x) ::
         rT (tN B32 l x.floor.toNat) ::
         rT (tN B32 2 1) ::
         rT (tQ B32 l (((x.floor.toNat : Nat) : Rat))) ::
         rVar 4 33 2 ::
         rB 4 33 (tQ B32 l (((x.floor.toNat : Nat) : Rat))) (some 4) 5 ::
         []) hz hd (by kernel_rfl) ?_ ?_
     · refine ⟨?_, ?_, ?_, ?_, ?_, ?_, trivial⟩
       · exact zLd hz (sv S2) Cp1 ld_q32
       · exact zC1 hz Try.func35 (sd 0 rfl) (fun _ _ h0 => dq_floor h0 (by omega))
       · exact zC1 hz Try.func16 (kc (v := .int .u64 1)) (k1 (fun _ => d_of (by decide)))
       · exact zB2 hz (sd 1 rfl) (sd 2 rfl) (mk_w32 hl hfl)
       · exact zAl hz nd_rat al_r32
       · exact zSt (sd 3 rfl) st_q32
     intro a' γ' W' hz' hd' hC hk hh
     replace Cp1 := kC hC Cp1
     replace Cp2 := kC hC Cp2
     have tp3 := Cp3.lt
     replace Cp3 := kC hC Cp3
     clear Cp5
     replace S2 := kp hk S2
     replace S3 := kp hk S3
     replace S4 := kp hk S4
     clear S5
     clear S27
     obtain ⟨p7, S6, Cp7, lp7, gp7⟩ := gotB hz' 5 hC hh rfl rfl rfl rfl rfl rfl
     have n_p7_p3 : p7 ≠ p3 := by omega
     clear lp7 gp7
     clear tp3
     replace HB := aft_call HB (RelC.below_nil hC)
     clear hC hk hh; replace hz := hz'; replace hd := hd'; clear hz' hd'
     refine wp_seq ?_
     refine region_drawn (M := []) (
         rT (tQ B32 2 (((1 : Nat) : Rat))) ::
         rT (tQ B32 l y) ::
         rT (tQ B32 l (((x.floor.toNat : Nat) : Rat))) ::
         rT (tQ B32 (l + l + 1) (subQ y (((x.floor.toNat : Nat) : Rat)))) ::
         rT (tT [tQ B32 (2 + (l + l + 1) + 1) ((((1 : Nat) : Rat)) / (subQ y (((x.floor.toNat : Nat) : Rat)))), tV (.bool (decide (subQ y (((x.floor.toNat : Nat) : Rat)) ≠ 0)))]) ::
         rT (tT [tQ B32 (2 + (l + l + 1) + 1) ((((1 : Nat) : Rat)) / (subQ y (((x.floor.toNat : Nat) : Rat)))), tV (.bool (decide (subQ y (((x.floor.toNat : Nat) : Rat)) ≠ 0)))]) ::
         rT (tQ B32 (2 + (l + l + 1) + 1) ((((1 : Nat) : Rat)) / (subQ y (((x.floor.toNat : Nat) : Rat))))) ::
         rT (tV (.bool (decide (subQ y (((x.floor.toNat : Nat) : Rat)) ≠ 0)))) ::
         rVar 8 33 2 ::
         rB 8 33 (tQ B32 (2 + (l + l + 1) + 1) ((((1 : Nat) : Rat)) / (subQ y (((x.floor.toNat : Nat) : Rat))))) (some 8) 9 ::
         rT (tV (.bool (decide (subQ y (((x.floor.toNat : Nat) : Rat)) ≠ 0)))) ::
         []) hz hd (by kernel_rfl) (by kernel_rfl) ?_ ?_
     · refine ⟨?_, ?_, ?_, ?_, ?_, ?_, ?_, ?_, ?_, ?_, ?_, trivial⟩
       · exact zC1 hz Try.func99 (kc (v := .int .u64 1)) (k1 (fun _ => dq_whole (l := 1) (p := 1) (by decide) (by decide)))
       · exact zLd hz (sv S3) Cp2 ld_q32
       · exact zLd hz (sv S6) Cp7 ld_q32
       · exact zC2 hz Try.func100 (sd 1 rfl) (sd 2 rfl) (fun _ _ _ h0 h1 => dq_less h0 h1 (by omega) (by omega))
       · exact zC2 hz Try.func69 (sd 0 rfl) (sd 3 rfl) (fun _ _ _ h0 h1 => dq_div h0 h1 (by decide) (by omega))
       · exact zMv hz (sd 4 rfl)
       · exact zExt hz (sd 5 rfl)
       · exact zExt hz (sd 5 rfl)
       · exact zAl hz nd_rat al_r32
       · exact zSt (sd 6 rfl) st_q32
       · exact zAs hz (sd 7 rfl)
     intro a' γ' W' hz' hd' hC hk hh
     replace Cp1 := kC hC Cp1
     clear Cp2
     have tp3 := Cp3.lt
     replace Cp3 := kC hC Cp3
     replace Cp7 := kC hC Cp7
     replace S2 := kp hk S2
     clear S3
     replace S4 := kp hk S4
     replace S6 := kp hk S6
     obtain ⟨p8, S7, Cp8, lp8, gp8⟩ := gotB hz' 9 hC hh rfl rfl rfl rfl rfl rfl
     have n_p8_p3 : p8 ≠ p3 := by omega
     clear lp8 gp8
     clear tp3
     replace HB := aft_call HB (RelC.below_nil hC)
     clear hC hk hh; replace hz := hz'; replace hd := hd'; clear hz' hd'
     refine wp_seq ?_
     refine region_drawn (M := []) (
         rT (tQ B32 2 (((1 : Nat) : Rat))) ::
         rT (tQ B32 l x) ::
         rT (tQ B32 l (((x.floor.toNat : Nat) : Rat))) ::
         rT (tQ B32 (l + l + 1) (subQ x (((x.floor.toNat : Nat) : Rat)))) ::
         rT (tT [tQ B32 (2 + (l + l + 1) + 1) ((((1 : Nat) : Rat)) / (subQ x (((x.floor.toNat : Nat) : Rat)))), tV (.bool (decide (subQ x (((x.floor.toNat : Nat) : Rat)) ≠ 0)))]) ::
         rT (tT [tQ B32 (2 + (l + l + 1) + 1) ((((1 : Nat) : Rat)) / (subQ x (((x.floor.toNat : Nat) : Rat)))), tV (.bool (decide (subQ x (((x.floor.toNat : Nat) : Rat)) ≠ 0)))]) ::
         rT (tQ B32 (2 + (l + l + 1) + 1) ((((1 : Nat) : Rat)) / (subQ x (((x.floor.toNat : Nat) : Rat))))) ::
         rT (tV (.bool (decide (subQ x (((x.floor.toNat : Nat) : Rat)) ≠ 0)))) ::
         rVar 8 33 2 ::
         rB 8 33 (tQ B32 (2 + (l + l + 1) + 1) ((((1 : Nat) : Rat)) / (subQ x (((x.floor.toNat : Nat) : Rat))))) (some 8) 9 ::
         rT (tV (.bool (decide (subQ x (((x.floor.toNat : Nat) : Rat)) ≠ 0)))) ::
         []) hz hd (by kernel_rfl) (by kernel_rfl) ?_ ?_
     · refine ⟨?_, ?_, ?_, ?_, ?_, ?_, ?_, ?_, ?_, ?_, ?_, trivial⟩
       · exact zC1 hz Try.func99 (kc (v := .int .u64 1)) (k1 (fun _ => dq_whole (l := 1) (p := 1) (by decide) (by decide)))
       · exact zLd hz (sv S2) Cp1 ld_q32
       · exact zLd hz (sv S6) Cp7 ld_q32
       · exact zC2 hz Try.func100 (sd 1 rfl) (sd 2 rfl) (fun _ _ _ h0 h1 => dq_less h0 h1 (by omega) (by omega))
       · exact zC2 hz Try.func69 (sd 0 rfl) (sd 3 rfl) (fun _ _ _ h0 h1 => dq_div h0 h1 (by decide) (by omega))
       · exact zMv hz (sd 4 rfl)
       · exact zExt hz (sd 5 rfl)
       · exact zExt hz (sd 5 rfl)
       · exact zAl hz nd_rat al_r32
       · exact zSt (sd 6 rfl) st_q32
       · exact zAs hz (sd 7 rfl)
     intro a' γ' W' hz' hd' hC hk hh
     clear Cp1
     have tp3 := Cp3.lt
     replace Cp3 := kC hC Cp3
     replace Cp7 := kC hC Cp7
     replace Cp8 := kC hC Cp8
     clear S2
     replace S4 := kp hk S4
     replace S6 := kp hk S6
     replace S7 := kp hk S7
     obtain ⟨p9, S9, Cp9, lp9, gp9⟩ := gotB hz' 9 hC hh rfl rfl rfl rfl rfl rfl
     have n_p9_p3 : p9 ≠ p3 := by omega
     clear lp9 gp9
     clear tp3
     replace HB := aft_call HB (RelC.below_nil hC)
     clear hC hk hh; replace hz := hz'; replace hd := hd'; clear hz' hd'
     refine wp_seq ?_
     refine region_drawn (M := []) (
         rT (tQ B32 2 (((1 : Nat) : Rat))) ::
         rT (tQ B32 (2 + (l + l + 1) + 1) ((((1 : Nat) : Rat)) / (subQ y (((x.floor.toNat : Nat) : Rat))))) ::
         rT (tQ B32 (2 + (l + l + 1) + 1) ((((1 : Nat) : Rat)) / (subQ x (((x.floor.toNat : Nat) : Rat))))) ::
         rT (tQ B32 l (btw0 (1 / (y - x.floor)) (1 / (x - x.floor)))) ::
         rT (tT [tQ B32 (2 + l + 1) ((((1 : Nat) : Rat)) / (btw0 (1 / (y - x.floor)) (1 / (x - x.floor)))), tV (.bool (decide (btw0 (1 / (y - x.floor)) (1 / (x - x.floor)) ≠ 0)))]) ::
         rT (tT [tQ B32 (2 + l + 1) ((((1 : Nat) : Rat)) / (btw0 (1 / (y - x.floor)) (1 / (x - x.floor)))), tV (.bool (decide (btw0 (1 / (y - x.floor)) (1 / (x - x.floor)) ≠ 0)))]) ::
         rT (tQ B32 (2 + l + 1) ((((1 : Nat) : Rat)) / (btw0 (1 / (y - x.floor)) (1 / (x - x.floor))))) ::
         rT (tV (.bool (decide (btw0 (1 / (y - x.floor)) (1 / (x - x.floor)) ≠ 0)))) ::
         rVar 8 33 2 ::
         rB 8 33 (tQ B32 (2 + l + 1) ((((1 : Nat) : Rat)) / (btw0 (1 / (y - x.floor)) (1 / (x - x.floor))))) (some 8) 9 ::
         rT (tV (.bool (decide (btw0 (1 / (y - x.floor)) (1 / (x - x.floor)) ≠ 0)))) ::
         []) hz hd (by kernel_rfl) (by kernel_rfl) ?_ ?_
     · refine ⟨?_, ?_, ?_, ?_, ?_, ?_, ?_, ?_, ?_, ?_, ?_, trivial⟩
       · exact zC1 hz Try.func99 (kc (v := .int .u64 1)) (k1 (fun _ => dq_whole (l := 1) (p := 1) (by decide) (by decide)))
       · exact zLd hz (sv S7) Cp8 ld_q32
       · exact zLd hz (sv S9) Cp9 ld_q32
       · exact zC2 hz Try.func75 (sd 1 rfl) (sd 2 rfl) (fun _ _ _ h0 h1 => ih _ _ _ _ _ (inner_le ha0 hab hc) (inner_dens ha0 hab hc hn) (inner (by decide) ha0 hab hc (by first | exact Rat.le_refl | exact hab) (by first | exact Rat.le_refl | exact hab) (by first | exact hda | exact hdb) h0) (inner (by decide) ha0 hab hc (by first | exact Rat.le_refl | exact hab) (by first | exact Rat.le_refl | exact hab) (by first | exact hda | exact hdb) h1))
       · exact zC2 hz Try.func69 (sd 0 rfl) (sd 3 rfl) (fun _ _ _ h0 h1 => dq_div h0 h1 (by decide) (by omega))
       · exact zMv hz (sd 4 rfl)
       · exact zExt hz (sd 5 rfl)
       · exact zExt hz (sd 5 rfl)
       · exact zAl hz nd_rat al_r32
       · exact zSt (sd 6 rfl) st_q32
       · exact zAs hz (sd 7 rfl)
     intro a' γ' W' hz' hd' hC hk hh
     have tp3 := Cp3.lt
     replace Cp3 := kC hC Cp3
     replace Cp7 := kC hC Cp7
     clear Cp8
     clear Cp9
     replace S4 := kp hk S4
     replace S6 := kp hk S6
     clear S7
     clear S9
     obtain ⟨p10, S11, Cp10, lp10, gp10⟩ := gotB hz' 9 hC hh rfl rfl rfl rfl rfl rfl
     have n_p10_p3 : p10 ≠ p3 := by omega
     clear lp10 gp10
     clear tp3
     replace HB := aft_call HB (RelC.below_nil hC)
     clear hC hk hh; replace hz := hz'; replace hd := hd'; clear hz' hd'
     refine wp_seq ?_
     refine region_text (M := [p3]) (
         rT (tQ B32 l (((x.floor.toNat : Nat) : Rat))) ::
         rT (tQ B32 (2 + l + 1) ((((1 : Nat) : Rat)) / (btw0 (1 / (y - x.floor)) (1 / (x - x.floor))))) ::
         rT (tQ B32 (l + (2 + l + 1) + 1) ((((x.floor.toNat : Nat) : Rat)) + ((((1 : Nat) : Rat)) / (btw0 (1 / (y - x.floor)) (1 / (x - x.floor)))))) ::
         rE 0 33 (tQ B32 (l + (2 + l + 1) + 1) ((((x.floor.toNat : Nat) : Rat)) + ((((1 : Nat) : Rat)) / (btw0 (1 / (y - x.floor)) (1 / (x - x.floor)))))) p3 ::
         []) hz hd (by kernel_rfl) ?_ ?_
     · refine ⟨?_, ?_, ?_, ?_, trivial⟩
       · exact zLd hz (sv S6) Cp7 ld_q32 (by simp [tagOf, n_p7_p3])
       · exact zLd hz (sv S11) Cp10 ld_q32 (by simp [tagOf, n_p10_p3])
       · exact zC2 hz Try.func22 (sd 0 rfl) (sd 1 rfl) (fun _ _ _ h0 h1 => dq_add h0 h1 (by omega) (by omega))
       · exact zSE rfl (sv S4) (by simp [tagOf]) (Cp3.var tR_nd) (sd 2 rfl) st_q32
     intro a' γ' W' hz' hd' hC hk hh
     replace Cp3 := gotE (T := tQ B32 (l + (2 + l + 1) + 1) ((((x.floor.toNat : Nat) : Rat)) + ((((1 : Nat) : Rat)) / (btw0 (1 / (y - x.floor)) (1 / (x - x.floor)))))) (id := 33) (p := p3) 3 hh rfl rfl
     clear Cp7
     clear Cp10
     replace S4 := kp hk S4
     clear S6
     clear S11
     replace HB := RelC.aftM HB hC (by intro m hm; simp at hm; rcases hm with rfl <;> assumption)
     clear hC hk hh; replace hz := hz'; replace hd := hd'; clear hz' hd'
     refine wp_ret ?_
     refine ret_to (T := tQ B32 (l + (2 + l + 1) + 1) ((((x.floor.toNat : Nat) : Rat)) + ((((1 : Nat) : Rat)) / (btw0 (1 / (y - x.floor)) (1 / (x - x.floor)))))) (ret1_q32 (by kernel_rfl) S4 hd Cp3 HB) ?_
     exact fun v w h => tQ_fit (by decide) (tQ_eq (by rw [btw0_step ha0 hab hc, floor_rat ha0]; rfl) _ _ h) (btw_bits ha0 hab (tQ_bits h0).1 hda).1 (btw_bits ha0 hab (tQ_bits h0).1 hda).2

set_option maxRecDepth 10000 in
set_option maxHeartbeats 2000000 in
theorem dq_btw_gt {l : Nat} {x y : Rat} {v0 v1 : Value} {w : World} (hl : 1 ≤ l) (b1 : l ≤ 1000000) (hlt : y < x) (h0 : (tQ B32 l x).p v0 w) (h1 : (tQ B32 l y).p v1 w) :
    Calls Try.prog 75 #[v0, v1] w (Ret (tQ B32 l (btw0 y x)) w) := by
 have hab : y ≤ x := Rat.le_of_lt hlt
 refine enter Try.func75 rfl Try.ntmps75 (by simp) ?_
 intro a hz hd ha
 have S0 := ha 0 _ rfl
 have H0 := h0
 have S1 := ha 1 _ rfl
 have H1 := h1
 clear ha
 have HB : Below w.heap.size w w := Below.refl _ _
 refine wp_seq ?_
 refine region_text (M := []) (
  rB 0 33 (tQ B32 l x) none 0 ::
  rB 1 33 (tQ B32 l y) none 0 ::
  rB 2 33 (tR B32 0 0 0 0) none 0 ::
  []) hz hd (by kernel_rfl) ?_ ?_
 refine ⟨?_, ?_, ?_, trivial⟩
 exact zBox hz (so S0 H0) box_q32
 exact zBox hz (so S1 H1) box_q32
 exact zNew hz (fun _ => tR_nil) al_r32
 intro a' γ' W' hz' hd' hC hk hh
 clear S0 H0
 clear S1 H1
 obtain ⟨p1, S2, Cp1, lp1, gp1⟩ := gotB hz' 0 hC hh rfl rfl rfl rfl rfl rfl
 obtain ⟨p2, S3, Cp2, lp2, gp2⟩ := gotB hz' 1 hC hh rfl rfl rfl rfl rfl rfl
 obtain ⟨p3, S4, Cp3, lp3, gp3⟩ := gotB hz' 2 hC hh rfl rfl rfl rfl rfl rfl
 have n_p1_p3 : p1 ≠ p3 := by intro e; rw [e, gp3] at gp1; omega
 have n_p2_p3 : p2 ≠ p3 := by intro e; rw [e, gp3] at gp2; omega
 have bp3 : w.heap.size ≤ p3 := Nat.le_trans HB.size lp3
 clear lp1 gp1 lp2 gp2 lp3 gp3
 replace HB := aft_call HB (RelC.below_nil hC)
 clear hC hk hh; replace hz := hz'; replace hd := hd'; clear hz' hd'
 refine wp_seq ?_
 refine wp_seq ?_
 refine region_text (M := []) (
  rT (tQ B32 l x) ::
  rT (tQ B32 l y) ::
  rT (tV (.int .i64 (cmpQ x y))) ::
  rT (tV (.bool (decide (y < x)))) ::
  []) hz hd (by kernel_rfl) ?_ ?_
 refine ⟨?_, ?_, ?_, ?_, trivial⟩
 exact zLd hz (sv S2) Cp1 ld_q32
 exact zLd hz (sv S3) Cp2 ld_q32
 exact zC2 hz Try.func76 (sd 0 rfl) (sd 1 rfl) (fun _ _ _ h0 h1 => dq_cmp h0 h1 (by omega) (by omega))
 exact sBin rfl rfl rfl hz rfl (Gd.none_ rfl) rfl (sd 2 rfl) kc (fun w => run_cQ_gtr x y w)
 intro a' γ' W' hz' hd' hC hk hh
 replace Cp1 := kC hC Cp1
 replace Cp2 := kC hC Cp2
 have tp3 := Cp3.lt
 replace Cp3 := kC hC Cp3
 replace S2 := kp hk S2
 replace S3 := kp hk S3
 replace S4 := kp hk S4
 have S16 := gotV hz' 3 hh rfl rfl rfl rfl
 clear tp3
 replace HB := aft_call HB (RelC.below_nil hC)
 clear hC hk hh; replace hz := hz'; replace hd := hd'; clear hz' hd'
 have hc4 : y < x := hlt
 rw [decide_eq_true hc4] at S16
 refine wp_cond_true S16.ev ?_
 refine wp_seq ?_
 refine region_text (M := [p3]) (
  rT (tQ B32 l y) ::
  rT (tQ B32 l x) ::
  rT (tQ B32 l (btw0 y x)) ::
  rE 0 33 (tQ B32 l (btw0 y x)) p3 ::
  []) hz hd (by kernel_rfl) ?_ ?_
 refine ⟨?_, ?_, ?_, ?_, trivial⟩
 exact zLd hz (sv S3) Cp2 ld_q32 (by simp [tagOf, n_p2_p3])
 exact zLd hz (sv S2) Cp1 ld_q32 (by simp [tagOf, n_p1_p3])
 exact zC2 hz Try.func75 (sd 0 rfl) (sd 1 rfl) (fun _ _ _ h0 h1 => dq_btw_le hl b1 _ _ _ _ _ _ hab (Nat.le_refl _) h0 h1)
 exact zSE rfl (sv S4) (by simp [tagOf]) (Cp3.var tR_nd) (sd 2 rfl) st_q32
 intro a' γ' W' hz' hd' hC hk hh
 replace Cp1 := kC hC Cp1 (by simp [tagOf, n_p1_p3])
 replace Cp2 := kC hC Cp2 (by simp [tagOf, n_p2_p3])
 replace Cp3 := gotE (T := tQ B32 l (btw0 y x)) (id := 33) (p := p3) 3 hh rfl rfl
 replace S2 := kp hk S2
 replace S3 := kp hk S3
 replace S4 := kp hk S4
 clear S16
 replace HB := RelC.aftM HB hC (by intro m hm; simp at hm; rcases hm with rfl <;> assumption)
 clear hC hk hh; replace hz := hz'; replace hd := hd'; clear hz' hd'
 refine wp_ret ?_
 exact ret1_q32 (by kernel_rfl) S4 hd Cp3 HB

theorem cq_btw {l : Nat} {x y : Rat} {v0 v1 : Value} {w : World} (h0 : (tQ B64 l x).p v0 w) (h1 : (tQ B64 l y).p v1 w) (b1 : l ≤ 1000000) :
    Calls Try.prog 42 #[v0, v1] w (Ret (tQ B64 l (btw x y)) w) := by
  by_cases h : y < x
  · have := cq_btw_gt b1 h h0 h1; unfold btw; rw [if_pos h]; exact this
  · have := cq_btw_le b1 _ x y v0 v1 w (Rat.not_lt.1 h) (Nat.le_refl _) h0 h1; unfold btw; rw [if_neg h]; exact this
theorem dq_btw {l : Nat} {x y : Rat} {v0 v1 : Value} {w : World} (h0 : (tQ B32 l x).p v0 w) (h1 : (tQ B32 l y).p v1 w) (hl : 1 ≤ l) (b1 : l ≤ 1000000) :
    Calls Try.prog 75 #[v0, v1] w (Ret (tQ B32 l (btw x y)) w) := by
  by_cases h : y < x
  · have := dq_btw_gt hl b1 h h0 h1; unfold btw; rw [if_pos h]; exact this
  · have := dq_btw_le hl b1 _ x y v0 v1 w (Rat.not_lt.1 h) (Nat.le_refl _) h0 h1; unfold btw; rw [if_neg h]; exact this

set_option maxRecDepth 10000 in
set_option maxHeartbeats 2000000 in
theorem cq_sum3 {l pr : Nat} {x y z : Rat} {w : World} (HR : RowQ 29 B64 l [x, y, z] pr w) (b1 : l ≤ 1000000) :
    Calls Try.prog 41 #[.slice (some ⟨pr, 0, none⟩) 3 3] w (Ret (tQ B64 (3 * l + 4) (0 + x + y + z)) w) := by
 refine enter Try.func41 rfl Try.ntmps41 (by simp) ?_
 intro a hz hd ha
 have S0 := ha 0 _ rfl
 clear ha
 have HB : Below w.heap.size w w := Below.refl _ _
 refine wp_seq ?_
 refine region_text (M := []) (
  rB 0 29 (tQ B64 1 0) none 0 ::
  []) hz hd (by kernel_rfl) ?_ ?_
 refine ⟨?_, trivial⟩
 exact zNew hz (fun _ => tQ_nil) al_r64
 intro a' γ' W' hz' hd' hC hk hh
 have tpr := HR.lt
 replace S0 := kp hk S0
 replace HR := RowQ.aft HR hC rfl
 obtain ⟨p1, S2, Cp1, lp1, gp1⟩ := gotB hz' 0 hC hh rfl rfl rfl rfl rfl rfl
 have bp1 : w.heap.size ≤ p1 := Nat.le_trans HB.size lp1
 have n_p1_pr : p1 ≠ pr := by omega
 have n_pr_p1 := Ne.symm n_p1_pr
 clear tpr
 clear lp1 gp1
 replace HB := aft_call HB (RelC.below_nil hC)
 clear hC hk hh; replace hz := hz'; replace hd := hd'; clear hz' hd'
 refine wp_seq ?_
 refine region_text (M := []) (
  rB 0 29 (tQ B64 1 0) none 0 ::
  []) hz hd (by kernel_rfl) ?_ ?_
 refine ⟨?_, trivial⟩
 exact zNew hz (fun _ => tQ_nil) al_r64
 intro a' γ' W' hz' hd' hC hk hh
 have ep1 := Cp1.lt
 have tpr := HR.lt
 have tp1 := Cp1.lt
 replace Cp1 := kC hC Cp1
 replace S0 := kp hk S0
 replace S2 := kp hk S2
 replace HR := RowQ.aft HR hC rfl
 obtain ⟨p2, S3, Cp2, lp2, gp2⟩ := gotB hz' 0 hC hh rfl rfl rfl rfl rfl rfl
 have n_p2_p1 : p2 ≠ p1 := by omega
 have n_p1_p2 : p1 ≠ p2 := by have := ep1; omega
 have bp2 : w.heap.size ≤ p2 := Nat.le_trans HB.size lp2
 have n_p2_pr : p2 ≠ pr := by omega
 have n_pr_p2 := Ne.symm n_p2_pr
 clear tpr
 clear lp2 gp2
 clear tp1
 clear ep1
 replace HB := aft_call HB (RelC.below_nil hC)
 clear hC hk hh; replace hz := hz'; replace hd := hd'; clear hz' hd'
 refine wp_seq ?_
 refine wp_seq ?_
 refine region_text (M := []) (
  rT (tV (.slice (some ⟨pr, 0, none⟩) 3 3)) ::
  rT (tV (.int .i64 3)) ::
  rT (tV (.int .i64 0)) ::
  []) hz hd (by kernel_rfl) ?_ ?_
 refine ⟨?_, ?_, ?_, trivial⟩
 exact zMv hz (sv S0)
 exact sLenK hz rfl (sd 0 rfl) (fun w => by simp [go_sem])
 exact zMv hz kc
 intro a' γ' W' hz' hd' hC hk hh
 have tp1 := Cp1.lt
 replace Cp1 := kC hC Cp1
 have tp2 := Cp2.lt
 replace Cp2 := kC hC Cp2
 clear S0
 replace S2 := kp hk S2
 replace S3 := kp hk S3
 replace HR := RowQ.aft HR hC rfl
 have S6 := gotV hz' 0 hh rfl rfl rfl rfl
 have S7 := gotV hz' 1 hh rfl rfl rfl rfl
 have S8 := gotV hz' 2 hh rfl rfl rfl rfl
 clear tp1 tp2
 replace HB := aft_call HB (RelC.below_nil hC)
 clear hC hk hh; replace hz := hz'; replace hd := hd'; clear hz' hd'
 refine wp_block ?_
 refine wp_loop_rounds 5 ?_
 show Code.wp _ _ _ _ _
 refine wp_seq ?_
 refine region_text (M := []) (
  rT (tV (.bool true)) ::
  []) hz hd (by kernel_rfl) ?_ ?_
 refine ⟨?_, trivial⟩
 exact sBin rfl rfl rfl hz rfl (Gd.none_ rfl) rfl (sv S8) (sv S7) (fun w => by simp [go_sem])
 intro a' γ' W' hz' hd' hC hk hh
 have tp1 := Cp1.lt
 replace Cp1 := kC hC Cp1
 have tp2 := Cp2.lt
 replace Cp2 := kC hC Cp2
 replace S2 := kp hk S2
 replace S3 := kp hk S3
 replace S6 := kp hk S6
 replace S7 := kp hk S7
 replace S8 := kp hk S8
 replace HR := RowQ.aft HR hC rfl
 have S9 := gotV hz' 0 hh rfl rfl rfl rfl
 clear tp1 tp2
 replace HB := aft_call HB (RelC.below_nil hC)
 clear hC hk hh; replace hz := hz'; replace hd := hd'; clear hz' hd'
 refine wp_seq ?_
 refine wp_cond_true S9.ev ?_
 refine wp_skip ?_
 refine wp_seq ?_
 refine wp_block ?_
 refine wp_seq ?_
 refine region_text (M := []) (
  rT (tV (.pointer (some ⟨pr, 0, none⟩))) ::
  rT (tQ B64 l ([x, y, z].getD 0 0)) ::
  rVar 2 29 2 ::
  rB 2 29 (tQ B64 l ([x, y, z].getD 0 0)) (some 2) 3 ::
  []) hz hd (by kernel_rfl) ?_ ?_
 refine ⟨?_, ?_, ?_, ?_, trivial⟩
 exact sIdxQ (k := 0) rfl hz (sv S6) (sv S8) (fun w => by simp [go_sem])
 exact sLoadQ 0 hz (sd 0 rfl) HR rfl (show 0 < 3 by decide) (fun u v w h1 h2 => by simp at h1 h2; simp [go_sem, h1, h2])
 exact zAl hz nd_rat al_r64
 exact zSt (sd 1 rfl) st_q64
 intro a' γ' W' hz' hd' hC hk hh
 have ep1 := Cp1.lt
 have ep2 := Cp2.lt
 have tpr := HR.lt
 have tp1 := Cp1.lt
 replace Cp1 := kC hC Cp1
 have tp2 := Cp2.lt
 replace Cp2 := kC hC Cp2
 replace S2 := kp hk S2
 replace S3 := kp hk S3
 replace S6 := kp hk S6
 replace S7 := kp hk S7
 replace S8 := kp hk S8
 replace S9 := kp hk S9
 replace HR := RowQ.aft HR hC rfl
 have S10 := gotV hz' 0 hh rfl rfl rfl rfl
 obtain ⟨v11, S11, H11⟩ := got hz' 1 hh rfl rfl rfl rfl
 obtain ⟨p3, S5, Cp3, lp3, gp3⟩ := gotB hz' 3 hC hh rfl rfl rfl rfl rfl rfl
 have n_p3_p1 : p3 ≠ p1 := by omega
 have n_p3_p2 : p3 ≠ p2 := by omega
 have n_p1_p3 : p1 ≠ p3 := by have := ep1; omega
 have n_p2_p3 : p2 ≠ p3 := by have := ep2; omega
 have bp3 : w.heap.size ≤ p3 := Nat.le_trans HB.size lp3
 have n_p3_pr : p3 ≠ pr := by omega
 have n_pr_p3 := Ne.symm n_p3_pr
 clear tpr
 clear lp3 gp3
 clear tp1 tp2
 clear ep1 ep2
 replace HB := aft_call HB (RelC.below_nil hC)
 clear hC hk hh; replace hz := hz'; replace hd := hd'; clear hz' hd'
 refine region_text (M := [p2]) (
  rT (tQ B64 1 0) ::
  rT (tQ B64 l ([x, y, z].getD 0 0)) ::
  rT (tQ B64 (1 + l + 1) (0 + ([x, y, z].getD 0 0))) ::
  rE 0 29 (tQ B64 (1 + l + 1) (0 + ([x, y, z].getD 0 0))) p2 ::
  []) hz hd (by kernel_rfl) ?_ ?_
 refine ⟨?_, ?_, ?_, ?_, trivial⟩
 exact sLoadM rfl rfl rfl hz rfl (Gd.none_ rfl) rfl (sv S3) Cp2 (k := 0) (by simp [tagOf]) (by kernel_rfl) ld_q64
 exact zLd hz (sv S5) Cp3 ld_q64 (by simp [tagOf, n_p3_p2])
 exact zC2 hz Try.func17 (sd 0 rfl) (sd 1 rfl) (fun _ _ _ h0 h1 => cq_add h0 h1 (by decide) (by omega))
 exact zSE rfl (sv S3) (by simp [tagOf]) (Cp2.var tQ_nd) (sd 2 rfl) st_q64
 intro a' γ' W' hz' hd' hC hk hh
 have tp1 := Cp1.lt
 replace Cp1 := kC hC Cp1 (by simp [tagOf, n_p1_p2])
 replace Cp2 := gotE (T := tQ B64 (1 + l + 1) (0 + ([x, y, z].getD 0 0))) (id := 29) (p := p2) 3 hh rfl rfl
 have tp3 := Cp3.lt
 replace Cp3 := kC hC Cp3 (by simp [tagOf, n_p3_p2])
 replace S2 := kp hk S2
 replace S3 := kp hk S3
 replace S6 := kp hk S6
 replace S7 := kp hk S7
 replace S8 := kp hk S8
 replace S9 := kp hk S9
 replace S10 := kp hk S10
 replace S11 := kp hk S11
 replace H11 := Ty.aft _ H11 hC
 replace S5 := kp hk S5
 replace HR := RowQ.aft HR hC (by simp [tagOf, n_p2_pr.symm])
 obtain ⟨v12, S12, H12⟩ := got hz' 0 hh rfl rfl rfl rfl
 obtain ⟨v13, S13, H13⟩ := got hz' 1 hh rfl rfl rfl rfl
 obtain ⟨v14, S14, H14⟩ := got hz' 2 hh rfl rfl rfl rfl
 clear tp1 tp3
 replace HB := RelC.aftM HB hC (by intro m hm; simp at hm; rcases hm with rfl <;> assumption)
 clear hC hk hh; replace hz := hz'; replace hd := hd'; clear hz' hd'
 refine region_text (M := []) (
  rT (tV (.int .i64 1)) ::
  rT (tV (.int .i64 1)) ::
  []) hz hd (by kernel_rfl) ?_ ?_
 refine ⟨?_, ?_, trivial⟩
 exact sBin rfl rfl rfl hz rfl (Gd.none_ rfl) rfl (sv S8) kc (fun w => by kernel_rfl)
 exact zMv hz (sd 0 rfl)
 intro a' γ' W' hz' hd' hC hk hh
 have tp1 := Cp1.lt
 replace Cp1 := kC hC Cp1
 have tp2 := Cp2.lt
 replace Cp2 := kC hC Cp2
 have tp3 := Cp3.lt
 replace Cp3 := kC hC Cp3
 replace S2 := kp hk S2
 replace S3 := kp hk S3
 replace S6 := kp hk S6
 replace S7 := kp hk S7
 clear S8
 replace S9 := kp hk S9
 replace S10 := kp hk S10
 replace S11 := kp hk S11
 replace H11 := Ty.aft _ H11 hC
 replace S5 := kp hk S5
 replace S12 := kp hk S12
 replace H12 := Ty.aft _ H12 hC
 replace S13 := kp hk S13
 replace H13 := Ty.aft _ H13 hC
 replace S14 := kp hk S14
 replace H14 := Ty.aft _ H14 hC
 replace HR := RowQ.aft HR hC rfl
 have S15 := gotV hz' 0 hh rfl rfl rfl rfl
 have S8 := gotV hz' 1 hh rfl rfl rfl rfl
 clear tp1 tp2 tp3
 replace HB := aft_call HB (RelC.below_nil hC)
 clear hC hk hh; replace hz := hz'; replace hd := hd'; clear hz' hd'
 show Code.wp _ _ _ _ _
 refine wp_seq ?_
 refine region_text (M := []) (
  rT (tV (.bool true)) ::
  []) hz hd (by kernel_rfl) ?_ ?_
 refine ⟨?_, trivial⟩
 exact sBin rfl rfl rfl hz rfl (Gd.none_ rfl) rfl (sv S8) (sv S7) (fun w => by simp [go_sem])
 intro a' γ' W' hz' hd' hC hk hh
 have tp1 := Cp1.lt
 replace Cp1 := kC hC Cp1
 have tp2 := Cp2.lt
 replace Cp2 := kC hC Cp2
 have tp3 := Cp3.lt
 replace Cp3 := kC hC Cp3
 replace S2 := kp hk S2
 replace S3 := kp hk S3
 replace S6 := kp hk S6
 replace S7 := kp hk S7
 clear S9
 replace S10 := kp hk S10
 replace S11 := kp hk S11
 replace H11 := Ty.aft _ H11 hC
 replace S5 := kp hk S5
 replace S12 := kp hk S12
 replace H12 := Ty.aft _ H12 hC
 replace S13 := kp hk S13
 replace H13 := Ty.aft _ H13 hC
 replace S14 := kp hk S14
 replace H14 := Ty.aft _ H14 hC
 replace S15 := kp hk S15
 replace S8 := kp hk S8
 replace HR := RowQ.aft HR hC rfl
 have S9 := gotV hz' 0 hh rfl rfl rfl rfl
 clear tp1 tp2 tp3
 replace HB := aft_call HB (RelC.below_nil hC)
 clear hC hk hh; replace hz := hz'; replace hd := hd'; clear hz' hd'
 refine wp_seq ?_
 refine wp_cond_true S9.ev ?_
 refine wp_skip ?_
 refine wp_seq ?_
 refine wp_block ?_
 refine wp_seq ?_
 refine region_text (M := []) (
  rT (tV (.pointer (some ⟨pr, 2, none⟩))) ::
  rT (tQ B64 l ([x, y, z].getD 1 0)) ::
  rVar 2 29 2 ::
  rB 2 29 (tQ B64 l ([x, y, z].getD 1 0)) (some 2) 3 ::
  []) hz hd (by kernel_rfl) ?_ ?_
 refine ⟨?_, ?_, ?_, ?_, trivial⟩
 exact sIdxQ (k := 2) rfl hz (sv S6) (sv S8) (fun w => by simp [go_sem])
 exact sLoadQ 1 hz (sd 0 rfl) HR rfl (show 1 < 3 by decide) (fun u v w h1 h2 => by simp at h1 h2; simp [go_sem, h1, h2])
 exact zAl hz nd_rat al_r64
 exact zSt (sd 1 rfl) st_q64
 intro a' γ' W' hz' hd' hC hk hh
 have ep1 := Cp1.lt
 have ep2 := Cp2.lt
 have ep3 := Cp3.lt
 have tpr := HR.lt
 have tp1 := Cp1.lt
 replace Cp1 := kC hC Cp1
 have tp2 := Cp2.lt
 replace Cp2 := kC hC Cp2
 have tp3 := Cp3.lt
 replace Cp3 := kC hC Cp3
 replace S2 := kp hk S2
 replace S3 := kp hk S3
 replace S6 := kp hk S6
 replace S7 := kp hk S7
 clear S10
 clear S11 H11
 clear S5
 replace S12 := kp hk S12
 replace H12 := Ty.aft _ H12 hC
 replace S13 := kp hk S13
 replace H13 := Ty.aft _ H13 hC
 replace S14 := kp hk S14
 replace H14 := Ty.aft _ H14 hC
 replace S15 := kp hk S15
 replace S8 := kp hk S8
 replace S9 := kp hk S9
 replace HR := RowQ.aft HR hC rfl
 have S10 := gotV hz' 0 hh rfl rfl rfl rfl
 obtain ⟨v11, S11, H11⟩ := got hz' 1 hh rfl rfl rfl rfl
 obtain ⟨p4, S5, Cp4, lp4, gp4⟩ := gotB hz' 3 hC hh rfl rfl rfl rfl rfl rfl
 have n_p4_p1 : p4 ≠ p1 := by omega
 have n_p4_p2 : p4 ≠ p2 := by omega
 have n_p4_p3 : p4 ≠ p3 := by omega
 have n_p1_p4 : p1 ≠ p4 := by have := ep1; omega
 have n_p2_p4 : p2 ≠ p4 := by have := ep2; omega
 have n_p3_p4 : p3 ≠ p4 := by have := ep3; omega
 have bp4 : w.heap.size ≤ p4 := Nat.le_trans HB.size lp4
 have n_p4_pr : p4 ≠ pr := by omega
 have n_pr_p4 := Ne.symm n_p4_pr
 clear tpr
 clear lp4 gp4
 clear tp1 tp2 tp3
 clear ep1 ep2 ep3
 replace HB := aft_call HB (RelC.below_nil hC)
 clear hC hk hh; replace hz := hz'; replace hd := hd'; clear hz' hd'
 refine region_text (M := [p2]) (
  rT (tQ B64 (1 + l + 1) (0 + ([x, y, z].getD 0 0))) ::
  rT (tQ B64 l ([x, y, z].getD 1 0)) ::
  rT (tQ B64 ((1 + l + 1) + l + 1) ((0 + ([x, y, z].getD 0 0)) + ([x, y, z].getD 1 0))) ::
  rE 0 29 (tQ B64 ((1 + l + 1) + l + 1) ((0 + ([x, y, z].getD 0 0)) + ([x, y, z].getD 1 0))) p2 ::
  []) hz hd (by kernel_rfl) ?_ ?_
 refine ⟨?_, ?_, ?_, ?_, trivial⟩
 exact sLoadM rfl rfl rfl hz rfl (Gd.none_ rfl) rfl (sv S3) Cp2 (k := 0) (by simp [tagOf]) (by kernel_rfl) ld_q64
 exact zLd hz (sv S5) Cp4 ld_q64 (by simp [tagOf, n_p4_p2])
 exact zC2 hz Try.func17 (sd 0 rfl) (sd 1 rfl) (fun _ _ _ h0 h1 => cq_add h0 h1 (by omega) (by omega))
 exact zSE rfl (sv S3) (by simp [tagOf]) (Cp2.var tQ_nd) (sd 2 rfl) st_q64
 intro a' γ' W' hz' hd' hC hk hh
 have tp1 := Cp1.lt
 replace Cp1 := kC hC Cp1 (by simp [tagOf, n_p1_p2])
 replace Cp2 := gotE (T := tQ B64 ((1 + l + 1) + l + 1) ((0 + ([x, y, z].getD 0 0)) + ([x, y, z].getD 1 0))) (id := 29) (p := p2) 3 hh rfl rfl
 have tp3 := Cp3.lt
 clear Cp3
 have tp4 := Cp4.lt
 replace Cp4 := kC hC Cp4 (by simp [tagOf, n_p4_p2])
 replace S2 := kp hk S2
 replace S3 := kp hk S3
 replace S6 := kp hk S6
 replace S7 := kp hk S7
 clear S12 H12
 clear S13 H13
 clear S14 H14
 replace S15 := kp hk S15
 replace S8 := kp hk S8
 replace S9 := kp hk S9
 replace S10 := kp hk S10
 replace S11 := kp hk S11
 replace H11 := Ty.aft _ H11 hC
 replace S5 := kp hk S5
 replace HR := RowQ.aft HR hC (by simp [tagOf, n_p2_pr.symm])
 obtain ⟨v12, S12, H12⟩ := got hz' 0 hh rfl rfl rfl rfl
 obtain ⟨v13, S13, H13⟩ := got hz' 1 hh rfl rfl rfl rfl
 obtain ⟨v14, S14, H14⟩ := got hz' 2 hh rfl rfl rfl rfl
 clear tp1 tp3 tp4
 replace HB := RelC.aftM HB hC (by intro m hm; simp at hm; rcases hm with rfl <;> assumption)
 clear hC hk hh; replace hz := hz'; replace hd := hd'; clear hz' hd'
 refine region_text (M := []) (
  rT (tV (.int .i64 2)) ::
  rT (tV (.int .i64 2)) ::
  []) hz hd (by kernel_rfl) ?_ ?_
 refine ⟨?_, ?_, trivial⟩
 exact sBin rfl rfl rfl hz rfl (Gd.none_ rfl) rfl (sv S8) kc (fun w => by kernel_rfl)
 exact zMv hz (sd 0 rfl)
 intro a' γ' W' hz' hd' hC hk hh
 have tp1 := Cp1.lt
 replace Cp1 := kC hC Cp1
 have tp2 := Cp2.lt
 replace Cp2 := kC hC Cp2
 have tp4 := Cp4.lt
 replace Cp4 := kC hC Cp4
 replace S2 := kp hk S2
 replace S3 := kp hk S3
 replace S6 := kp hk S6
 replace S7 := kp hk S7
 clear S15
 clear S8
 replace S9 := kp hk S9
 replace S10 := kp hk S10
 replace S11 := kp hk S11
 replace H11 := Ty.aft _ H11 hC
 replace S5 := kp hk S5
 replace S12 := kp hk S12
 replace H12 := Ty.aft _ H12 hC
 replace S13 := kp hk S13
 replace H13 := Ty.aft _ H13 hC
 replace S14 := kp hk S14
 replace H14 := Ty.aft _ H14 hC
 replace HR := RowQ.aft HR hC rfl
 have S15 := gotV hz' 0 hh rfl rfl rfl rfl
 have S8 := gotV hz' 1 hh rfl rfl rfl rfl
 clear tp1 tp2 tp4
 replace HB := aft_call HB (RelC.below_nil hC)
 clear hC hk hh; replace hz := hz'; replace hd := hd'; clear hz' hd'
 show Code.wp _ _ _ _ _
 refine wp_seq ?_
 refine region_text (M := []) (
  rT (tV (.bool true)) ::
  []) hz hd (by kernel_rfl) ?_ ?_
 refine ⟨?_, trivial⟩
 exact sBin rfl rfl rfl hz rfl (Gd.none_ rfl) rfl (sv S8) (sv S7) (fun w => by simp [go_sem])
 intro a' γ' W' hz' hd' hC hk hh
 have tp1 := Cp1.lt
 replace Cp1 := kC hC Cp1
 have tp2 := Cp2.lt
 replace Cp2 := kC hC Cp2
 have tp4 := Cp4.lt
 replace Cp4 := kC hC Cp4
 replace S2 := kp hk S2
 replace S3 := kp hk S3
 replace S6 := kp hk S6
 replace S7 := kp hk S7
 clear S9
 replace S10 := kp hk S10
 replace S11 := kp hk S11
 replace H11 := Ty.aft _ H11 hC
 replace S5 := kp hk S5
 replace S12 := kp hk S12
 replace H12 := Ty.aft _ H12 hC
 replace S13 := kp hk S13
 replace H13 := Ty.aft _ H13 hC
 replace S14 := kp hk S14
 replace H14 := Ty.aft _ H14 hC
 replace S15 := kp hk S15
 replace S8 := kp hk S8
 replace HR := RowQ.aft HR hC rfl
 have S9 := gotV hz' 0 hh rfl rfl rfl rfl
 clear tp1 tp2 tp4
 replace HB := aft_call HB (RelC.below_nil hC)
 clear hC hk hh; replace hz := hz'; replace hd := hd'; clear hz' hd'
 refine wp_seq ?_
 refine wp_cond_true S9.ev ?_
 refine wp_skip ?_
 refine wp_seq ?_
 refine wp_block ?_
 refine wp_seq ?_
 refine region_text (M := []) (
  rT (tV (.pointer (some ⟨pr, 4, none⟩))) ::
  rT (tQ B64 l ([x, y, z].getD 2 0)) ::
  rVar 2 29 2 ::
  rB 2 29 (tQ B64 l ([x, y, z].getD 2 0)) (some 2) 3 ::
  []) hz hd (by kernel_rfl) ?_ ?_
 refine ⟨?_, ?_, ?_, ?_, trivial⟩
 exact sIdxQ (k := 4) rfl hz (sv S6) (sv S8) (fun w => by simp [go_sem])
 exact sLoadQ 2 hz (sd 0 rfl) HR rfl (show 2 < 3 by decide) (fun u v w h1 h2 => by simp at h1 h2; simp [go_sem, h1, h2])
 exact zAl hz nd_rat al_r64
 exact zSt (sd 1 rfl) st_q64
 intro a' γ' W' hz' hd' hC hk hh
 have ep1 := Cp1.lt
 have ep2 := Cp2.lt
 have ep4 := Cp4.lt
 have tpr := HR.lt
 have tp1 := Cp1.lt
 replace Cp1 := kC hC Cp1
 have tp2 := Cp2.lt
 replace Cp2 := kC hC Cp2
 have tp4 := Cp4.lt
 replace Cp4 := kC hC Cp4
 replace S2 := kp hk S2
 replace S3 := kp hk S3
 replace S6 := kp hk S6
 replace S7 := kp hk S7
 clear S10
 clear S11 H11
 clear S5
 replace S12 := kp hk S12
 replace H12 := Ty.aft _ H12 hC
 replace S13 := kp hk S13
 replace H13 := Ty.aft _ H13 hC
 replace S14 := kp hk S14
 replace H14 := Ty.aft _ H14 hC
 replace S15 := kp hk S15
 replace S8 := kp hk S8
 replace S9 := kp hk S9
 replace HR := RowQ.aft HR hC rfl
 have S10 := gotV hz' 0 hh rfl rfl rfl rfl
 obtain ⟨v11, S11, H11⟩ := got hz' 1 hh rfl rfl rfl rfl
 obtain ⟨p5, S5, Cp5, lp5, gp5⟩ := gotB hz' 3 hC hh rfl rfl rfl rfl rfl rfl
 have n_p5_p1 : p5 ≠ p1 := by omega
 have n_p5_p2 : p5 ≠ p2 := by omega
 have n_p5_p4 : p5 ≠ p4 := by omega
 have n_p1_p5 : p1 ≠ p5 := by have := ep1; omega
 have n_p2_p5 : p2 ≠ p5 := by have := ep2; omega
 have n_p4_p5 : p4 ≠ p5 := by have := ep4; omega
 have bp5 : w.heap.size ≤ p5 := Nat.le_trans HB.size lp5
 have n_p5_pr : p5 ≠ pr := by omega
 have n_pr_p5 := Ne.symm n_p5_pr
 clear tpr
 clear lp5 gp5
 clear tp1 tp2 tp4
 clear ep1 ep2 ep4
 replace HB := aft_call HB (RelC.below_nil hC)
 clear hC hk hh; replace hz := hz'; replace hd := hd'; clear hz' hd'
 refine region_text (M := [p2]) (
  rT (tQ B64 ((1 + l + 1) + l + 1) ((0 + ([x, y, z].getD 0 0)) + ([x, y, z].getD 1 0))) ::
  rT (tQ B64 l ([x, y, z].getD 2 0)) ::
  rT (tQ B64 (((1 + l + 1) + l + 1) + l + 1) (((0 + ([x, y, z].getD 0 0)) + ([x, y, z].getD 1 0)) + ([x, y, z].getD 2 0))) ::
  rE 0 29 (tQ B64 (((1 + l + 1) + l + 1) + l + 1) (((0 + ([x, y, z].getD 0 0)) + ([x, y, z].getD 1 0)) + ([x, y, z].getD 2 0))) p2 ::
  []) hz hd (by kernel_rfl) ?_ ?_
 refine ⟨?_, ?_, ?_, ?_, trivial⟩
 exact sLoadM rfl rfl rfl hz rfl (Gd.none_ rfl) rfl (sv S3) Cp2 (k := 0) (by simp [tagOf]) (by kernel_rfl) ld_q64
 exact zLd hz (sv S5) Cp5 ld_q64 (by simp [tagOf, n_p5_p2])
 exact zC2 hz Try.func17 (sd 0 rfl) (sd 1 rfl) (fun _ _ _ h0 h1 => cq_add h0 h1 (by omega) (by omega))
 exact zSE rfl (sv S3) (by simp [tagOf]) (Cp2.var tQ_nd) (sd 2 rfl) st_q64
 intro a' γ' W' hz' hd' hC hk hh
 have tp1 := Cp1.lt
 replace Cp1 := kC hC Cp1 (by simp [tagOf, n_p1_p2])
 replace Cp2 := gotE (T := tQ B64 (((1 + l + 1) + l + 1) + l + 1) (((0 + ([x, y, z].getD 0 0)) + ([x, y, z].getD 1 0)) + ([x, y, z].getD 2 0))) (id := 29) (p := p2) 3 hh rfl rfl
 have tp4 := Cp4.lt
 clear Cp4
 have tp5 := Cp5.lt
 replace Cp5 := kC hC Cp5 (by simp [tagOf, n_p5_p2])
 replace S2 := kp hk S2
 replace S3 := kp hk S3
 replace S6 := kp hk S6
 replace S7 := kp hk S7
 clear S12 H12
 clear S13 H13
 clear S14 H14
 replace S15 := kp hk S15
 replace S8 := kp hk S8
 replace S9 := kp hk S9
 replace S10 := kp hk S10
 replace S11 := kp hk S11
 replace H11 := Ty.aft _ H11 hC
 replace S5 := kp hk S5
 replace HR := RowQ.aft HR hC (by simp [tagOf, n_p2_pr.symm])
 obtain ⟨v12, S12, H12⟩ := got hz' 0 hh rfl rfl rfl rfl
 obtain ⟨v13, S13, H13⟩ := got hz' 1 hh rfl rfl rfl rfl
 obtain ⟨v14, S14, H14⟩ := got hz' 2 hh rfl rfl rfl rfl
 clear tp1 tp4 tp5
 replace HB := RelC.aftM HB hC (by intro m hm; simp at hm; rcases hm with rfl <;> assumption)
 clear hC hk hh; replace hz := hz'; replace hd := hd'; clear hz' hd'
 refine region_text (M := []) (
  rT (tV (.int .i64 3)) ::
  rT (tV (.int .i64 3)) ::
  []) hz hd (by kernel_rfl) ?_ ?_
 refine ⟨?_, ?_, trivial⟩
 exact sBin rfl rfl rfl hz rfl (Gd.none_ rfl) rfl (sv S8) kc (fun w => by kernel_rfl)
 exact zMv hz (sd 0 rfl)
 intro a' γ' W' hz' hd' hC hk hh
 have tp1 := Cp1.lt
 replace Cp1 := kC hC Cp1
 have tp2 := Cp2.lt
 replace Cp2 := kC hC Cp2
 have tp5 := Cp5.lt
 replace Cp5 := kC hC Cp5
 replace S2 := kp hk S2
 replace S3 := kp hk S3
 replace S6 := kp hk S6
 replace S7 := kp hk S7
 clear S15
 clear S8
 replace S9 := kp hk S9
 replace S10 := kp hk S10
 replace S11 := kp hk S11
 replace H11 := Ty.aft _ H11 hC
 replace S5 := kp hk S5
 replace S12 := kp hk S12
 replace H12 := Ty.aft _ H12 hC
 replace S13 := kp hk S13
 replace H13 := Ty.aft _ H13 hC
 replace S14 := kp hk S14
 replace H14 := Ty.aft _ H14 hC
 replace HR := RowQ.aft HR hC rfl
 have S15 := gotV hz' 0 hh rfl rfl rfl rfl
 have S8 := gotV hz' 1 hh rfl rfl rfl rfl
 clear tp1 tp2 tp5
 replace HB := aft_call HB (RelC.below_nil hC)
 clear hC hk hh; replace hz := hz'; replace hd := hd'; clear hz' hd'
 show Code.wp _ _ _ _ _
 refine wp_seq ?_
 refine region_text (M := []) (
  rT (tV (.bool false)) ::
  []) hz hd (by kernel_rfl) ?_ ?_
 refine ⟨?_, trivial⟩
 exact sBin rfl rfl rfl hz rfl (Gd.none_ rfl) rfl (sv S8) (sv S7) (fun w => by simp [go_sem])
 intro a' γ' W' hz' hd' hC hk hh
 have tp1 := Cp1.lt
 replace Cp1 := kC hC Cp1
 have tp2 := Cp2.lt
 replace Cp2 := kC hC Cp2
 have tp5 := Cp5.lt
 replace Cp5 := kC hC Cp5
 replace S2 := kp hk S2
 replace S3 := kp hk S3
 replace S6 := kp hk S6
 replace S7 := kp hk S7
 clear S9
 replace S10 := kp hk S10
 replace S11 := kp hk S11
 replace H11 := Ty.aft _ H11 hC
 replace S5 := kp hk S5
 replace S12 := kp hk S12
 replace H12 := Ty.aft _ H12 hC
 replace S13 := kp hk S13
 replace H13 := Ty.aft _ H13 hC
 replace S14 := kp hk S14
 replace H14 := Ty.aft _ H14 hC
 replace S15 := kp hk S15
 replace S8 := kp hk S8
 replace HR := RowQ.aft HR hC rfl
 have S9 := gotV hz' 0 hh rfl rfl rfl rfl
 clear tp1 tp2 tp5
 replace HB := aft_call HB (RelC.below_nil hC)
 clear hC hk hh; replace hz := hz'; replace hd := hd'; clear hz' hd'
 refine wp_seq ?_
 refine wp_cond_false S9.ev ?_
 refine wp_exit ?_
 refine wp_seq ?_
 refine region_text (M := [p1]) (
  rT (tQ B64 (((1 + l + 1) + l + 1) + l + 1) (((0 + ([x, y, z].getD 0 0)) + ([x, y, z].getD 1 0)) + ([x, y, z].getD 2 0))) ::
  rE 0 29 (tQ B64 (((1 + l + 1) + l + 1) + l + 1) (((0 + ([x, y, z].getD 0 0)) + ([x, y, z].getD 1 0)) + ([x, y, z].getD 2 0))) p1 ::
  []) hz hd (by kernel_rfl) ?_ ?_
 refine ⟨?_, ?_, trivial⟩
 exact zLd hz (sv S3) Cp2 ld_q64 (by simp [tagOf, n_p2_p1])
 exact zSE rfl (sv S2) (by simp [tagOf]) (Cp1.var tQ_nd) (sd 0 rfl) st_q64
 intro a' γ' W' hz' hd' hC hk hh
 replace Cp1 := gotE (T := tQ B64 (((1 + l + 1) + l + 1) + l + 1) (((0 + ([x, y, z].getD 0 0)) + ([x, y, z].getD 1 0)) + ([x, y, z].getD 2 0))) (id := 29) (p := p1) 1 hh rfl rfl
 have tp2 := Cp2.lt
 clear Cp2
 have tp5 := Cp5.lt
 clear Cp5
 replace S2 := kp hk S2
 clear S3
 clear S6
 clear S7
 clear S10
 clear S11 H11
 clear S5
 clear S12 H12
 clear S13 H13
 clear S14 H14
 clear S15
 clear S8
 clear S9
 replace HR := RowQ.aft HR hC (by simp [tagOf, n_p1_pr.symm])
 clear tp2 tp5
 replace HB := RelC.aftM HB hC (by intro m hm; simp at hm; rcases hm with rfl <;> assumption)
 clear hC hk hh; replace hz := hz'; replace hd := hd'; clear hz' hd'
 refine wp_ret ?_
 refine ret_to (T := tQ B64 (((1 + l + 1) + l + 1) + l + 1) (((0 + ([x, y, z].getD 0 0)) + ([x, y, z].getD 1 0)) + ([x, y, z].getD 2 0))) (ret1_q64 (by kernel_rfl) S2 hd Cp1 HB) ?_
 exact tQ_to (by decide) (by simp) (by omega)

set_option maxRecDepth 10000 in
set_option maxHeartbeats 2000000 in
theorem dq_sum3 {l pr : Nat} {x y z : Rat} {w : World} (HR : RowQ 33 B32 l [x, y, z] pr w) (b1 : l ≤ 1000000) :
    Calls Try.prog 74 #[.slice (some ⟨pr, 0, none⟩) 3 3] w (Ret (tQ B32 (3 * l + 4) (0 + x + y + z)) w) := by
 refine enter Try.func74 rfl Try.ntmps74 (by simp) ?_
 intro a hz hd ha
 have S0 := ha 0 _ rfl
 clear ha
 have HB : Below w.heap.size w w := Below.refl _ _
 refine wp_seq ?_
 refine region_text (M := []) (
  rB 0 33 (tR B32 0 0 0 0) none 0 ::
  []) hz hd (by kernel_rfl) ?_ ?_
 refine ⟨?_, trivial⟩
 exact zNew hz (fun _ => tR_nil) al_r32
 intro a' γ' W' hz' hd' hC hk hh
 have tpr := HR.lt
 replace S0 := kp hk S0
 replace HR := RowQ.aft HR hC rfl
 obtain ⟨p1, S2, Cp1, lp1, gp1⟩ := gotB hz' 0 hC hh rfl rfl rfl rfl rfl rfl
 have bp1 : w.heap.size ≤ p1 := Nat.le_trans HB.size lp1
 have n_p1_pr : p1 ≠ pr := by omega
 have n_pr_p1 := Ne.symm n_p1_pr
 clear tpr
 clear lp1 gp1
 replace HB := aft_call HB (RelC.below_nil hC)
 clear hC hk hh; replace hz := hz'; replace hd := hd'; clear hz' hd'
 refine wp_seq ?_
 refine region_text (M := []) (
  rT (tQ B32 1 0) ::
  rVar 1 33 2 ::
  rB 1 33 (tQ B32 1 0) (some 1) 2 ::
  []) hz hd (by kernel_rfl) ?_ ?_
 refine ⟨?_, ?_, ?_, trivial⟩
 exact zC0 hz Try.func44 (fun _ => dq_zero)
 exact zAl hz nd_rat al_r32
 exact zSt (sd 0 rfl) st_q32
 intro a' γ' W' hz' hd' hC hk hh
 have ep1 := Cp1.lt
 have tpr := HR.lt
 have tp1 := Cp1.lt
 replace Cp1 := kC hC Cp1
 replace S0 := kp hk S0
 replace S2 := kp hk S2
 replace HR := RowQ.aft HR hC rfl
 obtain ⟨p2, S3, Cp2, lp2, gp2⟩ := gotB hz' 2 hC hh rfl rfl rfl rfl rfl rfl
 have n_p2_p1 : p2 ≠ p1 := by omega
 have n_p1_p2 : p1 ≠ p2 := by have := ep1; omega
 have bp2 : w.heap.size ≤ p2 := Nat.le_trans HB.size lp2
 have n_p2_pr : p2 ≠ pr := by omega
 have n_pr_p2 := Ne.symm n_p2_pr
 clear tpr
 clear lp2 gp2
 clear tp1
 clear ep1
 replace HB := aft_call HB (RelC.below_nil hC)
 clear hC hk hh; replace hz := hz'; replace hd := hd'; clear hz' hd'
 refine wp_seq ?_
 refine wp_seq ?_
 refine region_text (M := []) (
  rT (tV (.int .i64 0)) ::
  []) hz hd (by kernel_rfl) ?_ ?_
 refine ⟨?_, trivial⟩
 exact zAs hz kc
 intro a' γ' W' hz' hd' hC hk hh
 have tp1 := Cp1.lt
 replace Cp1 := kC hC Cp1
 have tp2 := Cp2.lt
 replace Cp2 := kC hC Cp2
 replace S0 := kp hk S0
 replace S2 := kp hk S2
 replace S3 := kp hk S3
 replace HR := RowQ.aft HR hC rfl
 have S4 := gotV hz' 0 hh rfl rfl rfl rfl
 clear tp1 tp2
 replace HB := aft_call HB (RelC.below_nil hC)
 clear hC hk hh; replace hz := hz'; replace hd := hd'; clear hz' hd'
 refine wp_block ?_
 refine wp_loop_rounds 5 ?_
 show Code.wp _ _ _ _ _
 refine wp_seq ?_
 refine wp_seq ?_
 refine region_text (M := []) (
  rT (tV (.int .i64 0)) ::
  rT (tV (.slice (some ⟨pr, 0, none⟩) 3 3)) ::
  rT (tV (.int .i64 3)) ::
  rT (tV (.bool true)) ::
  []) hz hd (by kernel_rfl) ?_ ?_
 refine ⟨?_, ?_, ?_, ?_, trivial⟩
 exact zMv hz (sv S4)
 exact zMv hz (sv S0)
 exact sLenK hz rfl (sd 1 rfl) (fun w => by simp [go_sem])
 exact sBin rfl rfl rfl hz rfl (Gd.none_ rfl) rfl (sd 0 rfl) (sd 2 rfl) (fun w => by simp [go_sem])
 intro a' γ' W' hz' hd' hC hk hh
 have tp1 := Cp1.lt
 replace Cp1 := kC hC Cp1
 have tp2 := Cp2.lt
 replace Cp2 := kC hC Cp2
 replace S0 := kp hk S0
 replace S2 := kp hk S2
 replace S3 := kp hk S3
 replace S4 := kp hk S4
 replace HR := RowQ.aft HR hC rfl
 have S6 := gotV hz' 0 hh rfl rfl rfl rfl
 have S7 := gotV hz' 1 hh rfl rfl rfl rfl
 have S8 := gotV hz' 2 hh rfl rfl rfl rfl
 have S9 := gotV hz' 3 hh rfl rfl rfl rfl
 clear tp1 tp2
 replace HB := aft_call HB (RelC.below_nil hC)
 clear hC hk hh; replace hz := hz'; replace hd := hd'; clear hz' hd'
 refine wp_cond_true S9.ev ?_
 refine wp_skip ?_
 refine wp_seq ?_
 refine wp_block ?_
 refine region_drawn (M := [p2]) (
  rT (tQ B32 1 0) ::
  rT (tV (.slice (some ⟨pr, 0, none⟩) 3 3)) ::
  rT (tV (.int .i64 0)) ::
  rT (tV (.pointer (some ⟨pr, 0, none⟩))) ::
  rT (tQ B32 l ([x, y, z].getD 0 0)) ::
  rT (tQ B32 (1 + l + 1) (0 + ([x, y, z].getD 0 0))) ::
  rE 0 33 (tQ B32 (1 + l + 1) (0 + ([x, y, z].getD 0 0))) p2 ::
  []) hz hd (by kernel_rfl) (by kernel_rfl) ?_ ?_
 refine ⟨?_, ?_, ?_, ?_, ?_, ?_, ?_, trivial⟩
 exact sLoadM rfl rfl rfl hz rfl (Gd.none_ rfl) rfl (sv S3) Cp2 (k := 0) (by simp [tagOf]) (by kernel_rfl) ld_q32
 exact zMv hz (sv S0)
 exact zMv hz (sv S4)
 exact sIdxQ (k := 0) rfl hz (sd 1 rfl) (sd 2 rfl) (fun w => by simp [go_sem])
 exact sLoadQ 0 hz (sd 3 rfl) HR (by simp [tagOf, n_p2_pr.symm]) (show 0 < 3 by decide) (fun u v w h1 h2 => by simp at h1 h2; simp [go_sem, h1, h2])
 exact zC2 hz Try.func22 (sd 0 rfl) (sd 4 rfl) (fun _ _ _ h0 h1 => dq_add h0 h1 (by decide) (by omega))
 exact zSE rfl (sv S3) (by simp [tagOf]) (Cp2.var tQ_nd) (sd 5 rfl) st_q32
 intro a' γ' W' hz' hd' hC hk hh
 have tp1 := Cp1.lt
 replace Cp1 := kC hC Cp1 (by simp [tagOf, n_p1_p2])
 replace Cp2 := gotE (T := tQ B32 (1 + l + 1) (0 + ([x, y, z].getD 0 0))) (id := 33) (p := p2) 6 hh rfl rfl
 replace S0 := kp hk S0
 replace S2 := kp hk S2
 replace S3 := kp hk S3
 replace S4 := kp hk S4
 replace S6 := kp hk S6
 replace S7 := kp hk S7
 replace S8 := kp hk S8
 replace S9 := kp hk S9
 replace HR := RowQ.aft HR hC (by simp [tagOf, n_p2_pr.symm])
 obtain ⟨v12, S12, H12⟩ := got hz' 0 hh rfl rfl rfl rfl
 have S13 := gotV hz' 1 hh rfl rfl rfl rfl
 have S14 := gotV hz' 2 hh rfl rfl rfl rfl
 have S15 := gotV hz' 3 hh rfl rfl rfl rfl
 obtain ⟨v16, S16, H16⟩ := got hz' 4 hh rfl rfl rfl rfl
 obtain ⟨v17, S17, H17⟩ := got hz' 5 hh rfl rfl rfl rfl
 clear tp1
 replace HB := RelC.aftM HB hC (by intro m hm; simp at hm; rcases hm with rfl <;> assumption)
 clear hC hk hh; replace hz := hz'; replace hd := hd'; clear hz' hd'
 refine region_text (M := []) (
  rT (tV (.int .i64 0)) ::
  rT (tV (.int .i64 1)) ::
  rT (tV (.int .i64 1)) ::
  []) hz hd (by kernel_rfl) ?_ ?_
 refine ⟨?_, ?_, ?_, trivial⟩
 exact zMv hz (sv S4)
 exact sBin rfl rfl rfl hz rfl (Gd.none_ rfl) rfl (sd 0 rfl) kc (fun w => by kernel_rfl)
 exact zAs hz (sd 1 rfl)
 intro a' γ' W' hz' hd' hC hk hh
 have tp1 := Cp1.lt
 replace Cp1 := kC hC Cp1
 have tp2 := Cp2.lt
 replace Cp2 := kC hC Cp2
 replace S0 := kp hk S0
 replace S2 := kp hk S2
 replace S3 := kp hk S3
 clear S4
 replace S6 := kp hk S6
 replace S7 := kp hk S7
 replace S8 := kp hk S8
 replace S9 := kp hk S9
 replace S12 := kp hk S12
 replace H12 := Ty.aft _ H12 hC
 replace S13 := kp hk S13
 replace S14 := kp hk S14
 replace S15 := kp hk S15
 replace S16 := kp hk S16
 replace H16 := Ty.aft _ H16 hC
 replace S17 := kp hk S17
 replace H17 := Ty.aft _ H17 hC
 replace HR := RowQ.aft HR hC rfl
 have S10 := gotV hz' 0 hh rfl rfl rfl rfl
 have S11 := gotV hz' 1 hh rfl rfl rfl rfl
 have S4 := gotV hz' 2 hh rfl rfl rfl rfl
 clear tp1 tp2
 replace HB := aft_call HB (RelC.below_nil hC)
 clear hC hk hh; replace hz := hz'; replace hd := hd'; clear hz' hd'
 show Code.wp _ _ _ _ _
 refine wp_seq ?_
 refine wp_seq ?_
 refine region_text (M := []) (
  rT (tV (.int .i64 1)) ::
  rT (tV (.slice (some ⟨pr, 0, none⟩) 3 3)) ::
  rT (tV (.int .i64 3)) ::
  rT (tV (.bool true)) ::
  []) hz hd (by kernel_rfl) ?_ ?_
 refine ⟨?_, ?_, ?_, ?_, trivial⟩
 exact zMv hz (sv S4)
 exact zMv hz (sv S0)
 exact sLenK hz rfl (sd 1 rfl) (fun w => by simp [go_sem])
 exact sBin rfl rfl rfl hz rfl (Gd.none_ rfl) rfl (sd 0 rfl) (sd 2 rfl) (fun w => by simp [go_sem])
 intro a' γ' W' hz' hd' hC hk hh
 have tp1 := Cp1.lt
 replace Cp1 := kC hC Cp1
 have tp2 := Cp2.lt
 replace Cp2 := kC hC Cp2
 replace S0 := kp hk S0
 replace S2 := kp hk S2
 replace S3 := kp hk S3
 clear S6
 clear S7
 clear S8
 clear S9
 replace S12 := kp hk S12
 replace H12 := Ty.aft _ H12 hC
 replace S13 := kp hk S13
 replace S14 := kp hk S14
 replace S15 := kp hk S15
 replace S16 := kp hk S16
 replace H16 := Ty.aft _ H16 hC
 replace S17 := kp hk S17
 replace H17 := Ty.aft _ H17 hC
 replace S10 := kp hk S10
 replace S11 := kp hk S11
 replace S4 := kp hk S4
 replace HR := RowQ.aft HR hC rfl
 have S6 := gotV hz' 0 hh rfl rfl rfl rfl
 have S7 := gotV hz' 1 hh rfl rfl rfl rfl
 have S8 := gotV hz' 2 hh rfl rfl rfl rfl
 have S9 := gotV hz' 3 hh rfl rfl rfl rfl
 clear tp1 tp2
 replace HB := aft_call HB (RelC.below_nil hC)
 clear hC hk hh; replace hz := hz'; replace hd := hd'; clear hz' hd'
 refine wp_cond_true S9.ev ?_
 refine wp_skip ?_
 refine wp_seq ?_
 refine wp_block ?_
 refine region_drawn (M := [p2]) (
  rT (tQ B32 (1 + l + 1) (0 + ([x, y, z].getD 0 0))) ::
  rT (tV (.slice (some ⟨pr, 0, none⟩) 3 3)) ::
  rT (tV (.int .i64 1)) ::
  rT (tV (.pointer (some ⟨pr, 2, none⟩))) ::
  rT (tQ B32 l ([x, y, z].getD 1 0)) ::
  rT (tQ B32 ((1 + l + 1) + l + 1) ((0 + ([x, y, z].getD 0 0)) + ([x, y, z].getD 1 0))) ::
  rE 0 33 (tQ B32 ((1 + l + 1) + l + 1) ((0 + ([x, y, z].getD 0 0)) + ([x, y, z].getD 1 0))) p2 ::
  []) hz hd (by kernel_rfl) (by kernel_rfl) ?_ ?_
 refine ⟨?_, ?_, ?_, ?_, ?_, ?_, ?_, trivial⟩
 exact sLoadM rfl rfl rfl hz rfl (Gd.none_ rfl) rfl (sv S3) Cp2 (k := 0) (by simp [tagOf]) (by kernel_rfl) ld_q32
 exact zMv hz (sv S0)
 exact zMv hz (sv S4)
 exact sIdxQ (k := 2) rfl hz (sd 1 rfl) (sd 2 rfl) (fun w => by simp [go_sem])
 exact sLoadQ 1 hz (sd 3 rfl) HR (by simp [tagOf, n_p2_pr.symm]) (show 1 < 3 by decide) (fun u v w h1 h2 => by simp at h1 h2; simp [go_sem, h1, h2])
 exact zC2 hz Try.func22 (sd 0 rfl) (sd 4 rfl) (fun _ _ _ h0 h1 => dq_add h0 h1 (by omega) (by omega))
 exact zSE rfl (sv S3) (by simp [tagOf]) (Cp2.var tQ_nd) (sd 5 rfl) st_q32
 intro a' γ' W' hz' hd' hC hk hh
 have tp1 := Cp1.lt
 replace Cp1 := kC hC Cp1 (by simp [tagOf, n_p1_p2])
 replace Cp2 := gotE (T := tQ B32 ((1 + l + 1) + l + 1) ((0 + ([x, y, z].getD 0 0)) + ([x, y, z].getD 1 0))) (id := 33) (p := p2) 6 hh rfl rfl
 replace S0 := kp hk S0
 replace S2 := kp hk S2
 replace S3 := kp hk S3
 clear S12 H12
 clear S13
 clear S14
 clear S15
 clear S16 H16
 clear S17 H17
 replace S10 := kp hk S10
 replace S11 := kp hk S11
 replace S4 := kp hk S4
 replace S6 := kp hk S6
 replace S7 := kp hk S7
 replace S8 := kp hk S8
 replace S9 := kp hk S9
 replace HR := RowQ.aft HR hC (by simp [tagOf, n_p2_pr.symm])
 obtain ⟨v12, S12, H12⟩ := got hz' 0 hh rfl rfl rfl rfl
 have S13 := gotV hz' 1 hh rfl rfl rfl rfl
 have S14 := gotV hz' 2 hh rfl rfl rfl rfl
 have S15 := gotV hz' 3 hh rfl rfl rfl rfl
 obtain ⟨v16, S16, H16⟩ := got hz' 4 hh rfl rfl rfl rfl
 obtain ⟨v17, S17, H17⟩ := got hz' 5 hh rfl rfl rfl rfl
 clear tp1
 replace HB := RelC.aftM HB hC (by intro m hm; simp at hm; rcases hm with rfl <;> assumption)
 clear hC hk hh; replace hz := hz'; replace hd := hd'; clear hz' hd'
 refine region_text (M := []) (
  rT (tV (.int .i64 1)) ::
  rT (tV (.int .i64 2)) ::
  rT (tV (.int .i64 2)) ::
  []) hz hd (by kernel_rfl) ?_ ?_
 refine ⟨?_, ?_, ?_, trivial⟩
 exact zMv hz (sv S4)
 exact sBin rfl rfl rfl hz rfl (Gd.none_ rfl) rfl (sd 0 rfl) kc (fun w => by kernel_rfl)
 exact zAs hz (sd 1 rfl)
 intro a' γ' W' hz' hd' hC hk hh
 have tp1 := Cp1.lt
 replace Cp1 := kC hC Cp1
 have tp2 := Cp2.lt
 replace Cp2 := kC hC Cp2
 replace S0 := kp hk S0
 replace S2 := kp hk S2
 replace S3 := kp hk S3
 clear S10
 clear S11
 clear S4
 replace S6 := kp hk S6
 replace S7 := kp hk S7
 replace S8 := kp hk S8
 replace S9 := kp hk S9
 replace S12 := kp hk S12
 replace H12 := Ty.aft _ H12 hC
 replace S13 := kp hk S13
 replace S14 := kp hk S14
 replace S15 := kp hk S15
 replace S16 := kp hk S16
 replace H16 := Ty.aft _ H16 hC
 replace S17 := kp hk S17
 replace H17 := Ty.aft _ H17 hC
 replace HR := RowQ.aft HR hC rfl
 have S10 := gotV hz' 0 hh rfl rfl rfl rfl
 have S11 := gotV hz' 1 hh rfl rfl rfl rfl
 have S4 := gotV hz' 2 hh rfl rfl rfl rfl
 clear tp1 tp2
 replace HB := aft_call HB (RelC.below_nil hC)
 clear hC hk hh; replace hz := hz'; replace hd := hd'; clear hz' hd'
 show Code.wp _ _ _ _ _
 refine wp_seq ?_
 refine wp_seq ?_
 refine region_text (M := []) (
  rT (tV (.int .i64 2)) ::
  rT (tV (.slice (some ⟨pr, 0, none⟩) 3 3)) ::
  rT (tV (.int .i64 3)) ::
  rT (tV (.bool true)) ::
  []) hz hd (by kernel_rfl) ?_ ?_
 refine ⟨?_, ?_, ?_, ?_, trivial⟩
 exact zMv hz (sv S4)
 exact zMv hz (sv S0)
 exact sLenK hz rfl (sd 1 rfl) (fun w => by simp [go_sem])
 exact sBin rfl rfl rfl hz rfl (Gd.none_ rfl) rfl (sd 0 rfl) (sd 2 rfl) (fun w => by simp [go_sem])
 intro a' γ' W' hz' hd' hC hk hh
 have tp1 := Cp1.lt
 replace Cp1 := kC hC Cp1
 have tp2 := Cp2.lt
 replace Cp2 := kC hC Cp2
 replace S0 := kp hk S0
 replace S2 := kp hk S2
 replace S3 := kp hk S3
 clear S6
 clear S7
 clear S8
 clear S9
 replace S12 := kp hk S12
 replace H12 := Ty.aft _ H12 hC
 replace S13 := kp hk S13
 replace S14 := kp hk S14
 replace S15 := kp hk S15
 replace S16 := kp hk S16
 replace H16 := Ty.aft _ H16 hC
 replace S17 := kp hk S17
 replace H17 := Ty.aft _ H17 hC
 replace S10 := kp hk S10
 replace S11 := kp hk S11
 replace S4 := kp hk S4
 replace HR := RowQ.aft HR hC rfl
 have S6 := gotV hz' 0 hh rfl rfl rfl rfl
 have S7 := gotV hz' 1 hh rfl rfl rfl rfl
 have S8 := gotV hz' 2 hh rfl rfl rfl rfl
 have S9 := gotV hz' 3 hh rfl rfl rfl rfl
 clear tp1 tp2
 replace HB := aft_call HB (RelC.below_nil hC)
 clear hC hk hh; replace hz := hz'; replace hd := hd'; clear hz' hd'
 refine wp_cond_true S9.ev ?_
 refine wp_skip ?_
 refine wp_seq ?_
 refine wp_block ?_
 refine region_drawn (M := [p2]) (
  rT (tQ B32 ((1 + l + 1) + l + 1) ((0 + ([x, y, z].getD 0 0)) + ([x, y, z].getD 1 0))) ::
  rT (tV (.slice (some ⟨pr, 0, none⟩) 3 3)) ::
  rT (tV (.int .i64 2)) ::
  rT (tV (.pointer (some ⟨pr, 4, none⟩))) ::
  rT (tQ B32 l ([x, y, z].getD 2 0)) ::
  rT (tQ B32 (((1 + l + 1) + l + 1) + l + 1) (((0 + ([x, y, z].getD 0 0)) + ([x, y, z].getD 1 0)) + ([x, y, z].getD 2 0))) ::
  rE 0 33 (tQ B32 (((1 + l + 1) + l + 1) + l + 1) (((0 + ([x, y, z].getD 0 0)) + ([x, y, z].getD 1 0)) + ([x, y, z].getD 2 0))) p2 ::
  []) hz hd (by kernel_rfl) (by kernel_rfl) ?_ ?_
 refine ⟨?_, ?_, ?_, ?_, ?_, ?_, ?_, trivial⟩
 exact sLoadM rfl rfl rfl hz rfl (Gd.none_ rfl) rfl (sv S3) Cp2 (k := 0) (by simp [tagOf]) (by kernel_rfl) ld_q32
 exact zMv hz (sv S0)
 exact zMv hz (sv S4)
 exact sIdxQ (k := 4) rfl hz (sd 1 rfl) (sd 2 rfl) (fun w => by simp [go_sem])
 exact sLoadQ 2 hz (sd 3 rfl) HR (by simp [tagOf, n_p2_pr.symm]) (show 2 < 3 by decide) (fun u v w h1 h2 => by simp at h1 h2; simp [go_sem, h1, h2])
 exact zC2 hz Try.func22 (sd 0 rfl) (sd 4 rfl) (fun _ _ _ h0 h1 => dq_add h0 h1 (by omega) (by omega))
 exact zSE rfl (sv S3) (by simp [tagOf]) (Cp2.var tQ_nd) (sd 5 rfl) st_q32
 intro a' γ' W' hz' hd' hC hk hh
 have tp1 := Cp1.lt
 replace Cp1 := kC hC Cp1 (by simp [tagOf, n_p1_p2])
 replace Cp2 := gotE (T := tQ B32 (((1 + l + 1) + l + 1) + l + 1) (((0 + ([x, y, z].getD 0 0)) + ([x, y, z].getD 1 0)) + ([x, y, z].getD 2 0))) (id := 33) (p := p2) 6 hh rfl rfl
 replace S0 := kp hk S0
 replace S2 := kp hk S2
 replace S3 := kp hk S3
 clear S12 H12
 clear S13
 clear S14
 clear S15
 clear S16 H16
 clear S17 H17
 replace S10 := kp hk S10
 replace S11 := kp hk S11
 replace S4 := kp hk S4
 replace S6 := kp hk S6
 replace S7 := kp hk S7
 replace S8 := kp hk S8
 replace S9 := kp hk S9
 replace HR := RowQ.aft HR hC (by simp [tagOf, n_p2_pr.symm])
 obtain ⟨v12, S12, H12⟩ := got hz' 0 hh rfl rfl rfl rfl
 have S13 := gotV hz' 1 hh rfl rfl rfl rfl
 have S14 := gotV hz' 2 hh rfl rfl rfl rfl
 have S15 := gotV hz' 3 hh rfl rfl rfl rfl
 obtain ⟨v16, S16, H16⟩ := got hz' 4 hh rfl rfl rfl rfl
 obtain ⟨v17, S17, H17⟩ := got hz' 5 hh rfl rfl rfl rfl
 clear tp1
 replace HB := RelC.aftM HB hC (by intro m hm; simp at hm; rcases hm with rfl <;> assumption)
 clear hC hk hh; replace hz := hz'; replace hd := hd'; clear hz' hd'
 refine region_text (M := []) (
  rT (tV (.int .i64 2)) ::
  rT (tV (.int .i64 3)) ::
  rT (tV (.int .i64 3)) ::
  []) hz hd (by kernel_rfl) ?_ ?_
 refine ⟨?_, ?_, ?_, trivial⟩
 exact zMv hz (sv S4)
 exact sBin rfl rfl rfl hz rfl (Gd.none_ rfl) rfl (sd 0 rfl) kc (fun w => by kernel_rfl)
 exact zAs hz (sd 1 rfl)
 intro a' γ' W' hz' hd' hC hk hh
 have tp1 := Cp1.lt
 replace Cp1 := kC hC Cp1
 have tp2 := Cp2.lt
 replace Cp2 := kC hC Cp2
 replace S0 := kp hk S0
 replace S2 := kp hk S2
 replace S3 := kp hk S3
 clear S10
 clear S11
 clear S4
 replace S6 := kp hk S6
 replace S7 := kp hk S7
 replace S8 := kp hk S8
 replace S9 := kp hk S9
 replace S12 := kp hk S12
 replace H12 := Ty.aft _ H12 hC
 replace S13 := kp hk S13
 replace S14 := kp hk S14
 replace S15 := kp hk S15
 replace S16 := kp hk S16
 replace H16 := Ty.aft _ H16 hC
 replace S17 := kp hk S17
 replace H17 := Ty.aft _ H17 hC
 replace HR := RowQ.aft HR hC rfl
 have S10 := gotV hz' 0 hh rfl rfl rfl rfl
 have S11 := gotV hz' 1 hh rfl rfl rfl rfl
 have S4 := gotV hz' 2 hh rfl rfl rfl rfl
 clear tp1 tp2
 replace HB := aft_call HB (RelC.below_nil hC)
 clear hC hk hh; replace hz := hz'; replace hd := hd'; clear hz' hd'
 show Code.wp _ _ _ _ _
 refine wp_seq ?_
 refine wp_seq ?_
 refine region_text (M := []) (
  rT (tV (.int .i64 3)) ::
  rT (tV (.slice (some ⟨pr, 0, none⟩) 3 3)) ::
  rT (tV (.int .i64 3)) ::
  rT (tV (.bool false)) ::
  []) hz hd (by kernel_rfl) ?_ ?_
 refine ⟨?_, ?_, ?_, ?_, trivial⟩
 exact zMv hz (sv S4)
 exact zMv hz (sv S0)
 exact sLenK hz rfl (sd 1 rfl) (fun w => by simp [go_sem])
 exact sBin rfl rfl rfl hz rfl (Gd.none_ rfl) rfl (sd 0 rfl) (sd 2 rfl) (fun w => by simp [go_sem])
 intro a' γ' W' hz' hd' hC hk hh
 have tp1 := Cp1.lt
 replace Cp1 := kC hC Cp1
 have tp2 := Cp2.lt
 replace Cp2 := kC hC Cp2
 replace S0 := kp hk S0
 replace S2 := kp hk S2
 replace S3 := kp hk S3
 clear S6
 clear S7
 clear S8
 clear S9
 replace S12 := kp hk S12
 replace H12 := Ty.aft _ H12 hC
 replace S13 := kp hk S13
 replace S14 := kp hk S14
 replace S15 := kp hk S15
 replace S16 := kp hk S16
 replace H16 := Ty.aft _ H16 hC
 replace S17 := kp hk S17
 replace H17 := Ty.aft _ H17 hC
 replace S10 := kp hk S10
 replace S11 := kp hk S11
 replace S4 := kp hk S4
 replace HR := RowQ.aft HR hC rfl
 have S6 := gotV hz' 0 hh rfl rfl rfl rfl
 have S7 := gotV hz' 1 hh rfl rfl rfl rfl
 have S8 := gotV hz' 2 hh rfl rfl rfl rfl
 have S9 := gotV hz' 3 hh rfl rfl rfl rfl
 clear tp1 tp2
 replace HB := aft_call HB (RelC.below_nil hC)
 clear hC hk hh; replace hz := hz'; replace hd := hd'; clear hz' hd'
 refine wp_cond_false S9.ev ?_
 refine wp_exit ?_
 refine wp_seq ?_
 refine region_text (M := [p1]) (
  rT (tQ B32 (((1 + l + 1) + l + 1) + l + 1) (((0 + ([x, y, z].getD 0 0)) + ([x, y, z].getD 1 0)) + ([x, y, z].getD 2 0))) ::
  rE 0 33 (tQ B32 (((1 + l + 1) + l + 1) + l + 1) (((0 + ([x, y, z].getD 0 0)) + ([x, y, z].getD 1 0)) + ([x, y, z].getD 2 0))) p1 ::
  []) hz hd (by kernel_rfl) ?_ ?_
 refine ⟨?_, ?_, trivial⟩
 exact zLd hz (sv S3) Cp2 ld_q32 (by simp [tagOf, n_p2_p1])
 exact zSE rfl (sv S2) (by simp [tagOf]) (Cp1.var tR_nd) (sd 0 rfl) st_q32
 intro a' γ' W' hz' hd' hC hk hh
 replace Cp1 := gotE (T := tQ B32 (((1 + l + 1) + l + 1) + l + 1) (((0 + ([x, y, z].getD 0 0)) + ([x, y, z].getD 1 0)) + ([x, y, z].getD 2 0))) (id := 33) (p := p1) 1 hh rfl rfl
 have tp2 := Cp2.lt
 clear Cp2
 clear S0
 replace S2 := kp hk S2
 clear S3
 clear S12 H12
 clear S13
 clear S14
 clear S15
 clear S16 H16
 clear S17 H17
 clear S10
 clear S11
 clear S4
 clear S6
 clear S7
 clear S8
 clear S9
 replace HR := RowQ.aft HR hC (by simp [tagOf, n_p1_pr.symm])
 clear tp2
 replace HB := RelC.aftM HB hC (by intro m hm; simp at hm; rcases hm with rfl <;> assumption)
 clear hC hk hh; replace hz := hz'; replace hd := hd'; clear hz' hd'
 refine wp_ret ?_
 refine ret_to (T := tQ B32 (((1 + l + 1) + l + 1) + l + 1) (((0 + ([x, y, z].getD 0 0)) + ([x, y, z].getD 1 0)) + ([x, y, z].getD 2 0))) (ret1_q32 (by kernel_rfl) S2 hd Cp1 HB) ?_
 exact tQ_to (by decide) (by simp) (by omega)

end Go.Proofs.Ythanbjbcpljcoaa.Rg
