/-
  Walks and plain laws, put together: OW OL OT.
-/
import Derived.Test.YtojpiiboikomfaaPn
import Derived.Test.YtojpiiboikomfaaFr
set_option linter.unusedVariables false
set_option linter.unusedSimpArgs false
namespace Go.Proofs.Ytojpiiboikomfaa.Rg

open Go.RowKit Go.ChangeShapes Go.WideShapes Go.ChangeAt Go.Deep

theorem tagO_base {M : List Nat} {B g k : Nat} (hg : g < B) (hM : ∀ m ∈ M, B ≤ m) : tagOf M k g = 0 := by
  induction M generalizing k with
  | nil => rfl
  | cons m M ih =>
    unfold tagOf
    have := hM m List.mem_cons_self
    rw [if_neg (by omega)]
    exact ih fun x hx => hM x (List.mem_cons_of_mem _ hx)
theorem cell_oaft {M : List Nat} {B g o : Nat} {W w : World} {γ : Nat → Nat} {u : Value} (h : W.cell? ⟨g, o, none⟩ = some u) (hc : RelC M W γ w) (hg : g < B) (hM : ∀ m ∈ M, B ≤ m) : w.cell? ⟨g, o, none⟩ = some u := by
  rw [World.cell?_of_block (hc.1.block g (World.block_lt_of_cell? _ _ h) (.inr (by unfold mt; rw [if_pos (tagO_base hg hM)]; omega)))]; exact h
/-- Rows of k ints each. -/
def RI (k : Nat) (A : Option Addr) (n : Nat) (F : Nat → Int) (B : Nat) (w : World) : Prop :=
  ∀ i, i < n → ∃ g o, A = some ⟨g, o, none⟩ ∧ g < B ∧ ∀ f, f < k → w.cell? ⟨g, o + (i * k + f), none⟩ = some (.int .i64 (F (i * k + f)))
theorem RI.aft {k : Nat} {A : Option Addr} {n B : Nat} {F : Nat → Int} {M : List Nat} {W w : World} {γ : Nat → Nat} (h : RI k A n F B W) (hc : RelC M W γ w) (hM : ∀ m ∈ M, B ≤ m) : RI k A n F B w := by
  intro i hi
  obtain ⟨g, o, e, hg, h1⟩ := h i hi
  exact ⟨g, o, e, hg, fun f hf => cell_oaft (h1 f hf) hc hg hM⟩
theorem ri_in {k bytes : Nat} (hk : 0 < k) {w : World} {A : Option Addr} {n c : Nat} {l : List Int} (h : InI .i64 bytes k w A n c l) : RI k A n (fun j => l.getD j 0) w.heap.size w := by
  intro i hi
  obtain ⟨g, off, rfl, hg, hc⟩ := h.reads.flat (by omega) hk
  have hl := h.reads.1
  rw [List.length_map] at hl
  refine ⟨g, off, rfl, hg, fun f hf => hc _ _ ?_⟩
  have : i * k + f < l.length := by
    have : (i + 1) * k ≤ n * k := Nat.mul_le_mul_right k hi
    rw [Nat.add_mul, Nat.one_mul] at this
    omega
  rw [List.getElem?_map, List.getElem?_eq_getElem this]
  show _ = some (Value.int IntKind.i64 (l.getD (i * k + f) 0))
  rw [List.getD_eq_getElem?_getD, List.getElem?_eq_getElem this]; rfl
section

variable {P : Program} {ops : Array Oper} {Q : Exit → Act → World → Prop} {a0 : Act} {M : List Nat} {W : World} {rels : List Rel} {i : Nat} {o : Oper} {T : Ty} {N d : Nat} {x y : Operand}
theorem sLenK {id : TypeId} {A : Option Addr} {n c : Nat} (hz : a0.tmps.size = N) (hop : o.op = .call { callee := .builtin .len, args := #[x], argTypes := #[id] }) (s : Src ops a0 M W rels i o x (tV (.slice A n c))) (hid : ∀ w, (Builtin.len_ #[id] o.type #[.slice A n c]).run P w = .ok (.int .i64 n) w) (g : Gd ops a0 M W rels i o true := by exact Gd.none_ rfl)
    (ho : ops[i]? = some o := by rfl) (hr : rels[i]? = some (rT (tV (.int .i64 (n : Int)))) := by rfl) (hd : o.dst = some d := by rfl) (hlt : decide (d < N) = true := by rfl) : StepOk P ops a0 M W Q rels i o :=
  sOp ho hr hd hz hlt g fun a γ w U => by
    have e : a.eval x = .slice A n c := s a γ w U
    refine ⟨_, ?_, rfl⟩
    generalize a.eval = ρ at e ⊢
    unfold execOp; rw [hop]; simp [go_sem, e, hid]
/-- An element's address, a load: known ahead. -/
theorem zIxV {id : TypeId} {u v z : Value} (hz : a0.tmps.size = N) (hop : o.op = .indexAddr id x y) (sx : Src ops a0 M W rels i o x (tV u)) (sy : Src ops a0 M W rels i o y (tV v)) (h : ∀ w, (Instr.indexAt id u v).run P w = .ok z w)
    (g : Gd ops a0 M W rels i o true := by exact Gd.none_ rfl) (ho : ops[i]? = some o := by rfl) (hr : rels[i]? = some (rT (tV z)) := by rfl) (hd : o.dst = some d := by rfl) (hlt : decide (d < N) = true := by rfl) : StepOk P ops a0 M W Q rels i o :=
  sOp ho hr hd hz hlt g fun a γ w U => by
    have e : a.eval x = u := sx a γ w U
    have e2 : a.eval y = v := sy a γ w U
    refine ⟨_, ?_, rfl⟩
    unfold execOp; rw [hop]; simp only [e, e2, Sem.run_bind, h, Result.andThen, Sem.run_pure]
theorem zLdV {id : TypeId} {p : Value} (hz : a0.tmps.size = N) (hop : o.op = .load id x) (sx : Src ops a0 M W rels i o x (tV p)) (h : ∀ γ w, RelC M W γ w → ∃ v, (Instr.loadAt id p).run P w = .ok v w ∧ T.p v w)
    (g : Gd ops a0 M W rels i o true := by exact Gd.none_ rfl) (ho : ops[i]? = some o := by rfl) (hr : rels[i]? = some (rT T) := by rfl) (hd : o.dst = some d := by rfl) (hlt : decide (d < N) = true := by rfl) : StepOk P ops a0 M W Q rels i o :=
  sOp ho hr hd hz hlt g fun a γ w U => by
    have e : a.eval x = p := sx a γ w U
    obtain ⟨v, h1, h2⟩ := h γ w U.c
    refine ⟨v, ?_, h2⟩
    unfold execOp; rw [hop]; simp only [e, Sem.run_bind, h1, Result.andThen, Sem.run_pure]
end

section

variable {g o n c i : Nat} {A : Option Addr} {F : Nat → Int} {w : World} {k t u : Int}
/-- A step. -/
def S3 (k t u : Int) : Ty := tO [tV (.int .i64 k), tV (.int .i64 t), tV (.int .i64 u)] [1, 1, 1]
theorem ix_st (hA : A = some ⟨g, o, none⟩) (hi : i < n) : ∀ w : World, (Instr.indexAt 23 (.slice A n c) (.int .i64 (i : Int))).run Try.prog w = .ok (.pointer (some ⟨g, o + i * 3, none⟩)) w := by
  intro w; subst hA; simp [go_sem, hi]
theorem ix_in (hA : A = some ⟨g, o, none⟩) (hi : i < n) : ∀ w : World, (Instr.indexAt 40 (.slice A n c) (.int .i64 (i : Int))).run Try.prog w = .ok (.pointer (some ⟨g, o + i, none⟩)) w := by
  intro w; subst hA; simp [go_sem, hi]
theorem ld_in (h : ∀ f, f < 1 → w.cell? ⟨g, o + (i * 1 + f), none⟩ = some (.int .i64 (F (i * 1 + f)))) : ∃ v, (Instr.loadAt 3 (.pointer (some ⟨g, o + i, none⟩))).run Try.prog w = .ok v w ∧ (tV (.int .i64 (F i))).p v w := by
  have h0 := h 0 (by decide)
  simp only [Nat.mul_one, Nat.add_zero] at h0
  exact ⟨_, by simp [go_sem, h0], rfl⟩
theorem ld_s3 (h : ∀ f, f < 3 → w.cell? ⟨g, o + (i * 3 + f), none⟩ = some (.int .i64 (F (i * 3 + f)))) : ∃ v, (Instr.loadAt 42 (.pointer (some ⟨g, o + i * 3, none⟩))).run Try.prog w = .ok v w ∧ (tO [tV (.int .i64 (F (i * 3))), tV (.int .i64 (F (i * 3 + 1))), tV (.int .i64 (F (i * 3 + 2)))] [1, 1, 1]).p v w := by
  have h0 : w.cell? ⟨g, o + i * 3, none⟩ = some (.int .i64 (F (i * 3))) := h 0 (by decide)
  have h1 := h 1 (by decide)
  have h2 := h 2 (by decide)
  simp only [← Nat.add_assoc] at h1 h2
  refine ⟨.agg #[.int .i64 (F (i * 3)), .int .i64 (F (i * 3 + 1)), .int .i64 (F (i * 3 + 2))], by simp [go_sem, h0, h1, h2], [.int .i64 (F (i * 3)), .int .i64 (F (i * 3 + 1)), .int .i64 (F (i * 3 + 2))], rfl, ⟨rfl, rfl, rfl, trivial⟩, rfl⟩
theorem al_s3 : ∀ w : World, (Instr.alloc 42 true (.tuple #[])).run Try.prog w = .ok (.pointer (some ⟨w.heap.size, 0, none⟩)) (w.alloc (.cells (Value.agg #[.int .i64 0, .int .i64 0, .int .i64 0]).cells 42)) := by
  intro w; simp [go_sem, Value.cells]
theorem nd_s3 : ∀ u ∈ (Value.agg #[.int .i64 0, .int .i64 0, .int .i64 0]).cells, notDig u := by
  intro u hu
  simp [cells_agg] at hu
  subst hu
  intro k m hk h
  cases h; simp [digK] at hk
theorem S3_v {v : Value} (hv : (tO [tV (.int .i64 k), tV (.int .i64 t), tV (.int .i64 u)] [1, 1, 1]).p v w) : v = .agg #[.int .i64 k, .int .i64 t, .int .i64 u] := by
  obtain ⟨vs, rfl, ha, -⟩ := hv
  obtain ⟨v1, v2, v3, rfl, rfl, rfl, rfl⟩ := allT3 ha
  rfl
theorem sto_s3 : StoreOk Try.prog 42 (tO [tV (.int .i64 k), tV (.int .i64 t), tV (.int .i64 u)] [1, 1, 1]) 3 := by
  intro v w p us hv hs hb
  have hnd := (tO_nd (nd_c nd_int (nd_c nd_int (nd_c nd_int nd_nil))) v w hv).2
  obtain rfl := S3_v hv
  have b1 := hb.set_ 0 (.int .i64 k)
  have b2 := b1.set_ 1 (.int .i64 t)
  have b3 := b2.set_ 2 (.int .i64 u)
  obtain ⟨u0, g0⟩ := blk_lt hb 0 (by omega)
  obtain ⟨u1, g1⟩ := blk_lt hb 1 (by omega)
  obtain ⟨u2, g2⟩ := blk_lt hb 2 (by omega)
  have f0 := hb.frozen 0
  have f1 := hb.frozen 1
  have f2 := hb.frozen 2
  obtain ⟨u1', k1⟩ := blk_lt b1 1 (by simp; omega)
  obtain ⟨u2', k2⟩ := blk_lt b2 2 (by simp; omega)
  have q1 := b1.frozen 1
  have q2 := b2.frozen 2
  refine ⟨((w.setCell ⟨p, 0, none⟩ (.int .i64 k)).setCell ⟨p, 1, none⟩ (.int .i64 t)).setCell ⟨p, 2, none⟩ (.int .i64 u), ?_, ((But.set1 _ _ _ _).trans (But.set1 _ _ _ _)).trans (But.set1 _ _ _ _), ?_, rfl, hnd⟩
  · simp [go_sem, g0, g1, g2, f0, f1, f2, k1, k2, q1, q2]
  · have e : ((us.setIfInBounds 0 (.int .i64 k)).setIfInBounds 1 (.int .i64 t)).setIfInBounds 2 (.int .i64 u) = (Value.agg #[.int .i64 k, .int .i64 t, .int .i64 u]).cells := by
      obtain ⟨l⟩ := us
      match l, hs with
      | [a, b, c], _ => rfl
    rw [← e]; exact b3
end

end Go.Proofs.Ytojpiiboikomfaa.Rg

namespace Go.Proofs.Ytojpiiboikomfaa.Rg

open Go.RowKit

section

variable {l : Nat} {T m x y : Int} {H B R : Rat}
/-- Asking in between changes nothing. -/
theorem at_at (I : BInv l T H B R) (h1 : T ≤ m) (h2 : m ≤ 4611686018427387904) : atH m (atH T H B R m) B R y = atH T H B R (TT m y) := by
  have hm := TT_le m y
  have hm2 := TT_hi (t' := y) h2
  have hr := I.r0
  have e1 : ((TT m y - m : Int) : Rat) = ((TT m y - T : Int) : Rat) - ((m - T : Int) : Rat) := by
    rw [← Rat.intCast_sub]; congr 1; omega
  rw [at_of (T := T) (H := H) h1 h2, at_of (T := T) (H := H) (y := TT m y) (by omega) hm2]
  unfold atH
  rw [e1]
  have h3 := cast_nonneg (show 0 ≤ m - T by omega)
  have h4 := cast_nonneg (show 0 ≤ TT m y - m by omega)
  have h5 := Rat.mul_nonneg hr h4
  rw [e1] at h5
  generalize ((TT m y - T : Int) : Rat) = p at *
  generalize ((m - T : Int) : Rat) = q at *
  have h6 : R * (p - q) = R * p - R * q := by grind
  rw [h6] at h5 ⊢
  unfold minQ
  repeat' split
  all_goals grind
theorem BInv.mid (I : BInv l T H B R) (h1 : T ≤ m) (h2 : m ≤ 4611686018427387904) : BInv l m (atH T H B R m) B R := by
  have := I.at_ m
  rwa [TT_of h1 h2] at this
theorem tkH_le {h : Rat} {n : Int} (hb : h ≤ B) : tkH h n ≤ B := by
  unfold tkH; split
  · exact hb
  · split
    · rename_i h1 h2
      have := cast_nonneg (show 0 ≤ n by omega); grind
    · exact hb
/-- Asked at the tick that it stands at. -/
theorem at_self {h : Rat} (hb : h ≤ B) (h2 : T ≤ 4611686018427387904) : atH T h B R T = h := by
  rw [at_of (Int.le_refl _) h2, Int.sub_self]
  unfold minQ; split <;> simp at * <;> grind
end
theorem Cell.to {id : TypeId} {T U : Ty} {p : Nat} {w : World} (h : Cell id T p w) (c : ∀ v w, T.p v w → U.p v w) : Cell id U p w := by
  obtain ⟨v, h1, h2⟩ := h; exact ⟨v, h1, c _ _ h2⟩
/-- Shifted to the right. -/
def shrI (x : Int) (k : Nat) : Int := x >>> k
theorem shrI_b {x : Int} (k : Nat) (h : -9223372036854775808 ≤ x ∧ x < 9223372036854775808) : -9223372036854775808 ≤ shrI x k ∧ shrI x k < 9223372036854775808 := by
  have hp : (0 : Int) < ((2 ^ k : Nat) : Int) := by have := Nat.two_pow_pos k; omega
  unfold shrI
  rw [Int.shiftRight_eq_div_pow]
  constructor
  · refine Int.le_ediv_of_mul_le hp ?_
    have : (1 : Int) ≤ ((2 ^ k : Nat) : Int) := by omega
    have := Int.mul_le_mul_of_nonneg_left this (show (0 : Int) ≤ 9223372036854775808 by decide)
    omega
  · refine Int.ediv_lt_of_lt_mul hp ?_
    have : (1 : Int) ≤ ((2 ^ k : Nat) : Int) := by omega
    have := Int.mul_le_mul_of_nonneg_left this (show (0 : Int) ≤ 9223372036854775808 by decide)
    omega
section

variable {ox oy : Operand} {id : TypeId} {x y : Int}
theorem run_shri (k : Nat) (hk : k < 64) (h : -9223372036854775808 ≤ x ∧ x < 9223372036854775808) (w : World) : (do eqGuard .shr id ox oy (.int .i64 x) (.int .i64 (k : Int)); binOp .shr id (.int .i64 x) (.int .i64 (k : Int)) : Sem Value).run Try.prog w = .ok (.int .i64 (shrI x k)) w := by
  simp [go_sem, shrI, Int.shiftRight_eq_div_pow]
theorem run_addi (h0 : -9223372036854775808 ≤ x + y) (h : x + y < 9223372036854775808) (w : World) : (do eqGuard .add id ox oy (.int .i64 x) (.int .i64 y); binOp .add id (.int .i64 x) (.int .i64 y) : Sem Value).run Try.prog w = .ok (.int .i64 (x + y)) w := by
  have e : IntKind.i64.wrap (x + y) = x + y := by rw [IntKind.wrap_i64]; omega
  simp [go_sem, e]
theorem run_subi (h0 : -9223372036854775808 ≤ x - y) (h : x - y < 9223372036854775808) (w : World) : (do eqGuard .sub id ox oy (.int .i64 x) (.int .i64 y); binOp .sub id (.int .i64 x) (.int .i64 y) : Sem Value).run Try.prog w = .ok (.int .i64 (x - y)) w := by
  have e : IntKind.i64.wrap (x - y) = x - y := by rw [IntKind.wrap_i64]; omega
  simp [go_sem, e]
theorem run_dbl (h0 : 0 ≤ x) (h : x < 4611686018427387904) (w : World) : (do eqGuard .mul id ox oy (.int .i64 2) (.int .i64 x); binOp .mul id (.int .i64 2) (.int .i64 x) : Sem Value).run Try.prog w = .ok (.int .i64 (2 * x)) w := by
  have e : IntKind.i64.wrap (2 * x) = 2 * x := by rw [IntKind.wrap_i64]; omega
  simp [go_sem, e]
end

set_option maxRecDepth 10000 in
set_option maxHeartbeats 2000000 in
theorem bucketCuts_ret {l u : Nat} {b per : Int} {As Am : Option Addr} {ns cs nm cm : Nat} {F G : Nat → Int} {w : World} (hl : 1100 ≤ l) (hl2 : l ≤ 9000) (hu : u < 18446744073709551616) (hb1 : -9223372036854775808 ≤ b) (hb2 : b < 9223372036854775808) (hper1 : -9223372036854775808 ≤ per) (hper2 : per < 9223372036854775808) (HSc : RI 3 As ns F w.heap.size w) (HMo : RI 1 Am nm G w.heap.size w) (hF : ∀ j, -9223372036854775808 ≤ F j ∧ F j < 9223372036854775808) (hG0 : ∀ j, -9223372036854775808 ≤ G j ∧ G j < 9223372036854775808) :
    Calls Try.prog 6 #[.int .i64 b, .int .u64 (u : Int), .int .i64 per, .slice As ns cs, .slice Am nm cm] w (Ret (tV (.bool true)) w) := by
  refine enter Try.func6 rfl Try.ntmps6 (by simp) ?_
  intro a hz hd ha
  have S0 := ha 0 _ rfl
  have S1 := ha 1 _ rfl
  have S2 := ha 2 _ rfl
  have S3 := ha 3 _ rfl
  have S4 := ha 4 _ rfl
  clear ha
  have HB : Below w.heap.size w w := Below.refl _ _
  have hfb0 := few0 b (m := 1099511627775) (by decide)
  have hfb1 := few1 b (m := 1099511627775) (by decide)
  have hfp0 := few0 per (m := 1073741823) (by decide)
  have hfp1 := few1 per (m := 1073741823) (by decide)
  refine wp_seq ?_
  refine region_text (M := []) (
      rT (tV (.bool false)) ::
      []) hz hd (by kernel_rfl) ?_ ?_
  · refine ⟨?_, trivial⟩
    · exact zAs hz kc
  intro a' γ' W' hz' hd' hC hk hh
  replace S0 := kp hk S0
  replace S1 := kp hk S1
  replace S2 := kp hk S2
  replace S3 := kp hk S3
  replace S4 := kp hk S4
  replace HSc := RI.aft HSc hC (by intro m hm; simp at hm)
  replace HMo := RI.aft HMo hC (by intro m hm; simp at hm)
  have S10 := gotV hz' 0 hh rfl rfl rfl rfl
  replace HB := aft_call HB (RelC.below_nil hC)
  clear hC hk hh; replace hz := hz'; replace hd := hd'; clear hz' hd'
  refine wp_seq ?_
  refine region_text (M := []) (
      rT (tV (.int .i64 b)) ::
      rT (tV (.int .i64 (fewV b 1099511627775))) ::
      rT (tV (.int .i64 (fewV b 1099511627775 + 1))) ::
      rT (tV (.int .i64 (fewV b 1099511627775 + 1))) ::
      []) hz hd (by kernel_rfl) ?_ ?_
  · refine ⟨?_, ?_, ?_, ?_, trivial⟩
    · exact zMv hz (sv S0)
    · exact zC2 hz Try.func8 (sd 0 rfl) (kc (v := .int .i64 1099511627775)) (k11 (fun _ => l_few (n := b) (m := 1099511627775) (by omega) (by omega) (by decide) (by omega)))
    · exact sBin rfl rfl rfl hz rfl (Gd.none_ rfl) rfl (sd 1 rfl) kc (fun w => run_addi (by omega) (by omega) w)
    · exact zAs hz (sd 2 rfl)
  intro a' γ' W' hz' hd' hC hk hh
  clear S0
  replace S1 := kp hk S1
  replace S2 := kp hk S2
  replace S3 := kp hk S3
  replace S4 := kp hk S4
  replace S10 := kp hk S10
  replace HSc := RI.aft HSc hC (by intro m hm; simp at hm)
  replace HMo := RI.aft HMo hC (by intro m hm; simp at hm)
  have S0 := gotV hz' 3 hh rfl rfl rfl rfl
  replace HB := aft_call HB (RelC.below_nil hC)
  clear hC hk hh; replace hz := hz'; replace hd := hd'; clear hz' hd'
  refine wp_seq ?_
  obtain ⟨bn, e_bn⟩ : ∃ x : Int, x = fewV b 1099511627775 + 1 := ⟨_, rfl⟩
  rw [← e_bn] at S0
  have hb : 1 ≤ bn ∧ bn ≤ 1099511627776 := by omega
  refine region_text (M := []) (
      rT (tV (.int .i64 per)) ::
      rT (tV (.int .i64 (fewV per 1073741823))) ::
      rT (tV (.int .i64 (fewV per 1073741823 + 1))) ::
      rT (tV (.int .i64 (fewV per 1073741823 + 1))) ::
      []) hz hd (by kernel_rfl) ?_ ?_
  · refine ⟨?_, ?_, ?_, ?_, trivial⟩
    · exact zMv hz (sv S2)
    · exact zC2 hz Try.func8 (sd 0 rfl) (kc (v := .int .i64 1073741823)) (k11 (fun _ => l_few (n := per) (m := 1073741823) (by omega) (by omega) (by decide) (by omega)))
    · exact sBin rfl rfl rfl hz rfl (Gd.none_ rfl) rfl (sd 1 rfl) kc (fun w => run_addi (by omega) (by omega) w)
    · exact zAs hz (sd 2 rfl)
  intro a' γ' W' hz' hd' hC hk hh
  replace S1 := kp hk S1
  clear S2
  replace S3 := kp hk S3
  replace S4 := kp hk S4
  replace S10 := kp hk S10
  replace S0 := kp hk S0
  replace HSc := RI.aft HSc hC (by intro m hm; simp at hm)
  replace HMo := RI.aft HMo hC (by intro m hm; simp at hm)
  have S2 := gotV hz' 3 hh rfl rfl rfl rfl
  replace HB := aft_call HB (RelC.below_nil hC)
  clear hC hk hh; replace hz := hz'; replace hd := hd'; clear hz' hd'
  refine wp_seq ?_
  obtain ⟨per1, e_per1⟩ : ∃ x : Int, x = fewV per 1073741823 + 1 := ⟨_, rfl⟩
  rw [← e_per1] at S2
  have hpp : 1 ≤ per1 ∧ per1 ≤ 1073741824 := by omega
  by_cases hc1 : newE bn u per1 0 = 0
  · refine region_text (M := []) (
        rT (tV (.int .i64 bn)) ::
        rT (tV (.int .u64 (u : Int))) ::
        rT (tV (.float .f64 u)) ::
        rT (tV (.int .i64 per1)) ::
        rN 4 80 (tO [tV (.int .i64 0), tQ B64 (l + 64 + 41) 0, tQ B64 42 (((bn : Int) : Rat)), tQ B64 (l + 64) (divI (flQ u) per1)] [1, 2, 2, 2]) (.int .i64 0) ::
        rN 4 80 (tO [tV (.int .i64 0), tQ B64 (l + 64 + 41) 0, tQ B64 42 (((bn : Int) : Rat)), tQ B64 (l + 64) (divI (flQ u) per1)] [1, 2, 2, 2]) (.int .i64 0) ::
        rB 4 80 (tO [tV (.int .i64 0), tQ B64 (l + 64 + 41) 0, tQ B64 42 (((bn : Int) : Rat)), tQ B64 (l + 64) (divI (flQ u) per1)] [1, 2, 2, 2]) none 0 ::
        rT (tV (.int .i64 0)) ::
        rB 4 80 (tO [tV (.int .i64 0), tQ B64 (l + 64 + 41) 0, tQ B64 42 (((bn : Int) : Rat)), tQ B64 (l + 64) (divI (flQ u) per1)] [1, 2, 2, 2]) none 0 ::
        rT (tV (.int .i64 0)) ::
        []) hz hd (by kernel_rfl) ?_ ?_
    · refine ⟨?_, ?_, ?_, ?_, ?_, ?_, ?_, ?_, ?_, ?_, trivial⟩
      · exact zMv hz (sv S0)
      · exact zMv hz (sv S1)
      · exact zC1 hz Try.func10 (sd 1 rfl) (k1 (fun _ => c_float))
      · exact zMv hz (sv S2)
      · exact zCN hz rfl Try.func9 (fun a γ w U => (by show Calls _ _ #[a.eval (.tmp 32), a.eval (.tmp 34), a.eval (.tmp 35), .int .i64 0] _ _; rw [show a.eval (.tmp 32) = .int .i64 bn from Src.at_ (sd 0 rfl) U, show a.eval (.tmp 34) = .float .f64 u from Src.at_ (sd 2 rfl) U, show a.eval (.tmp 35) = .int .i64 per1 from Src.at_ (sd 3 rfl) U]; exact c_new_ok (l := l) hl (by omega) hu (by omega) hc1))
      · exact zMvN 4 4 rfl rfl hz rfl ⟨_, rfl, rfl⟩
      · exact zExP 4 5 rfl rfl hz rfl ⟨_, rfl, rfl⟩
      · exact zExU 4 5 rfl hz rfl ⟨_, rfl, rfl⟩
      · exact zPP 4 6 rfl rfl hz (.inr rfl) ⟨_, rfl, rfl⟩
      · exact zAs hz (sd 7 rfl)
    intro a' γ' W' hz' hd' hC hk hh
    replace S1 := kp hk S1
    replace S3 := kp hk S3
    replace S4 := kp hk S4
    replace S10 := kp hk S10
    replace S0 := kp hk S0
    replace S2 := kp hk S2
    replace HSc := RI.aft HSc hC (by intro m hm; simp at hm)
    replace HMo := RI.aft HMo hC (by intro m hm; simp at hm)
    obtain ⟨p2, S11, Cp2, lp2, gp2⟩ := gotP hz' 8 hC hh rfl rfl rfl rfl rfl
    have S12 := gotV hz' 9 hh rfl rfl rfl rfl
    have bp2 : w.heap.size ≤ p2 := Nat.le_trans HB.size lp2
    clear lp2 gp2
    replace HB := aft_call HB (RelC.below_nil hC)
    clear hC hk hh; replace hz := hz'; replace hd := hd'; clear hz' hd'
    refine wp_seq ?_
    refine region_text (M := []) (
        rT (tV (.int .i64 bn)) ::
        rT (tV (.int .u64 (u : Int))) ::
        rT (tV (.float .f64 u)) ::
        rT (tV (.int .i64 per1)) ::
        rN 4 80 (tO [tV (.int .i64 0), tQ B64 (l + 64 + 41) 0, tQ B64 42 (((bn : Int) : Rat)), tQ B64 (l + 64) (divI (flQ u) per1)] [1, 2, 2, 2]) (.int .i64 0) ::
        rN 4 80 (tO [tV (.int .i64 0), tQ B64 (l + 64 + 41) 0, tQ B64 42 (((bn : Int) : Rat)), tQ B64 (l + 64) (divI (flQ u) per1)] [1, 2, 2, 2]) (.int .i64 0) ::
        rB 4 80 (tO [tV (.int .i64 0), tQ B64 (l + 64 + 41) 0, tQ B64 42 (((bn : Int) : Rat)), tQ B64 (l + 64) (divI (flQ u) per1)] [1, 2, 2, 2]) none 0 ::
        rT (tV (.int .i64 0)) ::
        rB 4 80 (tO [tV (.int .i64 0), tQ B64 (l + 64 + 41) 0, tQ B64 42 (((bn : Int) : Rat)), tQ B64 (l + 64) (divI (flQ u) per1)] [1, 2, 2, 2]) none 0 ::
        rT (tV (.int .i64 0)) ::
        []) hz hd (by kernel_rfl) ?_ ?_
    · refine ⟨?_, ?_, ?_, ?_, ?_, ?_, ?_, ?_, ?_, ?_, trivial⟩
      · exact zMv hz (sv S0)
      · exact zMv hz (sv S1)
      · exact zC1 hz Try.func10 (sd 1 rfl) (k1 (fun _ => c_float))
      · exact zMv hz (sv S2)
      · exact zCN hz rfl Try.func9 (fun a γ w U => (by show Calls _ _ #[a.eval (.tmp 40), a.eval (.tmp 42), a.eval (.tmp 43), .int .i64 0] _ _; rw [show a.eval (.tmp 40) = .int .i64 bn from Src.at_ (sd 0 rfl) U, show a.eval (.tmp 42) = .float .f64 u from Src.at_ (sd 2 rfl) U, show a.eval (.tmp 43) = .int .i64 per1 from Src.at_ (sd 3 rfl) U]; exact c_new_ok (l := l) hl (by omega) hu (by omega) hc1))
      · exact zMvN 4 4 rfl rfl hz rfl ⟨_, rfl, rfl⟩
      · exact zExP 4 5 rfl rfl hz rfl ⟨_, rfl, rfl⟩
      · exact zExU 4 5 rfl hz rfl ⟨_, rfl, rfl⟩
      · exact zPP 4 6 rfl rfl hz (.inr rfl) ⟨_, rfl, rfl⟩
      · exact zAs hz (sd 7 rfl)
    intro a' γ' W' hz' hd' hC hk hh
    have ep2 := Cp2.lt
    have tp2 := Cp2.lt
    replace Cp2 := kC hC Cp2
    clear S1
    replace S3 := kp hk S3
    replace S4 := kp hk S4
    replace S10 := kp hk S10
    replace S0 := kp hk S0
    clear S2
    replace S11 := kp hk S11
    replace S12 := kp hk S12
    replace HSc := RI.aft HSc hC (by intro m hm; simp at hm)
    replace HMo := RI.aft HMo hC (by intro m hm; simp at hm)
    obtain ⟨p3, S13, Cp3, lp3, gp3⟩ := gotP hz' 8 hC hh rfl rfl rfl rfl rfl
    have S14 := gotV hz' 9 hh rfl rfl rfl rfl
    have n_p3_p2 : p3 ≠ p2 := by omega
    have n_p2_p3 : p2 ≠ p3 := by have := ep2; omega
    have bp3 : w.heap.size ≤ p3 := Nat.le_trans HB.size lp3
    clear lp3 gp3
    clear tp2
    clear ep2
    replace HB := aft_call HB (RelC.below_nil hC)
    clear hC hk hh; replace hz := hz'; replace hd := hd'; clear hz' hd'
    refine wp_seq ?_
    refine wp_seq ?_
    refine region_text (M := []) (
        rT (tV (.bool true)) ::
        rT (tV (.bool false)) ::
        rT (tV (.bool false)) ::
        rT (tV (.int .i64 0)) ::
        rT (tV (.int .i64 0)) ::
        rT (tV (.bool false)) ::
        rT (tV (.bool false)) ::
        rT (tV (.bool false)) ::
        rT (tV (.pointer (some ⟨p2, 0, none⟩))) ::
        rT (tV (.bool false)) ::
        rT (tV (.pointer (some ⟨p3, 0, none⟩))) ::
        rT (tV (.bool false)) ::
        rT (tV (.bool false)) ::
        rT (tV (.bool false)) ::
        []) hz hd (by kernel_rfl) ?_ ?_
    · refine ⟨?_, ?_, ?_, ?_, ?_, ?_, ?_, ?_, ?_, ?_, ?_, ?_, ?_, ?_, trivial⟩
      · exact zC0 hz Try.func12 (fun _ => l_told8)
      · exact zNot hz (sd 0 rfl)
      · exact zMv hz (sd 1 rfl)
      · exact zMv hz (sv S12) (g := gT 2 rfl)
      · exact zMv hz (sv S14) (g := gT 2 rfl)
      · exact sBin rfl rfl rfl hz rfl (gT 2 rfl) rfl (sd 3 rfl) (sd 4 rfl) (fun w => by simp [go_sem])
      · exact zPF hz (sd 2 rfl) (sd 5 rfl)
      · exact zMv hz (sd 6 rfl)
      · exact zMv hz (sv S11) (g := gT 7 rfl)
      · exact sBin rfl rfl rfl hz rfl (gT 7 rfl) rfl (sd 8 rfl) kc (fun w => by simp [go_sem])
      · exact zMv hz (sv S13) (g := gT 7 rfl)
      · exact sBin rfl rfl rfl hz rfl (gT 7 rfl) rfl (sd 10 rfl) kc (fun w => by simp [go_sem])
      · exact sBin rfl rfl rfl hz rfl (gT 7 rfl) rfl (sd 9 rfl) (sd 11 rfl) (fun w => by kernel_rfl)
      · exact zPF hz (sd 7 rfl) (sd 12 rfl)
    intro a' γ' W' hz' hd' hC hk hh
    have tp2 := Cp2.lt
    replace Cp2 := kC hC Cp2
    have tp3 := Cp3.lt
    replace Cp3 := kC hC Cp3
    replace S3 := kp hk S3
    replace S4 := kp hk S4
    replace S10 := kp hk S10
    replace S0 := kp hk S0
    replace S11 := kp hk S11
    clear S12
    replace S13 := kp hk S13
    clear S14
    replace HSc := RI.aft HSc hC (by intro m hm; simp at hm)
    replace HMo := RI.aft HMo hC (by intro m hm; simp at hm)
    have S60 := gotV hz' 13 hh rfl rfl rfl rfl
    clear tp2 tp3
    replace HB := aft_call HB (RelC.below_nil hC)
    clear hC hk hh; replace hz := hz'; replace hd := hd'; clear hz' hd'
    refine wp_cond_false S60.ev ?_
    refine wp_skip ?_
    refine wp_seq ?_
    refine region_text (M := []) (
        rT (tV (.int .i64 0)) ::
        []) hz hd (by kernel_rfl) ?_ ?_
    · refine ⟨?_, trivial⟩
      · exact zAs hz kc
    intro a' γ' W' hz' hd' hC hk hh
    have tp2 := Cp2.lt
    replace Cp2 := kC hC Cp2
    have tp3 := Cp3.lt
    replace Cp3 := kC hC Cp3
    replace S3 := kp hk S3
    replace S4 := kp hk S4
    replace S10 := kp hk S10
    replace S0 := kp hk S0
    replace S11 := kp hk S11
    replace S13 := kp hk S13
    clear S60
    replace HSc := RI.aft HSc hC (by intro m hm; simp at hm)
    replace HMo := RI.aft HMo hC (by intro m hm; simp at hm)
    have S15 := gotV hz' 0 hh rfl rfl rfl rfl
    clear tp2 tp3
    replace HB := aft_call HB (RelC.below_nil hC)
    clear hC hk hh; replace hz := hz'; replace hd := hd'; clear hz' hd'
    refine wp_seq ?_
    refine wp_seq ?_
    refine region_text (M := []) (
        rT (tV (.int .i64 0)) ::
        []) hz hd (by kernel_rfl) ?_ ?_
    · refine ⟨?_, trivial⟩
      · exact zAs hz kc
    intro a' γ' W' hz' hd' hC hk hh
    have tp2 := Cp2.lt
    replace Cp2 := kC hC Cp2
    have tp3 := Cp3.lt
    replace Cp3 := kC hC Cp3
    replace S3 := kp hk S3
    replace S4 := kp hk S4
    replace S10 := kp hk S10
    replace S0 := kp hk S0
    replace S11 := kp hk S11
    replace S13 := kp hk S13
    replace S15 := kp hk S15
    replace HSc := RI.aft HSc hC (by intro m hm; simp at hm)
    replace HMo := RI.aft HMo hC (by intro m hm; simp at hm)
    have S16 := gotV hz' 0 hh rfl rfl rfl rfl
    clear tp2 tp3
    replace HB := aft_call HB (RelC.below_nil hC)
    clear hC hk hh; replace hz := hz'; replace hd := hd'; clear hz' hd'
    refine wp_block ?_
    refine wp_loop_ghost (fun k a W => ∃ (i : Nat) (tt : Int) (H : Rat), k = 60 - i ∧ a.tmps.size = 155 ∧ a.defers = [] ∧ Below w.heap.size w W ∧ Sl a 0 (.int .i64 bn) ∧ Sl a 3 (.slice As ns cs) ∧ Sl a 4 (.slice Am nm cm) ∧ Sl a 10 (.bool false) ∧ Sl a 11 (.pointer (some ⟨p2, 0, none⟩)) ∧ Sl a 13 (.pointer (some ⟨p3, 0, none⟩)) ∧ Sl a 15 (.int .i64 tt) ∧ Sl a 16 (.int .i64 (i : Int)) ∧ RI 3 As ns F w.heap.size W ∧ RI 1 Am nm G w.heap.size W ∧ Cell 80 (tO [tV (.int .i64 tt), tQ B64 (l + 64 + 41) H, tQ B64 42 (((bn : Int) : Rat)), tQ B64 (l + 64) (divI (flQ u) per1)] [1, 2, 2, 2]) p2 W ∧ Cell 80 (tO [tV (.int .i64 tt), tQ B64 (l + 64 + 41) H, tQ B64 42 (((bn : Int) : Rat)), tQ B64 (l + 64) (divI (flQ u) per1)] [1, 2, 2, 2]) p3 W ∧ BInv (l + 64) tt H ((bn : Int) : Rat) (divI (flQ u) per1) ∧ i ≤ 60) _ ⟨0, 0, 0, rfl, hz, hd, HB, S0, S3, S4, S10, S11, S13, S15, S16, HSc, HMo, Cp2, Cp3, (BInv.new (l := l) hl hc1), (by omega)⟩ ?_
    clear S3 S4 S10 S0 S11 S13 S15 S16 Cp2 Cp3 HSc HMo hz hd HB
    rintro k a W ⟨i, tt, H, rfl, hz, hd, HB, S0, S3, S4, S10, S11, S13, S15, S16, HSc, HMo, Ca, Cb, I1, hlt⟩
    refine wp_seq ?_
    refine wp_seq ?_
    by_cases hc4 : (i : Int) < (ns : Int)
    · by_cases hc5 : (i : Int) < 60
      · refine region_text (M := []) (
            rT (tV (.int .i64 (i : Int))) ::
            rT (tV (.slice As ns cs)) ::
            rT (tV (.int .i64 (ns : Int))) ::
            rT (tV (.bool true)) ::
            rT (tV (.bool true)) ::
            rT (tV (.int .i64 (i : Int))) ::
            rT (tV (.bool true)) ::
            rT (tV (.bool true)) ::
            rT (tV (.bool true)) ::
            rT (tV (.pointer (some ⟨p2, 0, none⟩))) ::
            rT (tV (.bool true)) ::
            rT (tV (.bool true)) ::
            []) hz hd (by kernel_rfl) ?_ ?_
        · refine ⟨?_, ?_, ?_, ?_, ?_, ?_, ?_, ?_, ?_, ?_, ?_, ?_, trivial⟩
          · exact zMv hz (sv S16)
          · exact zMv hz (sv S3)
          · exact sLenK hz rfl (sd 1 rfl) (fun w => by simp [go_sem])
          · exact sBin rfl rfl rfl hz rfl (Gd.none_ rfl) rfl (sd 0 rfl) (sd 2 rfl) (fun w => run_t (P := (i : Int) < (ns : Int)) ((fun w => run_lss) w) hc4)
          · exact zMv hz (sd 3 rfl)
          · exact zMv hz (sv S16) (g := gT 4 rfl)
          · exact sBin rfl rfl rfl hz rfl (gT 4 rfl) rfl (sd 5 rfl) kc (fun w => run_t (P := (i : Int) < 60) ((fun w => run_lss) w) hc5)
          · exact zPT hz (sd 4 rfl) (sd 6 rfl)
          · exact zMv hz (sd 7 rfl)
          · exact zMv hz (sv S11) (g := gT 8 rfl)
          · exact sBin rfl rfl rfl hz rfl (gT 8 rfl) rfl (sd 9 rfl) kc (fun w => by simp [go_sem])
          · exact zPT hz (sd 8 rfl) (sd 10 rfl)
        intro a' γ' W' hz' hd' hC hk hh
        have tp2 := Ca.lt
        replace Ca := kC hC Ca
        have tp3 := Cb.lt
        replace Cb := kC hC Cb
        replace S3 := kp hk S3
        replace S4 := kp hk S4
        replace S10 := kp hk S10
        replace S0 := kp hk S0
        replace S11 := kp hk S11
        replace S13 := kp hk S13
        replace S15 := kp hk S15
        replace S16 := kp hk S16
        replace HSc := RI.aft HSc hC (by intro m hm; simp at hm)
        replace HMo := RI.aft HMo hC (by intro m hm; simp at hm)
        have S72 := gotV hz' 11 hh rfl rfl rfl rfl
        clear tp2 tp3
        replace HB := aft_call HB (RelC.below_nil hC)
        clear hC hk hh; replace hz := hz'; replace hd := hd'; clear hz' hd'
        refine wp_cond_true S72.ev ?_
        refine wp_skip ?_
        refine wp_seq ?_
        refine wp_block ?_
        refine wp_seq ?_
        obtain ⟨gs, os, hA, hgs, hcs⟩ := HSc i (by omega)
        refine region_text (M := []) (
            rT (tV (.slice As ns cs)) ::
            rT (tV (.int .i64 (i : Int))) ::
            rT (tV (.pointer (some ⟨gs, os + i * 3, none⟩))) ::
            rT (tO [tV (.int .i64 (F (i * 3))), tV (.int .i64 (F (i * 3 + 1))), tV (.int .i64 (F (i * 3 + 2)))] [1, 1, 1]) ::
            rVar 4 42 3 ::
            rB 4 42 (tO [tV (.int .i64 (F (i * 3))), tV (.int .i64 (F (i * 3 + 1))), tV (.int .i64 (F (i * 3 + 2)))] [1, 1, 1]) (some 4) 5 ::
            []) hz hd (by kernel_rfl) ?_ ?_
        · refine ⟨?_, ?_, ?_, ?_, ?_, ?_, trivial⟩
          · exact zMv hz (sv S3)
          · exact zMv hz (sv S16)
          · exact zIxV hz rfl (sd 0 rfl) (sd 1 rfl) (ix_st hA (by omega))
          · exact zLdV hz rfl (sd 2 rfl) (fun γ w hC => ld_s3 (fun f hf => cell_oaft (hcs f hf) hC hgs (by intro m hm; simp at hm)))
          · exact zAl hz nd_s3 al_s3
          · exact zSt (sd 3 rfl) sto_s3
        intro a' γ' W' hz' hd' hC hk hh
        have tp2 := Ca.lt
        replace Ca := kC hC Ca
        have tp3 := Cb.lt
        replace Cb := kC hC Cb
        replace S3 := kp hk S3
        replace S4 := kp hk S4
        replace S10 := kp hk S10
        replace S0 := kp hk S0
        replace S11 := kp hk S11
        replace S13 := kp hk S13
        replace S15 := kp hk S15
        replace S16 := kp hk S16
        replace S72 := kp hk S72
        replace HSc := RI.aft HSc hC (by intro m hm; simp at hm)
        replace HMo := RI.aft HMo hC (by intro m hm; simp at hm)
        obtain ⟨p6, S17, Cp6, lp6, gp6⟩ := gotB hz' 5 hC hh rfl rfl rfl rfl rfl rfl
        have n_p6_p2 : p6 ≠ p2 := by omega
        have n_p6_p3 : p6 ≠ p3 := by omega
        clear lp6 gp6
        clear tp2 tp3
        replace HB := aft_call HB (RelC.below_nil hC)
        clear hC hk hh; replace hz := hz'; replace hd := hd'; clear hz' hd'
        refine wp_seq ?_
        have hF1 := hF (i * 3 + 1)
        have hf10 := few0 (F (i * 3 + 1)) (m := 1125899906842624) (by decide)
        have hf11 := few1 (F (i * 3 + 1)) (m := 1125899906842624) (by decide)
        have htt0 := I1.t0
        have htt1 := I1.t1
        have hmn := mnT_le (tt + fewV (F (i * 3 + 1)) 1125899906842624)
        refine region_text (M := []) (
            rT (tV (.int .i64 tt)) ::
            rT (tV (.pointer (some ⟨p6, 1, none⟩))) ::
            rT (tV (.int .i64 (F (i * 3 + 1)))) ::
            rT (tV (.int .i64 (fewV (F (i * 3 + 1)) 1125899906842624))) ::
            rT (tV (.int .i64 (tt + (fewV (F (i * 3 + 1)) 1125899906842624)))) ::
            rT (tV (.int .i64 (mnT (tt + (fewV (F (i * 3 + 1)) 1125899906842624))))) ::
            rT (tV (.int .i64 (mnT (tt + (fewV (F (i * 3 + 1)) 1125899906842624))))) ::
            []) hz hd (by kernel_rfl) ?_ ?_
        · refine ⟨?_, ?_, ?_, ?_, ?_, ?_, ?_, trivial⟩
          · exact zMv hz (sv S15)
          · exact zFAo hz rfl rfl (sv S17) (fun w => by simp [go_sem])
          · exact zLdO 1 hz (sd 1 rfl) (cl0 Cp6) ldo_int
          · exact zC2 hz Try.func8 (sd 2 rfl) (kc (v := .int .i64 1125899906842624)) (k11 (fun _ => l_few (n := (F (i * 3 + 1))) (m := 1125899906842624) (by omega) (by omega) (by decide) (by omega)))
          · exact sBin rfl rfl rfl hz rfl (Gd.none_ rfl) rfl (sd 0 rfl) (sd 3 rfl) (fun w => run_addi (by omega) (by omega) w)
          · exact zB2min hz rfl (sd 4 rfl) (kc (v := .int .i64 4611686018427387904)) (fun w => run_min62 (tt + (fewV (F (i * 3 + 1)) 1125899906842624)) w)
          · exact zAs hz (sd 5 rfl)
        intro a' γ' W' hz' hd' hC hk hh
        have tp2 := Ca.lt
        replace Ca := kC hC Ca
        have tp3 := Cb.lt
        replace Cb := kC hC Cb
        replace Cp6 := kC hC Cp6
        replace S3 := kp hk S3
        replace S4 := kp hk S4
        replace S10 := kp hk S10
        replace S0 := kp hk S0
        replace S11 := kp hk S11
        replace S13 := kp hk S13
        replace S15 := kp hk S15
        replace S16 := kp hk S16
        replace S72 := kp hk S72
        replace S17 := kp hk S17
        replace HSc := RI.aft HSc hC (by intro m hm; simp at hm)
        replace HMo := RI.aft HMo hC (by intro m hm; simp at hm)
        have S18 := gotV hz' 6 hh rfl rfl rfl rfl
        clear tp2 tp3
        replace HB := aft_call HB (RelC.below_nil hC)
        clear hC hk hh; replace hz := hz'; replace hd := hd'; clear hz' hd'
        refine wp_seq ?_
        refine wp_seq ?_
        obtain ⟨to, e_to⟩ : ∃ x : Int, x = mnT (tt + (fewV (F (i * 3 + 1)) 1125899906842624)) := ⟨_, rfl⟩
        rw [← e_to] at S18
        have hto : tt ≤ to ∧ to ≤ 4611686018427387904 := by rw [e_to]; unfold mnT; split <;> omega
        obtain ⟨m0, e_m0⟩ : ∃ x : Int, x = tt := ⟨_, rfl⟩
        have hm0 : tt ≤ m0 ∧ m0 ≤ to := by omega
        replace Cb : Cell 80 (tO [tV (.int .i64 m0), tQ B64 (l + 64 + 41) (atH tt H ((bn : Int) : Rat) (divI (flQ u) per1) m0), tQ B64 42 (((bn : Int) : Rat)), tQ B64 (l + 64) (divI (flQ u) per1)] [1, 2, 2, 2]) p3 _ := Cell.to Cb (tO_to ⟨tV_to (by rw [e_m0]), tQ_eq (by rw [e_m0, at_self I1.hb htt1]), idT, idT, trivial⟩)
        refine region_text (M := []) (
            rT (tV (.int .i64 0)) ::
            []) hz hd (by kernel_rfl) ?_ ?_
        · refine ⟨?_, trivial⟩
          · exact zAs hz kc
        intro a' γ' W' hz' hd' hC hk hh
        have tp2 := Ca.lt
        replace Ca := kC hC Ca
        have tp3 := Cb.lt
        replace Cb := kC hC Cb
        replace Cp6 := kC hC Cp6
        replace S3 := kp hk S3
        replace S4 := kp hk S4
        replace S10 := kp hk S10
        replace S0 := kp hk S0
        replace S11 := kp hk S11
        replace S13 := kp hk S13
        replace S15 := kp hk S15
        replace S16 := kp hk S16
        replace S72 := kp hk S72
        replace S17 := kp hk S17
        replace S18 := kp hk S18
        replace HSc := RI.aft HSc hC (by intro m hm; simp at hm)
        replace HMo := RI.aft HMo hC (by intro m hm; simp at hm)
        have S19 := gotV hz' 0 hh rfl rfl rfl rfl
        clear tp2 tp3
        replace HB := aft_call HB (RelC.below_nil hC)
        clear hC hk hh; replace hz := hz'; replace hd := hd'; clear hz' hd'
        refine wp_block ?_
        refine wp_loop_rounds 4 ?_
        show Code.wp _ _ _ _ _
        refine wp_seq ?_
        refine wp_seq ?_
        refine region_text (M := []) (
            rT (tV (.int .i64 0)) ::
            rT (tV (.bool true)) ::
            rT (tV (.bool true)) ::
            rT (tV (.int .i64 (i : Int))) ::
            rT (tV (.slice Am nm cm)) ::
            rT (tV (.int .i64 (nm : Int))) ::
            rT (tV (.bool (decide ((i : Int) < (nm : Int))))) ::
            rT (tV (.bool (decide ((i : Int) < (nm : Int))))) ::
            []) hz hd (by kernel_rfl) ?_ ?_
        · refine ⟨?_, ?_, ?_, ?_, ?_, ?_, ?_, ?_, trivial⟩
          · exact zMv hz (sv S19)
          · exact sBin rfl rfl rfl hz rfl (Gd.none_ rfl) rfl (sd 0 rfl) kc (fun w => by simp [go_sem])
          · exact zMv hz (sd 1 rfl)
          · exact zMv hz (sv S16) (g := gT 2 rfl)
          · exact zMv hz (sv S4) (g := gT 2 rfl)
          · exact sLenK hz rfl (sd 4 rfl) (fun w => by simp [go_sem]) (g := gT 2 rfl)
          · exact sBin rfl rfl rfl hz rfl (gT 2 rfl) rfl (sd 3 rfl) (sd 5 rfl) (fun w => run_lss)
          · exact zPT hz (sd 2 rfl) (sd 6 rfl)
        intro a' γ' W' hz' hd' hC hk hh
        have tp2 := Ca.lt
        replace Ca := kC hC Ca
        have tp3 := Cb.lt
        replace Cb := kC hC Cb
        replace Cp6 := kC hC Cp6
        replace S3 := kp hk S3
        replace S4 := kp hk S4
        replace S10 := kp hk S10
        replace S0 := kp hk S0
        replace S11 := kp hk S11
        replace S13 := kp hk S13
        replace S15 := kp hk S15
        replace S16 := kp hk S16
        replace S72 := kp hk S72
        replace S17 := kp hk S17
        replace S18 := kp hk S18
        replace S19 := kp hk S19
        replace HSc := RI.aft HSc hC (by intro m hm; simp at hm)
        replace HMo := RI.aft HMo hC (by intro m hm; simp at hm)
        have S92 := gotV hz' 7 hh rfl rfl rfl rfl
        clear tp2 tp3
        replace HB := aft_call HB (RelC.below_nil hC)
        clear hC hk hh; replace hz := hz'; replace hd := hd'; clear hz' hd'
        by_cases hc7 : (i : Int) < (nm : Int)
        · rw [decide_eq_true hc7] at S92
          refine wp_cond_true S92.ev ?_
          refine wp_skip ?_
          refine wp_seq ?_
          refine wp_block ?_
          obtain ⟨gm, om, hAm, hgm, hcm⟩ := HMo i (by omega)
          have hG := hG0 i
          have hsh := shrI_b 0 hG
          have hfs0 := few0 (shrI (G i) 0) (m := to - tt) (by omega)
          have hfs1 := few1 (shrI (G i) 0) (m := to - tt) (by omega)
          refine region_text (M := [p3]) (
              rT (tV (.pointer (some ⟨p3, 0, none⟩))) ::
              rT (tV (.int .i64 tt)) ::
              rT (tV (.slice Am nm cm)) ::
              rT (tV (.int .i64 (i : Int))) ::
              rT (tV (.pointer (some ⟨gm, om + i, none⟩))) ::
              rT (tV (.int .i64 (G i))) ::
              rT (tV (.int .i64 0)) ::
              rT (tV (.int .i64 0)) ::
              rT (tV (.int .i64 (shrI (G i) 0))) ::
              rT (tV (.int .i64 to)) ::
              rT (tV (.int .i64 tt)) ::
              rT (tV (.int .i64 (to - tt))) ::
              rT (tV (.int .i64 (fewV (shrI (G i) 0) (to - tt)))) ::
              rT (tV (.int .i64 (tt + (fewV (shrI (G i) 0) (to - tt))))) ::
              rCM 0 (tQ B64 (l + 64 + 41) (atH m0 (atH tt H ((bn : Int) : Rat) (divI (flQ u) per1) m0) (((bn : Int) : Rat)) (divI (flQ u) per1) (tt + (fewV (shrI (G i) 0) (to - tt))))) 80 (tO [tV (.int .i64 (TT m0 (tt + (fewV (shrI (G i) 0) (to - tt))))), tQ B64 (l + 64 + 41) (atH m0 (atH tt H ((bn : Int) : Rat) (divI (flQ u) per1) m0) (((bn : Int) : Rat)) (divI (flQ u) per1) (tt + (fewV (shrI (G i) 0) (to - tt)))), tQ B64 42 (((bn : Int) : Rat)), tQ B64 (l + 64) (divI (flQ u) per1)] [1, 2, 2, 2]) p3 ::
              []) hz hd (by kernel_rfl) ?_ ?_
          · refine ⟨?_, ?_, ?_, ?_, ?_, ?_, ?_, ?_, ?_, ?_, ?_, ?_, ?_, ?_, ?_, trivial⟩
            · exact zMv hz (sv S13)
            · exact zMv hz (sv S15)
            · exact zMv hz (sv S4)
            · exact zMv hz (sv S16)
            · exact zIxV hz rfl (sd 2 rfl) (sd 3 rfl) (ix_in hAm (by omega))
            · exact zLdV hz rfl (sd 4 rfl) (fun γ w hC => ld_in (fun f hf => cell_oaft (hcm f hf) hC hgm (by intro m hm; simp at hm; rcases hm with rfl <;> assumption)))
            · exact zMv hz (sv S19)
            · exact sBin rfl rfl rfl hz rfl (Gd.none_ rfl) rfl kc (sd 6 rfl) (fun w => by kernel_rfl)
            · exact sBin rfl rfl rfl hz rfl (Gd.none_ rfl) rfl (sd 5 rfl) (sd 7 rfl) (run_shri 0 (by decide) hG)
            · exact zMv hz (sv S18)
            · exact zMv hz (sv S15)
            · exact sBin rfl rfl rfl hz rfl (Gd.none_ rfl) rfl (sd 9 rfl) (sd 10 rfl) (fun w => run_subi (by omega) (by omega) w)
            · exact zC2 hz Try.func8 (sd 8 rfl) (sd 11 rfl) (k11 (fun _ => l_few (n := (shrI (G i) 0)) (m := (to - tt)) (by omega) (by omega) (by omega) (by omega)))
            · exact sBin rfl rfl rfl hz rfl (Gd.none_ rfl) rfl (sd 1 rfl) (sd 12 rfl) (fun w => run_addi (by omega) (by omega) w)
            · exact zCM (k := 0) (p := p3) (sid := 80) (T1 := tO [tV (.int .i64 m0), tQ B64 (l + 64 + 41) (atH tt H ((bn : Int) : Rat) (divI (flQ u) per1) m0), tQ B64 42 (((bn : Int) : Rat)), tQ B64 (l + 64) (divI (flQ u) per1)] [1, 2, 2, 2]) (T := tO [tV (.int .i64 (TT m0 (tt + (fewV (shrI (G i) 0) (to - tt))))), tQ B64 (l + 64 + 41) (atH m0 (atH tt H ((bn : Int) : Rat) (divI (flQ u) per1) m0) (((bn : Int) : Rat)) (divI (flQ u) per1) (tt + (fewV (shrI (G i) 0) (to - tt)))), tQ B64 42 (((bn : Int) : Rat)), tQ B64 (l + 64) (divI (flQ u) per1)] [1, 2, 2, 2]) (T0 := tQ B64 (l + 64 + 41) (atH m0 (atH tt H ((bn : Int) : Rat) (divI (flQ u) per1) m0) (((bn : Int) : Rat)) (divI (flQ u) per1) (tt + (fewV (shrI (G i) 0) (to - tt))))) hz rfl Try.func23 (by simp [tagOf]) Cb.lt (clM (k := 0) Cb (by simp [tagOf])) (tO_nd (nd_c nd_int (nd_c nd_q (nd_c nd_q (nd_c nd_q nd_nil))))) (tO_nd (nd_c nd_int (nd_c nd_q (nd_c nd_q (nd_c nd_q nd_nil))))) (fun a γ w U hcell => (by show Calls _ _ #[a.eval (.tmp 95), a.eval (.tmp 108)] _ _; rw [show a.eval (.tmp 95) = .pointer (some ⟨p3, 0, none⟩) from Src.at_ (sd 0 rfl) U, show a.eval (.tmp 108) = .int .i64 (tt + (fewV (shrI (G i) 0) (to - tt))) from Src.at_ (sd 13 rfl) U]; exact c_at (n := (tt + (fewV (shrI (G i) 0) (to - tt)))) hcell (I1.mid hm0.1 (by omega)) (by omega)))
          intro a' γ' W' hz' hd' hC hk hh
          have tp2 := Ca.lt
          replace Ca := kC hC Ca (by simp [tagOf, n_p2_p3])
          replace Cb := gotM (T := tO [tV (.int .i64 (TT m0 (tt + (fewV (shrI (G i) 0) (to - tt))))), tQ B64 (l + 64 + 41) (atH m0 (atH tt H ((bn : Int) : Rat) (divI (flQ u) per1) m0) (((bn : Int) : Rat)) (divI (flQ u) per1) (tt + (fewV (shrI (G i) 0) (to - tt)))), tQ B64 42 (((bn : Int) : Rat)), tQ B64 (l + 64) (divI (flQ u) per1)] [1, 2, 2, 2]) (T0 := tQ B64 (l + 64 + 41) (atH m0 (atH tt H ((bn : Int) : Rat) (divI (flQ u) per1) m0) (((bn : Int) : Rat)) (divI (flQ u) per1) (tt + (fewV (shrI (G i) 0) (to - tt))))) (sid := 80) (k := 0) (p := p3) hz' 14 hh rfl rfl
          replace Cp6 := kC hC Cp6 (by simp [tagOf, n_p6_p3])
          replace S3 := kp hk S3
          replace S4 := kp hk S4
          replace S10 := kp hk S10
          replace S0 := kp hk S0
          replace S11 := kp hk S11
          replace S13 := kp hk S13
          replace S15 := kp hk S15
          replace S16 := kp hk S16
          replace S72 := kp hk S72
          replace S17 := kp hk S17
          replace S18 := kp hk S18
          replace S19 := kp hk S19
          replace S92 := kp hk S92
          replace HSc := RI.aft HSc hC (by intro m hm; simp at hm; rcases hm with rfl <;> assumption)
          replace HMo := RI.aft HMo hC (by intro m hm; simp at hm; rcases hm with rfl <;> assumption)
          clear tp2
          replace HB := RelC.aftM HB hC (by intro m hm; simp at hm; rcases hm with rfl <;> assumption)
          clear hC hk hh; replace hz := hz'; replace hd := hd'; clear hz' hd'
          obtain ⟨m1, e_m1⟩ : ∃ x : Int, x = TT m0 (tt + fewV (shrI (G i) 0) (to - tt)) := ⟨_, rfl⟩
          have hm1 : tt ≤ m1 ∧ m1 ≤ to := by rw [e_m1]; unfold TT mnT; (repeat' split) <;> omega
          replace Cb : Cell 80 (tO [tV (.int .i64 m1), tQ B64 (l + 64 + 41) (atH tt H ((bn : Int) : Rat) (divI (flQ u) per1) m1), tQ B64 42 (((bn : Int) : Rat)), tQ B64 (l + 64) (divI (flQ u) per1)] [1, 2, 2, 2]) p3 _ := Cell.to Cb (tO_to ⟨tV_to (by rw [e_m1]), tQ_eq (by rw [e_m1]; exact at_at I1 hm0.1 (by omega)), idT, idT, trivial⟩)
          clear hsh hfs0 hfs1 hG hcm
          refine region_text (M := []) (
              rT (tV (.int .i64 0)) ::
              rT (tV (.int .i64 1)) ::
              rT (tV (.int .i64 1)) ::
              []) hz hd (by kernel_rfl) ?_ ?_
          · refine ⟨?_, ?_, ?_, trivial⟩
            · exact zMv hz (sv S19)
            · exact sBin rfl rfl rfl hz rfl (Gd.none_ rfl) rfl (sd 0 rfl) kc (fun w => by kernel_rfl)
            · exact zAs hz (sd 1 rfl)
          intro a' γ' W' hz' hd' hC hk hh
          have tp2 := Ca.lt
          replace Ca := kC hC Ca
          have tp3 := Cb.lt
          replace Cb := kC hC Cb
          replace Cp6 := kC hC Cp6
          replace S3 := kp hk S3
          replace S4 := kp hk S4
          replace S10 := kp hk S10
          replace S0 := kp hk S0
          replace S11 := kp hk S11
          replace S13 := kp hk S13
          replace S15 := kp hk S15
          replace S16 := kp hk S16
          replace S72 := kp hk S72
          replace S17 := kp hk S17
          replace S18 := kp hk S18
          clear S19
          replace S92 := kp hk S92
          replace HSc := RI.aft HSc hC (by intro m hm; simp at hm)
          replace HMo := RI.aft HMo hC (by intro m hm; simp at hm)
          have S19 := gotV hz' 2 hh rfl rfl rfl rfl
          clear tp2 tp3
          replace HB := aft_call HB (RelC.below_nil hC)
          clear hC hk hh; replace hz := hz'; replace hd := hd'; clear hz' hd'
          show Code.wp _ _ _ _ _
          refine wp_seq ?_
          refine wp_seq ?_
          refine region_text (M := []) (
              rT (tV (.int .i64 1)) ::
              rT (tV (.bool true)) ::
              rT (tV (.bool true)) ::
              rT (tV (.int .i64 (i : Int))) ::
              rT (tV (.slice Am nm cm)) ::
              rT (tV (.int .i64 (nm : Int))) ::
              rT (tV (.bool true)) ::
              rT (tV (.bool true)) ::
              []) hz hd (by kernel_rfl) ?_ ?_
          · refine ⟨?_, ?_, ?_, ?_, ?_, ?_, ?_, ?_, trivial⟩
            · exact zMv hz (sv S19)
            · exact sBin rfl rfl rfl hz rfl (Gd.none_ rfl) rfl (sd 0 rfl) kc (fun w => by simp [go_sem])
            · exact zMv hz (sd 1 rfl)
            · exact zMv hz (sv S16) (g := gT 2 rfl)
            · exact zMv hz (sv S4) (g := gT 2 rfl)
            · exact sLenK hz rfl (sd 4 rfl) (fun w => by simp [go_sem]) (g := gT 2 rfl)
            · exact sBin rfl rfl rfl hz rfl (gT 2 rfl) rfl (sd 3 rfl) (sd 5 rfl) (fun w => run_t (P := (i : Int) < (nm : Int)) ((fun w => run_lss) w) hc7)
            · exact zPT hz (sd 2 rfl) (sd 6 rfl)
          intro a' γ' W' hz' hd' hC hk hh
          have tp2 := Ca.lt
          replace Ca := kC hC Ca
          have tp3 := Cb.lt
          replace Cb := kC hC Cb
          replace Cp6 := kC hC Cp6
          replace S3 := kp hk S3
          replace S4 := kp hk S4
          replace S10 := kp hk S10
          replace S0 := kp hk S0
          replace S11 := kp hk S11
          replace S13 := kp hk S13
          replace S15 := kp hk S15
          replace S16 := kp hk S16
          replace S72 := kp hk S72
          replace S17 := kp hk S17
          replace S18 := kp hk S18
          clear S92
          replace S19 := kp hk S19
          replace HSc := RI.aft HSc hC (by intro m hm; simp at hm)
          replace HMo := RI.aft HMo hC (by intro m hm; simp at hm)
          have S92 := gotV hz' 7 hh rfl rfl rfl rfl
          clear tp2 tp3
          replace HB := aft_call HB (RelC.below_nil hC)
          clear hC hk hh; replace hz := hz'; replace hd := hd'; clear hz' hd'
          refine wp_cond_true S92.ev ?_
          refine wp_skip ?_
          refine wp_seq ?_
          refine wp_block ?_
          obtain ⟨gm, om, hAm, hgm, hcm⟩ := HMo i (by omega)
          have hG := hG0 i
          have hsh := shrI_b 8 hG
          have hfs0 := few0 (shrI (G i) 8) (m := to - tt) (by omega)
          have hfs1 := few1 (shrI (G i) 8) (m := to - tt) (by omega)
          refine region_text (M := [p3]) (
              rT (tV (.pointer (some ⟨p3, 0, none⟩))) ::
              rT (tV (.int .i64 tt)) ::
              rT (tV (.slice Am nm cm)) ::
              rT (tV (.int .i64 (i : Int))) ::
              rT (tV (.pointer (some ⟨gm, om + i, none⟩))) ::
              rT (tV (.int .i64 (G i))) ::
              rT (tV (.int .i64 1)) ::
              rT (tV (.int .i64 8)) ::
              rT (tV (.int .i64 (shrI (G i) 8))) ::
              rT (tV (.int .i64 to)) ::
              rT (tV (.int .i64 tt)) ::
              rT (tV (.int .i64 (to - tt))) ::
              rT (tV (.int .i64 (fewV (shrI (G i) 8) (to - tt)))) ::
              rT (tV (.int .i64 (tt + (fewV (shrI (G i) 8) (to - tt))))) ::
              rCM 0 (tQ B64 (l + 64 + 41) (atH m1 (atH tt H ((bn : Int) : Rat) (divI (flQ u) per1) m1) (((bn : Int) : Rat)) (divI (flQ u) per1) (tt + (fewV (shrI (G i) 8) (to - tt))))) 80 (tO [tV (.int .i64 (TT m1 (tt + (fewV (shrI (G i) 8) (to - tt))))), tQ B64 (l + 64 + 41) (atH m1 (atH tt H ((bn : Int) : Rat) (divI (flQ u) per1) m1) (((bn : Int) : Rat)) (divI (flQ u) per1) (tt + (fewV (shrI (G i) 8) (to - tt)))), tQ B64 42 (((bn : Int) : Rat)), tQ B64 (l + 64) (divI (flQ u) per1)] [1, 2, 2, 2]) p3 ::
              []) hz hd (by kernel_rfl) ?_ ?_
          · refine ⟨?_, ?_, ?_, ?_, ?_, ?_, ?_, ?_, ?_, ?_, ?_, ?_, ?_, ?_, ?_, trivial⟩
            · exact zMv hz (sv S13)
            · exact zMv hz (sv S15)
            · exact zMv hz (sv S4)
            · exact zMv hz (sv S16)
            · exact zIxV hz rfl (sd 2 rfl) (sd 3 rfl) (ix_in hAm (by omega))
            · exact zLdV hz rfl (sd 4 rfl) (fun γ w hC => ld_in (fun f hf => cell_oaft (hcm f hf) hC hgm (by intro m hm; simp at hm; rcases hm with rfl <;> assumption)))
            · exact zMv hz (sv S19)
            · exact sBin rfl rfl rfl hz rfl (Gd.none_ rfl) rfl kc (sd 6 rfl) (fun w => by kernel_rfl)
            · exact sBin rfl rfl rfl hz rfl (Gd.none_ rfl) rfl (sd 5 rfl) (sd 7 rfl) (run_shri 8 (by decide) hG)
            · exact zMv hz (sv S18)
            · exact zMv hz (sv S15)
            · exact sBin rfl rfl rfl hz rfl (Gd.none_ rfl) rfl (sd 9 rfl) (sd 10 rfl) (fun w => run_subi (by omega) (by omega) w)
            · exact zC2 hz Try.func8 (sd 8 rfl) (sd 11 rfl) (k11 (fun _ => l_few (n := (shrI (G i) 8)) (m := (to - tt)) (by omega) (by omega) (by omega) (by omega)))
            · exact sBin rfl rfl rfl hz rfl (Gd.none_ rfl) rfl (sd 1 rfl) (sd 12 rfl) (fun w => run_addi (by omega) (by omega) w)
            · exact zCM (k := 0) (p := p3) (sid := 80) (T1 := tO [tV (.int .i64 m1), tQ B64 (l + 64 + 41) (atH tt H ((bn : Int) : Rat) (divI (flQ u) per1) m1), tQ B64 42 (((bn : Int) : Rat)), tQ B64 (l + 64) (divI (flQ u) per1)] [1, 2, 2, 2]) (T := tO [tV (.int .i64 (TT m1 (tt + (fewV (shrI (G i) 8) (to - tt))))), tQ B64 (l + 64 + 41) (atH m1 (atH tt H ((bn : Int) : Rat) (divI (flQ u) per1) m1) (((bn : Int) : Rat)) (divI (flQ u) per1) (tt + (fewV (shrI (G i) 8) (to - tt)))), tQ B64 42 (((bn : Int) : Rat)), tQ B64 (l + 64) (divI (flQ u) per1)] [1, 2, 2, 2]) (T0 := tQ B64 (l + 64 + 41) (atH m1 (atH tt H ((bn : Int) : Rat) (divI (flQ u) per1) m1) (((bn : Int) : Rat)) (divI (flQ u) per1) (tt + (fewV (shrI (G i) 8) (to - tt))))) hz rfl Try.func23 (by simp [tagOf]) Cb.lt (clM (k := 0) Cb (by simp [tagOf])) (tO_nd (nd_c nd_int (nd_c nd_q (nd_c nd_q (nd_c nd_q nd_nil))))) (tO_nd (nd_c nd_int (nd_c nd_q (nd_c nd_q (nd_c nd_q nd_nil))))) (fun a γ w U hcell => (by show Calls _ _ #[a.eval (.tmp 95), a.eval (.tmp 108)] _ _; rw [show a.eval (.tmp 95) = .pointer (some ⟨p3, 0, none⟩) from Src.at_ (sd 0 rfl) U, show a.eval (.tmp 108) = .int .i64 (tt + (fewV (shrI (G i) 8) (to - tt))) from Src.at_ (sd 13 rfl) U]; exact c_at (n := (tt + (fewV (shrI (G i) 8) (to - tt)))) hcell (I1.mid hm1.1 (by omega)) (by omega)))
          intro a' γ' W' hz' hd' hC hk hh
          have tp2 := Ca.lt
          replace Ca := kC hC Ca (by simp [tagOf, n_p2_p3])
          replace Cb := gotM (T := tO [tV (.int .i64 (TT m1 (tt + (fewV (shrI (G i) 8) (to - tt))))), tQ B64 (l + 64 + 41) (atH m1 (atH tt H ((bn : Int) : Rat) (divI (flQ u) per1) m1) (((bn : Int) : Rat)) (divI (flQ u) per1) (tt + (fewV (shrI (G i) 8) (to - tt)))), tQ B64 42 (((bn : Int) : Rat)), tQ B64 (l + 64) (divI (flQ u) per1)] [1, 2, 2, 2]) (T0 := tQ B64 (l + 64 + 41) (atH m1 (atH tt H ((bn : Int) : Rat) (divI (flQ u) per1) m1) (((bn : Int) : Rat)) (divI (flQ u) per1) (tt + (fewV (shrI (G i) 8) (to - tt))))) (sid := 80) (k := 0) (p := p3) hz' 14 hh rfl rfl
          replace Cp6 := kC hC Cp6 (by simp [tagOf, n_p6_p3])
          replace S3 := kp hk S3
          replace S4 := kp hk S4
          replace S10 := kp hk S10
          replace S0 := kp hk S0
          replace S11 := kp hk S11
          replace S13 := kp hk S13
          replace S15 := kp hk S15
          replace S16 := kp hk S16
          replace S72 := kp hk S72
          replace S17 := kp hk S17
          replace S18 := kp hk S18
          replace S19 := kp hk S19
          replace S92 := kp hk S92
          replace HSc := RI.aft HSc hC (by intro m hm; simp at hm; rcases hm with rfl <;> assumption)
          replace HMo := RI.aft HMo hC (by intro m hm; simp at hm; rcases hm with rfl <;> assumption)
          clear tp2
          replace HB := RelC.aftM HB hC (by intro m hm; simp at hm; rcases hm with rfl <;> assumption)
          clear hC hk hh; replace hz := hz'; replace hd := hd'; clear hz' hd'
          obtain ⟨m2, e_m2⟩ : ∃ x : Int, x = TT m1 (tt + fewV (shrI (G i) 8) (to - tt)) := ⟨_, rfl⟩
          have hm2 : tt ≤ m2 ∧ m2 ≤ to := by rw [e_m2]; unfold TT mnT; (repeat' split) <;> omega
          replace Cb : Cell 80 (tO [tV (.int .i64 m2), tQ B64 (l + 64 + 41) (atH tt H ((bn : Int) : Rat) (divI (flQ u) per1) m2), tQ B64 42 (((bn : Int) : Rat)), tQ B64 (l + 64) (divI (flQ u) per1)] [1, 2, 2, 2]) p3 _ := Cell.to Cb (tO_to ⟨tV_to (by rw [e_m2]), tQ_eq (by rw [e_m2]; exact at_at I1 hm1.1 (by omega)), idT, idT, trivial⟩)
          clear hsh hfs0 hfs1 hG hcm
          refine region_text (M := []) (
              rT (tV (.int .i64 1)) ::
              rT (tV (.int .i64 2)) ::
              rT (tV (.int .i64 2)) ::
              []) hz hd (by kernel_rfl) ?_ ?_
          · refine ⟨?_, ?_, ?_, trivial⟩
            · exact zMv hz (sv S19)
            · exact sBin rfl rfl rfl hz rfl (Gd.none_ rfl) rfl (sd 0 rfl) kc (fun w => by kernel_rfl)
            · exact zAs hz (sd 1 rfl)
          intro a' γ' W' hz' hd' hC hk hh
          have tp2 := Ca.lt
          replace Ca := kC hC Ca
          have tp3 := Cb.lt
          replace Cb := kC hC Cb
          replace Cp6 := kC hC Cp6
          replace S3 := kp hk S3
          replace S4 := kp hk S4
          replace S10 := kp hk S10
          replace S0 := kp hk S0
          replace S11 := kp hk S11
          replace S13 := kp hk S13
          replace S15 := kp hk S15
          replace S16 := kp hk S16
          replace S72 := kp hk S72
          replace S17 := kp hk S17
          replace S18 := kp hk S18
          clear S19
          replace S92 := kp hk S92
          replace HSc := RI.aft HSc hC (by intro m hm; simp at hm)
          replace HMo := RI.aft HMo hC (by intro m hm; simp at hm)
          have S19 := gotV hz' 2 hh rfl rfl rfl rfl
          clear tp2 tp3
          replace HB := aft_call HB (RelC.below_nil hC)
          clear hC hk hh; replace hz := hz'; replace hd := hd'; clear hz' hd'
          show Code.wp _ _ _ _ _
          refine wp_seq ?_
          refine wp_seq ?_
          refine region_text (M := []) (
              rT (tV (.int .i64 2)) ::
              rT (tV (.bool true)) ::
              rT (tV (.bool true)) ::
              rT (tV (.int .i64 (i : Int))) ::
              rT (tV (.slice Am nm cm)) ::
              rT (tV (.int .i64 (nm : Int))) ::
              rT (tV (.bool true)) ::
              rT (tV (.bool true)) ::
              []) hz hd (by kernel_rfl) ?_ ?_
          · refine ⟨?_, ?_, ?_, ?_, ?_, ?_, ?_, ?_, trivial⟩
            · exact zMv hz (sv S19)
            · exact sBin rfl rfl rfl hz rfl (Gd.none_ rfl) rfl (sd 0 rfl) kc (fun w => by simp [go_sem])
            · exact zMv hz (sd 1 rfl)
            · exact zMv hz (sv S16) (g := gT 2 rfl)
            · exact zMv hz (sv S4) (g := gT 2 rfl)
            · exact sLenK hz rfl (sd 4 rfl) (fun w => by simp [go_sem]) (g := gT 2 rfl)
            · exact sBin rfl rfl rfl hz rfl (gT 2 rfl) rfl (sd 3 rfl) (sd 5 rfl) (fun w => run_t (P := (i : Int) < (nm : Int)) ((fun w => run_lss) w) hc7)
            · exact zPT hz (sd 2 rfl) (sd 6 rfl)
          intro a' γ' W' hz' hd' hC hk hh
          have tp2 := Ca.lt
          replace Ca := kC hC Ca
          have tp3 := Cb.lt
          replace Cb := kC hC Cb
          replace Cp6 := kC hC Cp6
          replace S3 := kp hk S3
          replace S4 := kp hk S4
          replace S10 := kp hk S10
          replace S0 := kp hk S0
          replace S11 := kp hk S11
          replace S13 := kp hk S13
          replace S15 := kp hk S15
          replace S16 := kp hk S16
          replace S72 := kp hk S72
          replace S17 := kp hk S17
          replace S18 := kp hk S18
          clear S92
          replace S19 := kp hk S19
          replace HSc := RI.aft HSc hC (by intro m hm; simp at hm)
          replace HMo := RI.aft HMo hC (by intro m hm; simp at hm)
          have S92 := gotV hz' 7 hh rfl rfl rfl rfl
          clear tp2 tp3
          replace HB := aft_call HB (RelC.below_nil hC)
          clear hC hk hh; replace hz := hz'; replace hd := hd'; clear hz' hd'
          refine wp_cond_true S92.ev ?_
          refine wp_skip ?_
          refine wp_seq ?_
          refine wp_block ?_
          obtain ⟨gm, om, hAm, hgm, hcm⟩ := HMo i (by omega)
          have hG := hG0 i
          have hsh := shrI_b 16 hG
          have hfs0 := few0 (shrI (G i) 16) (m := to - tt) (by omega)
          have hfs1 := few1 (shrI (G i) 16) (m := to - tt) (by omega)
          refine region_text (M := [p3]) (
              rT (tV (.pointer (some ⟨p3, 0, none⟩))) ::
              rT (tV (.int .i64 tt)) ::
              rT (tV (.slice Am nm cm)) ::
              rT (tV (.int .i64 (i : Int))) ::
              rT (tV (.pointer (some ⟨gm, om + i, none⟩))) ::
              rT (tV (.int .i64 (G i))) ::
              rT (tV (.int .i64 2)) ::
              rT (tV (.int .i64 16)) ::
              rT (tV (.int .i64 (shrI (G i) 16))) ::
              rT (tV (.int .i64 to)) ::
              rT (tV (.int .i64 tt)) ::
              rT (tV (.int .i64 (to - tt))) ::
              rT (tV (.int .i64 (fewV (shrI (G i) 16) (to - tt)))) ::
              rT (tV (.int .i64 (tt + (fewV (shrI (G i) 16) (to - tt))))) ::
              rCM 0 (tQ B64 (l + 64 + 41) (atH m2 (atH tt H ((bn : Int) : Rat) (divI (flQ u) per1) m2) (((bn : Int) : Rat)) (divI (flQ u) per1) (tt + (fewV (shrI (G i) 16) (to - tt))))) 80 (tO [tV (.int .i64 (TT m2 (tt + (fewV (shrI (G i) 16) (to - tt))))), tQ B64 (l + 64 + 41) (atH m2 (atH tt H ((bn : Int) : Rat) (divI (flQ u) per1) m2) (((bn : Int) : Rat)) (divI (flQ u) per1) (tt + (fewV (shrI (G i) 16) (to - tt)))), tQ B64 42 (((bn : Int) : Rat)), tQ B64 (l + 64) (divI (flQ u) per1)] [1, 2, 2, 2]) p3 ::
              []) hz hd (by kernel_rfl) ?_ ?_
          · refine ⟨?_, ?_, ?_, ?_, ?_, ?_, ?_, ?_, ?_, ?_, ?_, ?_, ?_, ?_, ?_, trivial⟩
            · exact zMv hz (sv S13)
            · exact zMv hz (sv S15)
            · exact zMv hz (sv S4)
            · exact zMv hz (sv S16)
            · exact zIxV hz rfl (sd 2 rfl) (sd 3 rfl) (ix_in hAm (by omega))
            · exact zLdV hz rfl (sd 4 rfl) (fun γ w hC => ld_in (fun f hf => cell_oaft (hcm f hf) hC hgm (by intro m hm; simp at hm; rcases hm with rfl <;> assumption)))
            · exact zMv hz (sv S19)
            · exact sBin rfl rfl rfl hz rfl (Gd.none_ rfl) rfl kc (sd 6 rfl) (fun w => by kernel_rfl)
            · exact sBin rfl rfl rfl hz rfl (Gd.none_ rfl) rfl (sd 5 rfl) (sd 7 rfl) (run_shri 16 (by decide) hG)
            · exact zMv hz (sv S18)
            · exact zMv hz (sv S15)
            · exact sBin rfl rfl rfl hz rfl (Gd.none_ rfl) rfl (sd 9 rfl) (sd 10 rfl) (fun w => run_subi (by omega) (by omega) w)
            · exact zC2 hz Try.func8 (sd 8 rfl) (sd 11 rfl) (k11 (fun _ => l_few (n := (shrI (G i) 16)) (m := (to - tt)) (by omega) (by omega) (by omega) (by omega)))
            · exact sBin rfl rfl rfl hz rfl (Gd.none_ rfl) rfl (sd 1 rfl) (sd 12 rfl) (fun w => run_addi (by omega) (by omega) w)
            · exact zCM (k := 0) (p := p3) (sid := 80) (T1 := tO [tV (.int .i64 m2), tQ B64 (l + 64 + 41) (atH tt H ((bn : Int) : Rat) (divI (flQ u) per1) m2), tQ B64 42 (((bn : Int) : Rat)), tQ B64 (l + 64) (divI (flQ u) per1)] [1, 2, 2, 2]) (T := tO [tV (.int .i64 (TT m2 (tt + (fewV (shrI (G i) 16) (to - tt))))), tQ B64 (l + 64 + 41) (atH m2 (atH tt H ((bn : Int) : Rat) (divI (flQ u) per1) m2) (((bn : Int) : Rat)) (divI (flQ u) per1) (tt + (fewV (shrI (G i) 16) (to - tt)))), tQ B64 42 (((bn : Int) : Rat)), tQ B64 (l + 64) (divI (flQ u) per1)] [1, 2, 2, 2]) (T0 := tQ B64 (l + 64 + 41) (atH m2 (atH tt H ((bn : Int) : Rat) (divI (flQ u) per1) m2) (((bn : Int) : Rat)) (divI (flQ u) per1) (tt + (fewV (shrI (G i) 16) (to - tt))))) hz rfl Try.func23 (by simp [tagOf]) Cb.lt (clM (k := 0) Cb (by simp [tagOf])) (tO_nd (nd_c nd_int (nd_c nd_q (nd_c nd_q (nd_c nd_q nd_nil))))) (tO_nd (nd_c nd_int (nd_c nd_q (nd_c nd_q (nd_c nd_q nd_nil))))) (fun a γ w U hcell => (by show Calls _ _ #[a.eval (.tmp 95), a.eval (.tmp 108)] _ _; rw [show a.eval (.tmp 95) = .pointer (some ⟨p3, 0, none⟩) from Src.at_ (sd 0 rfl) U, show a.eval (.tmp 108) = .int .i64 (tt + (fewV (shrI (G i) 16) (to - tt))) from Src.at_ (sd 13 rfl) U]; exact c_at (n := (tt + (fewV (shrI (G i) 16) (to - tt)))) hcell (I1.mid hm2.1 (by omega)) (by omega)))
          intro a' γ' W' hz' hd' hC hk hh
          have tp2 := Ca.lt
          replace Ca := kC hC Ca (by simp [tagOf, n_p2_p3])
          replace Cb := gotM (T := tO [tV (.int .i64 (TT m2 (tt + (fewV (shrI (G i) 16) (to - tt))))), tQ B64 (l + 64 + 41) (atH m2 (atH tt H ((bn : Int) : Rat) (divI (flQ u) per1) m2) (((bn : Int) : Rat)) (divI (flQ u) per1) (tt + (fewV (shrI (G i) 16) (to - tt)))), tQ B64 42 (((bn : Int) : Rat)), tQ B64 (l + 64) (divI (flQ u) per1)] [1, 2, 2, 2]) (T0 := tQ B64 (l + 64 + 41) (atH m2 (atH tt H ((bn : Int) : Rat) (divI (flQ u) per1) m2) (((bn : Int) : Rat)) (divI (flQ u) per1) (tt + (fewV (shrI (G i) 16) (to - tt))))) (sid := 80) (k := 0) (p := p3) hz' 14 hh rfl rfl
          replace Cp6 := kC hC Cp6 (by simp [tagOf, n_p6_p3])
          replace S3 := kp hk S3
          replace S4 := kp hk S4
          replace S10 := kp hk S10
          replace S0 := kp hk S0
          replace S11 := kp hk S11
          replace S13 := kp hk S13
          replace S15 := kp hk S15
          replace S16 := kp hk S16
          replace S72 := kp hk S72
          replace S17 := kp hk S17
          replace S18 := kp hk S18
          replace S19 := kp hk S19
          replace S92 := kp hk S92
          replace HSc := RI.aft HSc hC (by intro m hm; simp at hm; rcases hm with rfl <;> assumption)
          replace HMo := RI.aft HMo hC (by intro m hm; simp at hm; rcases hm with rfl <;> assumption)
          clear tp2
          replace HB := RelC.aftM HB hC (by intro m hm; simp at hm; rcases hm with rfl <;> assumption)
          clear hC hk hh; replace hz := hz'; replace hd := hd'; clear hz' hd'
          obtain ⟨m3, e_m3⟩ : ∃ x : Int, x = TT m2 (tt + fewV (shrI (G i) 16) (to - tt)) := ⟨_, rfl⟩
          have hm3 : tt ≤ m3 ∧ m3 ≤ to := by rw [e_m3]; unfold TT mnT; (repeat' split) <;> omega
          replace Cb : Cell 80 (tO [tV (.int .i64 m3), tQ B64 (l + 64 + 41) (atH tt H ((bn : Int) : Rat) (divI (flQ u) per1) m3), tQ B64 42 (((bn : Int) : Rat)), tQ B64 (l + 64) (divI (flQ u) per1)] [1, 2, 2, 2]) p3 _ := Cell.to Cb (tO_to ⟨tV_to (by rw [e_m3]), tQ_eq (by rw [e_m3]; exact at_at I1 hm2.1 (by omega)), idT, idT, trivial⟩)
          clear hsh hfs0 hfs1 hG hcm
          refine region_text (M := []) (
              rT (tV (.int .i64 2)) ::
              rT (tV (.int .i64 3)) ::
              rT (tV (.int .i64 3)) ::
              []) hz hd (by kernel_rfl) ?_ ?_
          · refine ⟨?_, ?_, ?_, trivial⟩
            · exact zMv hz (sv S19)
            · exact sBin rfl rfl rfl hz rfl (Gd.none_ rfl) rfl (sd 0 rfl) kc (fun w => by kernel_rfl)
            · exact zAs hz (sd 1 rfl)
          intro a' γ' W' hz' hd' hC hk hh
          have tp2 := Ca.lt
          replace Ca := kC hC Ca
          have tp3 := Cb.lt
          replace Cb := kC hC Cb
          replace Cp6 := kC hC Cp6
          replace S3 := kp hk S3
          replace S4 := kp hk S4
          replace S10 := kp hk S10
          replace S0 := kp hk S0
          replace S11 := kp hk S11
          replace S13 := kp hk S13
          replace S15 := kp hk S15
          replace S16 := kp hk S16
          replace S72 := kp hk S72
          replace S17 := kp hk S17
          replace S18 := kp hk S18
          clear S19
          replace S92 := kp hk S92
          replace HSc := RI.aft HSc hC (by intro m hm; simp at hm)
          replace HMo := RI.aft HMo hC (by intro m hm; simp at hm)
          have S19 := gotV hz' 2 hh rfl rfl rfl rfl
          clear tp2 tp3
          replace HB := aft_call HB (RelC.below_nil hC)
          clear hC hk hh; replace hz := hz'; replace hd := hd'; clear hz' hd'
          show Code.wp _ _ _ _ _
          refine wp_seq ?_
          refine wp_seq ?_
          refine region_text (M := []) (
              rT (tV (.int .i64 3)) ::
              rT (tV (.bool false)) ::
              rT (tV (.bool false)) ::
              rT (tV undef) ::
              rT (tV undef) ::
              rT (tV undef) ::
              rT (tV undef) ::
              rT (tV (.bool false)) ::
              []) hz hd (by kernel_rfl) ?_ ?_
          · refine ⟨?_, ?_, ?_, ?_, ?_, ?_, ?_, ?_, trivial⟩
            · exact zMv hz (sv S19)
            · exact sBin rfl rfl rfl hz rfl (Gd.none_ rfl) rfl (sd 0 rfl) kc (fun w => by simp [go_sem])
            · exact zMv hz (sd 1 rfl)
            · exact zSkU hz (gN 2 rfl)
            · exact zSkU hz (gN 2 rfl)
            · exact zSkU hz (gN 2 rfl)
            · exact zSkU hz (gN 2 rfl)
            · exact zPF hz (sd 2 rfl) kc
          intro a' γ' W' hz' hd' hC hk hh
          have tp2 := Ca.lt
          replace Ca := kC hC Ca
          have tp3 := Cb.lt
          replace Cb := kC hC Cb
          replace Cp6 := kC hC Cp6
          replace S3 := kp hk S3
          replace S4 := kp hk S4
          replace S10 := kp hk S10
          replace S0 := kp hk S0
          replace S11 := kp hk S11
          replace S13 := kp hk S13
          replace S15 := kp hk S15
          replace S16 := kp hk S16
          replace S72 := kp hk S72
          replace S17 := kp hk S17
          replace S18 := kp hk S18
          clear S92
          replace S19 := kp hk S19
          replace HSc := RI.aft HSc hC (by intro m hm; simp at hm)
          replace HMo := RI.aft HMo hC (by intro m hm; simp at hm)
          have S92 := gotV hz' 7 hh rfl rfl rfl rfl
          clear tp2 tp3
          replace HB := aft_call HB (RelC.below_nil hC)
          clear hC hk hh; replace hz := hz'; replace hd := hd'; clear hz' hd'
          refine wp_cond_false S92.ev ?_
          refine wp_exit ?_
          refine wp_seq ?_
          have hF2 := hF (i * 3 + 2)
          have hf20 := few0 (F (i * 3 + 2)) (m := 2 * bn) (by omega)
          have hf21 := few1 (F (i * 3 + 2)) (m := 2 * bn) (by omega)
          refine region_text (M := []) (
              rT (tV (.pointer (some ⟨p6, 2, none⟩))) ::
              rT (tV (.int .i64 (F (i * 3 + 2)))) ::
              rT (tV (.int .i64 bn)) ::
              rT (tV (.int .i64 (2 * bn))) ::
              rT (tV (.int .i64 (fewV (F (i * 3 + 2)) (2 * bn)))) ::
              rT (tV (.int .i64 (fewV (F (i * 3 + 2)) (2 * bn)))) ::
              []) hz hd (by kernel_rfl) ?_ ?_
          · refine ⟨?_, ?_, ?_, ?_, ?_, ?_, trivial⟩
            · exact zFAo hz rfl rfl (sv S17) (fun w => by simp [go_sem])
            · exact zLdO 2 hz (sd 0 rfl) (cl0 Cp6) ldo_int
            · exact zMv hz (sv S0)
            · exact sBin rfl rfl rfl hz rfl (Gd.none_ rfl) rfl kc (sd 2 rfl) (fun w => run_dbl (by omega) (by omega) w)
            · exact zC2 hz Try.func8 (sd 1 rfl) (sd 3 rfl) (k11 (fun _ => l_few (n := (F (i * 3 + 2))) (m := (2 * bn)) (by omega) (by omega) (by omega) (by omega)))
            · exact zAs hz (sd 4 rfl)
          intro a' γ' W' hz' hd' hC hk hh
          have tp2 := Ca.lt
          replace Ca := kC hC Ca
          have tp3 := Cb.lt
          replace Cb := kC hC Cb
          replace Cp6 := kC hC Cp6
          replace S3 := kp hk S3
          replace S4 := kp hk S4
          replace S10 := kp hk S10
          replace S0 := kp hk S0
          replace S11 := kp hk S11
          replace S13 := kp hk S13
          replace S15 := kp hk S15
          replace S16 := kp hk S16
          replace S72 := kp hk S72
          replace S17 := kp hk S17
          replace S18 := kp hk S18
          replace S19 := kp hk S19
          replace S92 := kp hk S92
          replace HSc := RI.aft HSc hC (by intro m hm; simp at hm)
          replace HMo := RI.aft HMo hC (by intro m hm; simp at hm)
          have S20 := gotV hz' 5 hh rfl rfl rfl rfl
          clear tp2 tp3
          replace HB := aft_call HB (RelC.below_nil hC)
          clear hC hk hh; replace hz := hz'; replace hd := hd'; clear hz' hd'
          refine wp_seq ?_
          refine wp_seq ?_
          obtain ⟨nn, e_nn⟩ : ∃ x : Int, x = fewV (F (i * 3 + 2)) (2 * bn) := ⟨_, rfl⟩
          rw [← e_nn] at S20
          have hnn : 0 ≤ nn ∧ nn ≤ 2199023255552 := by omega
          have eTa := TT_of (t := tt) (y := to) (by omega) (by omega)
          have eTb := TT_of (t := m3) (y := to) (by omega) (by omega)
          have eTc := TT_of (t := to) (y := to) (by omega) (by omega)
          have eb : atH m3 (atH tt H ((bn : Int) : Rat) (divI (flQ u) per1) m3) ((bn : Int) : Rat) (divI (flQ u) per1) to = atH tt H ((bn : Int) : Rat) (divI (flQ u) per1) to := by rw [at_at I1 hm3.1 (by omega), eTb]
          have Iq := ((I1.at_ to).take nn).hb
          have hc8 : ¬ (tkE (atH tt H (((bn : Int) : Rat)) (divI (flQ u) per1) to) nn ≠ tkE (atH m3 (atH tt H ((bn : Int) : Rat) (divI (flQ u) per1) m3) (((bn : Int) : Rat)) (divI (flQ u) per1) to) nn) := fun g => g (by rw [eb])
          refine region_text (M := [p2, p3]) (
              rT (tV (.pointer (some ⟨p2, 0, none⟩))) ::
              rT (tV (.int .i64 to)) ::
              rT (tV (.int .i64 nn)) ::
              rCM 0 (tV (.int .i64 (tkE (atH tt H (((bn : Int) : Rat)) (divI (flQ u) per1) to) nn))) 80 (tO [tV (.int .i64 (TT tt to)), tQ B64 (l + 64 + 41) (tkH (atH tt H (((bn : Int) : Rat)) (divI (flQ u) per1) to) nn), tQ B64 42 (((bn : Int) : Rat)), tQ B64 (l + 64) (divI (flQ u) per1)] [1, 2, 2, 2]) p2 ::
              rT (tV (.pointer (some ⟨p3, 0, none⟩))) ::
              rT (tV (.int .i64 to)) ::
              rT (tV (.int .i64 nn)) ::
              rCM 1 (tV (.int .i64 (tkE (atH m3 (atH tt H ((bn : Int) : Rat) (divI (flQ u) per1) m3) (((bn : Int) : Rat)) (divI (flQ u) per1) to) nn))) 80 (tO [tV (.int .i64 (TT m3 to)), tQ B64 (l + 64 + 41) (tkH (atH m3 (atH tt H ((bn : Int) : Rat) (divI (flQ u) per1) m3) (((bn : Int) : Rat)) (divI (flQ u) per1) to) nn), tQ B64 42 (((bn : Int) : Rat)), tQ B64 (l + 64) (divI (flQ u) per1)] [1, 2, 2, 2]) p3 ::
              rT (tV (.bool false)) ::
              rT (tV (.bool false)) ::
              rT (tV (.pointer (some ⟨p2, 0, none⟩))) ::
              rT (tV (.int .i64 to)) ::
              rCM 0 (tQ B64 (l + 64 + 41) (atH (TT tt to) (tkH (atH tt H (((bn : Int) : Rat)) (divI (flQ u) per1) to) nn) (((bn : Int) : Rat)) (divI (flQ u) per1) to)) 80 (tO [tV (.int .i64 (TT (TT tt to) to)), tQ B64 (l + 64 + 41) (atH (TT tt to) (tkH (atH tt H (((bn : Int) : Rat)) (divI (flQ u) per1) to) nn) (((bn : Int) : Rat)) (divI (flQ u) per1) to), tQ B64 42 (((bn : Int) : Rat)), tQ B64 (l + 64) (divI (flQ u) per1)] [1, 2, 2, 2]) p2 ::
              rT (tV (.pointer (some ⟨p3, 0, none⟩))) ::
              rT (tV (.int .i64 to)) ::
              rCM 1 (tQ B64 (l + 64 + 41) (atH (TT m3 to) (tkH (atH m3 (atH tt H ((bn : Int) : Rat) (divI (flQ u) per1) m3) (((bn : Int) : Rat)) (divI (flQ u) per1) to) nn) (((bn : Int) : Rat)) (divI (flQ u) per1) to)) 80 (tO [tV (.int .i64 (TT (TT m3 to) to)), tQ B64 (l + 64 + 41) (atH (TT m3 to) (tkH (atH m3 (atH tt H ((bn : Int) : Rat) (divI (flQ u) per1) m3) (((bn : Int) : Rat)) (divI (flQ u) per1) to) nn) (((bn : Int) : Rat)) (divI (flQ u) per1) to), tQ B64 42 (((bn : Int) : Rat)), tQ B64 (l + 64) (divI (flQ u) per1)] [1, 2, 2, 2]) p3 ::
              rT (tV (.int .i64 (cmpQ (atH (TT tt to) (tkH (atH tt H (((bn : Int) : Rat)) (divI (flQ u) per1) to) nn) (((bn : Int) : Rat)) (divI (flQ u) per1) to) (atH (TT m3 to) (tkH (atH m3 (atH tt H ((bn : Int) : Rat) (divI (flQ u) per1) m3) (((bn : Int) : Rat)) (divI (flQ u) per1) to) nn) (((bn : Int) : Rat)) (divI (flQ u) per1) to)))) ::
              rT (tV (.bool (decide (atH (TT tt to) (tkH (atH tt H (((bn : Int) : Rat)) (divI (flQ u) per1) to) nn) (((bn : Int) : Rat)) (divI (flQ u) per1) to ≠ atH (TT m3 to) (tkH (atH m3 (atH tt H ((bn : Int) : Rat) (divI (flQ u) per1) m3) (((bn : Int) : Rat)) (divI (flQ u) per1) to) nn) (((bn : Int) : Rat)) (divI (flQ u) per1) to)))) ::
              rT (tV (.bool (decide (atH (TT tt to) (tkH (atH tt H (((bn : Int) : Rat)) (divI (flQ u) per1) to) nn) (((bn : Int) : Rat)) (divI (flQ u) per1) to ≠ atH (TT m3 to) (tkH (atH m3 (atH tt H ((bn : Int) : Rat) (divI (flQ u) per1) m3) (((bn : Int) : Rat)) (divI (flQ u) per1) to) nn) (((bn : Int) : Rat)) (divI (flQ u) per1) to)))) ::
              []) hz hd (by kernel_rfl) ?_ ?_
          · refine ⟨?_, ?_, ?_, ?_, ?_, ?_, ?_, ?_, ?_, ?_, ?_, ?_, ?_, ?_, ?_, ?_, ?_, ?_, ?_, trivial⟩
            · exact zMv hz (sv S11)
            · exact zMv hz (sv S18)
            · exact zMv hz (sv S20)
            · exact zCM (k := 0) (p := p2) (sid := 80) (T1 := tO [tV (.int .i64 tt), tQ B64 (l + 64 + 41) H, tQ B64 42 (((bn : Int) : Rat)), tQ B64 (l + 64) (divI (flQ u) per1)] [1, 2, 2, 2]) (T := tO [tV (.int .i64 (TT tt to)), tQ B64 (l + 64 + 41) (tkH (atH tt H (((bn : Int) : Rat)) (divI (flQ u) per1) to) nn), tQ B64 42 (((bn : Int) : Rat)), tQ B64 (l + 64) (divI (flQ u) per1)] [1, 2, 2, 2]) (T0 := tV (.int .i64 (tkE (atH tt H (((bn : Int) : Rat)) (divI (flQ u) per1) to) nn))) hz rfl Try.func14 (by simp [tagOf]) Ca.lt (clM (k := 0) Ca (by simp [tagOf])) (tO_nd (nd_c nd_int (nd_c nd_q (nd_c nd_q (nd_c nd_q nd_nil))))) (tO_nd (nd_c nd_int (nd_c nd_q (nd_c nd_q (nd_c nd_q nd_nil))))) (fun a γ w U hcell => (by show Calls _ _ #[a.eval (.tmp 115), a.eval (.tmp 116), a.eval (.tmp 117)] _ _; rw [show a.eval (.tmp 115) = .pointer (some ⟨p2, 0, none⟩) from Src.at_ (sd 0 rfl) U, show a.eval (.tmp 116) = .int .i64 to from Src.at_ (sd 1 rfl) U, show a.eval (.tmp 117) = .int .i64 nn from Src.at_ (sd 2 rfl) U]; exact c_take (n := to) (m := nn) hcell I1 (by omega) (by omega)))
            · exact zMv hz (sv S13)
            · exact zMv hz (sv S18)
            · exact zMv hz (sv S20)
            · exact zCM (k := 1) (p := p3) (sid := 80) (T1 := tO [tV (.int .i64 m3), tQ B64 (l + 64 + 41) (atH tt H ((bn : Int) : Rat) (divI (flQ u) per1) m3), tQ B64 42 (((bn : Int) : Rat)), tQ B64 (l + 64) (divI (flQ u) per1)] [1, 2, 2, 2]) (T := tO [tV (.int .i64 (TT m3 to)), tQ B64 (l + 64 + 41) (tkH (atH m3 (atH tt H ((bn : Int) : Rat) (divI (flQ u) per1) m3) (((bn : Int) : Rat)) (divI (flQ u) per1) to) nn), tQ B64 42 (((bn : Int) : Rat)), tQ B64 (l + 64) (divI (flQ u) per1)] [1, 2, 2, 2]) (T0 := tV (.int .i64 (tkE (atH m3 (atH tt H ((bn : Int) : Rat) (divI (flQ u) per1) m3) (((bn : Int) : Rat)) (divI (flQ u) per1) to) nn))) hz rfl Try.func14 (by simp [tagOf, n_p3_p2]) Cb.lt (clM (k := 1) Cb (by simp [tagOf, n_p3_p2])) (tO_nd (nd_c nd_int (nd_c nd_q (nd_c nd_q (nd_c nd_q nd_nil))))) (tO_nd (nd_c nd_int (nd_c nd_q (nd_c nd_q (nd_c nd_q nd_nil))))) (fun a γ w U hcell => (by show Calls _ _ #[a.eval (.tmp 119), a.eval (.tmp 120), a.eval (.tmp 121)] _ _; rw [show a.eval (.tmp 119) = .pointer (some ⟨p3, 0, none⟩) from Src.at_ (sd 4 rfl) U, show a.eval (.tmp 120) = .int .i64 to from Src.at_ (sd 5 rfl) U, show a.eval (.tmp 121) = .int .i64 nn from Src.at_ (sd 6 rfl) U]; exact c_take (n := to) (m := nn) hcell (I1.mid hm3.1 (by omega)) (by omega) (by omega)))
            · exact sBin rfl rfl rfl hz rfl (Gd.none_ rfl) rfl (sdM 3 rfl) (sdM 7 rfl) (fun w => run_f (P := tkE (atH tt H (((bn : Int) : Rat)) (divI (flQ u) per1) to) nn ≠ tkE (atH m3 (atH tt H ((bn : Int) : Rat) (divI (flQ u) per1) m3) (((bn : Int) : Rat)) (divI (flQ u) per1) to) nn) ((fun w => run_neqE) w) hc8)
            · exact zMv hz (sd 8 rfl)
            · exact zMv hz (sv S11) (g := gT 9 rfl)
            · exact zMv hz (sv S18) (g := gT 9 rfl)
            · exact zCM (k := 0) (p := p2) (sid := 80) (T1 := tO [tV (.int .i64 (TT tt to)), tQ B64 (l + 64 + 41) (tkH (atH tt H (((bn : Int) : Rat)) (divI (flQ u) per1) to) nn), tQ B64 42 (((bn : Int) : Rat)), tQ B64 (l + 64) (divI (flQ u) per1)] [1, 2, 2, 2]) (T := tO [tV (.int .i64 (TT (TT tt to) to)), tQ B64 (l + 64 + 41) (atH (TT tt to) (tkH (atH tt H (((bn : Int) : Rat)) (divI (flQ u) per1) to) nn) (((bn : Int) : Rat)) (divI (flQ u) per1) to), tQ B64 42 (((bn : Int) : Rat)), tQ B64 (l + 64) (divI (flQ u) per1)] [1, 2, 2, 2]) (T0 := tQ B64 (l + 64 + 41) (atH (TT tt to) (tkH (atH tt H (((bn : Int) : Rat)) (divI (flQ u) per1) to) nn) (((bn : Int) : Rat)) (divI (flQ u) per1) to)) hz rfl Try.func23 (by simp [tagOf]) Ca.lt (clCT 3 rfl) (tO_nd (nd_c nd_int (nd_c nd_q (nd_c nd_q (nd_c nd_q nd_nil))))) (tO_nd (nd_c nd_int (nd_c nd_q (nd_c nd_q (nd_c nd_q nd_nil))))) (fun a γ w U hcell => (by show Calls _ _ #[a.eval (.tmp 125), a.eval (.tmp 126)] _ _; rw [show a.eval (.tmp 125) = .pointer (some ⟨p2, 0, none⟩) from Src.at_ (sd 10 rfl) U, show a.eval (.tmp 126) = .int .i64 to from Src.at_ (sd 11 rfl) U]; exact c_at (n := to) hcell (BInv.take (BInv.at_ I1 to) nn) (by omega))) (g := gT 9 rfl)
            · exact zMv hz (sv S13) (g := gT 9 rfl)
            · exact zMv hz (sv S18) (g := gT 9 rfl)
            · exact zCM (k := 1) (p := p3) (sid := 80) (T1 := tO [tV (.int .i64 (TT m3 to)), tQ B64 (l + 64 + 41) (tkH (atH m3 (atH tt H ((bn : Int) : Rat) (divI (flQ u) per1) m3) (((bn : Int) : Rat)) (divI (flQ u) per1) to) nn), tQ B64 42 (((bn : Int) : Rat)), tQ B64 (l + 64) (divI (flQ u) per1)] [1, 2, 2, 2]) (T := tO [tV (.int .i64 (TT (TT m3 to) to)), tQ B64 (l + 64 + 41) (atH (TT m3 to) (tkH (atH m3 (atH tt H ((bn : Int) : Rat) (divI (flQ u) per1) m3) (((bn : Int) : Rat)) (divI (flQ u) per1) to) nn) (((bn : Int) : Rat)) (divI (flQ u) per1) to), tQ B64 42 (((bn : Int) : Rat)), tQ B64 (l + 64) (divI (flQ u) per1)] [1, 2, 2, 2]) (T0 := tQ B64 (l + 64 + 41) (atH (TT m3 to) (tkH (atH m3 (atH tt H ((bn : Int) : Rat) (divI (flQ u) per1) m3) (((bn : Int) : Rat)) (divI (flQ u) per1) to) nn) (((bn : Int) : Rat)) (divI (flQ u) per1) to)) hz rfl Try.func23 (by simp [tagOf, n_p3_p2]) Cb.lt (clCT 7 rfl) (tO_nd (nd_c nd_int (nd_c nd_q (nd_c nd_q (nd_c nd_q nd_nil))))) (tO_nd (nd_c nd_int (nd_c nd_q (nd_c nd_q (nd_c nd_q nd_nil))))) (fun a γ w U hcell => (by show Calls _ _ #[a.eval (.tmp 128), a.eval (.tmp 129)] _ _; rw [show a.eval (.tmp 128) = .pointer (some ⟨p3, 0, none⟩) from Src.at_ (sd 13 rfl) U, show a.eval (.tmp 129) = .int .i64 to from Src.at_ (sd 14 rfl) U]; exact c_at (n := to) hcell (BInv.take (BInv.at_ (I1.mid hm3.1 (by omega)) to) nn) (by omega))) (g := gT 9 rfl)
            · exact zC2 hz Try.func30 (sdM 12 rfl) (sdM 15 rfl) (fun _ _ _ h0 h1 => cq_cmp h0 h1 (by omega) (by omega)) (g := gT 9 rfl)
            · exact sBin rfl rfl rfl hz rfl (gT 9 rfl) rfl (sd 16 rfl) kc (fun w => run_cQ_neq (atH (TT tt to) (tkH (atH tt H (((bn : Int) : Rat)) (divI (flQ u) per1) to) nn) (((bn : Int) : Rat)) (divI (flQ u) per1) to) (atH (TT m3 to) (tkH (atH m3 (atH tt H ((bn : Int) : Rat) (divI (flQ u) per1) m3) (((bn : Int) : Rat)) (divI (flQ u) per1) to) nn) (((bn : Int) : Rat)) (divI (flQ u) per1) to) w)
            · exact zPF hz (sd 9 rfl) (sd 17 rfl)
          intro a' γ' W' hz' hd' hC hk hh
          replace Ca := gotM (T := tO [tV (.int .i64 (TT (TT tt to) to)), tQ B64 (l + 64 + 41) (atH (TT tt to) (tkH (atH tt H (((bn : Int) : Rat)) (divI (flQ u) per1) to) nn) (((bn : Int) : Rat)) (divI (flQ u) per1) to), tQ B64 42 (((bn : Int) : Rat)), tQ B64 (l + 64) (divI (flQ u) per1)] [1, 2, 2, 2]) (T0 := tQ B64 (l + 64 + 41) (atH (TT tt to) (tkH (atH tt H (((bn : Int) : Rat)) (divI (flQ u) per1) to) nn) (((bn : Int) : Rat)) (divI (flQ u) per1) to)) (sid := 80) (k := 0) (p := p2) hz' 12 hh rfl rfl
          replace Cb := gotM (T := tO [tV (.int .i64 (TT (TT m3 to) to)), tQ B64 (l + 64 + 41) (atH (TT m3 to) (tkH (atH m3 (atH tt H ((bn : Int) : Rat) (divI (flQ u) per1) m3) (((bn : Int) : Rat)) (divI (flQ u) per1) to) nn) (((bn : Int) : Rat)) (divI (flQ u) per1) to), tQ B64 42 (((bn : Int) : Rat)), tQ B64 (l + 64) (divI (flQ u) per1)] [1, 2, 2, 2]) (T0 := tQ B64 (l + 64 + 41) (atH (TT m3 to) (tkH (atH m3 (atH tt H ((bn : Int) : Rat) (divI (flQ u) per1) m3) (((bn : Int) : Rat)) (divI (flQ u) per1) to) nn) (((bn : Int) : Rat)) (divI (flQ u) per1) to)) (sid := 80) (k := 1) (p := p3) hz' 15 hh rfl rfl
          replace Cp6 := kC hC Cp6 (by simp [tagOf, n_p6_p2, n_p6_p3])
          replace S3 := kp hk S3
          replace S4 := kp hk S4
          replace S10 := kp hk S10
          replace S0 := kp hk S0
          replace S11 := kp hk S11
          replace S13 := kp hk S13
          replace S15 := kp hk S15
          replace S16 := kp hk S16
          replace S72 := kp hk S72
          replace S17 := kp hk S17
          replace S18 := kp hk S18
          replace S19 := kp hk S19
          replace S92 := kp hk S92
          replace S20 := kp hk S20
          replace HSc := RI.aft HSc hC (by intro m hm; simp at hm; rcases hm with rfl | rfl <;> assumption)
          replace HMo := RI.aft HMo hC (by intro m hm; simp at hm; rcases hm with rfl | rfl <;> assumption)
          have S133 := gotV hz' 18 hh rfl rfl rfl rfl
          replace HB := RelC.aftM HB hC (by intro m hm; simp at hm; rcases hm with rfl | rfl <;> assumption)
          clear hC hk hh; replace hz := hz'; replace hd := hd'; clear hz' hd'
          have hc9 : ¬ (atH (TT tt to) (tkH (atH tt H (((bn : Int) : Rat)) (divI (flQ u) per1) to) nn) (((bn : Int) : Rat)) (divI (flQ u) per1) to ≠ atH (TT m3 to) (tkH (atH m3 (atH tt H ((bn : Int) : Rat) (divI (flQ u) per1) m3) (((bn : Int) : Rat)) (divI (flQ u) per1) to) nn) (((bn : Int) : Rat)) (divI (flQ u) per1) to) := fun g => g (by rw [eTa, eTb, eb])
          rw [decide_eq_false hc9] at S133
          refine wp_cond_false S133.ev ?_
          refine wp_skip ?_
          refine wp_seq ?_
          obtain ⟨H2, e_H2⟩ : ∃ x : Rat, x = tkH (atH tt H ((bn : Int) : Rat) (divI (flQ u) per1) to) nn := ⟨_, rfl⟩
          have I2 : BInv (l + 64) to H2 ((bn : Int) : Rat) (divI (flQ u) per1) := by have := (I1.at_ to).take nn; rw [eTa, ← e_H2] at this; exact this
          replace Ca : Cell 80 (tO [tV (.int .i64 to), tQ B64 (l + 64 + 41) H2, tQ B64 42 (((bn : Int) : Rat)), tQ B64 (l + 64) (divI (flQ u) per1)] [1, 2, 2, 2]) p2 _ := Cell.to Ca (tO_to ⟨tV_to (by rw [eTa, eTc]), tQ_eq (by rw [eTa, at_self Iq (by omega), e_H2]), idT, idT, trivial⟩)
          replace Cb : Cell 80 (tO [tV (.int .i64 to), tQ B64 (l + 64 + 41) H2, tQ B64 42 (((bn : Int) : Rat)), tQ B64 (l + 64) (divI (flQ u) per1)] [1, 2, 2, 2]) p3 _ := Cell.to Cb (tO_to ⟨tV_to (by rw [eTb, eTc]), tQ_eq (by rw [eTb, eb, at_self Iq (by omega), e_H2]), idT, idT, trivial⟩)
          refine region_text (M := [p2]) (
              rT (tV (.pointer (some ⟨p2, 0, none⟩))) ::
              rT (tV (.int .i64 nn)) ::
              rCM 0 (tT [tV (.int .i64 (wait to H2 (((bn : Int) : Rat)) (divI (flQ u) per1) nn).1), tV (.int .i64 (wait to H2 (((bn : Int) : Rat)) (divI (flQ u) per1) nn).2)]) 80 (tO [tV (.int .i64 to), tQ B64 (l + 64 + 41) H2, tQ B64 42 (((bn : Int) : Rat)), tQ B64 (l + 64) (divI (flQ u) per1)] [1, 2, 2, 2]) p2 ::
              rT (tT [tV (.int .i64 (wait to H2 (((bn : Int) : Rat)) (divI (flQ u) per1) nn).1), tV (.int .i64 (wait to H2 (((bn : Int) : Rat)) (divI (flQ u) per1) nn).2)]) ::
              rT (tV (.int .i64 (wait to H2 (((bn : Int) : Rat)) (divI (flQ u) per1) nn).1)) ::
              rT (tV (.int .i64 (wait to H2 (((bn : Int) : Rat)) (divI (flQ u) per1) nn).2)) ::
              rT (tV (.int .i64 (wait to H2 (((bn : Int) : Rat)) (divI (flQ u) per1) nn).1)) ::
              rT (tV (.int .i64 (wait to H2 (((bn : Int) : Rat)) (divI (flQ u) per1) nn).2)) ::
              []) hz hd (by kernel_rfl) ?_ ?_
          · refine ⟨?_, ?_, ?_, ?_, ?_, ?_, ?_, ?_, trivial⟩
            · exact zMv hz (sv S11)
            · exact zMv hz (sv S20)
            · exact zCM (k := 0) (p := p2) (sid := 80) (T1 := tO [tV (.int .i64 to), tQ B64 (l + 64 + 41) H2, tQ B64 42 (((bn : Int) : Rat)), tQ B64 (l + 64) (divI (flQ u) per1)] [1, 2, 2, 2]) (T := tO [tV (.int .i64 to), tQ B64 (l + 64 + 41) H2, tQ B64 42 (((bn : Int) : Rat)), tQ B64 (l + 64) (divI (flQ u) per1)] [1, 2, 2, 2]) (T0 := tT [tV (.int .i64 (wait to H2 (((bn : Int) : Rat)) (divI (flQ u) per1) nn).1), tV (.int .i64 (wait to H2 (((bn : Int) : Rat)) (divI (flQ u) per1) nn).2)]) hz rfl Try.func28 (by simp [tagOf]) Ca.lt (clM (k := 0) Ca (by simp [tagOf])) (tO_nd (nd_c nd_int (nd_c nd_q (nd_c nd_q (nd_c nd_q nd_nil))))) (tO_nd (nd_c nd_int (nd_c nd_q (nd_c nd_q (nd_c nd_q nd_nil))))) (fun a γ w U hcell => (by show Calls _ _ #[a.eval (.tmp 135), a.eval (.tmp 136)] _ _; rw [show a.eval (.tmp 135) = .pointer (some ⟨p2, 0, none⟩) from Src.at_ (sd 0 rfl) U, show a.eval (.tmp 136) = .int .i64 nn from Src.at_ (sd 1 rfl) U]; exact c_wait (n := nn) hcell I2 (by omega) (by omega)))
            · exact zMv hz (sdM 2 rfl)
            · exact zExt hz (sd 3 rfl)
            · exact zExt hz (sd 3 rfl)
            · exact zAs hz (sd 4 rfl)
            · exact zAs hz (sd 5 rfl)
          intro a' γ' W' hz' hd' hC hk hh
          replace Ca := gotM (T := tO [tV (.int .i64 to), tQ B64 (l + 64 + 41) H2, tQ B64 42 (((bn : Int) : Rat)), tQ B64 (l + 64) (divI (flQ u) per1)] [1, 2, 2, 2]) (T0 := tT [tV (.int .i64 (wait to H2 (((bn : Int) : Rat)) (divI (flQ u) per1) nn).1), tV (.int .i64 (wait to H2 (((bn : Int) : Rat)) (divI (flQ u) per1) nn).2)]) (sid := 80) (k := 0) (p := p2) hz' 2 hh rfl rfl
          have tp3 := Cb.lt
          replace Cb := kC hC Cb (by simp [tagOf, n_p3_p2])
          replace Cp6 := kC hC Cp6 (by simp [tagOf, n_p6_p2])
          replace S3 := kp hk S3
          replace S4 := kp hk S4
          replace S10 := kp hk S10
          replace S0 := kp hk S0
          replace S11 := kp hk S11
          replace S13 := kp hk S13
          replace S15 := kp hk S15
          replace S16 := kp hk S16
          replace S72 := kp hk S72
          replace S17 := kp hk S17
          replace S18 := kp hk S18
          replace S19 := kp hk S19
          replace S92 := kp hk S92
          replace S20 := kp hk S20
          replace S133 := kp hk S133
          replace HSc := RI.aft HSc hC (by intro m hm; simp at hm; rcases hm with rfl <;> assumption)
          replace HMo := RI.aft HMo hC (by intro m hm; simp at hm; rcases hm with rfl <;> assumption)
          have S21 := gotV hz' 6 hh rfl rfl rfl rfl
          have S22 := gotV hz' 7 hh rfl rfl rfl rfl
          clear tp3
          replace HB := RelC.aftM HB hC (by intro m hm; simp at hm; rcases hm with rfl <;> assumption)
          clear hC hk hh; replace hz := hz'; replace hd := hd'; clear hz' hd'
          refine wp_seq ?_
          refine region_text (M := [p3]) (
              rT (tV (.pointer (some ⟨p3, 0, none⟩))) ::
              rT (tV (.int .i64 nn)) ::
              rCM 0 (tT [tV (.int .i64 (wait to H2 (((bn : Int) : Rat)) (divI (flQ u) per1) nn).1), tV (.int .i64 (wait to H2 (((bn : Int) : Rat)) (divI (flQ u) per1) nn).2)]) 80 (tO [tV (.int .i64 to), tQ B64 (l + 64 + 41) H2, tQ B64 42 (((bn : Int) : Rat)), tQ B64 (l + 64) (divI (flQ u) per1)] [1, 2, 2, 2]) p3 ::
              rT (tT [tV (.int .i64 (wait to H2 (((bn : Int) : Rat)) (divI (flQ u) per1) nn).1), tV (.int .i64 (wait to H2 (((bn : Int) : Rat)) (divI (flQ u) per1) nn).2)]) ::
              rT (tV (.int .i64 (wait to H2 (((bn : Int) : Rat)) (divI (flQ u) per1) nn).1)) ::
              rT (tV (.int .i64 (wait to H2 (((bn : Int) : Rat)) (divI (flQ u) per1) nn).2)) ::
              rT (tV (.int .i64 (wait to H2 (((bn : Int) : Rat)) (divI (flQ u) per1) nn).1)) ::
              rT (tV (.int .i64 (wait to H2 (((bn : Int) : Rat)) (divI (flQ u) per1) nn).2)) ::
              []) hz hd (by kernel_rfl) ?_ ?_
          · refine ⟨?_, ?_, ?_, ?_, ?_, ?_, ?_, ?_, trivial⟩
            · exact zMv hz (sv S13)
            · exact zMv hz (sv S20)
            · exact zCM (k := 0) (p := p3) (sid := 80) (T1 := tO [tV (.int .i64 to), tQ B64 (l + 64 + 41) H2, tQ B64 42 (((bn : Int) : Rat)), tQ B64 (l + 64) (divI (flQ u) per1)] [1, 2, 2, 2]) (T := tO [tV (.int .i64 to), tQ B64 (l + 64 + 41) H2, tQ B64 42 (((bn : Int) : Rat)), tQ B64 (l + 64) (divI (flQ u) per1)] [1, 2, 2, 2]) (T0 := tT [tV (.int .i64 (wait to H2 (((bn : Int) : Rat)) (divI (flQ u) per1) nn).1), tV (.int .i64 (wait to H2 (((bn : Int) : Rat)) (divI (flQ u) per1) nn).2)]) hz rfl Try.func28 (by simp [tagOf]) Cb.lt (clM (k := 0) Cb (by simp [tagOf])) (tO_nd (nd_c nd_int (nd_c nd_q (nd_c nd_q (nd_c nd_q nd_nil))))) (tO_nd (nd_c nd_int (nd_c nd_q (nd_c nd_q (nd_c nd_q nd_nil))))) (fun a γ w U hcell => (by show Calls _ _ #[a.eval (.tmp 141), a.eval (.tmp 142)] _ _; rw [show a.eval (.tmp 141) = .pointer (some ⟨p3, 0, none⟩) from Src.at_ (sd 0 rfl) U, show a.eval (.tmp 142) = .int .i64 nn from Src.at_ (sd 1 rfl) U]; exact c_wait (n := nn) hcell I2 (by omega) (by omega)))
            · exact zMv hz (sdM 2 rfl)
            · exact zExt hz (sd 3 rfl)
            · exact zExt hz (sd 3 rfl)
            · exact zAs hz (sd 4 rfl)
            · exact zAs hz (sd 5 rfl)
          intro a' γ' W' hz' hd' hC hk hh
          have tp2 := Ca.lt
          replace Ca := kC hC Ca (by simp [tagOf, n_p2_p3])
          replace Cb := gotM (T := tO [tV (.int .i64 to), tQ B64 (l + 64 + 41) H2, tQ B64 42 (((bn : Int) : Rat)), tQ B64 (l + 64) (divI (flQ u) per1)] [1, 2, 2, 2]) (T0 := tT [tV (.int .i64 (wait to H2 (((bn : Int) : Rat)) (divI (flQ u) per1) nn).1), tV (.int .i64 (wait to H2 (((bn : Int) : Rat)) (divI (flQ u) per1) nn).2)]) (sid := 80) (k := 0) (p := p3) hz' 2 hh rfl rfl
          replace Cp6 := kC hC Cp6 (by simp [tagOf, n_p6_p3])
          replace S3 := kp hk S3
          replace S4 := kp hk S4
          replace S10 := kp hk S10
          replace S0 := kp hk S0
          replace S11 := kp hk S11
          replace S13 := kp hk S13
          replace S15 := kp hk S15
          replace S16 := kp hk S16
          replace S72 := kp hk S72
          replace S17 := kp hk S17
          replace S18 := kp hk S18
          replace S19 := kp hk S19
          replace S92 := kp hk S92
          replace S20 := kp hk S20
          replace S133 := kp hk S133
          replace S21 := kp hk S21
          replace S22 := kp hk S22
          replace HSc := RI.aft HSc hC (by intro m hm; simp at hm; rcases hm with rfl <;> assumption)
          replace HMo := RI.aft HMo hC (by intro m hm; simp at hm; rcases hm with rfl <;> assumption)
          have S23 := gotV hz' 6 hh rfl rfl rfl rfl
          have S24 := gotV hz' 7 hh rfl rfl rfl rfl
          clear tp2
          replace HB := RelC.aftM HB hC (by intro m hm; simp at hm; rcases hm with rfl <;> assumption)
          clear hC hk hh; replace hz := hz'; replace hd := hd'; clear hz' hd'
          refine wp_seq ?_
          refine wp_seq ?_
          refine region_text (M := []) (
              rT (tV (.int .i64 (wait to H2 (((bn : Int) : Rat)) (divI (flQ u) per1) nn).1)) ::
              rT (tV (.int .i64 (wait to H2 (((bn : Int) : Rat)) (divI (flQ u) per1) nn).1)) ::
              rT (tV (.bool false)) ::
              rT (tV (.bool false)) ::
              rT (tV (.int .i64 (wait to H2 (((bn : Int) : Rat)) (divI (flQ u) per1) nn).2)) ::
              rT (tV (.int .i64 (wait to H2 (((bn : Int) : Rat)) (divI (flQ u) per1) nn).2)) ::
              rT (tV (.bool false)) ::
              rT (tV (.bool false)) ::
              []) hz hd (by kernel_rfl) ?_ ?_
          · refine ⟨?_, ?_, ?_, ?_, ?_, ?_, ?_, ?_, trivial⟩
            · exact zMv hz (sv S21)
            · exact zMv hz (sv S23)
            · exact sBin rfl rfl rfl hz rfl (Gd.none_ rfl) rfl (sd 0 rfl) (sd 1 rfl) (fun w => by simp [go_sem])
            · exact zMv hz (sd 2 rfl)
            · exact zMv hz (sv S22) (g := gT 3 rfl)
            · exact zMv hz (sv S24) (g := gT 3 rfl)
            · exact sBin rfl rfl rfl hz rfl (gT 3 rfl) rfl (sd 4 rfl) (sd 5 rfl) (fun w => by simp [go_sem])
            · exact zPF hz (sd 3 rfl) (sd 6 rfl)
          intro a' γ' W' hz' hd' hC hk hh
          have tp2 := Ca.lt
          replace Ca := kC hC Ca
          have tp3 := Cb.lt
          replace Cb := kC hC Cb
          replace Cp6 := kC hC Cp6
          replace S3 := kp hk S3
          replace S4 := kp hk S4
          replace S10 := kp hk S10
          replace S0 := kp hk S0
          replace S11 := kp hk S11
          replace S13 := kp hk S13
          replace S15 := kp hk S15
          replace S16 := kp hk S16
          replace S72 := kp hk S72
          replace S17 := kp hk S17
          replace S18 := kp hk S18
          replace S19 := kp hk S19
          replace S92 := kp hk S92
          replace S20 := kp hk S20
          replace S133 := kp hk S133
          replace S21 := kp hk S21
          replace S22 := kp hk S22
          replace S23 := kp hk S23
          replace S24 := kp hk S24
          replace HSc := RI.aft HSc hC (by intro m hm; simp at hm)
          replace HMo := RI.aft HMo hC (by intro m hm; simp at hm)
          have S153 := gotV hz' 7 hh rfl rfl rfl rfl
          clear tp2 tp3
          replace HB := aft_call HB (RelC.below_nil hC)
          clear hC hk hh; replace hz := hz'; replace hd := hd'; clear hz' hd'
          refine wp_cond_false S153.ev ?_
          refine wp_skip ?_
          refine region_text (M := []) (
              rT (tV (.int .i64 to)) ::
              rT (tV (.int .i64 to)) ::
              []) hz hd (by kernel_rfl) ?_ ?_
          · refine ⟨?_, ?_, trivial⟩
            · exact zMv hz (sv S18)
            · exact zAs hz (sd 0 rfl)
          intro a' γ' W' hz' hd' hC hk hh
          have tp2 := Ca.lt
          replace Ca := kC hC Ca
          have tp3 := Cb.lt
          replace Cb := kC hC Cb
          replace Cp6 := kC hC Cp6
          replace S3 := kp hk S3
          replace S4 := kp hk S4
          replace S10 := kp hk S10
          replace S0 := kp hk S0
          replace S11 := kp hk S11
          replace S13 := kp hk S13
          clear S15
          replace S16 := kp hk S16
          replace S72 := kp hk S72
          replace S17 := kp hk S17
          replace S18 := kp hk S18
          replace S19 := kp hk S19
          replace S92 := kp hk S92
          replace S20 := kp hk S20
          replace S133 := kp hk S133
          replace S21 := kp hk S21
          replace S22 := kp hk S22
          replace S23 := kp hk S23
          replace S24 := kp hk S24
          replace S153 := kp hk S153
          replace HSc := RI.aft HSc hC (by intro m hm; simp at hm)
          replace HMo := RI.aft HMo hC (by intro m hm; simp at hm)
          have S15 := gotV hz' 1 hh rfl rfl rfl rfl
          clear tp2 tp3
          replace HB := aft_call HB (RelC.below_nil hC)
          clear hC hk hh; replace hz := hz'; replace hd := hd'; clear hz' hd'
          refine region_text (M := []) (
              rT (tV (.int .i64 (i : Int))) ::
              rT (tV (.int .i64 ((i + 1 : Nat) : Int))) ::
              rT (tV (.int .i64 ((i + 1 : Nat) : Int))) ::
              []) hz hd (by kernel_rfl) ?_ ?_
          · refine ⟨?_, ?_, ?_, trivial⟩
            · exact zMv hz (sv S16)
            · exact sBin rfl rfl rfl hz rfl (Gd.none_ rfl) rfl (sd 0 rfl) kc (fun w => by simp [go_sem, IntKind.wrap_i64]; omega)
            · exact zAs hz (sd 1 rfl)
          intro a' γ' W' hz' hd' hC hk hh
          have tp2 := Ca.lt
          replace Ca := kC hC Ca
          have tp3 := Cb.lt
          replace Cb := kC hC Cb
          replace Cp6 := kC hC Cp6
          replace S3 := kp hk S3
          replace S4 := kp hk S4
          replace S10 := kp hk S10
          replace S0 := kp hk S0
          replace S11 := kp hk S11
          replace S13 := kp hk S13
          clear S16
          replace S72 := kp hk S72
          replace S17 := kp hk S17
          replace S18 := kp hk S18
          replace S19 := kp hk S19
          replace S92 := kp hk S92
          replace S20 := kp hk S20
          replace S133 := kp hk S133
          replace S21 := kp hk S21
          replace S22 := kp hk S22
          replace S23 := kp hk S23
          replace S24 := kp hk S24
          replace S153 := kp hk S153
          replace S15 := kp hk S15
          replace HSc := RI.aft HSc hC (by intro m hm; simp at hm)
          replace HMo := RI.aft HMo hC (by intro m hm; simp at hm)
          have S16 := gotV hz' 2 hh rfl rfl rfl rfl
          clear tp2 tp3
          replace HB := aft_call HB (RelC.below_nil hC)
          clear hC hk hh; replace hz := hz'; replace hd := hd'; clear hz' hd'
          show ∃ n', n' < _ ∧ _
          refine ⟨_, ?_, i + 1, to, H2, rfl, hz, hd, HB, S0, S3, S4, S10, S11, S13, S15, S16, HSc, HMo, Ca, Cb, I2, (by omega)⟩
          omega
        · rw [decide_eq_false hc7] at S92
          refine wp_cond_false S92.ev ?_
          refine wp_exit ?_
          refine wp_seq ?_
          have hF2 := hF (i * 3 + 2)
          have hf20 := few0 (F (i * 3 + 2)) (m := 2 * bn) (by omega)
          have hf21 := few1 (F (i * 3 + 2)) (m := 2 * bn) (by omega)
          refine region_text (M := []) (
              rT (tV (.pointer (some ⟨p6, 2, none⟩))) ::
              rT (tV (.int .i64 (F (i * 3 + 2)))) ::
              rT (tV (.int .i64 bn)) ::
              rT (tV (.int .i64 (2 * bn))) ::
              rT (tV (.int .i64 (fewV (F (i * 3 + 2)) (2 * bn)))) ::
              rT (tV (.int .i64 (fewV (F (i * 3 + 2)) (2 * bn)))) ::
              []) hz hd (by kernel_rfl) ?_ ?_
          · refine ⟨?_, ?_, ?_, ?_, ?_, ?_, trivial⟩
            · exact zFAo hz rfl rfl (sv S17) (fun w => by simp [go_sem])
            · exact zLdO 2 hz (sd 0 rfl) (cl0 Cp6) ldo_int
            · exact zMv hz (sv S0)
            · exact sBin rfl rfl rfl hz rfl (Gd.none_ rfl) rfl kc (sd 2 rfl) (fun w => run_dbl (by omega) (by omega) w)
            · exact zC2 hz Try.func8 (sd 1 rfl) (sd 3 rfl) (k11 (fun _ => l_few (n := (F (i * 3 + 2))) (m := (2 * bn)) (by omega) (by omega) (by omega) (by omega)))
            · exact zAs hz (sd 4 rfl)
          intro a' γ' W' hz' hd' hC hk hh
          have tp2 := Ca.lt
          replace Ca := kC hC Ca
          have tp3 := Cb.lt
          replace Cb := kC hC Cb
          replace Cp6 := kC hC Cp6
          replace S3 := kp hk S3
          replace S4 := kp hk S4
          replace S10 := kp hk S10
          replace S0 := kp hk S0
          replace S11 := kp hk S11
          replace S13 := kp hk S13
          replace S15 := kp hk S15
          replace S16 := kp hk S16
          replace S72 := kp hk S72
          replace S17 := kp hk S17
          replace S18 := kp hk S18
          replace S19 := kp hk S19
          replace S92 := kp hk S92
          replace HSc := RI.aft HSc hC (by intro m hm; simp at hm)
          replace HMo := RI.aft HMo hC (by intro m hm; simp at hm)
          have S20 := gotV hz' 5 hh rfl rfl rfl rfl
          clear tp2 tp3
          replace HB := aft_call HB (RelC.below_nil hC)
          clear hC hk hh; replace hz := hz'; replace hd := hd'; clear hz' hd'
          refine wp_seq ?_
          refine wp_seq ?_
          obtain ⟨nn, e_nn⟩ : ∃ x : Int, x = fewV (F (i * 3 + 2)) (2 * bn) := ⟨_, rfl⟩
          rw [← e_nn] at S20
          have hnn : 0 ≤ nn ∧ nn ≤ 2199023255552 := by omega
          have eTa := TT_of (t := tt) (y := to) (by omega) (by omega)
          have eTb := TT_of (t := m0) (y := to) (by omega) (by omega)
          have eTc := TT_of (t := to) (y := to) (by omega) (by omega)
          have eb : atH m0 (atH tt H ((bn : Int) : Rat) (divI (flQ u) per1) m0) ((bn : Int) : Rat) (divI (flQ u) per1) to = atH tt H ((bn : Int) : Rat) (divI (flQ u) per1) to := by rw [at_at I1 hm0.1 (by omega), eTb]
          have Iq := ((I1.at_ to).take nn).hb
          have hc10 : ¬ (tkE (atH tt H (((bn : Int) : Rat)) (divI (flQ u) per1) to) nn ≠ tkE (atH m0 (atH tt H ((bn : Int) : Rat) (divI (flQ u) per1) m0) (((bn : Int) : Rat)) (divI (flQ u) per1) to) nn) := fun g => g (by rw [eb])
          refine region_text (M := [p2, p3]) (
              rT (tV (.pointer (some ⟨p2, 0, none⟩))) ::
              rT (tV (.int .i64 to)) ::
              rT (tV (.int .i64 nn)) ::
              rCM 0 (tV (.int .i64 (tkE (atH tt H (((bn : Int) : Rat)) (divI (flQ u) per1) to) nn))) 80 (tO [tV (.int .i64 (TT tt to)), tQ B64 (l + 64 + 41) (tkH (atH tt H (((bn : Int) : Rat)) (divI (flQ u) per1) to) nn), tQ B64 42 (((bn : Int) : Rat)), tQ B64 (l + 64) (divI (flQ u) per1)] [1, 2, 2, 2]) p2 ::
              rT (tV (.pointer (some ⟨p3, 0, none⟩))) ::
              rT (tV (.int .i64 to)) ::
              rT (tV (.int .i64 nn)) ::
              rCM 1 (tV (.int .i64 (tkE (atH m0 (atH tt H ((bn : Int) : Rat) (divI (flQ u) per1) m0) (((bn : Int) : Rat)) (divI (flQ u) per1) to) nn))) 80 (tO [tV (.int .i64 (TT m0 to)), tQ B64 (l + 64 + 41) (tkH (atH m0 (atH tt H ((bn : Int) : Rat) (divI (flQ u) per1) m0) (((bn : Int) : Rat)) (divI (flQ u) per1) to) nn), tQ B64 42 (((bn : Int) : Rat)), tQ B64 (l + 64) (divI (flQ u) per1)] [1, 2, 2, 2]) p3 ::
              rT (tV (.bool false)) ::
              rT (tV (.bool false)) ::
              rT (tV (.pointer (some ⟨p2, 0, none⟩))) ::
              rT (tV (.int .i64 to)) ::
              rCM 0 (tQ B64 (l + 64 + 41) (atH (TT tt to) (tkH (atH tt H (((bn : Int) : Rat)) (divI (flQ u) per1) to) nn) (((bn : Int) : Rat)) (divI (flQ u) per1) to)) 80 (tO [tV (.int .i64 (TT (TT tt to) to)), tQ B64 (l + 64 + 41) (atH (TT tt to) (tkH (atH tt H (((bn : Int) : Rat)) (divI (flQ u) per1) to) nn) (((bn : Int) : Rat)) (divI (flQ u) per1) to), tQ B64 42 (((bn : Int) : Rat)), tQ B64 (l + 64) (divI (flQ u) per1)] [1, 2, 2, 2]) p2 ::
              rT (tV (.pointer (some ⟨p3, 0, none⟩))) ::
              rT (tV (.int .i64 to)) ::
              rCM 1 (tQ B64 (l + 64 + 41) (atH (TT m0 to) (tkH (atH m0 (atH tt H ((bn : Int) : Rat) (divI (flQ u) per1) m0) (((bn : Int) : Rat)) (divI (flQ u) per1) to) nn) (((bn : Int) : Rat)) (divI (flQ u) per1) to)) 80 (tO [tV (.int .i64 (TT (TT m0 to) to)), tQ B64 (l + 64 + 41) (atH (TT m0 to) (tkH (atH m0 (atH tt H ((bn : Int) : Rat) (divI (flQ u) per1) m0) (((bn : Int) : Rat)) (divI (flQ u) per1) to) nn) (((bn : Int) : Rat)) (divI (flQ u) per1) to), tQ B64 42 (((bn : Int) : Rat)), tQ B64 (l + 64) (divI (flQ u) per1)] [1, 2, 2, 2]) p3 ::
              rT (tV (.int .i64 (cmpQ (atH (TT tt to) (tkH (atH tt H (((bn : Int) : Rat)) (divI (flQ u) per1) to) nn) (((bn : Int) : Rat)) (divI (flQ u) per1) to) (atH (TT m0 to) (tkH (atH m0 (atH tt H ((bn : Int) : Rat) (divI (flQ u) per1) m0) (((bn : Int) : Rat)) (divI (flQ u) per1) to) nn) (((bn : Int) : Rat)) (divI (flQ u) per1) to)))) ::
              rT (tV (.bool (decide (atH (TT tt to) (tkH (atH tt H (((bn : Int) : Rat)) (divI (flQ u) per1) to) nn) (((bn : Int) : Rat)) (divI (flQ u) per1) to ≠ atH (TT m0 to) (tkH (atH m0 (atH tt H ((bn : Int) : Rat) (divI (flQ u) per1) m0) (((bn : Int) : Rat)) (divI (flQ u) per1) to) nn) (((bn : Int) : Rat)) (divI (flQ u) per1) to)))) ::
              rT (tV (.bool (decide (atH (TT tt to) (tkH (atH tt H (((bn : Int) : Rat)) (divI (flQ u) per1) to) nn) (((bn : Int) : Rat)) (divI (flQ u) per1) to ≠ atH (TT m0 to) (tkH (atH m0 (atH tt H ((bn : Int) : Rat) (divI (flQ u) per1) m0) (((bn : Int) : Rat)) (divI (flQ u) per1) to) nn) (((bn : Int) : Rat)) (divI (flQ u) per1) to)))) ::
              []) hz hd (by kernel_rfl) ?_ ?_
          · refine ⟨?_, ?_, ?_, ?_, ?_, ?_, ?_, ?_, ?_, ?_, ?_, ?_, ?_, ?_, ?_, ?_, ?_, ?_, ?_, trivial⟩
            · exact zMv hz (sv S11)
            · exact zMv hz (sv S18)
            · exact zMv hz (sv S20)
            · exact zCM (k := 0) (p := p2) (sid := 80) (T1 := tO [tV (.int .i64 tt), tQ B64 (l + 64 + 41) H, tQ B64 42 (((bn : Int) : Rat)), tQ B64 (l + 64) (divI (flQ u) per1)] [1, 2, 2, 2]) (T := tO [tV (.int .i64 (TT tt to)), tQ B64 (l + 64 + 41) (tkH (atH tt H (((bn : Int) : Rat)) (divI (flQ u) per1) to) nn), tQ B64 42 (((bn : Int) : Rat)), tQ B64 (l + 64) (divI (flQ u) per1)] [1, 2, 2, 2]) (T0 := tV (.int .i64 (tkE (atH tt H (((bn : Int) : Rat)) (divI (flQ u) per1) to) nn))) hz rfl Try.func14 (by simp [tagOf]) Ca.lt (clM (k := 0) Ca (by simp [tagOf])) (tO_nd (nd_c nd_int (nd_c nd_q (nd_c nd_q (nd_c nd_q nd_nil))))) (tO_nd (nd_c nd_int (nd_c nd_q (nd_c nd_q (nd_c nd_q nd_nil))))) (fun a γ w U hcell => (by show Calls _ _ #[a.eval (.tmp 115), a.eval (.tmp 116), a.eval (.tmp 117)] _ _; rw [show a.eval (.tmp 115) = .pointer (some ⟨p2, 0, none⟩) from Src.at_ (sd 0 rfl) U, show a.eval (.tmp 116) = .int .i64 to from Src.at_ (sd 1 rfl) U, show a.eval (.tmp 117) = .int .i64 nn from Src.at_ (sd 2 rfl) U]; exact c_take (n := to) (m := nn) hcell I1 (by omega) (by omega)))
            · exact zMv hz (sv S13)
            · exact zMv hz (sv S18)
            · exact zMv hz (sv S20)
            · exact zCM (k := 1) (p := p3) (sid := 80) (T1 := tO [tV (.int .i64 m0), tQ B64 (l + 64 + 41) (atH tt H ((bn : Int) : Rat) (divI (flQ u) per1) m0), tQ B64 42 (((bn : Int) : Rat)), tQ B64 (l + 64) (divI (flQ u) per1)] [1, 2, 2, 2]) (T := tO [tV (.int .i64 (TT m0 to)), tQ B64 (l + 64 + 41) (tkH (atH m0 (atH tt H ((bn : Int) : Rat) (divI (flQ u) per1) m0) (((bn : Int) : Rat)) (divI (flQ u) per1) to) nn), tQ B64 42 (((bn : Int) : Rat)), tQ B64 (l + 64) (divI (flQ u) per1)] [1, 2, 2, 2]) (T0 := tV (.int .i64 (tkE (atH m0 (atH tt H ((bn : Int) : Rat) (divI (flQ u) per1) m0) (((bn : Int) : Rat)) (divI (flQ u) per1) to) nn))) hz rfl Try.func14 (by simp [tagOf, n_p3_p2]) Cb.lt (clM (k := 1) Cb (by simp [tagOf, n_p3_p2])) (tO_nd (nd_c nd_int (nd_c nd_q (nd_c nd_q (nd_c nd_q nd_nil))))) (tO_nd (nd_c nd_int (nd_c nd_q (nd_c nd_q (nd_c nd_q nd_nil))))) (fun a γ w U hcell => (by show Calls _ _ #[a.eval (.tmp 119), a.eval (.tmp 120), a.eval (.tmp 121)] _ _; rw [show a.eval (.tmp 119) = .pointer (some ⟨p3, 0, none⟩) from Src.at_ (sd 4 rfl) U, show a.eval (.tmp 120) = .int .i64 to from Src.at_ (sd 5 rfl) U, show a.eval (.tmp 121) = .int .i64 nn from Src.at_ (sd 6 rfl) U]; exact c_take (n := to) (m := nn) hcell (I1.mid hm0.1 (by omega)) (by omega) (by omega)))
            · exact sBin rfl rfl rfl hz rfl (Gd.none_ rfl) rfl (sdM 3 rfl) (sdM 7 rfl) (fun w => run_f (P := tkE (atH tt H (((bn : Int) : Rat)) (divI (flQ u) per1) to) nn ≠ tkE (atH m0 (atH tt H ((bn : Int) : Rat) (divI (flQ u) per1) m0) (((bn : Int) : Rat)) (divI (flQ u) per1) to) nn) ((fun w => run_neqE) w) hc10)
            · exact zMv hz (sd 8 rfl)
            · exact zMv hz (sv S11) (g := gT 9 rfl)
            · exact zMv hz (sv S18) (g := gT 9 rfl)
            · exact zCM (k := 0) (p := p2) (sid := 80) (T1 := tO [tV (.int .i64 (TT tt to)), tQ B64 (l + 64 + 41) (tkH (atH tt H (((bn : Int) : Rat)) (divI (flQ u) per1) to) nn), tQ B64 42 (((bn : Int) : Rat)), tQ B64 (l + 64) (divI (flQ u) per1)] [1, 2, 2, 2]) (T := tO [tV (.int .i64 (TT (TT tt to) to)), tQ B64 (l + 64 + 41) (atH (TT tt to) (tkH (atH tt H (((bn : Int) : Rat)) (divI (flQ u) per1) to) nn) (((bn : Int) : Rat)) (divI (flQ u) per1) to), tQ B64 42 (((bn : Int) : Rat)), tQ B64 (l + 64) (divI (flQ u) per1)] [1, 2, 2, 2]) (T0 := tQ B64 (l + 64 + 41) (atH (TT tt to) (tkH (atH tt H (((bn : Int) : Rat)) (divI (flQ u) per1) to) nn) (((bn : Int) : Rat)) (divI (flQ u) per1) to)) hz rfl Try.func23 (by simp [tagOf]) Ca.lt (clCT 3 rfl) (tO_nd (nd_c nd_int (nd_c nd_q (nd_c nd_q (nd_c nd_q nd_nil))))) (tO_nd (nd_c nd_int (nd_c nd_q (nd_c nd_q (nd_c nd_q nd_nil))))) (fun a γ w U hcell => (by show Calls _ _ #[a.eval (.tmp 125), a.eval (.tmp 126)] _ _; rw [show a.eval (.tmp 125) = .pointer (some ⟨p2, 0, none⟩) from Src.at_ (sd 10 rfl) U, show a.eval (.tmp 126) = .int .i64 to from Src.at_ (sd 11 rfl) U]; exact c_at (n := to) hcell (BInv.take (BInv.at_ I1 to) nn) (by omega))) (g := gT 9 rfl)
            · exact zMv hz (sv S13) (g := gT 9 rfl)
            · exact zMv hz (sv S18) (g := gT 9 rfl)
            · exact zCM (k := 1) (p := p3) (sid := 80) (T1 := tO [tV (.int .i64 (TT m0 to)), tQ B64 (l + 64 + 41) (tkH (atH m0 (atH tt H ((bn : Int) : Rat) (divI (flQ u) per1) m0) (((bn : Int) : Rat)) (divI (flQ u) per1) to) nn), tQ B64 42 (((bn : Int) : Rat)), tQ B64 (l + 64) (divI (flQ u) per1)] [1, 2, 2, 2]) (T := tO [tV (.int .i64 (TT (TT m0 to) to)), tQ B64 (l + 64 + 41) (atH (TT m0 to) (tkH (atH m0 (atH tt H ((bn : Int) : Rat) (divI (flQ u) per1) m0) (((bn : Int) : Rat)) (divI (flQ u) per1) to) nn) (((bn : Int) : Rat)) (divI (flQ u) per1) to), tQ B64 42 (((bn : Int) : Rat)), tQ B64 (l + 64) (divI (flQ u) per1)] [1, 2, 2, 2]) (T0 := tQ B64 (l + 64 + 41) (atH (TT m0 to) (tkH (atH m0 (atH tt H ((bn : Int) : Rat) (divI (flQ u) per1) m0) (((bn : Int) : Rat)) (divI (flQ u) per1) to) nn) (((bn : Int) : Rat)) (divI (flQ u) per1) to)) hz rfl Try.func23 (by simp [tagOf, n_p3_p2]) Cb.lt (clCT 7 rfl) (tO_nd (nd_c nd_int (nd_c nd_q (nd_c nd_q (nd_c nd_q nd_nil))))) (tO_nd (nd_c nd_int (nd_c nd_q (nd_c nd_q (nd_c nd_q nd_nil))))) (fun a γ w U hcell => (by show Calls _ _ #[a.eval (.tmp 128), a.eval (.tmp 129)] _ _; rw [show a.eval (.tmp 128) = .pointer (some ⟨p3, 0, none⟩) from Src.at_ (sd 13 rfl) U, show a.eval (.tmp 129) = .int .i64 to from Src.at_ (sd 14 rfl) U]; exact c_at (n := to) hcell (BInv.take (BInv.at_ (I1.mid hm0.1 (by omega)) to) nn) (by omega))) (g := gT 9 rfl)
            · exact zC2 hz Try.func30 (sdM 12 rfl) (sdM 15 rfl) (fun _ _ _ h0 h1 => cq_cmp h0 h1 (by omega) (by omega)) (g := gT 9 rfl)
            · exact sBin rfl rfl rfl hz rfl (gT 9 rfl) rfl (sd 16 rfl) kc (fun w => run_cQ_neq (atH (TT tt to) (tkH (atH tt H (((bn : Int) : Rat)) (divI (flQ u) per1) to) nn) (((bn : Int) : Rat)) (divI (flQ u) per1) to) (atH (TT m0 to) (tkH (atH m0 (atH tt H ((bn : Int) : Rat) (divI (flQ u) per1) m0) (((bn : Int) : Rat)) (divI (flQ u) per1) to) nn) (((bn : Int) : Rat)) (divI (flQ u) per1) to) w)
            · exact zPF hz (sd 9 rfl) (sd 17 rfl)
          intro a' γ' W' hz' hd' hC hk hh
          replace Ca := gotM (T := tO [tV (.int .i64 (TT (TT tt to) to)), tQ B64 (l + 64 + 41) (atH (TT tt to) (tkH (atH tt H (((bn : Int) : Rat)) (divI (flQ u) per1) to) nn) (((bn : Int) : Rat)) (divI (flQ u) per1) to), tQ B64 42 (((bn : Int) : Rat)), tQ B64 (l + 64) (divI (flQ u) per1)] [1, 2, 2, 2]) (T0 := tQ B64 (l + 64 + 41) (atH (TT tt to) (tkH (atH tt H (((bn : Int) : Rat)) (divI (flQ u) per1) to) nn) (((bn : Int) : Rat)) (divI (flQ u) per1) to)) (sid := 80) (k := 0) (p := p2) hz' 12 hh rfl rfl
          replace Cb := gotM (T := tO [tV (.int .i64 (TT (TT m0 to) to)), tQ B64 (l + 64 + 41) (atH (TT m0 to) (tkH (atH m0 (atH tt H ((bn : Int) : Rat) (divI (flQ u) per1) m0) (((bn : Int) : Rat)) (divI (flQ u) per1) to) nn) (((bn : Int) : Rat)) (divI (flQ u) per1) to), tQ B64 42 (((bn : Int) : Rat)), tQ B64 (l + 64) (divI (flQ u) per1)] [1, 2, 2, 2]) (T0 := tQ B64 (l + 64 + 41) (atH (TT m0 to) (tkH (atH m0 (atH tt H ((bn : Int) : Rat) (divI (flQ u) per1) m0) (((bn : Int) : Rat)) (divI (flQ u) per1) to) nn) (((bn : Int) : Rat)) (divI (flQ u) per1) to)) (sid := 80) (k := 1) (p := p3) hz' 15 hh rfl rfl
          replace Cp6 := kC hC Cp6 (by simp [tagOf, n_p6_p2, n_p6_p3])
          replace S3 := kp hk S3
          replace S4 := kp hk S4
          replace S10 := kp hk S10
          replace S0 := kp hk S0
          replace S11 := kp hk S11
          replace S13 := kp hk S13
          replace S15 := kp hk S15
          replace S16 := kp hk S16
          replace S72 := kp hk S72
          replace S17 := kp hk S17
          replace S18 := kp hk S18
          replace S19 := kp hk S19
          replace S92 := kp hk S92
          replace S20 := kp hk S20
          replace HSc := RI.aft HSc hC (by intro m hm; simp at hm; rcases hm with rfl | rfl <;> assumption)
          replace HMo := RI.aft HMo hC (by intro m hm; simp at hm; rcases hm with rfl | rfl <;> assumption)
          have S133 := gotV hz' 18 hh rfl rfl rfl rfl
          replace HB := RelC.aftM HB hC (by intro m hm; simp at hm; rcases hm with rfl | rfl <;> assumption)
          clear hC hk hh; replace hz := hz'; replace hd := hd'; clear hz' hd'
          have hc11 : ¬ (atH (TT tt to) (tkH (atH tt H (((bn : Int) : Rat)) (divI (flQ u) per1) to) nn) (((bn : Int) : Rat)) (divI (flQ u) per1) to ≠ atH (TT m0 to) (tkH (atH m0 (atH tt H ((bn : Int) : Rat) (divI (flQ u) per1) m0) (((bn : Int) : Rat)) (divI (flQ u) per1) to) nn) (((bn : Int) : Rat)) (divI (flQ u) per1) to) := fun g => g (by rw [eTa, eTb, eb])
          rw [decide_eq_false hc11] at S133
          refine wp_cond_false S133.ev ?_
          refine wp_skip ?_
          refine wp_seq ?_
          obtain ⟨H2, e_H2⟩ : ∃ x : Rat, x = tkH (atH tt H ((bn : Int) : Rat) (divI (flQ u) per1) to) nn := ⟨_, rfl⟩
          have I2 : BInv (l + 64) to H2 ((bn : Int) : Rat) (divI (flQ u) per1) := by have := (I1.at_ to).take nn; rw [eTa, ← e_H2] at this; exact this
          replace Ca : Cell 80 (tO [tV (.int .i64 to), tQ B64 (l + 64 + 41) H2, tQ B64 42 (((bn : Int) : Rat)), tQ B64 (l + 64) (divI (flQ u) per1)] [1, 2, 2, 2]) p2 _ := Cell.to Ca (tO_to ⟨tV_to (by rw [eTa, eTc]), tQ_eq (by rw [eTa, at_self Iq (by omega), e_H2]), idT, idT, trivial⟩)
          replace Cb : Cell 80 (tO [tV (.int .i64 to), tQ B64 (l + 64 + 41) H2, tQ B64 42 (((bn : Int) : Rat)), tQ B64 (l + 64) (divI (flQ u) per1)] [1, 2, 2, 2]) p3 _ := Cell.to Cb (tO_to ⟨tV_to (by rw [eTb, eTc]), tQ_eq (by rw [eTb, eb, at_self Iq (by omega), e_H2]), idT, idT, trivial⟩)
          refine region_text (M := [p2]) (
              rT (tV (.pointer (some ⟨p2, 0, none⟩))) ::
              rT (tV (.int .i64 nn)) ::
              rCM 0 (tT [tV (.int .i64 (wait to H2 (((bn : Int) : Rat)) (divI (flQ u) per1) nn).1), tV (.int .i64 (wait to H2 (((bn : Int) : Rat)) (divI (flQ u) per1) nn).2)]) 80 (tO [tV (.int .i64 to), tQ B64 (l + 64 + 41) H2, tQ B64 42 (((bn : Int) : Rat)), tQ B64 (l + 64) (divI (flQ u) per1)] [1, 2, 2, 2]) p2 ::
              rT (tT [tV (.int .i64 (wait to H2 (((bn : Int) : Rat)) (divI (flQ u) per1) nn).1), tV (.int .i64 (wait to H2 (((bn : Int) : Rat)) (divI (flQ u) per1) nn).2)]) ::
              rT (tV (.int .i64 (wait to H2 (((bn : Int) : Rat)) (divI (flQ u) per1) nn).1)) ::
              rT (tV (.int .i64 (wait to H2 (((bn : Int) : Rat)) (divI (flQ u) per1) nn).2)) ::
              rT (tV (.int .i64 (wait to H2 (((bn : Int) : Rat)) (divI (flQ u) per1) nn).1)) ::
              rT (tV (.int .i64 (wait to H2 (((bn : Int) : Rat)) (divI (flQ u) per1) nn).2)) ::
              []) hz hd (by kernel_rfl) ?_ ?_
          · refine ⟨?_, ?_, ?_, ?_, ?_, ?_, ?_, ?_, trivial⟩
            · exact zMv hz (sv S11)
            · exact zMv hz (sv S20)
            · exact zCM (k := 0) (p := p2) (sid := 80) (T1 := tO [tV (.int .i64 to), tQ B64 (l + 64 + 41) H2, tQ B64 42 (((bn : Int) : Rat)), tQ B64 (l + 64) (divI (flQ u) per1)] [1, 2, 2, 2]) (T := tO [tV (.int .i64 to), tQ B64 (l + 64 + 41) H2, tQ B64 42 (((bn : Int) : Rat)), tQ B64 (l + 64) (divI (flQ u) per1)] [1, 2, 2, 2]) (T0 := tT [tV (.int .i64 (wait to H2 (((bn : Int) : Rat)) (divI (flQ u) per1) nn).1), tV (.int .i64 (wait to H2 (((bn : Int) : Rat)) (divI (flQ u) per1) nn).2)]) hz rfl Try.func28 (by simp [tagOf]) Ca.lt (clM (k := 0) Ca (by simp [tagOf])) (tO_nd (nd_c nd_int (nd_c nd_q (nd_c nd_q (nd_c nd_q nd_nil))))) (tO_nd (nd_c nd_int (nd_c nd_q (nd_c nd_q (nd_c nd_q nd_nil))))) (fun a γ w U hcell => (by show Calls _ _ #[a.eval (.tmp 135), a.eval (.tmp 136)] _ _; rw [show a.eval (.tmp 135) = .pointer (some ⟨p2, 0, none⟩) from Src.at_ (sd 0 rfl) U, show a.eval (.tmp 136) = .int .i64 nn from Src.at_ (sd 1 rfl) U]; exact c_wait (n := nn) hcell I2 (by omega) (by omega)))
            · exact zMv hz (sdM 2 rfl)
            · exact zExt hz (sd 3 rfl)
            · exact zExt hz (sd 3 rfl)
            · exact zAs hz (sd 4 rfl)
            · exact zAs hz (sd 5 rfl)
          intro a' γ' W' hz' hd' hC hk hh
          replace Ca := gotM (T := tO [tV (.int .i64 to), tQ B64 (l + 64 + 41) H2, tQ B64 42 (((bn : Int) : Rat)), tQ B64 (l + 64) (divI (flQ u) per1)] [1, 2, 2, 2]) (T0 := tT [tV (.int .i64 (wait to H2 (((bn : Int) : Rat)) (divI (flQ u) per1) nn).1), tV (.int .i64 (wait to H2 (((bn : Int) : Rat)) (divI (flQ u) per1) nn).2)]) (sid := 80) (k := 0) (p := p2) hz' 2 hh rfl rfl
          have tp3 := Cb.lt
          replace Cb := kC hC Cb (by simp [tagOf, n_p3_p2])
          replace Cp6 := kC hC Cp6 (by simp [tagOf, n_p6_p2])
          replace S3 := kp hk S3
          replace S4 := kp hk S4
          replace S10 := kp hk S10
          replace S0 := kp hk S0
          replace S11 := kp hk S11
          replace S13 := kp hk S13
          replace S15 := kp hk S15
          replace S16 := kp hk S16
          replace S72 := kp hk S72
          replace S17 := kp hk S17
          replace S18 := kp hk S18
          replace S19 := kp hk S19
          replace S92 := kp hk S92
          replace S20 := kp hk S20
          replace S133 := kp hk S133
          replace HSc := RI.aft HSc hC (by intro m hm; simp at hm; rcases hm with rfl <;> assumption)
          replace HMo := RI.aft HMo hC (by intro m hm; simp at hm; rcases hm with rfl <;> assumption)
          have S21 := gotV hz' 6 hh rfl rfl rfl rfl
          have S22 := gotV hz' 7 hh rfl rfl rfl rfl
          clear tp3
          replace HB := RelC.aftM HB hC (by intro m hm; simp at hm; rcases hm with rfl <;> assumption)
          clear hC hk hh; replace hz := hz'; replace hd := hd'; clear hz' hd'
          refine wp_seq ?_
          refine region_text (M := [p3]) (
              rT (tV (.pointer (some ⟨p3, 0, none⟩))) ::
              rT (tV (.int .i64 nn)) ::
              rCM 0 (tT [tV (.int .i64 (wait to H2 (((bn : Int) : Rat)) (divI (flQ u) per1) nn).1), tV (.int .i64 (wait to H2 (((bn : Int) : Rat)) (divI (flQ u) per1) nn).2)]) 80 (tO [tV (.int .i64 to), tQ B64 (l + 64 + 41) H2, tQ B64 42 (((bn : Int) : Rat)), tQ B64 (l + 64) (divI (flQ u) per1)] [1, 2, 2, 2]) p3 ::
              rT (tT [tV (.int .i64 (wait to H2 (((bn : Int) : Rat)) (divI (flQ u) per1) nn).1), tV (.int .i64 (wait to H2 (((bn : Int) : Rat)) (divI (flQ u) per1) nn).2)]) ::
              rT (tV (.int .i64 (wait to H2 (((bn : Int) : Rat)) (divI (flQ u) per1) nn).1)) ::
              rT (tV (.int .i64 (wait to H2 (((bn : Int) : Rat)) (divI (flQ u) per1) nn).2)) ::
              rT (tV (.int .i64 (wait to H2 (((bn : Int) : Rat)) (divI (flQ u) per1) nn).1)) ::
              rT (tV (.int .i64 (wait to H2 (((bn : Int) : Rat)) (divI (flQ u) per1) nn).2)) ::
              []) hz hd (by kernel_rfl) ?_ ?_
          · refine ⟨?_, ?_, ?_, ?_, ?_, ?_, ?_, ?_, trivial⟩
            · exact zMv hz (sv S13)
            · exact zMv hz (sv S20)
            · exact zCM (k := 0) (p := p3) (sid := 80) (T1 := tO [tV (.int .i64 to), tQ B64 (l + 64 + 41) H2, tQ B64 42 (((bn : Int) : Rat)), tQ B64 (l + 64) (divI (flQ u) per1)] [1, 2, 2, 2]) (T := tO [tV (.int .i64 to), tQ B64 (l + 64 + 41) H2, tQ B64 42 (((bn : Int) : Rat)), tQ B64 (l + 64) (divI (flQ u) per1)] [1, 2, 2, 2]) (T0 := tT [tV (.int .i64 (wait to H2 (((bn : Int) : Rat)) (divI (flQ u) per1) nn).1), tV (.int .i64 (wait to H2 (((bn : Int) : Rat)) (divI (flQ u) per1) nn).2)]) hz rfl Try.func28 (by simp [tagOf]) Cb.lt (clM (k := 0) Cb (by simp [tagOf])) (tO_nd (nd_c nd_int (nd_c nd_q (nd_c nd_q (nd_c nd_q nd_nil))))) (tO_nd (nd_c nd_int (nd_c nd_q (nd_c nd_q (nd_c nd_q nd_nil))))) (fun a γ w U hcell => (by show Calls _ _ #[a.eval (.tmp 141), a.eval (.tmp 142)] _ _; rw [show a.eval (.tmp 141) = .pointer (some ⟨p3, 0, none⟩) from Src.at_ (sd 0 rfl) U, show a.eval (.tmp 142) = .int .i64 nn from Src.at_ (sd 1 rfl) U]; exact c_wait (n := nn) hcell I2 (by omega) (by omega)))
            · exact zMv hz (sdM 2 rfl)
            · exact zExt hz (sd 3 rfl)
            · exact zExt hz (sd 3 rfl)
            · exact zAs hz (sd 4 rfl)
            · exact zAs hz (sd 5 rfl)
          intro a' γ' W' hz' hd' hC hk hh
          have tp2 := Ca.lt
          replace Ca := kC hC Ca (by simp [tagOf, n_p2_p3])
          replace Cb := gotM (T := tO [tV (.int .i64 to), tQ B64 (l + 64 + 41) H2, tQ B64 42 (((bn : Int) : Rat)), tQ B64 (l + 64) (divI (flQ u) per1)] [1, 2, 2, 2]) (T0 := tT [tV (.int .i64 (wait to H2 (((bn : Int) : Rat)) (divI (flQ u) per1) nn).1), tV (.int .i64 (wait to H2 (((bn : Int) : Rat)) (divI (flQ u) per1) nn).2)]) (sid := 80) (k := 0) (p := p3) hz' 2 hh rfl rfl
          replace Cp6 := kC hC Cp6 (by simp [tagOf, n_p6_p3])
          replace S3 := kp hk S3
          replace S4 := kp hk S4
          replace S10 := kp hk S10
          replace S0 := kp hk S0
          replace S11 := kp hk S11
          replace S13 := kp hk S13
          replace S15 := kp hk S15
          replace S16 := kp hk S16
          replace S72 := kp hk S72
          replace S17 := kp hk S17
          replace S18 := kp hk S18
          replace S19 := kp hk S19
          replace S92 := kp hk S92
          replace S20 := kp hk S20
          replace S133 := kp hk S133
          replace S21 := kp hk S21
          replace S22 := kp hk S22
          replace HSc := RI.aft HSc hC (by intro m hm; simp at hm; rcases hm with rfl <;> assumption)
          replace HMo := RI.aft HMo hC (by intro m hm; simp at hm; rcases hm with rfl <;> assumption)
          have S23 := gotV hz' 6 hh rfl rfl rfl rfl
          have S24 := gotV hz' 7 hh rfl rfl rfl rfl
          clear tp2
          replace HB := RelC.aftM HB hC (by intro m hm; simp at hm; rcases hm with rfl <;> assumption)
          clear hC hk hh; replace hz := hz'; replace hd := hd'; clear hz' hd'
          refine wp_seq ?_
          refine wp_seq ?_
          refine region_text (M := []) (
              rT (tV (.int .i64 (wait to H2 (((bn : Int) : Rat)) (divI (flQ u) per1) nn).1)) ::
              rT (tV (.int .i64 (wait to H2 (((bn : Int) : Rat)) (divI (flQ u) per1) nn).1)) ::
              rT (tV (.bool false)) ::
              rT (tV (.bool false)) ::
              rT (tV (.int .i64 (wait to H2 (((bn : Int) : Rat)) (divI (flQ u) per1) nn).2)) ::
              rT (tV (.int .i64 (wait to H2 (((bn : Int) : Rat)) (divI (flQ u) per1) nn).2)) ::
              rT (tV (.bool false)) ::
              rT (tV (.bool false)) ::
              []) hz hd (by kernel_rfl) ?_ ?_
          · refine ⟨?_, ?_, ?_, ?_, ?_, ?_, ?_, ?_, trivial⟩
            · exact zMv hz (sv S21)
            · exact zMv hz (sv S23)
            · exact sBin rfl rfl rfl hz rfl (Gd.none_ rfl) rfl (sd 0 rfl) (sd 1 rfl) (fun w => by simp [go_sem])
            · exact zMv hz (sd 2 rfl)
            · exact zMv hz (sv S22) (g := gT 3 rfl)
            · exact zMv hz (sv S24) (g := gT 3 rfl)
            · exact sBin rfl rfl rfl hz rfl (gT 3 rfl) rfl (sd 4 rfl) (sd 5 rfl) (fun w => by simp [go_sem])
            · exact zPF hz (sd 3 rfl) (sd 6 rfl)
          intro a' γ' W' hz' hd' hC hk hh
          have tp2 := Ca.lt
          replace Ca := kC hC Ca
          have tp3 := Cb.lt
          replace Cb := kC hC Cb
          replace Cp6 := kC hC Cp6
          replace S3 := kp hk S3
          replace S4 := kp hk S4
          replace S10 := kp hk S10
          replace S0 := kp hk S0
          replace S11 := kp hk S11
          replace S13 := kp hk S13
          replace S15 := kp hk S15
          replace S16 := kp hk S16
          replace S72 := kp hk S72
          replace S17 := kp hk S17
          replace S18 := kp hk S18
          replace S19 := kp hk S19
          replace S92 := kp hk S92
          replace S20 := kp hk S20
          replace S133 := kp hk S133
          replace S21 := kp hk S21
          replace S22 := kp hk S22
          replace S23 := kp hk S23
          replace S24 := kp hk S24
          replace HSc := RI.aft HSc hC (by intro m hm; simp at hm)
          replace HMo := RI.aft HMo hC (by intro m hm; simp at hm)
          have S153 := gotV hz' 7 hh rfl rfl rfl rfl
          clear tp2 tp3
          replace HB := aft_call HB (RelC.below_nil hC)
          clear hC hk hh; replace hz := hz'; replace hd := hd'; clear hz' hd'
          refine wp_cond_false S153.ev ?_
          refine wp_skip ?_
          refine region_text (M := []) (
              rT (tV (.int .i64 to)) ::
              rT (tV (.int .i64 to)) ::
              []) hz hd (by kernel_rfl) ?_ ?_
          · refine ⟨?_, ?_, trivial⟩
            · exact zMv hz (sv S18)
            · exact zAs hz (sd 0 rfl)
          intro a' γ' W' hz' hd' hC hk hh
          have tp2 := Ca.lt
          replace Ca := kC hC Ca
          have tp3 := Cb.lt
          replace Cb := kC hC Cb
          replace Cp6 := kC hC Cp6
          replace S3 := kp hk S3
          replace S4 := kp hk S4
          replace S10 := kp hk S10
          replace S0 := kp hk S0
          replace S11 := kp hk S11
          replace S13 := kp hk S13
          clear S15
          replace S16 := kp hk S16
          replace S72 := kp hk S72
          replace S17 := kp hk S17
          replace S18 := kp hk S18
          replace S19 := kp hk S19
          replace S92 := kp hk S92
          replace S20 := kp hk S20
          replace S133 := kp hk S133
          replace S21 := kp hk S21
          replace S22 := kp hk S22
          replace S23 := kp hk S23
          replace S24 := kp hk S24
          replace S153 := kp hk S153
          replace HSc := RI.aft HSc hC (by intro m hm; simp at hm)
          replace HMo := RI.aft HMo hC (by intro m hm; simp at hm)
          have S15 := gotV hz' 1 hh rfl rfl rfl rfl
          clear tp2 tp3
          replace HB := aft_call HB (RelC.below_nil hC)
          clear hC hk hh; replace hz := hz'; replace hd := hd'; clear hz' hd'
          refine region_text (M := []) (
              rT (tV (.int .i64 (i : Int))) ::
              rT (tV (.int .i64 ((i + 1 : Nat) : Int))) ::
              rT (tV (.int .i64 ((i + 1 : Nat) : Int))) ::
              []) hz hd (by kernel_rfl) ?_ ?_
          · refine ⟨?_, ?_, ?_, trivial⟩
            · exact zMv hz (sv S16)
            · exact sBin rfl rfl rfl hz rfl (Gd.none_ rfl) rfl (sd 0 rfl) kc (fun w => by simp [go_sem, IntKind.wrap_i64]; omega)
            · exact zAs hz (sd 1 rfl)
          intro a' γ' W' hz' hd' hC hk hh
          have tp2 := Ca.lt
          replace Ca := kC hC Ca
          have tp3 := Cb.lt
          replace Cb := kC hC Cb
          replace Cp6 := kC hC Cp6
          replace S3 := kp hk S3
          replace S4 := kp hk S4
          replace S10 := kp hk S10
          replace S0 := kp hk S0
          replace S11 := kp hk S11
          replace S13 := kp hk S13
          clear S16
          replace S72 := kp hk S72
          replace S17 := kp hk S17
          replace S18 := kp hk S18
          replace S19 := kp hk S19
          replace S92 := kp hk S92
          replace S20 := kp hk S20
          replace S133 := kp hk S133
          replace S21 := kp hk S21
          replace S22 := kp hk S22
          replace S23 := kp hk S23
          replace S24 := kp hk S24
          replace S153 := kp hk S153
          replace S15 := kp hk S15
          replace HSc := RI.aft HSc hC (by intro m hm; simp at hm)
          replace HMo := RI.aft HMo hC (by intro m hm; simp at hm)
          have S16 := gotV hz' 2 hh rfl rfl rfl rfl
          clear tp2 tp3
          replace HB := aft_call HB (RelC.below_nil hC)
          clear hC hk hh; replace hz := hz'; replace hd := hd'; clear hz' hd'
          show ∃ n', n' < _ ∧ _
          refine ⟨_, ?_, i + 1, to, H2, rfl, hz, hd, HB, S0, S3, S4, S10, S11, S13, S15, S16, HSc, HMo, Ca, Cb, I2, (by omega)⟩
          omega
      · refine region_text (M := []) (
            rT (tV (.int .i64 (i : Int))) ::
            rT (tV (.slice As ns cs)) ::
            rT (tV (.int .i64 (ns : Int))) ::
            rT (tV (.bool true)) ::
            rT (tV (.bool true)) ::
            rT (tV (.int .i64 (i : Int))) ::
            rT (tV (.bool false)) ::
            rT (tV (.bool false)) ::
            rT (tV (.bool false)) ::
            rT (tV undef) ::
            rT (tV undef) ::
            rT (tV (.bool false)) ::
            []) hz hd (by kernel_rfl) ?_ ?_
        · refine ⟨?_, ?_, ?_, ?_, ?_, ?_, ?_, ?_, ?_, ?_, ?_, ?_, trivial⟩
          · exact zMv hz (sv S16)
          · exact zMv hz (sv S3)
          · exact sLenK hz rfl (sd 1 rfl) (fun w => by simp [go_sem])
          · exact sBin rfl rfl rfl hz rfl (Gd.none_ rfl) rfl (sd 0 rfl) (sd 2 rfl) (fun w => run_t (P := (i : Int) < (ns : Int)) ((fun w => run_lss) w) hc4)
          · exact zMv hz (sd 3 rfl)
          · exact zMv hz (sv S16) (g := gT 4 rfl)
          · exact sBin rfl rfl rfl hz rfl (gT 4 rfl) rfl (sd 5 rfl) kc (fun w => run_f (P := (i : Int) < 60) ((fun w => run_lss) w) hc5)
          · exact zPT hz (sd 4 rfl) (sd 6 rfl)
          · exact zMv hz (sd 7 rfl)
          · exact zSkU hz (gN 8 rfl)
          · exact zSkU hz (gN 8 rfl)
          · exact zPF hz (sd 8 rfl) kc
        intro a' γ' W' hz' hd' hC hk hh
        have tp2 := Ca.lt
        replace Ca := kC hC Ca
        have tp3 := Cb.lt
        replace Cb := kC hC Cb
        replace S3 := kp hk S3
        replace S4 := kp hk S4
        replace S10 := kp hk S10
        replace S0 := kp hk S0
        replace S11 := kp hk S11
        replace S13 := kp hk S13
        replace S15 := kp hk S15
        replace S16 := kp hk S16
        replace HSc := RI.aft HSc hC (by intro m hm; simp at hm)
        replace HMo := RI.aft HMo hC (by intro m hm; simp at hm)
        have S72 := gotV hz' 11 hh rfl rfl rfl rfl
        clear tp2 tp3
        replace HB := aft_call HB (RelC.below_nil hC)
        clear hC hk hh; replace hz := hz'; replace hd := hd'; clear hz' hd'
        refine wp_cond_false S72.ev ?_
        refine wp_exit ?_
        refine wp_seq ?_
        refine region_text (M := []) (
            rT (tV (.bool true)) ::
            []) hz hd (by kernel_rfl) ?_ ?_
        · refine ⟨?_, trivial⟩
          · exact zAs hz kc
        intro a' γ' W' hz' hd' hC hk hh
        have tp2 := Ca.lt
        clear Ca
        have tp3 := Cb.lt
        clear Cb
        clear S3
        clear S4
        clear S10
        clear S0
        clear S11
        clear S13
        clear S15
        clear S16
        clear S72
        replace HSc := RI.aft HSc hC (by intro m hm; simp at hm)
        replace HMo := RI.aft HMo hC (by intro m hm; simp at hm)
        have S10 := gotV hz' 0 hh rfl rfl rfl rfl
        clear tp2 tp3
        replace HB := aft_call HB (RelC.below_nil hC)
        clear hC hk hh; replace hz := hz'; replace hd := hd'; clear hz' hd'
        refine wp_ret ?_
        exact ret1 (by kernel_rfl) S10 hd ⟨_, rfl, rfl, HB⟩
    · refine region_text (M := []) (
          rT (tV (.int .i64 (i : Int))) ::
          rT (tV (.slice As ns cs)) ::
          rT (tV (.int .i64 (ns : Int))) ::
          rT (tV (.bool false)) ::
          rT (tV (.bool false)) ::
          rT (tV undef) ::
          rT (tV undef) ::
          rT (tV (.bool false)) ::
          rT (tV (.bool false)) ::
          rT (tV undef) ::
          rT (tV undef) ::
          rT (tV (.bool false)) ::
          []) hz hd (by kernel_rfl) ?_ ?_
      · refine ⟨?_, ?_, ?_, ?_, ?_, ?_, ?_, ?_, ?_, ?_, ?_, ?_, trivial⟩
        · exact zMv hz (sv S16)
        · exact zMv hz (sv S3)
        · exact sLenK hz rfl (sd 1 rfl) (fun w => by simp [go_sem])
        · exact sBin rfl rfl rfl hz rfl (Gd.none_ rfl) rfl (sd 0 rfl) (sd 2 rfl) (fun w => run_f (P := (i : Int) < (ns : Int)) ((fun w => run_lss) w) hc4)
        · exact zMv hz (sd 3 rfl)
        · exact zSkU hz (gN 4 rfl)
        · exact zSkU hz (gN 4 rfl)
        · exact zPF hz (sd 4 rfl) kc
        · exact zMv hz (sd 7 rfl)
        · exact zSkU hz (gN 8 rfl)
        · exact zSkU hz (gN 8 rfl)
        · exact zPF hz (sd 8 rfl) kc
      intro a' γ' W' hz' hd' hC hk hh
      have tp2 := Ca.lt
      replace Ca := kC hC Ca
      have tp3 := Cb.lt
      replace Cb := kC hC Cb
      replace S3 := kp hk S3
      replace S4 := kp hk S4
      replace S10 := kp hk S10
      replace S0 := kp hk S0
      replace S11 := kp hk S11
      replace S13 := kp hk S13
      replace S15 := kp hk S15
      replace S16 := kp hk S16
      replace HSc := RI.aft HSc hC (by intro m hm; simp at hm)
      replace HMo := RI.aft HMo hC (by intro m hm; simp at hm)
      have S72 := gotV hz' 11 hh rfl rfl rfl rfl
      clear tp2 tp3
      replace HB := aft_call HB (RelC.below_nil hC)
      clear hC hk hh; replace hz := hz'; replace hd := hd'; clear hz' hd'
      refine wp_cond_false S72.ev ?_
      refine wp_exit ?_
      refine wp_seq ?_
      refine region_text (M := []) (
          rT (tV (.bool true)) ::
          []) hz hd (by kernel_rfl) ?_ ?_
      · refine ⟨?_, trivial⟩
        · exact zAs hz kc
      intro a' γ' W' hz' hd' hC hk hh
      have tp2 := Ca.lt
      clear Ca
      have tp3 := Cb.lt
      clear Cb
      clear S3
      clear S4
      clear S10
      clear S0
      clear S11
      clear S13
      clear S15
      clear S16
      clear S72
      replace HSc := RI.aft HSc hC (by intro m hm; simp at hm)
      replace HMo := RI.aft HMo hC (by intro m hm; simp at hm)
      have S10 := gotV hz' 0 hh rfl rfl rfl rfl
      clear tp2 tp3
      replace HB := aft_call HB (RelC.below_nil hC)
      clear hC hk hh; replace hz := hz'; replace hd := hd'; clear hz' hd'
      refine wp_ret ?_
      exact ret1 (by kernel_rfl) S10 hd ⟨_, rfl, rfl, HB⟩
  · refine region_text (M := []) (
        rT (tV (.int .i64 bn)) ::
        rT (tV (.int .u64 (u : Int))) ::
        rT (tV (.float .f64 u)) ::
        rT (tV (.int .i64 per1)) ::
        rT (tT [tV (.pointer none), tV (.int .i64 (newE bn u per1 0))]) ::
        rT (tT [tV (.pointer none), tV (.int .i64 (newE bn u per1 0))]) ::
        rT (tV (.pointer none)) ::
        rT (tV (.int .i64 (newE bn u per1 0))) ::
        rT (tV (.pointer none)) ::
        rT (tV (.int .i64 (newE bn u per1 0))) ::
        []) hz hd (by kernel_rfl) ?_ ?_
    · refine ⟨?_, ?_, ?_, ?_, ?_, ?_, ?_, ?_, ?_, ?_, trivial⟩
      · exact zMv hz (sv S0)
      · exact zMv hz (sv S1)
      · exact zC1 hz Try.func10 (sd 1 rfl) (k1 (fun _ => c_float))
      · exact zMv hz (sv S2)
      · exact sCall rfl rfl rfl hz rfl (Gd.none_ rfl) rfl Try.func9 (by kernel_rfl) (by kernel_rfl) fun a γ w U => (by show Calls _ _ #[a.eval (.tmp 32), a.eval (.tmp 34), a.eval (.tmp 35), .int .i64 0] _ _; rw [show a.eval (.tmp 32) = .int .i64 bn from Src.at_ (sd 0 rfl) U, show a.eval (.tmp 34) = .float .f64 u from Src.at_ (sd 2 rfl) U, show a.eval (.tmp 35) = .int .i64 per1 from Src.at_ (sd 3 rfl) U]; exact c_new_no (l := l) hl (by omega) hu (by omega) hc1)
      · exact zMv hz (sd 4 rfl)
      · exact zExt hz (sd 5 rfl)
      · exact zExt hz (sd 5 rfl)
      · exact zAs hz (sd 6 rfl)
      · exact zAs hz (sd 7 rfl)
    intro a' γ' W' hz' hd' hC hk hh
    replace S1 := kp hk S1
    replace S3 := kp hk S3
    replace S4 := kp hk S4
    replace S10 := kp hk S10
    replace S0 := kp hk S0
    replace S2 := kp hk S2
    replace HSc := RI.aft HSc hC (by intro m hm; simp at hm)
    replace HMo := RI.aft HMo hC (by intro m hm; simp at hm)
    have S11 := gotV hz' 8 hh rfl rfl rfl rfl
    have S12 := gotV hz' 9 hh rfl rfl rfl rfl
    replace HB := aft_call HB (RelC.below_nil hC)
    clear hC hk hh; replace hz := hz'; replace hd := hd'; clear hz' hd'
    refine wp_seq ?_
    refine region_text (M := []) (
        rT (tV (.int .i64 bn)) ::
        rT (tV (.int .u64 (u : Int))) ::
        rT (tV (.float .f64 u)) ::
        rT (tV (.int .i64 per1)) ::
        rT (tT [tV (.pointer none), tV (.int .i64 (newE bn u per1 0))]) ::
        rT (tT [tV (.pointer none), tV (.int .i64 (newE bn u per1 0))]) ::
        rT (tV (.pointer none)) ::
        rT (tV (.int .i64 (newE bn u per1 0))) ::
        rT (tV (.pointer none)) ::
        rT (tV (.int .i64 (newE bn u per1 0))) ::
        []) hz hd (by kernel_rfl) ?_ ?_
    · refine ⟨?_, ?_, ?_, ?_, ?_, ?_, ?_, ?_, ?_, ?_, trivial⟩
      · exact zMv hz (sv S0)
      · exact zMv hz (sv S1)
      · exact zC1 hz Try.func10 (sd 1 rfl) (k1 (fun _ => c_float))
      · exact zMv hz (sv S2)
      · exact sCall rfl rfl rfl hz rfl (Gd.none_ rfl) rfl Try.func9 (by kernel_rfl) (by kernel_rfl) fun a γ w U => (by show Calls _ _ #[a.eval (.tmp 40), a.eval (.tmp 42), a.eval (.tmp 43), .int .i64 0] _ _; rw [show a.eval (.tmp 40) = .int .i64 bn from Src.at_ (sd 0 rfl) U, show a.eval (.tmp 42) = .float .f64 u from Src.at_ (sd 2 rfl) U, show a.eval (.tmp 43) = .int .i64 per1 from Src.at_ (sd 3 rfl) U]; exact c_new_no (l := l) hl (by omega) hu (by omega) hc1)
      · exact zMv hz (sd 4 rfl)
      · exact zExt hz (sd 5 rfl)
      · exact zExt hz (sd 5 rfl)
      · exact zAs hz (sd 6 rfl)
      · exact zAs hz (sd 7 rfl)
    intro a' γ' W' hz' hd' hC hk hh
    clear S1
    replace S3 := kp hk S3
    replace S4 := kp hk S4
    replace S10 := kp hk S10
    replace S0 := kp hk S0
    clear S2
    replace S11 := kp hk S11
    replace S12 := kp hk S12
    replace HSc := RI.aft HSc hC (by intro m hm; simp at hm)
    replace HMo := RI.aft HMo hC (by intro m hm; simp at hm)
    have S13 := gotV hz' 8 hh rfl rfl rfl rfl
    have S14 := gotV hz' 9 hh rfl rfl rfl rfl
    replace HB := aft_call HB (RelC.below_nil hC)
    clear hC hk hh; replace hz := hz'; replace hd := hd'; clear hz' hd'
    refine wp_seq ?_
    refine wp_seq ?_
    refine region_text (M := []) (
        rT (tV (.bool true)) ::
        rT (tV (.bool false)) ::
        rT (tV (.bool false)) ::
        rT (tV (.int .i64 (newE bn u per1 0))) ::
        rT (tV (.int .i64 (newE bn u per1 0))) ::
        rT (tV (.bool false)) ::
        rT (tV (.bool false)) ::
        rT (tV (.bool false)) ::
        rT (tV (.pointer none)) ::
        rT (tV (.bool true)) ::
        rT (tV (.pointer none)) ::
        rT (tV (.bool true)) ::
        rT (tV (.bool false)) ::
        rT (tV (.bool false)) ::
        []) hz hd (by kernel_rfl) ?_ ?_
    · refine ⟨?_, ?_, ?_, ?_, ?_, ?_, ?_, ?_, ?_, ?_, ?_, ?_, ?_, ?_, trivial⟩
      · exact zC0 hz Try.func12 (fun _ => l_told8)
      · exact zNot hz (sd 0 rfl)
      · exact zMv hz (sd 1 rfl)
      · exact zMv hz (sv S12) (g := gT 2 rfl)
      · exact zMv hz (sv S14) (g := gT 2 rfl)
      · exact sBin rfl rfl rfl hz rfl (gT 2 rfl) rfl (sd 3 rfl) (sd 4 rfl) (fun w => by simp [go_sem])
      · exact zPF hz (sd 2 rfl) (sd 5 rfl)
      · exact zMv hz (sd 6 rfl)
      · exact zMv hz (sv S11) (g := gT 7 rfl)
      · exact sBin rfl rfl rfl hz rfl (gT 7 rfl) rfl (sd 8 rfl) kc (fun w => by simp [go_sem])
      · exact zMv hz (sv S13) (g := gT 7 rfl)
      · exact sBin rfl rfl rfl hz rfl (gT 7 rfl) rfl (sd 10 rfl) kc (fun w => by simp [go_sem])
      · exact sBin rfl rfl rfl hz rfl (gT 7 rfl) rfl (sd 9 rfl) (sd 11 rfl) (fun w => by kernel_rfl)
      · exact zPF hz (sd 7 rfl) (sd 12 rfl)
    intro a' γ' W' hz' hd' hC hk hh
    replace S3 := kp hk S3
    replace S4 := kp hk S4
    replace S10 := kp hk S10
    replace S0 := kp hk S0
    replace S11 := kp hk S11
    clear S12
    replace S13 := kp hk S13
    clear S14
    replace HSc := RI.aft HSc hC (by intro m hm; simp at hm)
    replace HMo := RI.aft HMo hC (by intro m hm; simp at hm)
    have S60 := gotV hz' 13 hh rfl rfl rfl rfl
    replace HB := aft_call HB (RelC.below_nil hC)
    clear hC hk hh; replace hz := hz'; replace hd := hd'; clear hz' hd'
    refine wp_cond_false S60.ev ?_
    refine wp_skip ?_
    refine wp_seq ?_
    refine region_text (M := []) (
        rT (tV (.int .i64 0)) ::
        []) hz hd (by kernel_rfl) ?_ ?_
    · refine ⟨?_, trivial⟩
      · exact zAs hz kc
    intro a' γ' W' hz' hd' hC hk hh
    replace S3 := kp hk S3
    replace S4 := kp hk S4
    replace S10 := kp hk S10
    replace S0 := kp hk S0
    replace S11 := kp hk S11
    replace S13 := kp hk S13
    clear S60
    replace HSc := RI.aft HSc hC (by intro m hm; simp at hm)
    replace HMo := RI.aft HMo hC (by intro m hm; simp at hm)
    have S15 := gotV hz' 0 hh rfl rfl rfl rfl
    replace HB := aft_call HB (RelC.below_nil hC)
    clear hC hk hh; replace hz := hz'; replace hd := hd'; clear hz' hd'
    refine wp_seq ?_
    refine wp_seq ?_
    refine region_text (M := []) (
        rT (tV (.int .i64 0)) ::
        []) hz hd (by kernel_rfl) ?_ ?_
    · refine ⟨?_, trivial⟩
      · exact zAs hz kc
    intro a' γ' W' hz' hd' hC hk hh
    replace S3 := kp hk S3
    replace S4 := kp hk S4
    replace S10 := kp hk S10
    replace S0 := kp hk S0
    replace S11 := kp hk S11
    replace S13 := kp hk S13
    replace S15 := kp hk S15
    replace HSc := RI.aft HSc hC (by intro m hm; simp at hm)
    replace HMo := RI.aft HMo hC (by intro m hm; simp at hm)
    have S16 := gotV hz' 0 hh rfl rfl rfl rfl
    replace HB := aft_call HB (RelC.below_nil hC)
    clear hC hk hh; replace hz := hz'; replace hd := hd'; clear hz' hd'
    refine wp_block ?_
    refine wp_loop_rounds 4 ?_
    show Code.wp _ _ _ _ _
    refine wp_seq ?_
    refine wp_seq ?_
    by_cases hc12 : 0 < (ns : Int)
    · refine region_text (M := []) (
          rT (tV (.int .i64 0)) ::
          rT (tV (.slice As ns cs)) ::
          rT (tV (.int .i64 (ns : Int))) ::
          rT (tV (.bool true)) ::
          rT (tV (.bool true)) ::
          rT (tV (.int .i64 0)) ::
          rT (tV (.bool true)) ::
          rT (tV (.bool true)) ::
          rT (tV (.bool true)) ::
          rT (tV (.pointer none)) ::
          rT (tV (.bool false)) ::
          rT (tV (.bool false)) ::
          []) hz hd (by kernel_rfl) ?_ ?_
      · refine ⟨?_, ?_, ?_, ?_, ?_, ?_, ?_, ?_, ?_, ?_, ?_, ?_, trivial⟩
        · exact zMv hz (sv S16)
        · exact zMv hz (sv S3)
        · exact sLenK hz rfl (sd 1 rfl) (fun w => by simp [go_sem])
        · exact sBin rfl rfl rfl hz rfl (Gd.none_ rfl) rfl (sd 0 rfl) (sd 2 rfl) (fun w => run_t (P := 0 < (ns : Int)) ((fun w => run_lss) w) hc12)
        · exact zMv hz (sd 3 rfl)
        · exact zMv hz (sv S16) (g := gT 4 rfl)
        · exact sBin rfl rfl rfl hz rfl (gT 4 rfl) rfl (sd 5 rfl) kc (fun w => by simp [go_sem])
        · exact zPT hz (sd 4 rfl) (sd 6 rfl)
        · exact zMv hz (sd 7 rfl)
        · exact zMv hz (sv S11) (g := gT 8 rfl)
        · exact sBin rfl rfl rfl hz rfl (gT 8 rfl) rfl (sd 9 rfl) kc (fun w => by simp [go_sem])
        · exact zPT hz (sd 8 rfl) (sd 10 rfl)
      intro a' γ' W' hz' hd' hC hk hh
      replace S3 := kp hk S3
      replace S4 := kp hk S4
      replace S10 := kp hk S10
      replace S0 := kp hk S0
      replace S11 := kp hk S11
      replace S13 := kp hk S13
      replace S15 := kp hk S15
      replace S16 := kp hk S16
      replace HSc := RI.aft HSc hC (by intro m hm; simp at hm)
      replace HMo := RI.aft HMo hC (by intro m hm; simp at hm)
      have S72 := gotV hz' 11 hh rfl rfl rfl rfl
      replace HB := aft_call HB (RelC.below_nil hC)
      clear hC hk hh; replace hz := hz'; replace hd := hd'; clear hz' hd'
      refine wp_cond_false S72.ev ?_
      refine wp_exit ?_
      refine wp_seq ?_
      refine region_text (M := []) (
          rT (tV (.bool true)) ::
          []) hz hd (by kernel_rfl) ?_ ?_
      · refine ⟨?_, trivial⟩
        · exact zAs hz kc
      intro a' γ' W' hz' hd' hC hk hh
      clear S3
      clear S4
      clear S10
      clear S0
      clear S11
      clear S13
      clear S15
      clear S16
      clear S72
      replace HSc := RI.aft HSc hC (by intro m hm; simp at hm)
      replace HMo := RI.aft HMo hC (by intro m hm; simp at hm)
      have S10 := gotV hz' 0 hh rfl rfl rfl rfl
      replace HB := aft_call HB (RelC.below_nil hC)
      clear hC hk hh; replace hz := hz'; replace hd := hd'; clear hz' hd'
      refine wp_ret ?_
      exact ret1 (by kernel_rfl) S10 hd ⟨_, rfl, rfl, HB⟩
    · refine region_text (M := []) (
          rT (tV (.int .i64 0)) ::
          rT (tV (.slice As ns cs)) ::
          rT (tV (.int .i64 (ns : Int))) ::
          rT (tV (.bool false)) ::
          rT (tV (.bool false)) ::
          rT (tV undef) ::
          rT (tV undef) ::
          rT (tV (.bool false)) ::
          rT (tV (.bool false)) ::
          rT (tV undef) ::
          rT (tV undef) ::
          rT (tV (.bool false)) ::
          []) hz hd (by kernel_rfl) ?_ ?_
      · refine ⟨?_, ?_, ?_, ?_, ?_, ?_, ?_, ?_, ?_, ?_, ?_, ?_, trivial⟩
        · exact zMv hz (sv S16)
        · exact zMv hz (sv S3)
        · exact sLenK hz rfl (sd 1 rfl) (fun w => by simp [go_sem])
        · exact sBin rfl rfl rfl hz rfl (Gd.none_ rfl) rfl (sd 0 rfl) (sd 2 rfl) (fun w => run_f (P := 0 < (ns : Int)) ((fun w => run_lss) w) hc12)
        · exact zMv hz (sd 3 rfl)
        · exact zSkU hz (gN 4 rfl)
        · exact zSkU hz (gN 4 rfl)
        · exact zPF hz (sd 4 rfl) kc
        · exact zMv hz (sd 7 rfl)
        · exact zSkU hz (gN 8 rfl)
        · exact zSkU hz (gN 8 rfl)
        · exact zPF hz (sd 8 rfl) kc
      intro a' γ' W' hz' hd' hC hk hh
      replace S3 := kp hk S3
      replace S4 := kp hk S4
      replace S10 := kp hk S10
      replace S0 := kp hk S0
      replace S11 := kp hk S11
      replace S13 := kp hk S13
      replace S15 := kp hk S15
      replace S16 := kp hk S16
      replace HSc := RI.aft HSc hC (by intro m hm; simp at hm)
      replace HMo := RI.aft HMo hC (by intro m hm; simp at hm)
      have S72 := gotV hz' 11 hh rfl rfl rfl rfl
      replace HB := aft_call HB (RelC.below_nil hC)
      clear hC hk hh; replace hz := hz'; replace hd := hd'; clear hz' hd'
      refine wp_cond_false S72.ev ?_
      refine wp_exit ?_
      refine wp_seq ?_
      refine region_text (M := []) (
          rT (tV (.bool true)) ::
          []) hz hd (by kernel_rfl) ?_ ?_
      · refine ⟨?_, trivial⟩
        · exact zAs hz kc
      intro a' γ' W' hz' hd' hC hk hh
      clear S3
      clear S4
      clear S10
      clear S0
      clear S11
      clear S13
      clear S15
      clear S16
      clear S72
      replace HSc := RI.aft HSc hC (by intro m hm; simp at hm)
      replace HMo := RI.aft HMo hC (by intro m hm; simp at hm)
      have S10 := gotV hz' 0 hh rfl rfl rfl rfl
      replace HB := aft_call HB (RelC.below_nil hC)
      clear hC hk hh; replace hz := hz'; replace hd := hd'; clear hz' hd'
      refine wp_ret ?_
      exact ret1 (by kernel_rfl) S10 hd ⟨_, rfl, rfl, HB⟩
end Go.Proofs.Ytojpiiboikomfaa.Rg

namespace Go.Proofs.Ytojpiiboikomfaa.Rg

open Go.RowKit Go.ChangeShapes Go.WideShapes Go.ChangeAt Go.Deep

theorem in_range {k bytes : Nat} {w : World} {A : Option Addr} {n c : Nat} {l : List Int} (h : InI .i64 bytes k w A n c l) (j : Nat) : -9223372036854775808 ≤ l.getD j 0 ∧ l.getD j 0 < 9223372036854775808 := by
  rw [List.getD_eq_getElem?_getD]
  cases hj : l[j]? with
  | none => simp
  | some x => exact i64_r (h.wf x (List.mem_of_getElem? hj))
theorem bucketCuts_walk (b u per : Int) (A0 : Option Addr) (n0 c0 : Nat) (l0 : List Int) (A1 : Option Addr) (n1 c1 : Nat) (l1 : List Int) (w : World) (hb : (Lit.int .i64 b).wf = true) (hu : (Lit.int .u64 u).wf = true) (hp : (Lit.int .i64 per).wf = true) (h0 : InI .i64 24 3 w A0 n0 c0 l0) (h1 : InI .i64 8 1 w A1 n1 c1 l1) :
    Calls Try.prog 6 #[.int .i64 b, .int .u64 u, .int .i64 per, .slice A0 n0 c0, .slice A1 n1 c1] w fun e w' => e = .returned (.bool true) ∧ Below w.heap.size w w' := by
  obtain ⟨u, rfl, hu2⟩ := u64_r hu
  obtain ⟨hb1, hb2⟩ := i64_r hb
  obtain ⟨hp1, hp2⟩ := i64_r hp
  exact ret_out8 (bucketCuts_ret (l := 1100) (by omega) (by omega) hu2 hb1 hb2 hp1 hp2 (ri_in (by decide) h0) (ri_in (by decide) h1) (in_range h0) (in_range h1))
end Go.Proofs.Ytojpiiboikomfaa.Rg
