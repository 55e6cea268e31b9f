/-
  Walks and plain laws, put together: BC SI.
-/
import Derived.Test.YtijbhbjenddiaaaPf
import Derived.Test.YtijbhbjenddiaaaBB
set_option linter.unusedVariables false
set_option linter.unusedSimpArgs false
namespace Go.Proofs.Ytijbhbjenddiaaa
open Go.RowKit

theorem and_i64 (n : Int) (k : Nat) (hk : k ≤ 62) : ∃ N : Nat, N < 2 ^ k ∧ bits .and .i64 n ((2 ^ k - 1 : Nat) : Int) = (N : Int) := by
  have hp : 2 ^ k ≤ 2 ^ 62 := Nat.pow_le_pow_right (by omega) hk
  have hp2 : (2 : Nat) ^ 62 = 4611686018427387904 := rfl
  have hp0 : 0 < 2 ^ k := Nat.two_pow_pos k
  refine ⟨(BitVec.ofInt 64 n).toNat % 2 ^ k, Nat.mod_lt _ hp0, ?_⟩
  have h2 : (BitVec.ofInt 64 ((2 ^ k - 1 : Nat) : Int)).toNat = 2 ^ k - 1 := by
    rw [BitVec.ofInt_natCast, BitVec.toNat_ofNat]; exact Nat.mod_eq_of_lt (by omega)
  show IntKind.i64.wrap ((BitVec.ofInt 64 n &&& BitVec.ofInt 64 ((2 ^ k - 1 : Nat) : Int)).toNat : Int) = _
  rw [BitVec.toNat_and, h2, Nat.and_two_pow_sub_one_eq_mod, IntKind.wrap_i64]
  have := Nat.mod_lt (BitVec.ofInt 64 n).toNat hp0
  omega

theorem bit_is (A : Option Addr) (n c x : Nat) (i : Nat) (b : Bool) (w : World) (h : DAt B64 w A n c x) (hi : i ≤ 9223372036854775807) (hb : x.testBit i = b) :
    Calls Try.prog 33 #[.agg #[.slice A n c], .int .i64 (i : Int)] w fun e w' => e = .returned (.bool b) ∧ Below w.heap.size w w' := by
  have := bit_any A n c x (i : Int) w h (by omega)
  rwa [show bitOf x (i : Int) = b by unfold bitOf; rw [decide_eq_true (by omega)]; simpa using hb] at this
theorem bit_less (A : Option Addr) (n c x : Nat) (i : Int) (w : World) (h : DAt B64 w A n c x) (hi : i < 0) :
    Calls Try.prog 33 #[.agg #[.slice A n c], .int .i64 i] w fun e w' => e = .returned (.bool false) ∧ Below w.heap.size w w' := by
  have := bit_any A n c x i w h (by omega)
  rwa [show bitOf x i = false by unfold bitOf; rw [decide_eq_false (by omega)]; rfl] at this

theorem bit_pow (N i : Nat) : (1 * 2 ^ N).testBit i = decide (N = i) := by rw [Nat.one_mul]; exact Nat.testBit_two_pow
theorem bl_pow (N : Nat) : bl (1 * 2 ^ N) = N + 1 := by
  rw [Nat.one_mul]
  exact bl_unique (by omega) (by rw [Nat.add_sub_cancel]; exact Nat.le_refl _) (Nat.pow_lt_pow_right (by omega) (by omega))
theorem bit_top {x : Nat} (h : 0 < x) : x.testBit (bl x - 1) = true := by
  obtain ⟨b1, b2, b3⟩ := bl_bounds h
  rw [Nat.testBit_eq_decide_div_mod_eq]
  have h1 : x / 2 ^ (bl x - 1) = 1 := by
    refine Nat.div_eq_of_lt_le (by omega) ?_
    rw [← Nat.pow_succ']
    rw [show (bl x - 1).succ = bl x by omega]
    exact b3
  rw [h1]
  rfl
theorem bit_over {x i : Nat} (h : bl x ≤ i) : x.testBit i = false := by
  refine Nat.testBit_lt_two_pow (Nat.lt_of_lt_of_le bl_lt (Nat.pow_le_pow_right (by omega) h))
theorem sum_next (x i : Nat) : x % 2 ^ (i + 1) = x % 2 ^ i + (if x.testBit i = true then 2 ^ i else 0) := by
  rw [Nat.mod_pow_succ]
  congr 1
  rw [Nat.testBit_eq_decide_div_mod_eq]
  rcases Nat.mod_two_eq_zero_or_one (x / 2 ^ i) with h | h
  · rw [h]; simp
  · rw [h]; simp
end Go.Proofs.Ytijbhbjenddiaaa

namespace Go.Proofs.Ytijbhbjenddiaaa.Rg
open Go.RowKit

theorem RelC.aftM {M : List Nat} {w W w' : World} {γ : Nat → Nat} (h : Below w.heap.size w W) (hc : RelC M W γ w') (hM : ∀ m ∈ M, w.heap.size ≤ m) : Below w.heap.size w w' := by
  refine h.trans ⟨hc.1.os, hc.1.tape, hc.1.output, hc.1.size, fun b hb => hc.1.block b (Nat.lt_of_lt_of_le hb h.size) (.inr ?_)⟩
  have key : ∀ (M : List Nat) (k : Nat), (∀ m ∈ M, w.heap.size ≤ m) → tagOf M k b = 0 := by
    intro M
    induction M with
    | nil => intro k _; rfl
    | cons m M ih =>
      intro k hm
      unfold tagOf
      have := hm m List.mem_cons_self
      rw [if_neg (by omega)]
      exact ih _ fun x hx => hm x (List.mem_cons_of_mem _ hx)
  unfold mt
  rw [if_pos (key M 1000 hM)]; omega
/-- A row of numbers, one after another. -/
def Rw (b : Nat) (id : TypeId) (lim g : Nat) (xs : List Nat) (w : World) : Prop := ∃ cs : Array Value, Blk w g id cs ∧ ∀ i, i < xs.length → ∃ A n c, cs[i]? = some (.slice A n c) ∧ DAt b w A n c (xs.getD i 0) ∧ n ≤ lim
theorem Rw.lt {b : Nat} {id : TypeId} {lim g : Nat} {xs : List Nat} {w : World} (h : Rw b id lim g xs w) : g < w.heap.size := by obtain ⟨cs, h, _⟩ := h; exact h.lt
theorem Rw.aft {b : Nat} {id : TypeId} {lim g : Nat} {xs : List Nat} {M : List Nat} {W w : World} {γ : Nat → Nat} (h : Rw b id lim g xs W) (hc : RelC M W γ w) (hp : tagOf M 1000 g = 0) : Rw b id lim g xs w := by
  obtain ⟨cs, h1, h2⟩ := h
  refine ⟨cs, hc.1.blk (.inr (by unfold mt; rw [if_pos hp]; omega)) h1, fun i hi => ?_⟩
  obtain ⟨A, n, c, e, hd, hn⟩ := h2 i hi
  exact ⟨A, n, c, e, dat_grow hc.1 hd, hn⟩
section
variable {P : Program} {ops : Array Oper} {Q : Exit → Act → World → Prop} {a0 : Act} {M : List Nat} {W : World} {rels : List Rel} {i : Nat} {o : Oper} {T : Ty} {N d : Nat} {x y : Operand}
theorem sFA {s : TypeId} {f p off : Nat} (ho : ops[i]? = some o) (hr : rels[i]? = some (rT (tV (.pointer (some ⟨p, off, none⟩))))) (hd : o.dst = some d) (hz : a0.tmps.size = N) (hlt : decide (d < N) = true) (g : Gd ops a0 M W rels i o true)
    (hop : o.op = .fieldAddr s x f) (sx : Src ops a0 M W rels i o x (tV (.pointer (some ⟨p, 0, none⟩)))) (h : ∀ w, (Instr.fieldAt s (.pointer (some ⟨p, 0, none⟩)) f).run P w = .ok (.pointer (some ⟨p, off, none⟩)) w) : StepOk P ops a0 M W Q rels i o :=
  sOp ho hr hd hz hlt g fun a γ w U => by
    have e : a.eval x = .pointer (some ⟨p, 0, none⟩) := sx a γ w U
    refine ⟨_, ?_, rfl⟩
    unfold execOp; rw [hop]; simp only [e, Sem.run_bind, h, Result.andThen, Sem.run_pure]
theorem sIdx {id : TypeId} {g' n c k : Nat} (ho : ops[i]? = some o) (hr : rels[i]? = some (rT (tV (.pointer (some ⟨g', k, none⟩))))) (hd : o.dst = some d) (hz : a0.tmps.size = N) (hlt : decide (d < N) = true) (g : Gd ops a0 M W rels i o true)
    (hop : o.op = .indexAddr id x y) (sx : Src ops a0 M W rels i o x (tV (.slice (some ⟨g', 0, none⟩) n c))) (sy : Src ops a0 M W rels i o y (tV (.int .i64 (k : Int)))) (h : ∀ w, (Instr.indexAt id (.slice (some ⟨g', 0, none⟩) n c) (.int .i64 (k : Int))).run P w = .ok (.pointer (some ⟨g', k, none⟩)) w) : StepOk P ops a0 M W Q rels i o :=
  sOp ho hr hd hz hlt g fun a γ w U => by
    have e : a.eval x = .slice (some ⟨g', 0, none⟩) n c := sx a γ w U
    have e2 : a.eval y = .int .i64 (k : Int) := sy a γ w U
    refine ⟨_, ?_, rfl⟩
    unfold execOp; rw [hop]; simp only [e, e2, Sem.run_bind, h, Result.andThen, Sem.run_pure]
theorem sLoadRow {b lim g' k : Nat} {id : TypeId} {xs : List Nat} (ho : ops[i]? = some o) (hr : rels[i]? = some (rT (tN b lim (xs.getD k 0)))) (hd : o.dst = some d) (hz : a0.tmps.size = N) (hlt : decide (d < N) = true) (g : Gd ops a0 M W rels i o true)
    (hop : o.op = .load id x) (sx : Src ops a0 M W rels i o x (tV (.pointer (some ⟨g', k, none⟩)))) (hR : Rw b id lim g' xs W) (hp : tagOf M 1000 g' = 0) (hk : k < xs.length)
    (ld : ∀ A n c w, w.cell? ⟨g', k, none⟩ = some (.slice A n c) → (Instr.loadAt id (.pointer (some ⟨g', k, none⟩))).run P w = .ok (.agg #[.slice A n c]) w) : StepOk P ops a0 M W Q rels i o :=
  sOp ho hr hd hz hlt g fun a γ w U => by
    have e : a.eval x = .pointer (some ⟨g', k, none⟩) := sx a γ w U
    obtain ⟨cs, h1, h2⟩ := hR.aft U.c hp
    obtain ⟨A, n, c, e3, hdat, hn⟩ := h2 k hk
    have hc : w.cell? ⟨g', k, none⟩ = some (.slice A n c) := by rw [h1.cell]; exact e3
    refine ⟨_, ?_, A, n, c, rfl, hdat, hn⟩
    unfold execOp; rw [hop]; simp only [e, Sem.run_bind, ld A n c w hc, Result.andThen, Sem.run_pure]
theorem sLoadF {id sid : TypeId} {p off : Nat} {z u : Value} (ho : ops[i]? = some o) (hr : rels[i]? = some (rT (tV u))) (hd : o.dst = some d) (hz : a0.tmps.size = N) (hlt : decide (d < N) = true) (g : Gd ops a0 M W rels i o true)
    (hop : o.op = .load id x) (sx : Src ops a0 M W rels i o x (tV (.pointer (some ⟨p, off, none⟩)))) (hc : Cell sid (tV z) p W) (hp : tagOf M 1000 p = 0) (hu : z.cells[off]? = some u)
    (ld : ∀ w, w.cell? ⟨p, off, none⟩ = some u → (Instr.loadAt id (.pointer (some ⟨p, off, none⟩))).run P w = .ok u w) : StepOk P ops a0 M W Q rels i o :=
  sOp ho hr hd hz hlt g fun a γ w U => by
    have e : a.eval x = .pointer (some ⟨p, off, none⟩) := sx a γ w U
    obtain ⟨v, h1, h2⟩ := hc.aft U.c hp
    have h2 : v = z := h2
    subst h2
    have hcell : w.cell? ⟨p, off, none⟩ = some u := by rw [h1.cell]; exact hu
    refine ⟨_, ?_, rfl⟩
    unfold execOp; rw [hop]; simp only [e, Sem.run_bind, ld w hcell, Result.andThen, Sem.run_pure]
end
theorem Cell.var {id : TypeId} {T : Ty} {p n : Nat} {w : World} (h : Cell id T p w) (hT : ∀ v w, T.p v w → v.cells.size = n ∧ ∀ u ∈ v.cells, notDig u) : VarBlk w p id n := by
  obtain ⟨v, h1, h2⟩ := h
  obtain ⟨h3, h4⟩ := hT v w h2
  exact ⟨v.cells, h3, h4, h1⟩
theorem tN_nd {b lim x : Nat} : ∀ v w, (tN b lim x).p v w → v.cells.size = 1 ∧ ∀ u ∈ v.cells, notDig u := by
  rintro v w ⟨A, n, c, rfl, -, -⟩
  refine ⟨rfl, fun u hu => ?_⟩
  simp [Value.cells] at hu
  subst hu
  intro k n _ h; cases h
theorem ret2n {fn : Func} {w0 : World} {a : Act} {w : World} {t1 t2 p1 p2 l1 l2 x1 x2 : Nat} (h : fn.results = #[.cell t1 25, .cell t2 44]) (s1 : Sl a t1 (.pointer (some ⟨p1, 0, none⟩))) (s2 : Sl a t2 (.pointer (some ⟨p2, 0, none⟩))) (hdf : a.defers = [])
    (c1 : Cell 25 (tN B64 l1 x1) p1 w) (c2 : Cell 44 (tN B32 l2 x2) p2 w)
    (hb : Below w0.heap.size w0 w) : bodyPost Try.prog fn (Ret (tT [tN B64 l1 x1, tN B32 l2 x2]) w0) .ret a w := by
  obtain ⟨v1, b1, h1⟩ := c1
  obtain ⟨v2, b2, h2⟩ := c2
  refine bodyPost_ret (v := .tuple #[v1, v2]) ?_ hdf ⟨_, rfl, ⟨[v1, v2], rfl, h1, h2, trivial⟩, hb⟩
  obtain ⟨A, n, c, rfl, -, -⟩ := h1
  obtain ⟨A', n', c', rfl, -, -⟩ := h2
  have e1 := b1.cell 0
  have e2 := b2.cell 0
  unfold Sl at s1 s2
  simp [Value.cells] at e1 e2
  simp [results, h, go_sem, s1, s2, e1, e2]
end Go.Proofs.Ytijbhbjenddiaaa.Rg
