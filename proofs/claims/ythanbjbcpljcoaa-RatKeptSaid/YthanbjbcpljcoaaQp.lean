/-
  Walks and plain laws.
-/
import Derived.Test.YthanbjbcpljcoaaQf
set_option linter.unusedVariables false
set_option linter.unusedSimpArgs false
namespace Go.Proofs.Ythanbjbcpljcoaa.Rg

open Go.RowKit
/-- z is the fraction of the least denominator from a to b, and among those the least. -/
structure Sim (a b z : Rat) : Prop where
  lo : a ≤ z
  hi : z ≤ b
  least : ∀ w : Rat, a ≤ w → w ≤ b → z.den ≤ w.den ∧ z.num ≤ w.num
section

variable {a b : Rat} (h0 : 0 ≤ a) (hab : a ≤ b) (hc : ¬ (a.ceil : Rat) ≤ b)

include h0 hab hc
end
open Classical in
noncomputable def btw0 (a b : Rat) : Rat := if h : ∃ z, Sim a b z then h.choose else 0
section

variable {a b : Rat} (h0 : 0 ≤ a)

include h0
end

section

variable {B l m : Nat} {a b : Rat} {v v1 v2 : Value} {w : World}
theorem tQ_bits (h : (tQ B l a).p v w) : a.num.toNat < 2 ^ l ∧ a.den < 2 ^ l := by
  obtain ⟨p, q, -, e1, e2, -, h3, h4⟩ := h
  rw [e1, e2]; exact ⟨h3, h4⟩
end
def RowQ (id : TypeId) (b l : Nat) (xs : List Rat) (p : Nat) (w : World) : Prop := ∃ cs, Blk w p id cs ∧ ∀ k, k < xs.length → ∃ u v, cs[2 * k]? = some u ∧ cs[2 * k + 1]? = some v ∧ (tQ b l (xs.getD k 0)).p (.agg #[u, v]) w
theorem RowQ.lt {id : TypeId} {b l p : Nat} {xs : List Rat} {w : World} (h : RowQ id b l xs p w) : p < w.heap.size := by obtain ⟨cs, h, _⟩ := h; exact h.lt
theorem RowQ.grow {id : TypeId} {b l p t : Nat} {xs : List Rat} {γ γ' : Nat → Nat} {w w' : World} (g : Grow t γ w γ' w') (h : RowQ id b l xs p w) (hp : t = 0 ∨ γ p ≠ t) : RowQ id b l xs p w' := by
  obtain ⟨cs, h1, h2⟩ := h
  refine ⟨cs, g.blk hp h1, fun k hk => ?_⟩
  obtain ⟨u, v, e1, e2, h3⟩ := h2 k hk
  exact ⟨u, v, e1, e2, (tQ b l (xs.getD k 0)).l _ _ _ _ _ _ g h3⟩
theorem RowQ.aft {id : TypeId} {b l p : Nat} {xs : List Rat} {M : List Nat} {W w : World} {γ : Nat → Nat} (h : RowQ id b l xs p W) (hc : RelC M W γ w) (hp : tagOf M 1000 p = 0) : RowQ id b l xs p w := h.grow hc.1 (.inr (by unfold mt; rw [if_pos hp]; omega))
section

variable {P : Program} {ops : Array Oper} {Q : Exit → Act → World → Prop} {a0 : Act} {M : List Nat} {W : World} {rels : List Rel} {i : Nat} {o : Oper} {T T' : Ty} {N d : Nat} {x y z : Operand}
theorem sLenK {id : TypeId} {A : Option Addr} {n c : Nat} (hz : a0.tmps.size = N) (hop : o.op = .call { callee := .builtin .len, args := #[x], argTypes := #[id] }) (s : Src ops a0 M W rels i o x (tV (.slice A n c))) (hid : ∀ w, (Builtin.len_ #[id] o.type #[.slice A n c]).run P w = .ok (.int .i64 n) w) (g : Gd ops a0 M W rels i o true := by exact Gd.none_ rfl)
    (ho : ops[i]? = some o := by rfl) (hr : rels[i]? = some (rT (tV (.int .i64 (n : Int)))) := by rfl) (hd : o.dst = some d := by rfl) (hlt : decide (d < N) = true := by rfl) : StepOk P ops a0 M W Q rels i o :=
  sOp ho hr hd hz hlt g fun a γ w U => by
    have e : a.eval x = .slice A n c := s a γ w U
    refine ⟨_, ?_, rfl⟩
    generalize a.eval = ρ at e ⊢
    unfold execOp; rw [hop]; simp [go_sem, e, hid]
end
end Go.Proofs.Ythanbjbcpljcoaa.Rg
