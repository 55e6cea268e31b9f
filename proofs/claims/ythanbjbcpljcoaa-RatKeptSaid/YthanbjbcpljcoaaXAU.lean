/-
  Walks and plain laws.
-/
import Derived.Test.YthanbjbcpljcoaaXAT
set_option linter.unusedVariables false
set_option linter.unusedSimpArgs false
namespace Go.Proofs.Ythanbjbcpljcoaa

open Go.RowKit

structure CkIs (x X k L r : Nat) (D : List Nat) : Prop where
  k18 : k ≤ 18
  kL : k ≤ L
  rlt : r < 10 ^ (18 - k)
  tx : TxIs x L (r + 10 ^ (18 - k) * X) D
theorem CkIs.start {x X L r Y : Nat} {D : List Nat} (h : TxIs x L Y D) (hY : r + 1000000000000000000 * X = Y) (hr : r < 1000000000000000000) : CkIs x X 0 L r D :=
  ⟨by omega, by omega, hr, by show TxIs x L (r + 1000000000000000000 * X) D; rw [hY]; exact h⟩
theorem CkIs.next {x X k L r : Nat} {D : List Nat} (h : CkIs x X k L r D) (hk : k < 18) (hg : 0 < r ∨ 0 < X ∨ L = 0) : CkIs x X (k + 1) (L + 1) (r / 10) (D ++ [r % 10 + 48]) := by
  obtain ⟨e1, e2⟩ := chunk_step (r := r) (X := X) hk
  have h1 := h.tx.next (by
    rcases hg with h1 | h1 | h1
    · exact .inl (by omega)
    · exact .inl (Nat.lt_of_lt_of_le (Nat.mul_pos (Nat.pow_pos (by omega)) h1) (Nat.le_add_left _ _))
    · exact .inr h1)
  rw [e1, e2] at h1
  refine ⟨by omega, by have := h.kL; omega, ?_, h1⟩
  have h2 := h.rlt
  rw [show 18 - k = (18 - (k + 1)) + 1 by omega, Nat.pow_succ] at h2
  exact (Nat.div_lt_iff_lt_mul (by omega)).2 h2
def maxBits : Nat := 70368744177664
structure TlRel (w0 : World) (x X L : Nat) (D : List Nat) (v : Value) (A : Option Addr) (n c : Nat) (wr : World) : Prop where
  own : wr.ownsRow w0.heap.size 5 1 v L (bv D)
  td : Td w0.heap.size wr A n c (digs B64 X)
  bel : Below w0.heap.size w0 wr
  nn : n ≤ 1099511627776
  xl : x < 2 ^ maxBits
theorem TlRel.append {w0 wr w1 : World} {x X L d n c : Nat} {D : List Nat} {v v1 u : Value} {A : Option Addr} {t : TypeId} (h : TlRel w0 x X L D v A n c wr) (ho : w1.ownsRow w0.heap.size 5 1 v1 (L + 1) (bv D ++ [.int .u8 (d : Int)])) (hg : (wr.alloc (.cells #[u] t)).grownBy w1 v.ownBlock) :
    TlRel w0 x X (L + 1) (D ++ [d]) v1 A n c w1 := by
  have hb1 : Below wr.heap.size wr (wr.alloc (.cells #[u] t)) := (Below.refl _ _).alloc (Nat.le_refl _) _
  have hbs := h.bel.size
  refine ⟨by rw [bv_append]; exact ho, (h.td.below hb1).grown (h.own.alloc _) hg, (h.bel.alloc hbs _).grown hg (by simp; omega) (fun k hk => (h.own.lt k hk).1), h.nn, h.xl⟩

end Go.Proofs.Ythanbjbcpljcoaa
