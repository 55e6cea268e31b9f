/-
  NatOwn: bytes written beside numbers.
-/
import Derived.Test.YtijbhbjenddiaaaBI
set_option linter.unusedVariables false
set_option linter.unusedSimpArgs false
namespace Go.Proofs.Ytijbhbjenddiaaa
open Go.RowKit

theorem DAt.putb {b : Nat} {w : World} {A : Option Addr} {n c x d : Nat} (h : DAt b w A n c x) {p : Addr} (hp : w.cell? p = some (.int .u8 (d : Int))) (u : Value) : DAt b (w.setCell p u) A n c x := by
  refine ⟨⟨h.reads.1, fun hn => ?_⟩, h.cap, h.room⟩
  obtain ⟨ad, e, hb, hc⟩ := h.reads.2 hn
  refine ⟨ad, e, by simpa [World.setCell] using hb, fun j v hv => ?_⟩
  have hq := hc j v hv
  rw [World.cell?_setCell_other]
  · exact hq
  · intro e
    rw [← e, hp] at hq
    injection hq with hq
    obtain ⟨d, _, rfl⟩ := List.mem_map.1 (List.mem_of_getElem? hv)
    cases hq
theorem Bx.byte {w : World} {p d : Nat} {A : Option Addr} {n c x : Nat} (h : Bx w p A n c x) {q : Addr} (hq : w.cell? q = some (.int .u8 (d : Int))) (u : Value) : Bx (w.setCell q u) p A n c x := by
  refine ⟨?_, by rw [World.frozen?_setCell]; exact h.fr, h.at_.putb hq u, by simpa [World.setCell] using h.lt⟩
  rw [World.cell?_setCell_other]
  · exact h.cell
  · intro e
    rw [e, h.cell] at hq
    cases hq
theorem Bw.bat {w : World} {g n : Nat} {l : List Nat} (h : Bw w g l) (hn : l.length = n) (hb : ∀ d ∈ l, d < 256) (c : Nat) : BAt w (some ⟨g, 0, none⟩) n c l :=
  ⟨⟨by rw [bv_length]; omega, fun _ => ⟨_, rfl, h.lt, fun j u hu => by
    have hj : j < l.length := by have := (List.getElem?_eq_some_iff.1 hu).1; rw [bv_length] at this; omega
    rw [Addr.add_lit, Nat.zero_add, h.cell hj, ← hu, bv_get _ j hj]⟩⟩, hb⟩
theorem Bw.far {w : World} {g : Nat} {l : List Nat} (h : Bw w g l) {p : Addr} (hp : g ≠ p.block) (u : Value) : Bw (w.setCell p u) g l := by
  obtain ⟨t, h⟩ := h
  exact ⟨t, Blk.far h hp u⟩
theorem Bw.grownN {w w' : World} {g : Nat} {l : List Nat} (h : Bw w g l) (hg : w.grownBy w' none) : Bw w' g l := by
  obtain ⟨t, h⟩ := h
  exact ⟨t, Blk.grown h hg (by simp)⟩
theorem below_of_grown {w w' : World} (h : w.grownBy w' none) : Below w.heap.size w w' := ⟨h.os, h.tape, h.output, h.size, fun k hk => h.block k hk (by simp)⟩
theorem Bw.al {w : World} {g : Nat} {l : List Nat} (h : Bw w g l) (o : Obj) : Bw (w.alloc o) g l := h.below ((Below.refl _ _).alloc (Nat.le_refl _) _) h.lt

theorem aft_set' {w W : World} (h : Below w.heap.size w W) {q : Nat} (hq : w.heap.size ≤ q) (i : Nat) (u : Value) : Below w.heap.size w (W.setCell ⟨q, i, none⟩ u) := h.setCell hq _
/-- All as far as i are d. -/
def firsts (L : List Nat) (i d : Nat) : Prop := ∀ j, j < i → L.getD j 0 = d
theorem firsts_set {L : List Nat} {i d : Nat} (h : firsts L i d) (hi : i < L.length) : firsts (L.set i d) (i + 1) d := by
  intro j hj
  by_cases hji : j = i
  · subst hji; exact getD_set_self hi
  · rw [getD_set_ne (Ne.symm hji)]; exact h j (by omega)
end Go.Proofs.Ytijbhbjenddiaaa
