/-
  Walks and plain laws.
-/
import Derived.Test.YthanbjbcpljcoaaXAU
set_option linter.unusedVariables false
set_option linter.unusedSimpArgs false
namespace Go.Proofs.Ythanbjbcpljcoaa

open Go.RowKit
/-- A chunk's digits, as far as k. -/
structure ChIs (L : List Nat) (k sc v : Nat) : Prop where
  sc : sc = 10 ^ k
  v : v = readD (L.take k)
  dig : (L.take k).all isDig = true
theorem ChIs.start (L : List Nat) : ChIs L 0 1 0 := ⟨rfl, by simp [readD_nil], by simp⟩
theorem take_snoc {L : List Nat} {k : Nat} (hk : k < L.length) : L.take (k + 1) = L.take k ++ [L.getD k 0] := by
  rw [List.take_succ_eq_append_getElem hk, List.getD_eq_getElem?_getD, List.getElem?_eq_getElem hk]; rfl
theorem isDig_le {d : Nat} (h : isDig d = true) : 48 ≤ d ∧ d ≤ 57 := by simpa [isDig] using h
theorem all_dig_le {l : List Nat} (h : l.all isDig = true) : ∀ d ∈ l, d ≤ 57 := fun d hd => (isDig_le (List.all_eq_true.1 h d hd)).2
theorem ChIs.next {L : List Nat} {k sc v : Nat} (h : ChIs L k sc v) (hk : k < L.length) (hd : 48 ≤ L.getD k 0) (hd2 : L.getD k 0 ≤ 57) : ChIs L (k + 1) (10 * sc) (10 * v + (L.getD k 0 - 48)) := by
  refine ⟨by rw [h.sc, Nat.pow_succ, Nat.mul_comm], by rw [take_snoc hk, readD_snoc, h.v], ?_⟩
  rw [take_snoc hk, List.all_append, h.dig, Bool.true_and]
  generalize L.getD k 0 = d at *
  simp [isDig]; omega
theorem ChIs.lt {L : List Nat} {k sc v : Nat} (h : ChIs L k sc v) (hk : k < 18) : sc ≤ 100000000000000000 ∧ v < 100000000000000000 := by
  have h1 : 10 ^ k ≤ 10 ^ 17 := Nat.pow_le_pow_right (by omega) (by omega)
  have h2 := readD_lt (L.take k) (all_dig_le h.dig)
  have h3 : 10 ^ (L.take k).length ≤ 10 ^ 17 := Nat.pow_le_pow_right (by omega) (by rw [List.length_take]; omega)
  rw [← h.v] at h2
  rw [← h.sc] at h1
  have e : (10 : Nat) ^ 17 = 100000000000000000 := rfl
  rw [e] at h1 h3
  exact ⟨h1, Nat.lt_of_lt_of_le h2 h3⟩
structure PsRel (w0 : World) (A : Option Addr) (n c x : Nat) (wr : World) : Prop where
  bp : wr.cell? ⟨w0.heap.size + 1, 0, none⟩ = some (.slice A n c)
  fp : wr.frozen? ⟨w0.heap.size + 1, 0, none⟩ = false
  b2 : wr.cell? ⟨w0.heap.size, 0, none⟩ = some (.slice none 0 0)
  f2 : wr.frozen? ⟨w0.heap.size, 0, none⟩ = false
  dx : DAt B64 wr A n c x
  bel : Below w0.heap.size w0 wr
  sz : w0.heap.size + 1 + 1 ≤ wr.heap.size
section

variable {w0 wr w1 : World} {A : Option Addr} {n c x : Nat}
theorem PsRel.start (w : World) : PsRel w none 0 0 0 ((w.alloc (.cells #[.slice none 0 0] 27)).alloc (.cells #[.slice none 0 0] 27)) := by
  have c0 := (Blk.new w 27 #[.slice none 0 0]).alloc (.cells #[.slice none 0 0] 27)
  have c1 := (Blk.new (w.alloc (.cells #[.slice none 0 0] 27)) 27 #[.slice none 0 0])
  simp only [World.size_alloc] at c1
  exact ⟨c1.cell 0, c1.frozen 0, c0.cell 0, c0.frozen 0, DAt.nil, ((Below.refl _ _).alloc (Nat.le_refl _) _).alloc (by simp) _, by simp⟩
theorem PsRel.below (h : PsRel w0 A n c x wr) (hb : Below wr.heap.size wr w1) : PsRel w0 A n c x w1 := by
  have h4 := h.sz
  have h5 := hb.size
  exact ⟨(hb.cell (by simp; omega)).trans h.bp, (hb.frozen (by simp; omega)).trans h.fp, (hb.cell (by simp; omega)).trans h.b2, (hb.frozen (by simp; omega)).trans h.f2, h.dx.below hb, h.bel.trans (hb.mono (by omega)), by omega⟩
theorem PsRel.drew (h : PsRel w0 A n c x wr) : PsRel w0 A n c x wr.drew := ⟨h.bp, h.fp, h.b2, h.f2, h.dx.drew, h.bel.drew, h.sz⟩
theorem PsRel.set_ (h : PsRel w0 A n c x wr) {A3 : Option Addr} {n3 c3 y : Nat} (hd : DAt B64 wr A3 n3 c3 y) : PsRel w0 A3 n3 c3 y (wr.setCell ⟨w0.heap.size + 1, 0, none⟩ (.slice A3 n3 c3)) := by
  refine ⟨World.cell?_setCell_same _ _ _ h.bp, by rw [World.frozen?_setCell]; exact h.fp, ?_, by rw [World.frozen?_setCell]; exact h.f2, hd.put h.bp _, h.bel.setCell (by simp) _, by simpa [World.setCell] using h.sz⟩
  rw [World.cell?_setCell_other _ _ _ _ (by intro e; injection e; omega)]; exact h.b2
end

end Go.Proofs.Ythanbjbcpljcoaa
