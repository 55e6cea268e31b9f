/-
  Walks and plain laws.
-/
import Derived.Test.YtfgnleoaibcegaaGreatXAW
set_option linter.unusedVariables false
set_option linter.unusedSimpArgs false
namespace Go.Proofs.YtfgnleoaibcegaaGreat

open Go.RowKit

theorem DAt.al {b : Nat} {w : World} {A : Option Addr} {n c x : Nat} (h : DAt b w A n c x) (o : Obj) : DAt b (w.alloc o) A n c x := h.below ((Below.refl _ _).alloc (Nat.le_refl _) _)

structure Bx (w : World) (p : Nat) (A : Option Addr) (n c x : Nat) : Prop where
  cell : w.cell? ⟨p, 0, none⟩ = some (.slice A n c)
  fr : w.frozen? ⟨p, 0, none⟩ = false
  at_ : DAt B64 w A n c x
  lt : p < w.heap.size
section

variable {w w' : World} {p : Nat} {A : Option Addr} {n c x : Nat}
theorem Bx.below (h : Bx w p A n c x) (hb : Below w.heap.size w w') : Bx w' p A n c x :=
  ⟨(hb.cell (by simpa using h.lt)).trans h.cell, (hb.frozen (by simpa using h.lt)).trans h.fr, h.at_.below hb, Nat.lt_of_lt_of_le h.lt hb.size⟩
theorem Bx.drew (h : Bx w p A n c x) : Bx w.drew p A n c x := ⟨h.cell, h.fr, h.at_.drew, h.lt⟩
theorem Bx.al (h : Bx w p A n c x) (o : Obj) : Bx (w.alloc o) p A n c x := h.below ((Below.refl _ _).alloc (Nat.le_refl _) _)
theorem Bx.new (h : DAt B64 w A n c x) : Bx (w.alloc (.cells #[.slice A n c] 26)) w.heap.size A n c x :=
  ⟨(Blk.new w 26 #[.slice A n c]).cell 0, (Blk.new w 26 #[.slice A n c]).frozen 0, h.al _, by simp⟩
end

theorem DAt.st {w : World} {A : Option Addr} {n c x : Nat} (h : DAt B64 w A n c x) {q : Nat} {A0 : Option Addr} {n0 c0 y : Nat} (hq : Bx w q A0 n0 c0 y) (u : Value) : DAt B64 (w.setCell ⟨q, 0, none⟩ u) A n c x := h.put hq.cell u
theorem Bx.st {w : World} {q : Nat} {A0 : Option Addr} {n0 c0 y : Nat} (hq : Bx w q A0 n0 c0 y) {A : Option Addr} {n c x : Nat} (h : DAt B64 w A n c x) : Bx (w.setCell ⟨q, 0, none⟩ (.slice A n c)) q A n c x :=
  ⟨World.cell?_setCell_same _ _ _ hq.cell, by rw [World.frozen?_setCell]; exact hq.fr, h.put hq.cell _, by simpa [World.setCell] using hq.lt⟩
theorem Bx.far {w : World} {p q : Nat} {A A0 : Option Addr} {n c x n0 c0 y : Nat} (h : Bx w p A n c x) (hq : Bx w q A0 n0 c0 y) (hne : p ≠ q) (u : Value) : Bx (w.setCell ⟨q, 0, none⟩ u) p A n c x :=
  ⟨by rw [World.cell?_setCell_other _ _ _ _ (by intro e; injection e; omega)]; exact h.cell, by rw [World.frozen?_setCell]; exact h.fr, h.at_.put hq.cell _, by simpa [World.setCell] using h.lt⟩
theorem aft_call {w W W' : World} (h : Below w.heap.size w W) (hb : Below W.heap.size W W') : Below w.heap.size w W' := h.trans (hb.mono h.size)
theorem modOf_le (x y : Nat) : modOf x y ≤ x := by
  unfold modOf; split
  · omega
  · exact Nat.mod_le _ _
theorem bev_lt {l : List Nat} (h : ∀ d ∈ l, d < 256) : bev l < 256 ^ l.length := by
  unfold bev
  have := val_lt (b := 256) (by omega) l.reverse (fun d hd => h d (List.mem_reverse.1 hd))
  rwa [List.length_reverse] at this
end Go.Proofs.YtfgnleoaibcegaaGreat
