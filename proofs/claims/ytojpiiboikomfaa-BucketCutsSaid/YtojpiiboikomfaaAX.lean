/-
  The laws' helpers: contracts with sizes, boxes, the same number, bytes cut off.
-/
import Derived.Test.YtojpiiboikomfaaAW

set_option linter.unusedVariables false

set_option linter.unusedSimpArgs false

namespace Go.Proofs.Ytojpiiboikomfaa

open Go.RowKit

theorem DAt.al {b : Nat} {w : World} {A : Option Addr} {n c x : Nat} (h : DAt b w A n c x) (o : Obj) : DAt b (w.alloc o) A n c x := h.below ((Below.refl _ _).alloc (Nat.le_refl _) _)

/-- A variable that holds a number. -/
structure Bx (w : World) (p : Nat) (A : Option Addr) (n c x : Nat) : Prop where
  cell : w.cell? ⟨p, 0, none⟩ = some (.slice A n c)
  fr : w.frozen? ⟨p, 0, none⟩ = false
  at_ : DAt B64 w A n c x
  lt : p < w.heap.size
section

variable {w w' : World} {p : Nat} {A : Option Addr} {n c x : Nat}
theorem Bx.below (h : Bx w p A n c x) (hb : Below w.heap.size w w') : Bx w' p A n c x :=
  ⟨(hb.cell (by simpa using h.lt)).trans h.cell, (hb.frozen (by simpa using h.lt)).trans h.fr, h.at_.below hb, Nat.lt_of_lt_of_le h.lt hb.size⟩
theorem Bx.drew (h : Bx w p A n c x) : Bx w.drew p A n c x := ⟨h.cell, h.fr, h.at_.drew, h.lt⟩
theorem Bx.al (h : Bx w p A n c x) (o : Obj) : Bx (w.alloc o) p A n c x := h.below ((Below.refl _ _).alloc (Nat.le_refl _) _)
theorem Bx.new (h : DAt B64 w A n c x) : Bx (w.alloc (.cells #[.slice A n c] 53)) w.heap.size A n c x :=
  ⟨(Blk.new w 53 #[.slice A n c]).cell 0, (Blk.new w 53 #[.slice A n c]).frozen 0, h.al _, by simp⟩
end

theorem DAt.st {w : World} {A : Option Addr} {n c x : Nat} (h : DAt B64 w A n c x) {q : Nat} {A0 : Option Addr} {n0 c0 y : Nat} (hq : Bx w q A0 n0 c0 y) (u : Value) : DAt B64 (w.setCell ⟨q, 0, none⟩ u) A n c x := h.put hq.cell u
theorem Bx.st {w : World} {q : Nat} {A0 : Option Addr} {n0 c0 y : Nat} (hq : Bx w q A0 n0 c0 y) {A : Option Addr} {n c x : Nat} (h : DAt B64 w A n c x) : Bx (w.setCell ⟨q, 0, none⟩ (.slice A n c)) q A n c x :=
  ⟨World.cell?_setCell_same _ _ _ hq.cell, by rw [World.frozen?_setCell]; exact hq.fr, h.put hq.cell _, by simpa [World.setCell] using hq.lt⟩
theorem Bx.far {w : World} {p q : Nat} {A A0 : Option Addr} {n c x n0 c0 y : Nat} (h : Bx w p A n c x) (hq : Bx w q A0 n0 c0 y) (hne : p ≠ q) (u : Value) : Bx (w.setCell ⟨q, 0, none⟩ u) p A n c x :=
  ⟨by rw [World.cell?_setCell_other _ _ _ _ (by intro e; injection e; omega)]; exact h.cell, by rw [World.frozen?_setCell]; exact h.fr, h.at_.put hq.cell _, by simpa [World.setCell] using h.lt⟩
theorem Bx.newAt {w : World} {A : Option Addr} {n c x p : Nat} (h : DAt B64 w A n c x) (e : p = w.heap.size) : Bx (w.alloc (.cells #[.slice A n c] 53)) p A n c x := e ▸ Bx.new h
/-- A world behind w. -/
theorem aft_al {w W : World} (h : Below w.heap.size w W) (o : Obj) : Below w.heap.size w (W.alloc o) := h.alloc h.size _
theorem aft_call {w W W' : World} (h : Below w.heap.size w W) (hb : Below W.heap.size W W') : Below w.heap.size w W' := h.trans (hb.mono h.size)
theorem aft_set {w W : World} (h : Below w.heap.size w W) {q : Nat} (hq : w.heap.size ≤ q) (u : Value) : Below w.heap.size w (W.setCell ⟨q, 0, none⟩ u) := h.setCell hq _

theorem add_sz (A : Option Addr) (n c x : Nat) (A' : Option Addr) (n' c' y : Nat) (w : World) (hx : DAt B64 w A n c x) (hy : DAt B64 w A' n' c' y) (hn : n ≤ 1099511627776) (hn' : n' ≤ 1099511627776) :
    Calls Try.prog 83 #[.agg #[.slice A n c], .agg #[.slice A' n' c']] w fun e w' => ∃ A3 n3 c3, e = .returned (.agg #[.slice A3 n3 c3]) ∧ DAt B64 w' A3 n3 c3 (x + y) ∧ n3 ≤ n + n' + 1 ∧ Below w.heap.size w w' := by
  refine (add_any A n c x A' n' c' y w hx hy hn hn').mono ?_
  rintro e w' ⟨A3, n3, c3, rfl, hd, hb⟩
  refine ⟨A3, n3, c3, rfl, hd, hd.le two_le_B64 ?_, hb⟩
  have h1 := hx.lt two_le_B64
  have h2 := hy.lt two_le_B64
  have h3 : B64 ^ n ≤ B64 ^ (n + n') := Nat.pow_le_pow_right (by decide) (by omega)
  have h4 : B64 ^ n' ≤ B64 ^ (n + n') := Nat.pow_le_pow_right (by decide) (by omega)
  have h5 : B64 ^ (n + n' + 1) = B64 ^ (n + n') * B64 := Nat.pow_succ ..
  have h6 : B64 ^ (n + n') * 2 ≤ B64 ^ (n + n') * B64 := Nat.mul_le_mul_left _ two_le_B64
  omega
theorem mul_sz (A : Option Addr) (n c x : Nat) (A' : Option Addr) (n' c' y : Nat) (w : World) (hx : DAt B64 w A n c x) (hy : DAt B64 w A' n' c' y) (hn : n ≤ 1099511627776) (hn' : n' ≤ 1099511627776) :
    Calls Try.prog 66 #[.agg #[.slice A n c], .agg #[.slice A' n' c']] w fun e w' => ∃ A3 n3 c3, e = .returned (.agg #[.slice A3 n3 c3]) ∧ DAt B64 w' A3 n3 c3 (x * y) ∧ n3 ≤ n + n' ∧ Below w.heap.size w w' := by
  refine (mul_any A n c x A' n' c' y w hx hy hn hn').mono ?_
  rintro e w' ⟨A3, n3, c3, rfl, hd, hb⟩
  refine ⟨A3, n3, c3, rfl, hd, hd.le two_le_B64 ?_, hb⟩
  rw [Nat.pow_add]
  exact Nat.mul_lt_mul'' (hx.lt two_le_B64) (hy.lt two_le_B64)
theorem sub_sz (A : Option Addr) (n c x : Nat) (A' : Option Addr) (n' c' y : Nat) (w : World) (hx : DAt B64 w A n c x) (hy : DAt B64 w A' n' c' y) (hn : n ≤ 1099511627776) (hn' : n' ≤ 1099511627776) :
    Calls Try.prog 70 #[.agg #[.slice A n c], .agg #[.slice A' n' c']] w fun e w' => ∃ A3 n3 c3, e = .returned (.tuple #[.agg #[.slice A3 n3 c3], .bool (decide (y ≤ x))]) ∧ DAt B64 w' A3 n3 c3 (x - y) ∧ n3 ≤ n ∧ Below w.heap.size w w' := by
  refine (sub_any A n c x A' n' c' y w hx hy hn hn').mono ?_
  rintro e w' ⟨A3, n3, c3, rfl, hd, hb⟩
  exact ⟨A3, n3, c3, rfl, hd, DAt.len_le hd hx (Nat.sub_le _ _), hb⟩
theorem modOf_le (x y : Nat) : modOf x y ≤ x := by
  unfold modOf; split
  · omega
  · exact Nat.mod_le _ _
theorem divmod_sz (A : Option Addr) (n c x : Nat) (A' : Option Addr) (n' c' y : Nat) (w : World) (hx : DAt B64 w A n c x) (hy : DAt B64 w A' n' c' y) (hn : n ≤ 1099511627776) (hn' : n' ≤ 1099511627776) :
    Calls Try.prog 86 #[.agg #[.slice A n c], .agg #[.slice A' n' c']] w fun e w' => ∃ A3 n3 c3 A4 n4 c4, e = .returned (.tuple #[.agg #[.slice A3 n3 c3], .agg #[.slice A4 n4 c4], .bool (nz y)]) ∧ DAt B64 w' A3 n3 c3 (x / y) ∧ DAt B64 w' A4 n4 c4 (modOf x y) ∧ n3 ≤ n ∧ n4 ≤ n ∧ Below w.heap.size w w' := by
  refine (divmod_any A n c x A' n' c' y w hx hy hn hn').mono ?_
  rintro e w' ⟨A3, n3, c3, A4, n4, c4, rfl, hd3, hd4, hb⟩
  exact ⟨A3, n3, c3, A4, n4, c4, rfl, hd3, hd4, DAt.len_le hd3 hx (Nat.div_le_self _ _), DAt.len_le hd4 hx (modOf_le _ _), hb⟩
theorem gcd_sz (A : Option Addr) (n c x : Nat) (A' : Option Addr) (n' c' y : Nat) (w : World) (hx : DAt B64 w A n c x) (hy : DAt B64 w A' n' c' y) (hn : n ≤ 1099511627776) (hn' : n' ≤ 1099511627776) :
    Calls Try.prog 96 #[.agg #[.slice A n c], .agg #[.slice A' n' c']] w fun e w' => ∃ A3 n3 c3, e = .returned (.agg #[.slice A3 n3 c3]) ∧ DAt B64 w' A3 n3 c3 (Nat.gcd x y) ∧ n3 ≤ n + n' ∧ Below w.heap.size w w' := by
  refine (gcd_any A n c x A' n' c' y w hx hy hn hn').mono ?_
  rintro e w' ⟨A3, n3, c3, rfl, hd, hb⟩
  refine ⟨A3, n3, c3, rfl, hd, ?_, hb⟩
  rcases Nat.eq_zero_or_pos x with h | h
  · subst h
    rw [Nat.gcd_zero_left] at hd
    exact Nat.le_trans (DAt.len_le hd hy (Nat.le_refl _)) (Nat.le_add_left _ _)
  · exact Nat.le_trans (DAt.len_le hd hx (Nat.gcd_le_left y h)) (Nat.le_add_right _ _)
theorem of_sz (d : Nat) (hd : d < B64) (w : World) :
    Calls Try.prog 64 #[.int .u64 (d : Int)] w fun e w' => ∃ A3 n3 c3, e = .returned (.agg #[.slice A3 n3 c3]) ∧ DAt B64 w' A3 n3 c3 d ∧ n3 ≤ 1 ∧ Below w.heap.size w w' := by
  refine (of_any d hd w).mono ?_
  rintro e w' ⟨A3, n3, c3, rfl, h, hb⟩
  exact ⟨A3, n3, c3, rfl, h, h.le two_le_B64 (by rw [Nat.pow_one]; exact hd), hb⟩
theorem bev_lt {l : List Nat} (h : ∀ d ∈ l, d < 256) : bev l < 256 ^ l.length := by
  unfold bev
  have := val_lt (b := 256) (by omega) l.reverse (fun d hd => h d (List.mem_reverse.1 hd))
  rwa [List.length_reverse] at this
theorem right_sz (A : Option Addr) (n c x : Nat) (k : Int) (w : World) (h : DAt B64 w A n c x) (hn : n ≤ 1099511627776) (hk : k ≤ 9223372036854775807) :
    Calls Try.prog 103 #[.agg #[.slice A n c], .int .i64 k] w fun e w' => ∃ A3 n3 c3, e = .returned (.agg #[.slice A3 n3 c3]) ∧ DAt B64 w' A3 n3 c3 (x / 2 ^ k.toNat) ∧ n3 ≤ n ∧ Below w.heap.size w w' := by
  refine (right_any A n c x k w h hn hk).mono ?_
  rintro e w' ⟨A3, n3, c3, rfl, hd, hb⟩
  exact ⟨A3, n3, c3, rfl, hd, DAt.len_le hd h (Nat.div_le_self _ _), hb⟩
/-- Left by k, from 0 to MaxShift. -/
theorem left_sz (A : Option Addr) (n c x k : Nat) (w : World) (h : DAt B64 w A n c x) (hn : n ≤ 1099511627776) (hk : k ≤ 16777216) :
    Calls Try.prog 91 #[.agg #[.slice A n c], .int .i64 (k : Int)] w fun e w' => ∃ A3 n3 c3, e = .returned (.tuple #[.agg #[.slice A3 n3 c3], .bool true]) ∧ DAt B64 w' A3 n3 c3 (x * 2 ^ k) ∧ n3 ≤ n + k ∧ Below w.heap.size w w' := by
  refine (left_any A n c x k w h hn (by omega) (by omega)).mono ?_
  rintro e w' ⟨A3, n3, c3, rfl, hd, hb⟩
  rw [leftV_pos hk] at hd
  rw [leftOk_near (by omega)]
  refine ⟨A3, n3, c3, rfl, hd, hd.le two_le_B64 ?_, hb⟩
  rw [Nat.pow_add]
  exact Nat.mul_lt_mul_of_lt_of_le (h.lt two_le_B64) (Nat.pow_le_pow_left (by decide) k) (Nat.pow_pos (by decide))

theorem bytes_eq (A : Option Addr) (n c x : Nat) (w : World) (h : DAt B64 w A n c x) (hn : n ≤ 1099511627776) :
    Calls Try.prog 80 #[.agg #[.slice A n c]] w fun e w' => ∃ g, e = .returned (.slice (some ⟨g, 0, none⟩) (bytesOf x).length (bytesOf x).length) ∧ w.heap.size ≤ g ∧ Bg w' g (bytesOf x) ∧ Below w.heap.size w w' := by
  refine (bytes_any A n c x w h hn).mono ?_
  rintro e w' ⟨g, m, rfl, hg, hm, hB, hb⟩
  rw [bytes_len, ← hm]
  exact ⟨g, rfl, hg, hB, hb⟩
theorem cmpI_self (x : Nat) : cmpI x x = 0 := by unfold cmpI; simp
theorem Bw.of_bg {w : World} {g : Nat} {l : List Nat} (h : Bg w g l) : Bw w g l := ⟨[], by rw [List.append_nil]; exact h⟩

end Go.Proofs.Ytojpiiboikomfaa
