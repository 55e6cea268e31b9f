/-
  Walks and plain laws.
-/
import Derived.Test.YtfgnleoaibcegaaGreatXA8
set_option linter.unusedVariables false
set_option linter.unusedSimpArgs false
namespace Go.Proofs.YtfgnleoaibcegaaGreat

open Go.RowKit

def bva (l : List Nat) : Array Value := (bv l).toArray
theorem bva_get (l : List Nat) (j : Nat) (h : j < l.length) : (bva l)[j]? = some (.int .u8 ((l.getD j 0 : Nat) : Int)) := by
  simp only [bva, List.getElem?_toArray]; exact bv_get l j h
theorem bva_set (l : List Nat) (j d : Nat) : (bva l).setIfInBounds j (.int .u8 (d : Int)) = bva (l.set j d) := by
  simp only [bva, bv, List.setIfInBounds_toArray, List.map_set]
def Bg (w : World) (g : Nat) (l : List Nat) : Prop := Blk w g 5 (bva l)
section

variable {w w' : World} {g : Nat} {l : List Nat}
theorem Bg.lt (h : Bg w g l) : g < w.heap.size := Blk.lt h
theorem Bg.cell (h : Bg w g l) {i : Nat} (hi : i < l.length) : w.cell? ⟨g, i, none⟩ = some (.int .u8 ((l.getD i 0 : Nat) : Int)) := by rw [Blk.cell h]; exact bva_get l i hi
theorem Bg.frozen (h : Bg w g l) (i : Nat) : w.frozen? ⟨g, i, none⟩ = false := Blk.frozen h i
theorem Bg.set_ (h : Bg w g l) (i d : Nat) : Bg (w.setCell ⟨g, i, none⟩ (.int .u8 (d : Int))) g (l.set i d) := by
  have := Blk.set_ h i (.int .u8 (d : Int))
  rwa [bva_set] at this
theorem Bg.below {B : Nat} (h : Bg w g l) (hb : Below B w w') (hg : g < B) : Bg w' g l := Blk.below h hb hg
theorem Bg.drew (h : Bg w g l) : Bg w.drew g l := h
end
theorem info_byte : (Tryz.prog.info? 5).map (fun i => (i.zero, i.size, i.bytes)) = some (some (.int .u8 0), 1, 1) := by kernel_rfl
def bytesOf (x : Nat) : List Nat := (digs 256 x).reverse
structure ByRel (w0 : World) (A : Option Addr) (n c g : Nat) (l : List Nat) (wr : World) : Prop where
  bx : wr.cell? ⟨w0.heap.size, 0, none⟩ = some (.slice A n c)
  dg : Bg wr g l
  bel : Below w0.heap.size w0 wr
  hg : w0.heap.size < g
theorem ByRel.set_ {w0 wr : World} {A : Option Addr} {n c g : Nat} {l : List Nat} (h : ByRel w0 A n c g l wr) (k d : Nat) : ByRel w0 A n c g (l.set k d) (wr.setCell ⟨g, k, none⟩ (.int .u8 (d : Int))) := by
  have hg := h.hg
  refine ⟨?_, h.dg.set_ k d, h.bel.setCell (by simp; omega) _, hg⟩
  rw [World.cell?_setCell_other _ _ _ _ (by intro e; injection e; omega)]; exact h.bx

theorem bit_shift (x i : Nat) : (x / B64 ^ (i / 64) % B64 / 2 ^ (i % 64) % 2 = 1) ↔ x.testBit i = true := by
  have e : x / B64 ^ (i / 64) % B64 / 2 ^ (i % 64) % 2 = 1 ↔ (x / B64 ^ (i / 64) % B64).testBit (i % 64) = true := by
    rw [Nat.testBit_eq_decide_div_mod_eq]; simp
  rw [e, B64_pow_two, B64_pow, Nat.testBit_mod_two_pow, Nat.testBit_div_two_pow]
  rw [show i % 64 + 64 * (i / 64) = i by omega]
  simp [Nat.mod_lt]
def bitOf (x : Nat) (i : Int) : Bool := decide (0 ≤ i) && x.testBit i.toNat

theorem and_one_bit {d k : Nat} {b : Bool} (hd : d < B64) (h : d / 2 ^ k % 2 = 1 ↔ b = true) : (bits .and .u64 ((d : Int) / 2 ^ k) 1 == 1) = b := by
  have e : (d : Int) / 2 ^ k = ((d / 2 ^ k : Nat) : Int) := by simp
  have h2 : d / 2 ^ k ≤ d := Nat.div_le_self ..
  rw [B64_eq] at hd
  have e1 := u64_and_nat (d / 2 ^ k) 1 (by omega) (by omega)
  rw [e, show (1 : Int) = ((1 : Nat) : Int) from rfl, e1, Nat.and_one_is_mod]
  rw [Bool.eq_iff_iff, ← h]
  simp
  omega

set_option maxHeartbeats 400000 in
theorem bit_any (A : Option Addr) (n c x : Nat) (i : Int) (w : World) (h : DAt B64 w A n c x) (hi : i ≤ 9223372036854775807) :
    Calls Tryz.prog 49 #[.agg #[.slice A n c], .int .i64 i] w fun e w' => e = .returned (.bool (bitOf x i)) ∧ Below w.heap.size w w' := by
  by_cases h0 : 0 ≤ i
  · have h' := h.below ((Below.refl _ _).alloc (Nat.le_refl _) (.cells #[.slice A n c] 26))
    have hd : decide (0 ≤ i) = true := decide_eq_true h0
    have hq : 0 ≤ i / 64 := by omega
    have HB : bitOf x i = x.testBit i.toNat := by unfold bitOf; rw [hd]; rfl
    have HBH := Lib.hid HB
    clear HB
    go_enter Tryz.func49, Tryz.ntmps49
    have hbs := bit_shift x i.toNat
    have hdl : x / B64 ^ (i / 64).toNat % B64 < B64 := Nat.mod_lt _ (by decide)
    rw [show i.toNat / 64 = (i / 64).toNat by omega, show i.toNat % 64 = (i % 64).toNat by omega] at hbs
    have hat := at_int A n c x (i / 64) hq _ h'
    generalize x / B64 ^ (i / 64).toNat % B64 = d at hbs hdl hat
    have HE := Lib.hid (and_one_bit (k := (i % 64).toNat) hdl hbs)
    have HAT := Lib.hid hat
    clear hbs hat
    go_wp2_with (go_at_call 98; refine (HAT.out).mono ?_; rintro e w1 ⟨rfl, hb1⟩)
    go_ret
    exact ⟨by rw [HBH.out, ← HE.out]; rfl, ((Below.refl _ _).alloc (Nat.le_refl _) _).trans (hb1.mono (by simp))⟩
  · have hd : decide (0 ≤ i) = false := decide_eq_false h0
    have HB : bitOf x i = false := by unfold bitOf; rw [hd]; rfl
    have HBH := Lib.hid HB
    clear HB h
    go_enter Tryz.func49, Tryz.ntmps49
    go_wp2
    go_ret
    exact ⟨by rw [HBH.out]; rfl, (Below.refl _ _).alloc (Nat.le_refl _) _⟩
end Go.Proofs.YtfgnleoaibcegaaGreat
