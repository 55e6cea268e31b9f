/-
  Walks and plain laws.
-/
import Derived.Test.YtfgnleoaibcegaaGreatXM0
import Derived.Test.YtfgnleoaibcegaaGreatXWd
import Derived.Test.YtfgnleoaibcegaaGreatXFr
import Derived.Test.YtfgnleoaibcegaaGreatRows
import Derived.WalkKit
import Derived.WalkSpells
import Derived.WalkLawsBesides
import Derived.Deep.QuietTactic
import Derived.BigQuiet
import Derived.Lib.Hide
import Derived.OneCell
import Derived.Deep.OwnRows
import Derived.Deep.RegionHeld3
import Derived.Deep.RegionWith
import Derived.Deep.LoopGhost
import Derived.Laws.Externs
set_option linter.unusedVariables false
set_option linter.unusedSimpArgs false
namespace Go.Proofs.YtfgnleoaibcegaaGreat

open Go.RowKit

def dv (l : List Nat) : List Value := l.map fun (d : Nat) => .int .u64 (d : Int)
def dva (l : List Nat) : Array Value := (dv l).toArray
theorem dv_length (l : List Nat) : (dv l).length = l.length := by simp [dv]
theorem dv_append (l m : List Nat) : dv (l ++ m) = dv l ++ dv m := by simp [dv]
theorem dv_one (l : List Nat) : ∀ u ∈ dv l, u.oneCell' = true := by
  intro u hu
  obtain ⟨x, _, rfl⟩ := List.mem_map.1 hu
  rfl
theorem dv_get (l : List Nat) (j : Nat) (h : j < l.length) : (dv l)[j]? = some (.int .u64 ((l.getD j 0 : Nat) : Int)) := by simp [dv, h]
structure DAt (b : Nat) (w : World) (A : Option Addr) (n c x : Nat) : Prop where
  reads : Reads w w.heap.size 1 A n (dv (digs b x))
  cap : n ≤ c
  room : c ≤ maxLen

section

variable {b : Nat} {w w' : World} {A : Option Addr} {n c x : Nat}
theorem DAt.len (h : DAt b w A n c x) : (digs b x).length = n := by have := h.reads.1; rw [dv_length] at this; omega
theorem DAt.below (h : DAt b w A n c x) (hb : Below w.heap.size w w') : DAt b w' A n c x := ⟨(h.reads.below hb).more hb.size, h.cap, h.room⟩
theorem DAt.drew (h : DAt b w A n c x) : DAt b w.drew A n c x := ⟨h.reads.drew, h.cap, h.room⟩
theorem DAt.grown (h : DAt b w A n c x) (hg : w.grownBy w' none) : DAt b w' A n c x :=
  h.below ⟨hg.os, hg.tape, hg.output, hg.size, fun k hk => hg.block k hk (by simp)⟩
theorem DAt.flat (hb : 2 ≤ b) (h : DAt b w A n c x) (hn : 0 < n) : ∃ g off, A = some ⟨g, off, none⟩ ∧ g < w.heap.size ∧ ∀ j, j < n → w.cell? ⟨g, off + j, none⟩ = some (.int .u64 ((x / b ^ j % b : Nat) : Int)) := by
  obtain ⟨g, off, rfl, hg, hc⟩ := h.reads.flat hn (by omega)
  refine ⟨g, off, rfl, hg, fun j hj => hc j _ ?_⟩
  rw [dv_get _ j (by rw [h.len]; exact hj), digs_getD hb]
theorem DAt.zero_len (hb : 2 ≤ b) (h : DAt b w A n c x) : n = 0 ↔ x = 0 := by rw [← h.len]; exact digs_length_zero hb x
theorem DAt.lt (hb : 2 ≤ b) (h : DAt b w A n c x) : x < b ^ n := by have := lt_pow_length hb x; rwa [h.len] at this
theorem DAt.ge (hb : 2 ≤ b) (h : DAt b w A n c x) (hx : 0 < x) : b ^ (n - 1) ≤ x := by have := pow_length_le hb hx; rwa [h.len] at this
theorem DAt.le (hb : 2 ≤ b) (h : DAt b w A n c x) {k : Nat} (hk : x < b ^ k) : n ≤ k := by rw [← h.len]; exact digs_length_le hb hk
theorem DAt.zero (c : Nat) (hc : c ≤ maxLen) : DAt b w none 0 c 0 := ⟨by rw [digs_zero]; exact Reads.none_, by omega, hc⟩
theorem DAt.nil : DAt b w none 0 0 0 := DAt.zero 0 (by unfold maxLen; omega)
end

theorem DAt.put {b : Nat} {w : World} {A : Option Addr} {n c x : Nat} (h : DAt b w A n c x) {p : Addr} {B : Option Addr} {m k : Nat} (hp : w.cell? p = some (.slice B m k)) (u : Value) : DAt b (w.setCell p u) A n c x := by
  refine ⟨⟨h.reads.1, fun hn => ?_⟩, h.cap, h.room⟩
  obtain ⟨ad, e, hb, hc⟩ := h.reads.2 hn
  refine ⟨ad, e, by simpa [World.setCell] using hb, fun j v hv => ?_⟩
  have hq := hc j v hv
  rw [World.cell?_setCell_other]
  · exact hq
  · intro e
    rw [← e, hp] at hq
    injection hq with hq
    obtain ⟨d, _, rfl⟩ := List.mem_map.1 (List.mem_of_getElem? hv)
    cases hq
theorem res_cell {w w1 : World} {B : Nat} {v : Value} {t : TypeId} (hb : Below B (w.alloc (.cells #[v] t)) w1) (hB : w.heap.size < B) : w1.cell? ⟨w.heap.size, 0, none⟩ = some v := by
  rw [hb.cell hB]; exact (Blk.new w t #[v]).cell 0
theorem res_free {w w1 : World} {B : Nat} {v : Value} {t : TypeId} (hb : Below B (w.alloc (.cells #[v] t)) w1) (hB : w.heap.size < B) : w1.frozen? ⟨w.heap.size, 0, none⟩ = false := by
  rw [hb.frozen hB]; exact (Blk.new w t #[v]).frozen 0

def Dg (w : World) (g : Nat) (l : List Nat) : Prop := ∃ tail : List Value, Blk w g 23 (dv l ++ tail).toArray
section

variable {w w' : World} {g : Nat} {l : List Nat}
theorem Dg.of (h : Blk w g 23 (dva l)) : Dg w g l := ⟨[], by rw [List.append_nil]; exact h⟩
theorem Dg.new (w : World) (l : List Nat) : Dg (w.alloc (.cells (dva l) 23)) w.heap.size l := Dg.of (Blk.new _ _ _)
theorem Dg.lt (h : Dg w g l) : g < w.heap.size := by obtain ⟨t, h⟩ := h; exact Blk.lt h
theorem Dg.cell (h : Dg w g l) {i : Nat} (hi : i < l.length) : w.cell? ⟨g, i, none⟩ = some (.int .u64 ((l.getD i 0 : Nat) : Int)) := by
  obtain ⟨t, h⟩ := h
  rw [Blk.cell h, List.getElem?_toArray, List.getElem?_append_left (by rw [dv_length]; exact hi)]; exact dv_get l i hi
theorem Dg.frozen (h : Dg w g l) (i : Nat) : w.frozen? ⟨g, i, none⟩ = false := by obtain ⟨t, h⟩ := h; exact Blk.frozen h i
theorem Dg.set_ (h : Dg w g l) (i d : Nat) : Dg (w.setCell ⟨g, i, none⟩ (.int .u64 (d : Int))) g (l.set i d) := by
  obtain ⟨t, h⟩ := h
  have := Blk.set_ h i (.int .u64 (d : Int))
  rw [List.setIfInBounds_toArray, List.set_append] at this
  by_cases hi : i < (dv l).length
  · rw [if_pos hi] at this
    exact ⟨t, by rw [show dv (l.set i d) = (dv l).set i (.int .u64 (d : Int)) by simp [dv, List.map_set]]; exact this⟩
  · rw [if_neg hi] at this
    rw [dv_length] at hi
    exact ⟨_, by rw [List.set_eq_of_length_le (by omega)]; exact this⟩
theorem Dg.below {B : Nat} (h : Dg w g l) (hb : Below B w w') (hg : g < B) : Dg w' g l := by obtain ⟨t, h⟩ := h; exact ⟨t, Blk.below h hb hg⟩
theorem Dg.far (h : Dg w g l) {p : Addr} (hp : g ≠ p.block) (u : Value) : Dg (w.setCell p u) g l := by obtain ⟨t, h⟩ := h; exact ⟨t, Blk.far h hp u⟩
theorem Dg.reads (h : Dg w g l) (m : Nat) (hm : m ≤ l.length) : Reads w w.heap.size 1 (some ⟨g, 0, none⟩) m (dv (l.take m)) :=
  ⟨by rw [dv_length, List.length_take]; omega, fun _ => ⟨_, rfl, h.lt, fun j u hu => by
    have hj : j < m := by have := (List.getElem?_eq_some_iff.1 hu).1; rw [dv_length, List.length_take] at this; omega
    rw [Addr.add_lit, Nat.zero_add, h.cell (by omega), ← hu, dv_get _ j (by rw [List.length_take]; omega)]
    simp [List.getD_eq_getElem?_getD, List.getElem?_take, hj]⟩⟩
end

theorem info_digit : (Tryz.prog.info? 23).map (fun i => (i.zero, i.size, i.bytes)) = some (some (.int .u64 0), 1, 8) := by kernel_rfl
theorem madeCells_dva (n : Nat) : madeCells #[.int .u64 0] n = dva (List.replicate n 0) := by
  apply Array.ext
  · simp [madeCells, dva, dv]
  · intro i h1 h2
    simp [madeCells, dva, dv, Nat.mod_one]
theorem run_make_digits (n : Nat) (hn : n ≤ 35184372088832) (w : World) :
    (Instr.makeSlice 24 (.int .i64 (n : Int)) (.int .i64 (n : Int))).run Tryz.prog w = .ok (.slice (some ⟨w.heap.size, 0, none⟩) n n) (w.alloc (.cells (dva (List.replicate n 0)) 23)) := by
  rw [← madeCells_dva]
  exact run_make_row' 24 23 (.int .u64 0) 8 Tryz.underlying24 info_digit rfl .i64 .i64 n (by omega) (by omega) w

def lo64 (n : Nat) : Nat := n % B64
def hi64 (n : Nat) : Nat := n / B64
theorem lo_hi (n : Nat) : lo64 n + B64 * hi64 n = n := Nat.mod_add_div n B64
theorem lo_lt (n : Nat) : lo64 n < B64 := Nat.mod_lt _ (by decide)
theorem two_le_B64 : 2 ≤ B64 := by decide
theorem two_le_B32 : 2 ≤ B32 := by decide

theorem run_add64' (x y c : Nat) (hc : c ≤ 1) (w : World) :
    (callFunc 93 #[.int .u64 (x : Int), .int .u64 (y : Int), .int .u64 (c : Int)]).run Tryz.prog w = .ok (.value (.tuple #[.int .u64 ((lo64 (x + y + c) : Nat) : Int), .int .u64 ((hi64 (x + y + c) : Nat) : Int)])) w := by
  rw [run_callFunc_extern Tryz.func93 (by kernel_rfl) (by kernel_rfl) (by kernel_rfl) (e := add64Entry) (by kernel_rfl), run_add64 x y c (by omega) (by omega) (by omega) (by omega)]
  simp only [Result.andThen, lo64, hi64, B64]
  congr 5 <;> omega

def sub64Entry : Array Value → Sem Value := fun args => do
  let (x, y, b) ← Extern.MathBitsCarry.three "Sub64" args
  pure (Extern.MathBitsCarry.pair ((x + Extern.MathBitsCarry.m64 - y - b) % Extern.MathBitsCarry.m64) (if x < y + b then 1 else 0))
theorem run_sub64_ {P : Program} (x y b : Nat) (hb : b ≤ 1) (w : World) :
    (sub64Entry #[.int .u64 x, .int .u64 y, .int .u64 b]).run P w =
      .ok (.tuple #[.int .u64 (((x + 18446744073709551616 - y - b) % 18446744073709551616 : Nat) : Int), .int .u64 ((if x < y + b then 1 else 0 : Nat) : Int)]) w := by
  have : b = 0 ∨ b = 1 := by omega
  rcases this with rfl | rfl <;> rfl
def sub64 (x y c : Nat) : Nat := (x + B64 - y - c) % B64
def brw64 (x y c : Nat) : Nat := if x < y + c then 1 else 0
theorem brw_le (x y c : Nat) : brw64 x y c ≤ 1 := by unfold brw64; split <;> omega
theorem sub_lt (x y c : Nat) : sub64 x y c < B64 := Nat.mod_lt _ (by decide)
theorem sub_brw {x y c : Nat} (hx : x < B64) (hy : y < B64) (hc : c ≤ 1) : sub64 x y c + y + c = x + B64 * brw64 x y c := by
  unfold sub64 brw64
  rw [B64_eq] at *
  split
  · rw [Nat.mod_eq_of_lt (by omega)]; omega
  · rw [show x + 18446744073709551616 - y - c = (x - y - c) + 18446744073709551616 from by omega, Nat.add_mod_right, Nat.mod_eq_of_lt (by omega)]; omega
theorem hi_le {x y c : Nat} (hx : x < B64) (hy : y < B64) (hc : c ≤ 1) : hi64 (x + y + c) ≤ 1 := by
  unfold hi64
  rw [B64_eq] at *
  omega

end Go.Proofs.YtfgnleoaibcegaaGreat
