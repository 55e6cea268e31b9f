/-
  Walks and plain laws.
-/
import Derived.Test.YtfgnleoaibcegaaGreatXA8
set_option linter.unusedVariables false
set_option linter.unusedSimpArgs false
namespace Go.Proofs.YtfgnleoaibcegaaGreat

open Go.RowKit

def bva (l : List Nat) : Array Value := (bv l).toArray
theorem bva_get (l : List Nat) (j : Nat) (h : j < l.length) : (bva l)[j]? = some (.int .u8 ((l.getD j 0 : Nat) : Int)) := by
  simp only [bva, List.getElem?_toArray]; exact bv_get l j h
theorem bva_set (l : List Nat) (j d : Nat) : (bva l).setIfInBounds j (.int .u8 (d : Int)) = bva (l.set j d) := by
  simp only [bva, bv, List.setIfInBounds_toArray, List.map_set]
def Bg (w : World) (g : Nat) (l : List Nat) : Prop := Blk w g 5 (bva l)
section

variable {w w' : World} {g : Nat} {l : List Nat}
theorem Bg.lt (h : Bg w g l) : g < w.heap.size := Blk.lt h
theorem Bg.cell (h : Bg w g l) {i : Nat} (hi : i < l.length) : w.cell? ⟨g, i, none⟩ = some (.int .u8 ((l.getD i 0 : Nat) : Int)) := by rw [Blk.cell h]; exact bva_get l i hi
theorem Bg.frozen (h : Bg w g l) (i : Nat) : w.frozen? ⟨g, i, none⟩ = false := Blk.frozen h i
theorem Bg.set_ (h : Bg w g l) (i d : Nat) : Bg (w.setCell ⟨g, i, none⟩ (.int .u8 (d : Int))) g (l.set i d) := by
  have := Blk.set_ h i (.int .u8 (d : Int))
  rwa [bva_set] at this
theorem Bg.below {B : Nat} (h : Bg w g l) (hb : Below B w w') (hg : g < B) : Bg w' g l := Blk.below h hb hg
theorem Bg.drew (h : Bg w g l) : Bg w.drew g l := h
theorem Bg.bat (h : Bg w g l) (hl : ∀ d ∈ l, d < 256) : BAt w (some ⟨g, 0, none⟩) l.length l.length l :=
  ⟨⟨by rw [bv_length]; omega, fun _ => ⟨_, rfl, h.lt, fun j u hu => by
    have hj : j < l.length := by have := (List.getElem?_eq_some_iff.1 hu).1; rw [bv_length] at this; omega
    rw [Addr.add_lit, Nat.zero_add, h.cell hj, ← hu, bv_get _ j hj]⟩⟩, hl⟩
end
theorem info_byte : (Tryz.prog.info? 5).map (fun i => (i.zero, i.size, i.bytes)) = some (some (.int .u8 0), 1, 1) := by kernel_rfl
theorem madeCells_bva (n : Nat) : madeCells #[.int .u8 0] n = bva (List.replicate n 0) := by
  apply Array.ext
  · simp [madeCells, bva, bv]
  · intro i h1 h2
    simp [madeCells, bva, bv, Nat.mod_one]
theorem run_make_bytes (n : Nat) (hn : n ≤ 35184372088832) (w : World) :
    (Instr.makeSlice 22 (.int .i64 (n : Int)) (.int .i64 (n : Int))).run Tryz.prog w = .ok (.slice (some ⟨w.heap.size, 0, none⟩) n n) (w.alloc (.cells (bva (List.replicate n 0)) 5)) := by
  rw [← madeCells_bva]
  exact run_make_row' 22 5 (.int .u8 0) 1 Tryz.underlying22 info_byte rfl .i64 .i64 n (by omega) (by omega) w

def bytesOf (x : Nat) : List Nat := (digs 256 x).reverse
theorem two_le_256 : 2 ≤ 256 := by omega
theorem bytes_len (x : Nat) : (bytesOf x).length = (bl x + 7) / 8 := by
  unfold bytesOf
  rw [List.length_reverse]
  rcases Nat.eq_zero_or_pos x with rfl | h
  · rw [digs_zero, bl_zero]; rfl
  · have h1 := lt_pow_length two_le_256 x
    have h2 := pow_length_le two_le_256 h
    have h3 : (digs 256 x).length ≠ 0 := by rw [Ne, digs_length_zero two_le_256]; omega
    obtain ⟨b1, b2, b3⟩ := bl_bounds h
    generalize (digs 256 x).length = L at *
    rw [show (256 : Nat) = 2 ^ 8 from rfl, ← Nat.pow_mul] at h1 h2
    have e1 : bl x ≤ 8 * L := bl_le h1
    have e2 : 8 * (L - 1) < bl x := by
      rcases Nat.lt_or_ge (8 * (L - 1)) (bl x) with h | h
      · exact h
      · have := Nat.pow_le_pow_right (show 0 < 2 by omega) h
        omega
    omega
theorem byte_digit (x i : Nat) : x / B64 ^ (i / 8) % B64 / 2 ^ (8 * (i % 8)) % 256 = x / 256 ^ i % 256 := by
  rw [pow256, ← Nat.div_div_eq_div_mul]
  generalize x / B64 ^ (i / 8) = y
  rw [B64_pow, show (256 : Nat) = 2 ^ 8 from rfl]
  apply Nat.eq_of_testBit_eq
  intro j
  simp only [Nat.testBit_mod_two_pow, Nat.testBit_div_two_pow]
  by_cases hj : j < 8
  · simp [hj, show 8 * (i % 8) + j < 64 by omega, show j + 8 * (i % 8) < 64 by omega]
  · simp [hj]
theorem idx_lt {x n i : Nat} (h : x < B64 ^ n) (hi : i < (bl x + 7) / 8) : i / 8 < n := by
  have : bl x ≤ 64 * n := bl_le (by rw [← B64_pow_two]; exact h)
  omega

def byIs (x m i : Nat) : List Nat := List.replicate (m - i) 0 ++ ((digs 256 x).take i).reverse
theorem byIs_len {x m i : Nat} (hm : m = (bl x + 7) / 8) (hi : i ≤ m) : (byIs x m i).length = m := by
  have := bytes_len x
  unfold bytesOf at this
  rw [List.length_reverse] at this
  simp [byIs]; omega
theorem byIs_next {x m i : Nat} (hm : m = (bl x + 7) / 8) (hi : i < m) : (byIs x m i).set (m - 1 - i) (x / 256 ^ i % 256) = byIs x m (i + 1) := by
  have hl := bytes_len x
  unfold bytesOf at hl
  rw [List.length_reverse] at hl
  have e : (digs 256 x).take (i + 1) = (digs 256 x).take i ++ [x / 256 ^ i % 256] := by
    rw [List.take_succ_eq_append_getElem (by omega)]
    have := digs_getD two_le_256 x i
    rw [List.getD_eq_getElem?_getD, List.getElem?_eq_getElem (by omega)] at this
    simp at this
    rw [this]
  unfold byIs
  rw [e, List.reverse_append, show m - i = (m - 1 - i) + 1 by omega, List.replicate_succ']
  rw [show m - (i + 1) = m - 1 - i by omega, List.append_assoc, List.set_append_right _ _ (by simp)]
  simp
theorem byIs_done {x m : Nat} (hm : m = (bl x + 7) / 8) : byIs x m m = bytesOf x := by
  have hl := bytes_len x
  unfold bytesOf at hl ⊢
  rw [List.length_reverse] at hl
  unfold byIs
  rw [Nat.sub_self, List.take_of_length_le (by omega)]; rfl

theorem cast_shift (d k : Nat) : ((d / 2 ^ k % 256 : Nat) : Int) = (d : Int) / 2 ^ k % 256 := by simp

structure ByRel (w0 : World) (A : Option Addr) (n c g : Nat) (l : List Nat) (wr : World) : Prop where
  bx : wr.cell? ⟨w0.heap.size, 0, none⟩ = some (.slice A n c)
  dg : Bg wr g l
  bel : Below w0.heap.size w0 wr
  hg : w0.heap.size < g
theorem ByRel.set_ {w0 wr : World} {A : Option Addr} {n c g : Nat} {l : List Nat} (h : ByRel w0 A n c g l wr) (k d : Nat) : ByRel w0 A n c g (l.set k d) (wr.setCell ⟨g, k, none⟩ (.int .u8 (d : Int))) := by
  have hg := h.hg
  refine ⟨?_, h.dg.set_ k d, h.bel.setCell (by simp; omega) _, hg⟩
  rw [World.cell?_setCell_other _ _ _ _ (by intro e; injection e; omega)]; exact h.bx

set_option maxRecDepth 100000 in
set_option maxHeartbeats 1000000 in
theorem bytes_any (A : Option Addr) (n c x : Nat) (w : World) (h : DAt B64 w A n c x) (hn : n ≤ 1099511627776) :
    Calls Tryz.prog 109 #[.agg #[.slice A n c]] w fun e w' => ∃ g m, e = .returned (.slice (some ⟨g, 0, none⟩) m m) ∧ w.heap.size ≤ g ∧ m = (bl x + 7) / 8 ∧ Bg w' g (bytesOf x) ∧ Below w.heap.size w w' := by
  have hbx : bl x ≤ 70368744177664 := Nat.le_trans (bl_le (by have := h.lt two_le_B64; rwa [B64_pow_two] at this)) (by omega)
  have hmk := run_make_bytes ((bl x + 7) / 8) (by omega)
  rw [show (((bl x + 7) / 8 : Nat) : Int) = ((bl x : Nat) + 7) / 8 by omega] at hmk
  have HIX := Lib.hid (fun i hi => idx_lt (i := i) (h.lt two_le_B64) hi)
  have h' := h.below ((Below.refl _ _).alloc (Nat.le_refl _) (.cells #[.slice A n c] 26))
  go_enter Tryz.func109, Tryz.ntmps109
  go_wp2_with (go_at_call 42; refine (len_any A n c x _ h' hn).mono ?_; rintro e w1 ⟨rfl, hb1⟩)
  clear hmk
  have hb0 : Below w.heap.size w w1 := ((Below.refl _ _).alloc (Nat.le_refl _) (.cells #[.slice A n c] 26)).trans (hb1.mono (by simp))
  have hc0 : w1.cell? ⟨w.heap.size, 0, none⟩ = some (.slice A n c) := (hb1.cell (by simp)).trans ((Blk.new w 26 #[.slice A n c]).cell 0)
  have hgw : w.heap.size < w1.heap.size := by have := hb1.size; simp at this; omega
  have hr0 : ByRel w A n c w1.heap.size (byIs x ((bl x + 7) / 8) 0) (w1.alloc (.cells (bva (List.replicate ((bl x + 7) / 8) 0)) 5)) :=
    ⟨(World.cell?_alloc_lt _ _ _ hgw).trans hc0, by simp only [byIs, List.take_zero, List.reverse_nil, List.append_nil, Nat.sub_zero]; exact Blk.new _ _ _, hb0.alloc (by omega) _, hgw⟩
  clear hb1 hb0 hc0
  obtain ⟨m, hm⟩ : ∃ m, m = (bl x + 7) / 8 := ⟨_, rfl⟩
  have hmi : ((bl x : Nat) + 7 : Int) / 8 = (m : Int) := by omega
  rw [hmi]
  rw [← hm] at hr0 HIX ⊢
  have hm1 : m ≤ 35184372088832 := by omega
  have HM := Lib.hid hm
  clear hmi hm hbx h'
  generalize w1.alloc (.cells (bva (List.replicate m 0)) 5) = W at hr0 ⊢
  generalize w1.heap.size = g at *
  go_loopw [12] (fun iv wr => ∃ i : Nat, i ≤ m ∧ iv = .int .i64 i ∧ ByRel w A n c g (byIs x m i) wr) (fun i _ => m - (intOf i).toNat)
  case atStart => exact ⟨0, by omega, rfl, hr0⟩
  case round =>
    clear hr0
    obtain ⟨i, hi, rfl, hr⟩ := hrel
    by_cases hlt : i < m
    · have hix := HIX.out i hlt
      obtain ⟨gx, ox, rfl, hg, hc⟩ := h.flat two_le_B64 (by omega)
      have hc1 := (hr.bel.cell (p := ⟨gx, ox + i / 8, none⟩) hg).trans (hc (i / 8) hix)
      have hbx := hr.bx
      have hd1 := hr.dg.cell (i := m - 1 - i) (by rw [byIs_len HM.out hi]; omega)
      have hf1 := hr.dg.frozen (m - 1 - i)
      have hset := hr.set_ (m - 1 - i) (x / 256 ^ i % 256)
      rw [byIs_next HM.out hlt] at hset
      have hby := byte_digit x i
      have hdl : x / B64 ^ (i / 8) % B64 < B64 := Nat.mod_lt _ (by decide)
      generalize (byIs x m i).getD (m - 1 - i) 0 = d0 at *
      generalize x / B64 ^ (i / 8) % B64 = d at *
      generalize x / 256 ^ i % 256 = e at *
      have HBY := Lib.hid hby; have HSET := Lib.hid hset
      clear hby hset hc
      have i0 : (0 : Int) ≤ (m : Int) - 1 - (i : Int) := by omega
      go_wp2
      go_roundw
      case rel =>
        refine ⟨i + 1, by omega, by go_num, ?_⟩
        have e1 := cast_shift d (8 * (i % 8))
        rw [HBY.out] at e1
        rw [← e1]
        exact HSET.out
      case measure => simp [intOf]; omega
    · obtain rfl : m = i := by omega
      have hdg := hr.dg
      rw [byIs_done HM.out] at hdg
      have hbl := hr.bel
      have hgg := hr.hg
      clear hr h
      go_wp2
      go_ret
      exact ⟨g, m, rfl, by omega, HM.out, hdg, hbl⟩

theorem bit_shift (x i : Nat) : (x / B64 ^ (i / 64) % B64 / 2 ^ (i % 64) % 2 = 1) ↔ x.testBit i = true := by
  have e : x / B64 ^ (i / 64) % B64 / 2 ^ (i % 64) % 2 = 1 ↔ (x / B64 ^ (i / 64) % B64).testBit (i % 64) = true := by
    rw [Nat.testBit_eq_decide_div_mod_eq]; simp
  rw [e, B64_pow_two, B64_pow, Nat.testBit_mod_two_pow, Nat.testBit_div_two_pow]
  rw [show i % 64 + 64 * (i / 64) = i by omega]
  simp [Nat.mod_lt]
def bitOf (x : Nat) (i : Int) : Bool := decide (0 ≤ i) && x.testBit i.toNat

theorem and_one_bit {d k : Nat} {b : Bool} (hd : d < B64) (h : d / 2 ^ k % 2 = 1 ↔ b = true) : (bits .and .u64 ((d : Int) / 2 ^ k) 1 == 1) = b := by
  have e : (d : Int) / 2 ^ k = ((d / 2 ^ k : Nat) : Int) := by simp
  have h2 : d / 2 ^ k ≤ d := Nat.div_le_self ..
  rw [B64_eq] at hd
  have e1 := u64_and_nat (d / 2 ^ k) 1 (by omega) (by omega)
  rw [e, show (1 : Int) = ((1 : Nat) : Int) from rfl, e1, Nat.and_one_is_mod]
  rw [Bool.eq_iff_iff, ← h]
  simp
  omega

set_option maxHeartbeats 400000 in
theorem bit_any (A : Option Addr) (n c x : Nat) (i : Int) (w : World) (h : DAt B64 w A n c x) (hi : i ≤ 9223372036854775807) :
    Calls Tryz.prog 49 #[.agg #[.slice A n c], .int .i64 i] w fun e w' => e = .returned (.bool (bitOf x i)) ∧ Below w.heap.size w w' := by
  by_cases h0 : 0 ≤ i
  · have h' := h.below ((Below.refl _ _).alloc (Nat.le_refl _) (.cells #[.slice A n c] 26))
    have hd : decide (0 ≤ i) = true := decide_eq_true h0
    have hq : 0 ≤ i / 64 := by omega
    have HB : bitOf x i = x.testBit i.toNat := by unfold bitOf; rw [hd]; rfl
    have HBH := Lib.hid HB
    clear HB
    go_enter Tryz.func49, Tryz.ntmps49
    have hbs := bit_shift x i.toNat
    have hdl : x / B64 ^ (i / 64).toNat % B64 < B64 := Nat.mod_lt _ (by decide)
    rw [show i.toNat / 64 = (i / 64).toNat by omega, show i.toNat % 64 = (i % 64).toNat by omega] at hbs
    have hat := at_int A n c x (i / 64) hq _ h'
    generalize x / B64 ^ (i / 64).toNat % B64 = d at hbs hdl hat
    have HE := Lib.hid (and_one_bit (k := (i % 64).toNat) hdl hbs)
    have HAT := Lib.hid hat
    clear hbs hat
    go_wp2_with (go_at_call 98; refine (HAT.out).mono ?_; rintro e w1 ⟨rfl, hb1⟩)
    go_ret
    exact ⟨by rw [HBH.out, ← HE.out]; rfl, ((Below.refl _ _).alloc (Nat.le_refl _) _).trans (hb1.mono (by simp))⟩
  · have hd : decide (0 ≤ i) = false := decide_eq_false h0
    have HB : bitOf x i = false := by unfold bitOf; rw [hd]; rfl
    have HBH := Lib.hid HB
    clear HB h
    go_enter Tryz.func49, Tryz.ntmps49
    go_wp2
    go_ret
    exact ⟨by rw [HBH.out]; rfl, (Below.refl _ _).alloc (Nat.le_refl _) _⟩
end Go.Proofs.YtfgnleoaibcegaaGreat
