/-
  Walks and plain laws.
-/
import Derived.Test.YtfgnleoaibcegaaGreatXAN
set_option linter.unusedVariables false
set_option linter.unusedSimpArgs false
namespace Go.Proofs.YtfgnleoaibcegaaGreat

open Go.RowKit

structure QrIs (X V N K i : Nat) (D R : List Nat) : Prop where
  lenD : D.length = K
  digD : ∀ d ∈ D, d < B64
  zeroD : ∀ k, k < i → D.getD k 0 = 0
  eqD : val B64 D = B64 ^ i * (X / (V * B64 ^ i))
  lenR : R.length = N
  digR : ∀ d ∈ R, d < B64
  eqR : val B64 R = X % (V * B64 ^ i)
theorem QrIs.start {X V N K : Nat} {R : List Nat} (hX : X < V * B64 ^ K) (hl : R.length = N) (hd : ∀ d ∈ R, d < B64) (hv : val B64 R = X) : QrIs X V N K K (List.replicate K 0) R := by
  refine ⟨by simp, fun d hd => by rw [List.eq_of_mem_replicate hd]; decide, fun k _ => by simp [List.getD_eq_getElem?_getD, List.getElem?_replicate]; split <;> rfl, ?_, hl, hd, ?_⟩
  · rw [val_replicate, Nat.div_eq_of_lt hX]; simp
  · rw [hv, Nat.mod_eq_of_lt hX]
theorem QrIs.lt {X V N K i : Nat} {D R : List Nat} (h : QrIs X V N K i D R) (hV : 0 < V) : val B64 R < V * B64 ^ i := by
  rw [h.eqR]; exact Nat.mod_lt _ (Nat.mul_pos hV (Nat.pow_pos (by decide)))
theorem QrIs.top {X V N K i n : Nat} {D R : List Nat} (h : QrIs X V N K i D R) (hV : 0 < V) (hVn : V < B64 ^ n) : ∀ k, i + n ≤ k → R.getD k 0 = 0 := by
  intro k hk
  rw [val_getD two_le_B64 R h.digR, Nat.div_eq_of_lt, Nat.zero_mod]
  have h1 := h.lt hV
  have h2 : V * B64 ^ i ≤ B64 ^ n * B64 ^ i := Nat.mul_le_mul_right _ (Nat.le_of_lt hVn)
  rw [← Nat.pow_add] at h2
  have h3 : B64 ^ (n + i) ≤ B64 ^ k := Nat.pow_le_pow_right (by decide) (by omega)
  omega
theorem QrIs.next {X V N K j : Nat} {D R R' : List Nat} (h : QrIs X V N K (j + 1) D R) (hV : 0 < V) (hj : j < K) (hl : R'.length = N) (hd : ∀ d ∈ R', d < B64) (hv : val B64 R' = val B64 R % (V * B64 ^ j)) :
    QrIs X V N K j (D.set j (val B64 R / (V * B64 ^ j))) R' := by
  have hP : 0 < B64 ^ j := Nat.pow_pos (by decide)
  have hq : val B64 R / (V * B64 ^ j) < B64 := by
    rw [Nat.div_lt_iff_lt_mul (Nat.mul_pos hV hP)]
    have := h.lt hV
    rwa [Nat.pow_succ, ← Nat.mul_assoc, Nat.mul_comm _ B64] at this
  have hs := val_set (b := B64) D j (val B64 R / (V * B64 ^ j)) (by rw [h.lenD]; exact hj)
  rw [h.zeroD j (Nat.lt_succ_self j), h.eqD] at hs
  refine ⟨by rw [List.length_set]; exact h.lenD, set_dig h.digD hq, fun k hk => by rw [getD_set_ne (by omega)]; exact h.zeroD k (by omega), ?_, hl, hd, ?_⟩
  · have hR := h.eqR
    have e1 : V * B64 ^ (j + 1) = V * B64 ^ j * B64 := by rw [Nat.pow_succ, Nat.mul_assoc]
    have h3 := Nat.div_add_mod X (V * B64 ^ (j + 1))
    rw [← hR] at h3
    have h4 : X / (V * B64 ^ j) = B64 * (X / (V * B64 ^ (j + 1))) + val B64 R / (V * B64 ^ j) := by
      conv => lhs; rw [← h3, e1, Nat.mul_assoc]
      rw [Nat.mul_add_div (Nat.mul_pos hV hP), ← e1]
    rw [h4, Nat.mul_add, ← Nat.mul_assoc, ← Nat.pow_succ]
    simp only [Nat.mul_zero, Nat.add_zero] at hs
    exact hs
  · rw [hv, h.eqR]
    exact Nat.mod_mod_of_dvd _ (Nat.mul_dvd_mul_left _ (Nat.pow_dvd_pow _ (Nat.le_succ j)))
theorem QrIs.done {X V N K : Nat} {D R : List Nat} (h : QrIs X V N K 0 D R) : val B64 D = X / V ∧ val B64 R = X % V := by
  refine ⟨?_, ?_⟩
  · rw [h.eqD]; simp
  · rw [h.eqR]; simp

theorem top_up {y n : Nat} (hn : 0 < n) (h1 : y < B64 ^ n) (h2 : B64 ^ (n - 1) ≤ y) :
    ∃ d s, d = y / B64 ^ (n - 1) % B64 ∧ d < B64 ∧ 1 ≤ bl d ∧ bl d ≤ 64 ∧ s = 64 - bl d ∧ y * 2 ^ s < B64 ^ n ∧ B64 ^ (n - 1) ≤ y * 2 ^ s := by
  obtain ⟨t1, t2⟩ := top_digit hn h1 h2
  have hd : y / B64 ^ (n - 1) % B64 < B64 := Nat.mod_lt _ (by decide)
  have hb := bl_digits h2
  rw [← t1] at hb t2
  have hb1 := (bl_bounds t2).1
  have hb2 : bl (y / B64 ^ (n - 1) % B64) ≤ 64 := bl_le (by rw [← B64_pow]; exact hd)
  refine ⟨_, _, rfl, hd, hb1, hb2, rfl, ?_, ?_⟩
  · have hy0 : 0 < y := Nat.lt_of_lt_of_le (Nat.pow_pos (by decide)) h2
    have h3 := bl_mul_pow (k := 64 - bl (y / B64 ^ (n - 1) % B64)) hy0
    have h4 := bl_lt (x := y * 2 ^ (64 - bl (y / B64 ^ (n - 1) % B64)))
    rw [h3, hb] at h4
    rw [B64_pow_two n]
    refine Nat.lt_of_lt_of_le h4 (Nat.pow_le_pow_right (by omega) (by omega))
  · exact Nat.le_trans h2 (Nat.le_mul_of_pos_right _ (Nat.two_pow_pos _))

structure DvRel (w0 : World) (A : Option Addr) (n c x : Nat) (A' : Option Addr) (n' c' y p gv ov cv V g g2 : Nat) (R D : List Nat) (wr : World) : Prop where
  dm : DmRel w0 A n c x A' n' c' y wr
  bv : wr.cell? ⟨p, 0, none⟩ = some (.slice (some ⟨gv, ov, none⟩) n' cv)
  vi : VIs wr gv ov n' V
  dr : Dg wr g R
  dq : Dg wr g2 D
  h1 : w0.heap.size + 1 + 1 + 1 < p
  h2 : p < g
  h3 : gv < g
  h4 : g < g2
section

variable {w0 wr w1 : World} {A A' : Option Addr} {n c x n' c' y p gv ov cv V g g2 : Nat} {R D : List Nat}
theorem DvRel.drew (h : DvRel w0 A n c x A' n' c' y p gv ov cv V g g2 R D wr) : DvRel w0 A n c x A' n' c' y p gv ov cv V g g2 R D wr.drew :=
  ⟨⟨h.dm.dx0, h.dm.dy0, h.dm.bx, h.dm.by_, h.dm.b4, h.dm.f4, h.dm.b5, h.dm.f5, h.dm.bel.drew, h.dm.sz⟩, h.bv, ⟨h.vi.cells, h.vi.lt, h.vi.small⟩, h.dr, h.dq, h.h1, h.h2, h.h3, h.h4⟩
theorem DvRel.stepped (h : DvRel w0 A n c x A' n' c' y p gv ov cv V g g2 R D wr) {R' : List Nat} (hg : wr.grownBy w1 (some g)) (hr : Dg w1 g R') : DvRel w0 A n c x A' n' c' y p gv ov cv V g g2 R' D w1 := by
  have e1 := h.h1; have e2 := h.h2; have e3 := h.h3; have e4 := h.h4
  have hgs := h.dr.lt
  have hqs := h.dq.lt
  have hb : Below g wr w1 := ⟨hg.os, hg.tape, hg.output, hg.size, fun k hk => hg.block k (by omega) (by intro e; injection e; omega)⟩
  obtain ⟨t, hq⟩ := h.dq
  exact ⟨h.dm.go (by omega) hb, (hb.cell (by simpa using e2)).trans h.bv, h.vi.grown hg (by omega), hr, ⟨t, hq.grown hg (by intro e; injection e; omega)⟩, e1, e2, e3, e4⟩
theorem DvRel.set_ (h : DvRel w0 A n c x A' n' c' y p gv ov cv V g g2 R D wr) (j d : Nat) : DvRel w0 A n c x A' n' c' y p gv ov cv V g g2 R (D.set j d) (wr.setCell ⟨g2, j, none⟩ (.int .u64 (d : Int))) := by
  have e1 := h.h1; have e2 := h.h2; have e3 := h.h3; have e4 := h.h4
  have hb : Below g2 wr (wr.setCell ⟨g2, j, none⟩ (.int .u64 (d : Int))) := (Below.refl _ _).setCell (by simp) _
  exact ⟨h.dm.go (by omega) hb, (hb.cell (by simp; omega)).trans h.bv, ⟨fun i hi => (hb.cell (by simp; omega)).trans (h.vi.cells i hi), Nat.lt_of_lt_of_le h.vi.lt hb.size, h.vi.small⟩, h.dr.below hb e4, h.dq.set_ j d, e1, e2, e3, e4⟩
theorem DvRel.below (h : DvRel w0 A n c x A' n' c' y p gv ov cv V g g2 R D wr) (hb : Below wr.heap.size wr w1) : DvRel w0 A n c x A' n' c' y p gv ov cv V g g2 R D w1 := by
  have e1 := h.h1; have e2 := h.h2; have e3 := h.h3; have e4 := h.h4
  have hgs := h.dr.lt
  have hqs := h.dq.lt
  exact ⟨h.dm.below hb, (hb.cell (by simp; omega)).trans h.bv, ⟨fun i hi => (hb.cell (by simpa using h.vi.lt)).trans (h.vi.cells i hi), Nat.lt_of_lt_of_le h.vi.lt hb.size, h.vi.small⟩, h.dr.below hb hgs, h.dq.below hb hqs, e1, e2, e3, e4⟩
end

theorem run_copy_digits (w : World) (g N : Nat) (Au : Option Addr) (m cu u : Nat) (hu : DAt B64 w Au m cu u) (hm0 : 0 < m) (hm : m ≤ N) (hg : Dg w g (List.replicate N 0)) :
    ∃ w', (Builtin.copy_ #[24, 24] 3 #[.slice (some ⟨g, 0, none⟩) N N, .slice Au m cu]).run Tryz.prog w = .ok (goInt m) w' ∧ Dg w' g (digs B64 u ++ List.replicate (N - m) 0) ∧ w.grownBy w' (some g) := by
  obtain ⟨ad, rfl, hb, hc⟩ := hu.reads.2 hm0
  obtain ⟨t, ht⟩ := hg
  have hlen := hu.reads.1
  have hs : (Tryz.prog.info? 23).map (·.size) = some 1 := by kernel_rfl
  refine ⟨_, by
    have := run_copy_row (P := Tryz.prog) w 24 24 3 23 g 0 N N ad m cu _ 23 (dv (digs B64 u)) Tryz.underlying24 hs ht (by rw [hlen, Nat.mul_one]; exact (Nat.min_eq_left hm).symm) hc (by simp [dv_length] at hlen ⊢; omega) (dv_one _)
    rw [hlen, Nat.mul_one] at this
    exact this, ⟨t, ?_⟩, ?_⟩
  · unfold Blk
    rw [setRow_heap w g _ _ _ _ ht]
    have h1 : (dv (List.replicate N 0) ++ t).drop m = dv (List.replicate (N - m) 0) ++ t := by
      rw [List.drop_append_of_le_length (by rw [dv_length, List.length_replicate]; exact hm)]
      refine congrArg (· ++ t) ?_
      unfold dv
      rw [← List.map_drop, List.drop_replicate]
    have e : (dv (List.replicate N 0) ++ t).toArray.toList.take 0 ++ dv (digs B64 u) ++ (dv (List.replicate N 0) ++ t).toArray.toList.drop (0 + m) = dv (digs B64 u ++ List.replicate (N - m) 0) ++ t := by
      rw [List.take_zero, List.nil_append, Nat.zero_add, dv_append, List.append_assoc]
      exact congrArg (dv (digs B64 u) ++ ·) h1
    exact congrArg (fun l : List Value => some (Obj.cells l.toArray 23 (0, 0))) e
  · exact ⟨rfl, rfl, rfl, by simp, fun k hk hne => setRow_other w g k _ (by intro e; exact hne (by rw [e]))⟩
end Go.Proofs.YtfgnleoaibcegaaGreat
