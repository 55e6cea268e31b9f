/-
  Walks and plain laws.
-/
import Derived.Test.YtfgnleoaibcegaaGreatXAB
set_option linter.unusedVariables false
set_option linter.unusedSimpArgs false
namespace Go.Proofs.YtfgnleoaibcegaaGreat

open Go.RowKit

theorem leftOk_zero (n : Int) : leftOk 0 n = true := rfl
theorem leftOk_far {x : Nat} {n : Int} (hx : 0 < x) (h : 16777216 < n) : leftOk x n = false := by
  unfold leftOk; rw [decide_eq_false (by omega), decide_eq_false (by omega)]; rfl
theorem leftOk_near {x : Nat} {n : Int} (h : n ≤ 16777216) : leftOk x n = true := by
  unfold leftOk; rw [decide_eq_true h, Bool.or_true]
theorem leftV_zero (n : Int) : leftV 0 n = 0 := by
  unfold leftV; split
  · simp
  · split <;> simp
theorem leftV_far {x : Nat} {n : Int} (hx : 0 < x) (h : 16777216 < n) : leftV x n = 0 := by
  unfold leftV; rw [if_neg (by omega), leftOk_far hx h]; rfl
theorem leftV_neg {x : Nat} {n : Int} (h : n < 0) : leftV x n = x / 2 ^ (-n).toNat := by
  unfold leftV; rw [if_pos h]
theorem leftV_pos {x k : Nat} (h : k ≤ 16777216) : leftV x (k : Int) = x * 2 ^ k := by
  unfold leftV; rw [if_neg (by omega), if_pos (leftOk_near (by omega))]; simp

set_option maxRecDepth 100000 in
set_option maxHeartbeats 2000000 in
theorem left_small (A : Option Addr) (n c x : Nat) (k : Int) (w : World) (h : DAt B64 w A n c x) (hn : n ≤ 1099511627776) (hk : k ≤ 9223372036854775807) (hk2 : -9223372036854775807 ≤ k) (hs : x = 0 ∨ 16777216 < k ∨ k < 0) :
    Calls Tryz.prog 87 #[.agg #[.slice A n c], .int .i64 k] w fun e w' => ∃ A n c, e = .returned (.tuple #[.agg #[.slice A n c], .bool (leftOk x k)]) ∧ DAt B64 w' A n c (leftV x k) ∧ Below w.heap.size w w' := by
  rcases Nat.eq_zero_or_pos x with hx0 | hx0
  · subst hx0
    have hn0 : n = 0 := (h.zero_len two_le_B64).2 rfl
    subst hn0
    rw [leftOk_zero, leftV_zero]
    clear h
    go_enter Tryz.func87, Tryz.ntmps87
    go_wp2
    exact bodyPost_ret (v := .tuple #[.agg #[.slice none 0 0], .bool true]) (by simp [results, Tryz.results87, go_sem]) rfl ⟨_, _, _, rfl, DAt.nil, ((Below.refl _ _).alloc (Nat.le_refl _) _).alloc (by simp) _⟩
  · have hz : ((n : Int) == 0) = false := by
      have := (h.zero_len two_le_B64)
      simp; omega
    by_cases hf : 16777216 < k
    · rw [leftOk_far hx0 hf, leftV_far hx0 hf]
      clear h hs
      go_enter Tryz.func87, Tryz.ntmps87
      go_wp2
      exact bodyPost_ret (v := .tuple #[.agg #[.slice none 0 0], .bool false]) (by simp [results, Tryz.results87, go_sem]) rfl ⟨_, _, _, rfl, DAt.nil, ((Below.refl _ _).alloc (Nat.le_refl _) _).alloc (by simp) _⟩
    · have hk0 : k < 0 := by omega
      rw [leftOk_near (by omega), leftV_neg hk0]
      have h1 := h.below (((Below.refl _ _).alloc (Nat.le_refl _) (.cells #[.slice A n c] 26)).alloc (by simp) (.cells #[.slice none 0 0] 26))
      have hbx : bl x ≤ 70368744177664 := Nat.le_trans (bl_le (by have := h.lt two_le_B64; rwa [B64_pow_two] at this)) (by omega)
      by_cases hlow : k < -(bl x : Nat)
      · have hzz : x / 2 ^ (-k).toNat = 0 := Nat.div_eq_of_lt (Nat.lt_of_lt_of_le bl_lt (Nat.pow_le_pow_right (by omega) (by omega)))
        rw [hzz]
        clear hzz h hs
        go_enter Tryz.func87, Tryz.ntmps87
        go_wp2_with fail
        refine (len_any A n c x _ h1 hn).mono ?_
        rintro e w1 ⟨rfl, hb1⟩
        have hb2 : Below (w.heap.size + 1 + 1) ((w.alloc (.cells #[.slice A n c] 26)).alloc (.cells #[.slice none 0 0] 26)) w1 := hb1.mono (by simp)
        have r1 : w1.cell? ⟨w.heap.size + 1, 0, none⟩ = some (.slice none 0 0) := by have := res_cell (w := w.alloc (.cells #[.slice A n c] 26)) hb2 (by simp); simpa using this
        have r2 : w1.frozen? ⟨w.heap.size + 1, 0, none⟩ = false := by have := res_free (w := w.alloc (.cells #[.slice A n c] 26)) hb2 (by simp); simpa using this
        clear h1
        go_wp2
        refine bodyPost_ret (v := .tuple #[.agg #[.slice none 0 0], .bool true]) (by simp [results, Tryz.results87, go_sem, r1]) rfl ⟨_, _, _, rfl, DAt.nil, ?_⟩
        exact ((((Below.refl _ _).alloc (Nat.le_refl _) _).alloc (by simp) _).trans (hb2.mono (by omega))).setCell (by simp) _
      · clear h hs
        go_enter Tryz.func87, Tryz.ntmps87
        go_wp2_with fail
        refine (len_any A n c x _ h1 hn).mono ?_
        rintro e w1 ⟨rfl, hb1⟩
        have h2 := h1.below hb1
        have hb2 : Below (w.heap.size + 1 + 1) ((w.alloc (.cells #[.slice A n c] 26)).alloc (.cells #[.slice none 0 0] 26)) w1 := hb1.mono (by simp)
        have r0 : w1.cell? ⟨w.heap.size, 0, none⟩ = some (.slice A n c) := (hb2.cell (by simp; omega)).trans (((Blk.new w 26 #[.slice A n c]).alloc _).cell 0)
        clear h1 hb1
        go_wp2_with fail
        refine (right_any A n c x (-k) _ h2 hn (by omega)).mono ?_
        rintro e w2 ⟨A3, n3, c3, rfl, hd3, hb3⟩
        have hs1 := hb2.size
        simp at hs1
        have hb4 : Below (w.heap.size + 1 + 1) ((w.alloc (.cells #[.slice A n c] 26)).alloc (.cells #[.slice none 0 0] 26)) w2 := hb2.trans (hb3.mono (by omega))
        have r1 : w2.cell? ⟨w.heap.size + 1, 0, none⟩ = some (.slice none 0 0) := by have := res_cell (w := w.alloc (.cells #[.slice A n c] 26)) hb4 (by simp); simpa using this
        have r2 : w2.frozen? ⟨w.heap.size + 1, 0, none⟩ = false := by have := res_free (w := w.alloc (.cells #[.slice A n c] 26)) hb4 (by simp); simpa using this
        have HF := Lib.hid (hd3.put r1 (.slice A3 n3 c3))
        have HB := Lib.hid (((((Below.refl w.heap.size w).alloc (Nat.le_refl _) (.cells #[.slice A n c] 26)).alloc (by simp) (.cells #[.slice none 0 0] 26)).trans (hb4.mono (by omega))).setCell (p := ⟨w.heap.size + 1, 0, none⟩) (by simp) (.slice A3 n3 c3))
        clear h2 hb2 hb3 hb4 r0 hd3
        go_wp2
        exact bodyPost_ret (v := .tuple #[.agg #[.slice A3 n3 c3], .bool true]) (by simp [results, Tryz.results87, go_sem, r1]) rfl ⟨_, _, _, rfl, HF.out, HB.out⟩

set_option maxRecDepth 100000 in
set_option maxHeartbeats 2000000 in
theorem left_main (A : Option Addr) (n c x k : Nat) (w : World) (h : DAt B64 w A n c x) (hn : n ≤ 1099511627776) (hk : k ≤ 16777216) (hx0 : 0 < x) :
    Calls Tryz.prog 87 #[.agg #[.slice A n c], .int .i64 k] w fun e w' => ∃ A n c, e = .returned (.tuple #[.agg #[.slice A n c], .bool true]) ∧ DAt B64 w' A n c (x * 2 ^ k) ∧ Below w.heap.size w w' := by
  have hn0 : 0 < n := by have := (h.zero_len two_le_B64); omega
  have hz : ((n : Int) == 0) = false := by simp; omega
  have h1 := h.below (((Below.refl _ _).alloc (Nat.le_refl _) (.cells #[.slice A n c] 26)).alloc (by simp) (.cells #[.slice none 0 0] 26))
  have hbx : bl x ≤ 70368744177664 := Nat.le_trans (bl_le (by have := h.lt two_le_B64; rwa [B64_pow_two] at this)) (by omega)
  have hmk := run_make_digits (k / 64 + n + 1) (by omega)
  rw [show ((k / 64 + n + 1 : Nat) : Int) = (k : Int) / 64 + (n : Int) + 1 by omega] at hmk
  go_enter Tryz.func87, Tryz.ntmps87
  go_wp2_with fail
  refine (len_any A n c x _ h1 hn).mono ?_
  rintro e w1 ⟨rfl, hb1⟩
  have hb2 : Below (w.heap.size + 1 + 1) ((w.alloc (.cells #[.slice A n c] 26)).alloc (.cells #[.slice none 0 0] 26)) w1 := hb1.mono (by simp)
  have r0 : w1.cell? ⟨w.heap.size, 0, none⟩ = some (.slice A n c) := (hb2.cell (by simp; omega)).trans (((Blk.new w 26 #[.slice A n c]).alloc _).cell 0)
  have hr0 : RiRel w A n c (w.heap.size + 1) w1.heap.size (List.replicate (k / 64 + n + 1) 0) (w1.alloc (.cells (dva (List.replicate (k / 64 + n + 1) 0)) 23)) := ri_start_ hb2 r0
  have hs1 := hb2.size
  simp at hs1
  have hs2 : w.heap.size < w1.heap.size := by omega
  clear hb1 hb2 h1
  go_wp2_with fail
  generalize w1.alloc (.cells (dva (List.replicate (k / 64 + n + 1) 0)) 23) = W at hr0 ⊢
  generalize w1.heap.size = g at *
  clear hmk r0 hbx hs2
  go_loopw [44] (fun iv wr => ∃ (i : Nat) (D : List Nat), i ≤ n ∧ iv = .int .i64 i ∧ LfIs x n (k / 64) (k % 64) i D ∧ RiRel w A n c (w.heap.size + 1) g D wr) (fun i _ => n - (intOf i).toNat)
  case atStart => exact ⟨0, _, by omega, rfl, LfIs.start x n _ _, hr0⟩
  case round =>
    clear hr0
    obtain ⟨i, D, hi, rfl, hL, hr⟩ := hrel
    by_cases hlt : i < n
    · obtain ⟨gx, ox, rfl, hg, hc⟩ := h.flat two_le_B64 (by omega)
      have hc1 := (hr.one.bel.cell (p := ⟨gx, ox + i, none⟩) hg).trans (hc i (by omega))
      have hb1 := hr.bx
      have hd1 := hr.one.dg.cell (i := k / 64 + i) (by rw [hL.len]; omega)
      have hd2 := hr.one.dg.cell (i := k / 64 + i + 1) (by rw [hL.len]; omega)
      have hf1 := hr.one.dg.frozen (k / 64 + i)
      have hf2 := hr.one.dg.frozen (k / 64 + i + 1)
      obtain ⟨q1, q2, q3⟩ := hL.next (Nat.mod_lt _ (by omega)) hlt
      have hdB := getD_lt two_le_B64 hL.dig (k / 64 + i)
      rw [q2] at hd2
      have hset := fun a b => ((hr.set_ (k / 64 + i) a).set_ (k / 64 + i + 1) b).drew.drew
      have hwB : x / B64 ^ i % B64 < B64 := Nat.mod_lt _ (by decide)
      generalize x / B64 ^ i % B64 = d1 at hc1 q3 hwB
      generalize D.getD (k / 64 + i) 0 = d2 at hd1 q1 q3 hdB
      have ho1 := or_shl (w := d1) (Nat.mod_lt k (show 0 < 64 by omega)) q1 hdB hwB
      have ho2 := or_shr (w := d1) (Nat.mod_lt k (show 0 < 64 by omega)) hwB
      have HO1 := Lib.hid ho1; have HO2 := Lib.hid ho2; have HN := Lib.hid q3; have HSET := Lib.hid hset
      clear ho1 ho2 q1 q2 q3 hset hc hL
      have hqi : k / 64 + i < k / 64 + n + 1 := by omega
      have f1 : (k : Int).tdiv 64 = (k : Int) / 64 := Int.tdiv_eq_ediv_of_nonneg (by omega)
      have f2 : (k : Int).tmod 64 = (k : Int) % 64 := Int.tmod_eq_emod_of_nonneg (by omega)
      have f3 : IntKind.i64.wrap ((k : Int) / 64) = (k : Int) / 64 := IntWalk.i64_in _ (by omega)
      have f4 : IntKind.i64.wrap ((k : Int) / 64 + (i : Int)) = (k : Int) / 64 + (i : Int) := IntWalk.i64_in _ (by omega)
      have f5 : IntKind.i64.wrap ((k : Int) / 64 + (i : Int) + 1) = (k : Int) / 64 + (i : Int) + 1 := IntWalk.i64_in _ (by omega)
      have f6 : IntKind.i64.wrap (64 - (k : Int) % 64) = 64 - (k : Int) % 64 := IntWalk.i64_in _ (by omega)
      have f7 : ((k : Int) / 64 + (i : Int)).toNat = k / 64 + i := by omega
      have f8 : (0 : Int) ≤ 64 - (k : Int) % 64 := by omega
      have f9 : (64 - (k : Int) % 64).toNat = 64 - k % 64 := by omega
      have f10 : ((k : Int) % 64).toNat = k % 64 := by omega
      have f11 : (0 : Int) ≤ (k : Int) % 64 := by omega
      have f12 : (0 : Int) ≤ (k : Int) / 64 + (i : Int) := by omega
      have f13 : (0 : Int) ≤ (k : Int) / 64 + (i : Int) + 1 := by omega
      have f14 : ((k : Int) / 64 + (i : Int) + 1).toNat = k / 64 + i + 1 := by omega
      go_wp2
      go_region
      go_wp2
      go_region
      clear f1 f2 f3 f4 f5 f6 f7 f8 f9 f10 f11 f12 f13 f14
      go_wp2
      go_roundw
      case rel => exact ⟨i + 1, _, by omega, by go_num, HN.out, by rw [HO1.out, HO2.out]; exact HSET.out _ _⟩
      case measure => simp [intOf]; omega
    · obtain rfl : n = i := by omega
      have hv := hL.done (h.lt two_le_B64)
      rw [show 64 * (k / 64) + k % 64 = k by omega] at hv
      have hdig := hL.dig
      have hlen := hL.len
      have HV := Lib.hid hv; have HLN := Lib.hid hlen
      clear hv hL h hlen
      go_wp2_with fail
      refine (trim_at g D (k / 64 + n + 1) (k / 64 + n + 1) _ hr.one.dg hdig HLN.out (Nat.le_refl _) (by unfold maxLen; omega)).mono ?_
      rintro e w3 ⟨A3, n3, c3, rfl, hd3, hb3⟩
      rw [HV.out] at hd3
      have hr3 := hr.below hb3
      have r1 := hr3.one.br
      have r2 := hr3.one.fr
      have HF := Lib.hid (hd3.put r1 (.slice A3 n3 c3))
      have HBl := Lib.hid (hr3.one.bel.setCell (p := ⟨w.heap.size + 1, 0, none⟩) (by simp) (.slice A3 n3 c3))
      clear hd3 hb3 hr hr3
      go_wp2
      exact bodyPost_ret (v := .tuple #[.agg #[.slice A3 n3 c3], .bool true]) (by simp [results, Tryz.results87, go_sem, r1]) rfl ⟨_, _, _, rfl, HF.out, HBl.out⟩

theorem left_any (A : Option Addr) (n c x : Nat) (k : Int) (w : World) (h : DAt B64 w A n c x) (hn : n ≤ 1099511627776) (hk : k ≤ 9223372036854775807) (hk2 : -9223372036854775807 ≤ k) :
    Calls Tryz.prog 87 #[.agg #[.slice A n c], .int .i64 k] w fun e w' => ∃ A n c, e = .returned (.tuple #[.agg #[.slice A n c], .bool (leftOk x k)]) ∧ DAt B64 w' A n c (leftV x k) ∧ Below w.heap.size w w' := by
  by_cases hs : x = 0 ∨ 16777216 < k ∨ k < 0
  · exact left_small A n c x k w h hn hk hk2 hs
  · obtain ⟨m, rfl⟩ := Int.eq_ofNat_of_zero_le (show 0 ≤ k by omega)
    rw [leftOk_near (by omega), leftV_pos (by omega)]
    exact left_main A n c x m w h hn (by omega) (by omega)
end Go.Proofs.YtfgnleoaibcegaaGreat
