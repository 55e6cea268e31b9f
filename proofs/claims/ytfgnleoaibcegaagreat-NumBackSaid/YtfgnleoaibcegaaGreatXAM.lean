/-
  Walks and plain laws.
-/
import Derived.Test.YtfgnleoaibcegaaGreatXAL
set_option linter.unusedVariables false
set_option linter.unusedSimpArgs false
namespace Go.Proofs.YtfgnleoaibcegaaGreat

open Go.RowKit

theorem step_gs {w : World} {g gv ov j n V X : Nat} {L : List Nat} (hg : Dg w g L) (hv : VIs w gv ov n V) (hj : j + n < L.length) (hd : ∀ d ∈ L, d < B64) (hz : ∀ k, j + n + 1 ≤ k → L.getD k 0 = 0)
    (hx : val B64 L = X) (hX : X < V * B64 ^ (j + 1)) (hV1 : B64 ^ (n - 1) ≤ V) (hn : 2 ≤ n) :
    ∃ a0 a1 a2 v1 v2, GsW w g j gv ov n a0 a1 a2 v1 v2 (X / (V * B64 ^ j)) ∧ (a0 * B64 + a1) * B64 + a2 = X / B64 ^ (j + (n - 2)) ∧ v1 * B64 + v2 = V / B64 ^ (n - 2) := by
  have hP : ∀ m : Nat, 0 < B64 ^ m := fun m => Nat.pow_pos (by decide)
  have hVp : 0 < V := Nat.lt_of_lt_of_le (hP _) hV1
  have hXs : X < B64 ^ (j + n + 1) := by rw [← hx]; exact top_zero hd hz
  have hdig : ∀ k, L.getD k 0 = X / B64 ^ k % B64 := fun k => by rw [val_getD two_le_B64 L hd, hx]
  have c0 := hg.cell (i := j + n) hj
  have c1 := hg.cell (i := j + (n - 1)) (by omega)
  have c2 := hg.cell (i := j + (n - 2)) (by omega)
  rw [hdig] at c0 c1 c2
  have d1 := hv.cells (n - 1) (by omega)
  have d2 := hv.cells (n - 2) (by omega)
  have hml : ∀ z : Nat, z % B64 < B64 := fun z => Nat.mod_lt _ (by decide)
  have t0 := top_one hXs
  have t1 := top_step (X := X) (m := j + (n - 1))
  have t2 := top_step (X := X) (m := j + (n - 2))
  have s0 := top_one (X := V) (m := n - 1) (by rw [show n - 1 + 1 = n by omega]; exact hv.small)
  have s1 := top_step (X := V) (m := n - 2)
  rw [show j + (n - 1) + 1 = j + n by omega] at t1
  rw [show j + (n - 2) + 1 = j + (n - 1) by omega] at t2
  rw [show n - 2 + 1 = n - 1 by omega] at s1
  have eU : X / B64 ^ (j + n) % B64 * B64 + X / B64 ^ (j + (n - 1)) % B64 = X / B64 ^ (j + (n - 1)) := by rw [t0]; exact t1
  have eW : (X / B64 ^ (j + n) % B64 * B64 + X / B64 ^ (j + (n - 1)) % B64) * B64 + X / B64 ^ (j + (n - 2)) % B64 = X / B64 ^ (j + (n - 2)) := by rw [eU]; exact t2
  have eY : V / B64 ^ (n - 1) % B64 * B64 + V / B64 ^ (n - 2) % B64 = V / B64 ^ (n - 2) := by rw [s0]; exact s1
  refine ⟨_, _, _, _, _, ⟨c0, c1, c2, d1, d2, hml _, hml _, hml _, hml _, hml _, ?_, ?_, ?_, ?_⟩, eW, eY⟩
  · rw [s0]; exact Nat.div_pos hV1 (hP _)
  · rw [eU, eY]; exact step_le hn hX
  · rw [Nat.div_lt_iff_lt_mul (Nat.mul_pos hVp (hP _)), Nat.mul_left_comm, ← Nat.pow_succ']; exact hX
  · intro k hk
    rw [eW, eY] at hk
    exact step_q hn hVp hk

set_option maxRecDepth 100000 in
set_option maxHeartbeats 2000000 in
theorem step_any (g j c gv ov n c' V X : Nat) (L0 : List Nat) (w : World) (hg : Dg w g L0) (hv : VIs w gv ov n V) (hne : gv ≠ g) (hj : j + n < L0.length) (hd : ∀ d ∈ L0, d < B64) (hz : ∀ k, j + n + 1 ≤ k → L0.getD k 0 = 0)
    (hx : val B64 L0 = X) (hX : X < V * B64 ^ (j + 1)) (hV1 : B64 ^ (n - 1) ≤ V) (hn : 2 ≤ n) (hn2 : n ≤ 1099511627776) :
    Calls Tryz.prog 97 #[.slice (some ⟨g, j, none⟩) (n + 1) c, .slice (some ⟨gv, ov, none⟩) n c'] w fun e w' => e = .returned (.int .u64 ((X / (V * B64 ^ j) : Nat) : Int)) ∧ w.grownBy w' (some g) ∧ ∃ L, Dg w' g L ∧ (∀ d ∈ L, d < B64) ∧ L.length = L0.length ∧ (∀ k, j + n + 1 ≤ k → L.getD k 0 = 0) ∧ val B64 L = X % (V * B64 ^ j) := by
  have hP : ∀ m : Nat, 0 < B64 ^ m := fun m => Nat.pow_pos (by decide)
  have hVp : 0 < V := Nat.lt_of_lt_of_le (hP _) hV1
  have HVP := Lib.hid hVp
  have hXs : X < B64 ^ (j + n + 1) := by rw [← hx]; exact top_zero hd hz
  obtain ⟨a0, a1, a2, v1, v2, hW, eW, eY⟩ := step_gs hg hv hj hd hz hx hX hV1 hn
  have hgs := guess_any g j c gv ov n c' a0 a1 a2 v1 v2 _ w hW hn hn2
  have HN := Lib.hid (fun q (h1 : q < B64) (h2 : q * (v1 * B64 + v2) ≤ (a0 * B64 + a1) * B64 + a2) => step_near (X := X) (j := j) hn hV1 h1 (by rw [← eY, ← eW]; exact h2))
  clear eW eY hW hX hV1
  obtain ⟨Q, hQ⟩ : ∃ Q, Q = X / (V * B64 ^ j) := ⟨_, rfl⟩
  rw [← hQ] at hgs ⊢
  have HQ := Lib.hid hQ; have HX := Lib.hid hx; have HZ := Lib.hid hz; have HD := Lib.hid hd; have HXS := Lib.hid hXs; have HJ := Lib.hid hj
  have HG := Lib.hid hgs
  clear hQ hx hz hd hXs hP hgs
  go_enter Tryz.func97, Tryz.ntmps97
  go_wp2_with fail
  refine (HG.out).mono ?_
  rintro e w1 ⟨q, rfl, hQq, hqB, hqY, m, rfl⟩
  have HNQ := Lib.hid (HN.out q hqB hqY)
  have HQq := Lib.hid hQq
  clear hqY HN HG hQq
  go_wp2_with fail
  refine (take_any g j c gv ov n c' V q L0 (w.drewN m) hg (hv.grown grown_drewN hne) hne HJ.out HD.out hqB hn2).mono ?_
  rintro e w2 ⟨b, hb1, rfl, hgr, L1, hg1, hd1, hl1, hh1, he1⟩
  have hgr2 : w.grownBy w2 (some g) := ⟨hgr.os, hgr.tape, hgr.output, hgr.size, hgr.block⟩
  have hz1 : ∀ k, j + n + 1 ≤ k → L1.getD k 0 = 0 := fun k hk => (hh1 k hk).trans (HZ.out k hk)
  rw [HX.out] at he1
  have hb2 : b = 0 ∨ b = 1 := by omega
  clear hg hgr hh1 hb1
  rcases hb2 with rfl | rfl
  · rw [Nat.mul_zero, Nat.add_zero] at he1
    obtain ⟨k1, k2⟩ := step_b0 (E := 0) HVP.out (by have := HQq.out; rw [HQ.out] at this; exact this) he1
    have K1 := Lib.hid (k1.trans HQ.out.symm); have K2 := Lib.hid k2
    clear k1 k2 he1
    go_wp2_with fail
    exact bodyPost_ret (v := .int .u64 (q : Int)) (by simp [results, Tryz.results97, go_sem]) rfl ⟨by rw [K1.out], hgr2, L1, hg1, hd1, hl1, hz1, K2.out⟩
  · rw [Nat.mul_one] at he1
    obtain ⟨k1, k2⟩ := step_b1 HVP.out (by have := HQq.out; rw [HQ.out] at this; exact this) HNQ.out (top_zero hd1 hz1) he1
    have f1 : IntKind.u64.wrap ((q : Int) - 1) = (Q : Int) := by
      rw [← HQ.out] at k1
      exact w64 (by omega) (by omega)
    have K1 := Lib.hid k1; have K2 := Lib.hid k2
    have HD1 := Lib.hid hd1
    have HZ1 := Lib.hid hz1
    have HL1 := Lib.hid hl1
    clear k1 k2 he1 hd1 hz1 hl1
    go_wp2_with fail
    go_loopw [7, 21] (fun cv iv wr => ∃ (i c : Nat) (L : List Nat), i ≤ n ∧ cv = .int .u64 (c : Int) ∧ iv = .int .i64 i ∧ AbIs j V i c L1 L ∧ Dg wr g L ∧ w.grownBy wr (some g)) (fun _ i _ => n - (intOf i).toNat)
    case atStart => exact ⟨0, 0, L1, by omega, rfl, rfl, AbIs.start HD1.out, hg1, hgr2⟩
    case round =>
      clear hg1 hgr2
      rename_i wr
      obtain ⟨i, cy, L, hi, rfl, rfl, hS, hg, hb⟩ := hrel
      by_cases hlt : i < n
      · have hN := hS.next (i := i) (by have := HJ.out; have := HL1.out; omega)
        have hlenL := hS.len
        have hc := hg.cell (i := j + i) (by rw [hlenL, HL1.out]; omega)
        have hf := hg.frozen (j + i)
        have hvc := (grown_cell hb hv.lt hne).trans (hv.cells i hlt)
        have hset := fun d => hg.set_ (j + i) d
        have hgs := fun d => grown_set hb (j + i) (.int .u64 ((d : Nat) : Int))
        have hcl := hS.cl
        generalize L.getD (j + i) 0 = u at *
        generalize V / B64 ^ i % B64 = v at *
        have hadd := fun wq : World => run_add64' u v cy hcl wq
        have HN := Lib.hid hN; have HSET := Lib.hid hset; have HGS := Lib.hid hgs
        clear hN hset hgs hS hlenL
        generalize lo64 (u + v + cy) = lo at *
        generalize hi64 (u + v + cy) = o at *
        go_wp2_with fail
        go_region
        go_wp2_with fail
        go_roundw
        case rel => exact ⟨i + 1, o, _, by omega, by first | rfl | trivial, by go_num, HN.out, HSET.out _, ⟨(HGS.out lo).os, (HGS.out lo).tape, (HGS.out lo).output, (HGS.out lo).size, (HGS.out lo).block⟩⟩
        case measure => simp [intOf]; omega
      · obtain rfl : n = i := by omega
        have hD := hS.done hv.small (by rw [HL1.out]; exact HJ.out) HZ1.out (Nat.lt_of_le_of_lt (Nat.mod_le _ _) HXS.out) K2.out
        have hlenL := hS.len
        have hc := hg.cell (i := j + n) (by rw [hlenL, HL1.out]; exact HJ.out)
        have hf := hg.frozen (j + n)
        have hset := fun d => hg.set_ (j + n) d
        have hgs := fun d => grown_set hb (j + n) (.int .u64 ((d : Nat) : Int))
        generalize L.getD (j + n) 0 = u at *
        have f2 : IntKind.u64.wrap ((u : Int) + (cy : Int)) = ((lo64 (u + cy) : Nat) : Int) := by unfold lo64; rw [IntKind.wrap_u64, B64_eq]; omega
        have HD2 := Lib.hid hD; have HSET := Lib.hid hset; have HGS := Lib.hid hgs
        clear hD hset hgs hS hlenL
        generalize lo64 (u + cy) = lo at *
        go_wp2_with fail
        exact bodyPost_ret (v := .int .u64 (Q : Int)) (by simp [results, Tryz.results97, go_sem]) rfl ⟨rfl, HGS.out _, _, HSET.out _, HD2.out.1, HD2.out.2.1.trans HL1.out, HD2.out.2.2.1, HD2.out.2.2.2⟩
end Go.Proofs.YtfgnleoaibcegaaGreat
