/-
  Walks and plain laws.
-/
import Derived.Test.YtfgnleoaibcegaaGreatXAJ
set_option linter.unusedVariables false
set_option linter.unusedSimpArgs false
namespace Go.Proofs.YtfgnleoaibcegaaGreat

open Go.RowKit

theorem wrap_two {p q : Nat} (h : p + q < B64) : IntKind.u64.wrap ((p : Int) + (q : Int)) = ((p + q : Nat) : Int) := by
  rw [B64_eq] at h; rw [IntKind.wrap_u64]; omega

structure VIs (w : World) (gv ov n V : Nat) : Prop where
  cells : ∀ i, i < n → w.cell? ⟨gv, ov + i, none⟩ = some (.int .u64 ((V / B64 ^ i % B64 : Nat) : Int))
  lt : gv < w.heap.size
  small : V < B64 ^ n
theorem VIs.grown {w w' : World} {g gv ov n V : Nat} (h : VIs w gv ov n V) (hg : w.grownBy w' (some g)) (hne : gv ≠ g) : VIs w' gv ov n V :=
  ⟨fun i hi => (grown_cell hg h.lt hne).trans (h.cells i hi), Nat.lt_of_lt_of_le h.lt hg.size, h.small⟩

set_option maxRecDepth 100000 in
set_option maxHeartbeats 2000000 in
theorem take_any (g j c gv ov n c' V q : Nat) (L0 : List Nat) (w : World) (hg : Dg w g L0) (hv : VIs w gv ov n V) (hne : gv ≠ g) (hj : j + n < L0.length) (hd : ∀ d ∈ L0, d < B64) (hq : q < B64) (hn : n ≤ 1099511627776) :
    Calls Tryz.prog 125 #[.slice (some ⟨g, j, none⟩) (n + 1) c, .slice (some ⟨gv, ov, none⟩) n c', .int .u64 (q : Int)] w fun e w' => ∃ b : Nat, b ≤ 1 ∧ e = .returned (.bool (decide (b = 1))) ∧ w.grownBy w' (some g) ∧ ∃ L, Dg w' g L ∧ (∀ d ∈ L, d < B64) ∧ L.length = L0.length ∧ (∀ k, j + n + 1 ≤ k → L.getD k 0 = L0.getD k 0) ∧ val B64 L + B64 ^ j * (q * V) = val B64 L0 + B64 ^ (j + n + 1) * b := by
  have hS := Lib.hid (TkIs.start (j := j) (V := V) (q := q) hd)
  clear hd
  have HJ := Lib.hid hj
  go_enter Tryz.func125, Tryz.ntmps125
  go_wp2_with fail
  go_loopw [7, 8, 15] (fun cv bv iv wr => ∃ (i c b : Nat) (L : List Nat), i ≤ n ∧ cv = .int .u64 (c : Int) ∧ bv = .int .u64 (b : Int) ∧ iv = .int .i64 i ∧ TkIs j V q i c b L0 L ∧ Dg wr g L ∧ w.grownBy wr (some g)) (fun _ _ i _ => n - (intOf i).toNat)
  case atStart => exact ⟨0, 0, 0, L0, by omega, rfl, rfl, rfl, hS.out, hg, World.grownBy.refl w _⟩
  case round =>
    clear hg hS
    rename_i wr
    obtain ⟨i, cy, b, L, hi, rfl, rfl, rfl, hS, hg, hb⟩ := hrel
    by_cases hlt : i < n
    · have hN := hS.next hq (i := i) (by have := HJ.out; omega)
      have hlenL := hS.len
      have hc := hg.cell (i := j + i) (by rw [hlenL]; omega)
      have hf := hg.frozen (j + i)
      have hvc := (grown_cell hb hv.lt hne).trans (hv.cells i hlt)
      have hset := fun d => hg.set_ (j + i) d
      have hgs := fun d => grown_set hb (j + i) (.int .u64 ((d : Nat) : Int))
      have hvl : V / B64 ^ i % B64 < B64 := Nat.mod_lt _ (by decide)
      have hul := getD_lt two_le_B64 hS.dig (j + i)
      have hcl := hS.cl
      have hbl := hS.bl
      generalize L.getD (j + i) 0 = u at *
      generalize V / B64 ^ i % B64 = v at *
      have hws := (tk_words hq hvl hcl).2
      have hw2 := wrap_two (p := hi64 (q * v)) (q := hi64 (lo64 (q * v) + cy)) hws
      have hml := fun wq : World => mul64_any q v hq hvl wq
      have hadd := fun wq : World => run_add0 (lo64 (q * v)) cy wq
      have hsub := fun wq : World => run_sub64' u (lo64 (lo64 (q * v) + cy)) b hbl wq
      have hN2 : TkIs j V q (i + 1) (hi64 (q * v) + hi64 (lo64 (q * v) + cy)) (brw64 u (lo64 (lo64 (q * v) + cy)) b) L0 (L.set (j + i) (sub64 u (lo64 (lo64 (q * v) + cy)) b)) := hN
      have HN := Lib.hid hN2; have HSET := Lib.hid hset; have HGS := Lib.hid hgs
      clear hN hN2 hset hgs hws hS
      generalize lo64 (lo64 (q * v) + cy) = lo at *
      generalize hi64 (lo64 (q * v) + cy) = o at *
      generalize lo64 (q * v) = l1 at *
      generalize hi64 (q * v) = h1 at *
      generalize sub64 u lo b = u2 at *
      generalize brw64 u lo b = b2 at *
      generalize hcc : h1 + o = c2 at *
      clear hcc
      go_wp2_with (go_at_call 92; refine (hml _).mono ?_; rintro e w1 ⟨rfl, rfl⟩)
      go_roundw
      case rel => exact ⟨i + 1, c2, b2, _, by omega, by first | rfl | trivial, by first | rfl | trivial, by go_num, HN.out, HSET.out _, HGS.out _⟩
      case measure => simp [intOf]; omega
    · obtain rfl : n = i := by omega
      have hD := hS.done hv.small HJ.out
      have hlenL := hS.len
      have hc := hg.cell (i := j + n) (by rw [hlenL]; omega)
      have hf := hg.frozen (j + n)
      have hset := fun d => hg.set_ (j + n) d
      have hgs := fun d => grown_set hb (j + n) (.int .u64 ((d : Nat) : Int))
      have hbl := hS.bl
      generalize L.getD (j + n) 0 = u at *
      have hsub := fun wq : World => run_sub64' u cy b hbl wq
      have hb2 := brw_le u cy b
      have HD := Lib.hid hD; have HSET := Lib.hid hset; have HGS := Lib.hid hgs
      clear hD hset hgs hS
      generalize sub64 u cy b = u2 at *
      generalize brw64 u cy b = b2 at *
      have hb3 : b2 = 0 ∨ b2 = 1 := by omega
      rcases hb3 with rfl | rfl
      · go_wp2_with fail
        exact bodyPost_ret (v := .bool false) (by simp [results, Tryz.results125, go_sem]) rfl ⟨0, by omega, rfl, HGS.out _, _, HSET.out _, HD.out⟩
      · go_wp2_with fail
        exact bodyPost_ret (v := .bool true) (by simp [results, Tryz.results125, go_sem]) rfl ⟨1, by omega, rfl, HGS.out _, _, HSET.out _, HD.out⟩
end Go.Proofs.YtfgnleoaibcegaaGreat
