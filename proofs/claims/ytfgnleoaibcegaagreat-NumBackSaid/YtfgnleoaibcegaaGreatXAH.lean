/-
  Walks and plain laws.
-/
import Derived.Test.YtfgnleoaibcegaaGreatXAG
set_option linter.unusedVariables false
set_option linter.unusedSimpArgs false
namespace Go.Proofs.YtfgnleoaibcegaaGreat

open Go.RowKit
structure SmIs (x y n i r : Nat) (L : List Nat) : Prop where
  len : L.length = n
  dig : ∀ d ∈ L, d < B64
  low : ∀ j, j < i → L.getD j 0 = x / B64 ^ j % B64
  eq : val B64 L = x % B64 ^ i + B64 ^ i * (x / B64 ^ i / y)
  rem : r = x / B64 ^ i % y
theorem SmIs.start {x y n : Nat} {L : List Nat} (hl : L.length = n) (hd : ∀ d ∈ L, d < B64) (hx : val B64 L = x) : SmIs x y n n 0 L := by
  have h1 : x < B64 ^ n := by rw [← hx, ← hl]; exact val_lt two_le_B64 L hd
  refine ⟨hl, hd, fun j _ => by rw [val_getD two_le_B64 L hd, hx], ?_, ?_⟩
  · rw [Nat.div_eq_of_lt h1, Nat.mod_eq_of_lt h1, hx]; simp
  · rw [Nat.div_eq_of_lt h1]; simp
theorem SmIs.next {x y n i r : Nat} {L : List Nat} (h : SmIs x y n (i + 1) r L) (hy : 0 < y) (hi : i < n) :
    SmIs x y n i ((r * B64 + L.getD i 0) % y) (L.set i ((r * B64 + L.getD i 0) / y)) ∧ r < y ∧ L.getD i 0 < B64 := by
  have hr : r < y := by rw [h.rem]; exact Nat.mod_lt _ hy
  have hd := getD_lt two_le_B64 h.dig i
  have hq : (r * B64 + L.getD i 0) / y < B64 := by
    rw [Nat.div_lt_iff_lt_mul hy]
    have := Nat.mul_le_mul_right B64 (show r + 1 ≤ y from hr)
    rw [Nat.add_mul, Nat.mul_comm y] at this; omega
  have hs := val_set (b := B64) L i ((r * B64 + L.getD i 0) / y) (by rw [h.len]; exact hi)
  have hlow := h.low i (Nat.lt_succ_self i)
  have he := h.eq
  have hrem := h.rem
  have hX : x / B64 ^ i = x / B64 ^ (i + 1) * B64 + x / B64 ^ i % B64 := by
    rw [Nat.pow_succ, ← Nat.div_div_eq_div_mul]; exact (Nat.div_add_mod' _ _).symm
  have hsucc := low_succ B64 x i
  rw [← hlow] at hX hsucc
  generalize L.getD i 0 = d at *
  generalize hQ : x / B64 ^ (i + 1) = Q at *
  have hQe := Nat.div_add_mod Q y
  rw [← hrem] at hQe
  have hd2 : x / B64 ^ i = y * (Q / y * B64) + (r * B64 + d) := by
    rw [hX]; conv => lhs; rw [← hQe, Nat.add_mul, Nat.mul_assoc]
    omega
  refine ⟨⟨by rw [List.length_set]; exact h.len, set_dig h.dig hq, fun j hj => by rw [getD_set_ne (by omega)]; exact h.low j (by omega), ?_, ?_⟩, hr, hd⟩
  · rw [hd2, Nat.mul_add_div hy, Nat.mul_add]
    rw [hsucc, Nat.pow_succ, Nat.mul_assoc] at he
    rw [Nat.mul_comm (Q / y) B64]
    omega
  · rw [hd2, Nat.mul_add_mod]

set_option maxRecDepth 100000 in
set_option maxHeartbeats 2000000 in
theorem small_any (w0 : World) (g : Nat) (L : List Nat) (n c x y : Nat) (w : World) (hg : Dg w g L) (hb : Below w0.heap.size w0 w) (hgl : w0.heap.size ≤ g) (hl : L.length = n) (hd : ∀ d ∈ L, d < B64) (hx : val B64 L = x) (hy : y < B64) (hy0 : 0 < y) (hn : n ≤ 1099511627776) :
    Calls Tryz.prog 95 #[.slice (some ⟨g, 0, none⟩) n c, .int .u64 (y : Int)] w fun e w' => e = .returned (.int .u64 ((x % y : Nat) : Int)) ∧ Below w0.heap.size w0 w' ∧ ∃ L', Dg w' g L' ∧ L'.length = n ∧ (∀ d ∈ L', d < B64) ∧ val B64 L' = x / y := by
  have hS := Lib.hid (SmIs.start (y := y) hl hd hx)
  clear hl hd hx
  go_enter Tryz.func95, Tryz.ntmps95
  go_wp2_with fail
  go_loopw [5, 6] (fun rv iv wr => ∃ (i r : Nat) (L : List Nat), i ≤ n ∧ rv = .int .u64 (r : Int) ∧ iv = .int .i64 ((i : Int) - 1) ∧ SmIs x y n i r L ∧ Dg wr g L ∧ Below w0.heap.size w0 wr) (fun _ i _ => (intOf i + 1).toNat)
  case atStart => exact ⟨n, 0, L, by omega, rfl, by go_num, hS.out, hg, hb⟩
  case round =>
    clear hg hb hS
    rename_i wr
    obtain ⟨i, r, L, hi, rfl, rfl, hS, hg, hb⟩ := hrel
    by_cases hi0 : 0 < i
    · obtain ⟨j, rfl⟩ : ∃ j, i = j + 1 := ⟨i - 1, by omega⟩
      obtain ⟨hN, hr, hdl⟩ := hS.next hy0 (by omega)
      have hc := hg.cell (i := j) (by rw [hS.len]; omega)
      have hf := hg.frozen j
      have hset := fun d => hg.set_ j d
      have e1 : (((j + 1 : Nat) : Int) - 1) = (j : Int) := by omega
      have HN := Lib.hid hN
      have HSET := Lib.hid hset
      clear hS hN hset
      rw [e1]
      generalize L.getD j 0 = d at *
      go_wp2_with fail
      refine (div64_any r d y hy hr hdl _).mono ?_
      rintro e w1 ⟨rfl, hw1⟩
      obtain ⟨hs1, hf1, hb1⟩ : (∀ q : Nat, Dg (w1.setCell ⟨g, j, none⟩ (.int .u64 (q : Int))) g (L.set j q)) ∧ w1.frozen? ⟨g, j, none⟩ = false ∧ Below w0.heap.size w0 w1 := by
        rcases hw1 with rfl | rfl
        · exact ⟨HSET.out, hf, hb⟩
        · exact ⟨HSET.out, hf, hb.drew⟩
      have hc1 : w1.cell? ⟨g, j, none⟩ = some (.int .u64 (d : Int)) := by
        rcases hw1 with rfl | rfl
        · exact hc
        · exact hc
      clear hw1
      have HS1 := Lib.hid hs1
      have HB1 := Lib.hid (fun q : Nat => hb1.setCell (p := ⟨g, j, none⟩) hgl (.int .u64 (q : Int)))
      clear hs1 hb1 hb hg hc hf
      generalize (r * B64 + d) / y = q' at *
      generalize (r * B64 + d) % y = r' at *
      go_wp2_with fail
      go_roundw
      case rel => exact ⟨j, r', _, by omega, rfl, by go_num, HN.out, HS1.out _, HB1.out _⟩
      case measure => simp [intOf]
    · obtain rfl : i = 0 := by omega
      have he := hS.eq
      have hrem := hS.rem
      rw [Nat.pow_zero, Nat.mod_one, Nat.div_one, Nat.zero_add, Nat.one_mul] at he
      rw [Nat.pow_zero, Nat.div_one] at hrem
      have hlen := hS.len
      have hdig := hS.dig
      have HE := Lib.hid he; have HR := Lib.hid hrem
      clear he hrem hS
      go_wp2_with fail
      exact bodyPost_ret (v := .int .u64 (r : Int)) (by simp [results, Tryz.results95, go_sem]) rfl ⟨by rw [HR.out], hb, L, hg, hlen, hdig, HE.out⟩
end Go.Proofs.YtfgnleoaibcegaaGreat
