/-
  Walks and plain laws.
-/
import Derived.Test.YtfgnleoaibcegaaGreatXA3
import Derived.Shelf.Small.Bits
set_option linter.unusedVariables false
set_option linter.unusedSimpArgs false
namespace Go.Proofs.YtfgnleoaibcegaaGreat

open Go.RowKit

def cmpI (x y : Nat) : Int := if x < y then -1 else if y < x then 1 else 0
theorem cmp_lt {x y : Nat} (h : x < y) : cmpI x y = -1 := if_pos h
theorem cmp_gt {x y : Nat} (h : y < x) : cmpI x y = 1 := by unfold cmpI; rw [if_neg (by omega), if_pos h]
theorem cmp_eq (x : Nat) : cmpI x x = 0 := by unfold cmpI; rw [if_neg (by omega), if_neg (by omega)]

theorem lt_of_digit {b : Nat} (hb : 2 ≤ b) {x y m : Nat} (h : x / b ^ (m + 1) = y / b ^ (m + 1)) (hd : x / b ^ m % b < y / b ^ m % b) : x < y := by
  rcases Nat.lt_or_ge x y with h1 | h1
  · exact h1
  · have h2 : y / b ^ m ≤ x / b ^ m := Nat.div_le_div_right h1
    rw [Nat.pow_succ, ← Nat.div_div_eq_div_mul, ← Nat.div_div_eq_div_mul] at h
    have e1 := Nat.mod_add_div (x / b ^ m) b
    have e2 := Nat.mod_add_div (y / b ^ m) b
    rw [h] at e1
    omega
theorem eq_of_digit {b : Nat} (hb : 2 ≤ b) {x y m : Nat} (h : x / b ^ (m + 1) = y / b ^ (m + 1)) (hd : x / b ^ m % b = y / b ^ m % b) : x / b ^ m = y / b ^ m := by
  rw [Nat.pow_succ, ← Nat.div_div_eq_div_mul, ← Nat.div_div_eq_div_mul] at h
  have e1 := Nat.mod_add_div (x / b ^ m) b
  have e2 := Nat.mod_add_div (y / b ^ m) b
  rw [h] at e1
  omega

structure CmpRel (w0 : World) (A : Option Addr) (n c : Nat) (A' : Option Addr) (n' c' : Nat) (wr : World) : Prop where
  bx : wr.cell? ⟨w0.heap.size, 0, none⟩ = some (.slice A n c)
  by_ : wr.cell? ⟨w0.heap.size + 1, 0, none⟩ = some (.slice A' n' c')
  bel : Below w0.heap.size w0 wr
theorem CmpRel.start (w : World) (A : Option Addr) (n c : Nat) (A' : Option Addr) (n' c' : Nat) : CmpRel w A n c A' n' c' ((w.alloc (.cells #[.slice A n c] 26)).alloc (.cells #[.slice A' n' c'] 26)) :=
  ⟨((Blk.new w 26 #[.slice A n c]).alloc _).cell 0, by have := (Blk.new (w.alloc (.cells #[.slice A n c] 26)) 26 #[.slice A' n' c']).cell 0; simp at this; simp [this], ((Below.refl _ _).alloc (Nat.le_refl _) _).alloc (by simp) _⟩

set_option maxRecDepth 100000 in
set_option maxHeartbeats 1000000 in
theorem cmp_any (A : Option Addr) (n c x : Nat) (A' : Option Addr) (n' c' y : Nat) (w : World) (hx : DAt B64 w A n c x) (hy : DAt B64 w A' n' c' y) (hn : n ≤ 1099511627776) (hn' : n' ≤ 1099511627776) :
    Calls Tryz.prog 48 #[.agg #[.slice A n c], .agg #[.slice A' n' c']] w fun e w' => e = .returned (.int .i64 (cmpI x y)) ∧ Below w.heap.size w w' := by
  by_cases hne : n = n'
  · subst hne
    have hx0 : x < B64 ^ n := hx.lt two_le_B64
    have hy0 : y < B64 ^ n := hy.lt two_le_B64
    have h0 : x / B64 ^ n = y / B64 ^ n := by rw [Nat.div_eq_of_lt hx0, Nat.div_eq_of_lt hy0]
    have H0 := Lib.hid h0
    clear h0 hx0 hy0
    go_enter Tryz.func48, Tryz.ntmps48
    go_wp2
    have hr0 := CmpRel.start w A n c A' n c'
    generalize (w.alloc (.cells #[.slice A n c] 26)).alloc (.cells #[.slice A' n c'] 26) = W at hr0 ⊢
    go_loopw [5] (fun v wr => ∃ i : Int, -1 ≤ i ∧ i < n ∧ v = .int .i64 i ∧ x / B64 ^ (i + 1).toNat = y / B64 ^ (i + 1).toNat ∧ CmpRel w A n c A' n c' wr) (fun v _ => (intOf v + 1).toNat)
    case atStart => exact ⟨(n : Int) - 1, by omega, by omega, rfl, by rw [show ((n : Int) - 1 + 1).toNat = n by omega]; exact H0.out, hr0⟩
    case round =>
      clear hr0
      obtain ⟨i, hi1, hi2, rfl, he, hr⟩ := hrel
      by_cases hi : 0 ≤ i
      · obtain ⟨m, rfl⟩ := Int.eq_ofNat_of_zero_le hi
        rw [show ((m : Int) + 1).toNat = m + 1 by omega] at he
        have hm : m < n := by omega
        obtain ⟨g, off, rfl, hg, hc1⟩ := hx.flat two_le_B64 (by omega)
        obtain ⟨g', off', rfl, hg', hc2⟩ := hy.flat two_le_B64 (by omega)
        have e1 := (hr.bel.cell (p := ⟨g, off + m, none⟩) hg).trans (hc1 m hm)
        have e2 := (hr.bel.cell (p := ⟨g', off' + m, none⟩) hg').trans (hc2 m hm)
        have hbx := hr.bx
        have hby := hr.by_
        have hbl := hr.bel
        have hlt := fun h => lt_of_digit (b := B64) two_le_B64 he h
        have hgt := fun h => lt_of_digit (b := B64) two_le_B64 he.symm h
        have heq := fun h => eq_of_digit (b := B64) two_le_B64 he h
        generalize x / B64 ^ m % B64 = p at e1 hlt hgt heq
        generalize y / B64 ^ m % B64 = q at e2 hlt hgt heq
        have HLT := Lib.hid hlt; have HGT := Lib.hid hgt; have HEQ := Lib.hid heq
        clear hlt hgt heq hc1 hc2 he
        by_cases h1 : p < q
        · have HC := Lib.hid (cmp_lt (HLT.out h1))
          have hd : ((p : Int) != (q : Int)) = true := by rw [bne_iff_ne]; omega
          have hd2 : decide (p < q) = true := by simp; omega
          go_wp2
          go_region
          go_wp2
          go_region
          go_wp2
          go_ret
          exact ⟨by rw [HC.out]; rfl, hbl.drew.drew⟩
        · by_cases h2 : q < p
          · have HC := Lib.hid (cmp_gt (HGT.out h2))
            have hd : ((p : Int) != (q : Int)) = true := by rw [bne_iff_ne]; omega
            have hd2 : decide (p < q) = false := by simp; omega
            go_wp2
            go_region
            go_wp2
            go_region
            go_wp2
            go_ret
            exact ⟨by rw [HC.out]; rfl, hbl.drew.drew⟩
          · have hpq : p = q := by omega
            have HE := Lib.hid (HEQ.out hpq)
            have hd : ((p : Int) != (q : Int)) = false := by rw [bne_eq_false_iff_eq]; omega
            clear hpq
            go_wp2
            go_region
            go_wp2
            go_roundw
            case rel => exact ⟨(m : Int) - 1, by omega, by omega, rfl, by rw [show ((m : Int) - 1 + 1).toNat = m by omega]; exact HE.out, hbx, hby, hbl.drew⟩
            case measure => simp [intOf]
      · have hi0 : i = -1 := by omega
        have hxy : x = y := by rw [hi0] at he; simpa using he
        subst hi0
        have HXY := Lib.hid hxy
        have hbl := hr.bel
        clear he hxy
        go_wp2
        go_ret
        exact ⟨by rw [HXY.out, cmp_eq]; rfl, hbl⟩
  · rcases Nat.lt_or_ge n n' with h | h
    · have h1 : x < y := by
        have p0 : (0 : Nat) < B64 := by decide
        have hy0 : 0 < y := by
          rcases Nat.eq_zero_or_pos y with h0 | h0
          · have := (hy.zero_len two_le_B64).2 h0; omega
          · exact h0
        exact Nat.lt_of_lt_of_le (hx.lt two_le_B64) (Nat.le_trans (Nat.pow_le_pow_right p0 (by omega)) (hy.ge two_le_B64 hy0))
      rw [cmp_lt h1]
      have hd : ((n : Int) != (n' : Int)) = true := by rw [bne_iff_ne]; omega
      clear hne h1
      go_enter Tryz.func48, Tryz.ntmps48
      go_wp2
      go_ret
      exact ⟨rfl, ((Below.refl _ _).alloc (Nat.le_refl _) _).alloc (by simp) _⟩
    · have h1 : y < x := by
        have p0 : (0 : Nat) < B64 := by decide
        have hx0 : 0 < x := by
          rcases Nat.eq_zero_or_pos x with h0 | h0
          · have := (hx.zero_len two_le_B64).2 h0; omega
          · exact h0
        exact Nat.lt_of_lt_of_le (hy.lt two_le_B64) (Nat.le_trans (Nat.pow_le_pow_right p0 (by omega)) (hx.ge two_le_B64 hx0))
      rw [cmp_gt h1]
      have hd : ((n : Int) != (n' : Int)) = true := by rw [bne_iff_ne]; omega
      clear hne h1
      go_enter Tryz.func48, Tryz.ntmps48
      go_wp2
      go_ret
      exact ⟨rfl, ((Below.refl _ _).alloc (Nat.le_refl _) _).alloc (by simp) _⟩
end Go.Proofs.YtfgnleoaibcegaaGreat
