/-
  Walks and plain laws.
-/
import Derived.Test.YtfgnleoaibcegaaGreatXAE
set_option linter.unusedVariables false
set_option linter.unusedSimpArgs false
namespace Go.Proofs.YtfgnleoaibcegaaGreat

open Go.RowKit

structure Gss (h a b U u1 q r : Nat) : Prop where
  half : Half h a b U u1 q r
  rl : r < h
  ql : q ≤ U
  ub : U < a * h + b
theorem Gss.start {h a b U u1 : Nat} (ha : 0 < a) (hu : u1 < h) (hah : a ≤ h) (hU : U < a * h + b) : Gss h a b U u1 (U / a) (U % a) :=
  ⟨half_start ha hu, Nat.lt_of_lt_of_le (Nat.mod_lt _ ha) hah, Nat.div_le_self .., hU⟩

theorem gss_words {q r b u : Nat} (hq : q < B32) (hr : r < B32) (hb : b < B32) (hu : u < B32) :
    ∃ m1 m2 m3 : Nat, IntKind.u64.wrap ((q : Int) * (b : Int)) = (m1 : Int) ∧ IntKind.u64.wrap (4294967296 * (r : Int)) = (m2 : Int) ∧ IntKind.u64.wrap ((m2 : Int) + (u : Int)) = (m3 : Int) ∧ (B32 * r + u < q * b ↔ m3 < m1) := by
  have h1 : q * b ≤ (B32 - 1) * (B32 - 1) := Nat.mul_le_mul (by omega) (by omega)
  rw [B32_eq] at *
  exact ⟨q * b, 4294967296 * r, 4294967296 * r + u, w64 (by rw [B64_eq]; omega) (by simp), w64 (by rw [B64_eq]; omega) (by simp), w64 (by rw [B64_eq]; omega) (by simp), Iff.rfl⟩

theorem div_mid {hi lo y s Y U Z a b u1 u0 Q : Nat} (hY : a * B32 + b = Y) (h3 : (U * B32 + u1) / (a * B32 + b) = Q) (h4 : Q * (a * B32 + b) ≤ U * B32 + u1)
    (ha : 2147483648 ≤ a) (hal : a < B32) (hu0 : u0 < B32) (W : Words hi lo y s Y U Z) :
    ∃ R : Nat, Q * Y + R = U * B32 + u1 ∧ R = (U * B32 + u1) % Y ∧ IntKind.u64.wrap (IntKind.u64.wrap (IntKind.u64.wrap ((U : Int) * 4294967296) + (u1 : Int)) - IntKind.u64.wrap ((Q : Int) * (Y : Int))) = (R : Int) ∧
      IntKind.u64.wrap ((R : Int) / (a : Int)) = ((R / a : Nat) : Int) ∧ IntKind.u64.wrap ((R : Int) - IntKind.u64.wrap (((R / a : Nat) : Int) * (a : Int))) = ((R % a : Nat) : Int) ∧ R < B64 ∧ Gss B32 a b R u0 (R / a) (R % a) := by
  rw [hY] at h3 h4
  have hYp : 0 < Y := by have := W.y_ge; omega
  have h5 := Nat.mod_lt (U * B32 + u1) hYp
  have h6 := Nat.div_add_mod' (U * B32 + u1) Y
  rw [h3] at h6
  have h7 := W.y_lt
  refine ⟨(U * B32 + u1) % Y, h6, rfl, ?_, tdiv_nat (by omega), sub_low (Nat.div_add_mod' _ a) (by omega), by omega, Gss.start (by omega) hu0 (Nat.le_of_lt hal) (by rw [hY]; exact h5)⟩
  exact wrap_tail (h := 4294967296) h6 (by omega)
theorem div_end {hi lo y s Y U Z a b u1 u0 Q R Q' : Nat} (hY : a * B32 + b = Y)
    (hT : (hi * B64 + lo) / y = (U * B32 + u1) / Y * B32 + ((U * B32 + u1) % Y * B32 + u0) / Y) (hM : ((U * B32 + u1) % Y * B32 + u0) % Y / 2 ^ s = (hi * B64 + lo) % y)
    (hQ : Q < B32) (h1 : Q * Y + R = U * B32 + u1) (h2 : R = (U * B32 + u1) % Y) (hQ' : Q' < B32) (h3 : (R * B32 + u0) / (a * B32 + b) = Q') (h4 : Q' * (a * B32 + b) ≤ R * B32 + u0) (W : Words hi lo y s Y U Z) :
    ∃ V E : Nat, IntKind.u64.wrap ((Q : Int) * 4294967296) = (V : Int) ∧ IntKind.u64.wrap ((V : Int) + (Q' : Int)) = (((hi * B64 + lo) / y : Nat) : Int) ∧
      IntKind.u64.wrap (IntKind.u64.wrap (IntKind.u64.wrap ((R : Int) * 4294967296) + (u0 : Int)) - IntKind.u64.wrap ((Q' : Int) * (Y : Int))) = (E : Int) ∧ (E : Int) / 2 ^ s = (((hi * B64 + lo) % y : Nat) : Int) := by
  rw [hY] at h3 h4
  have hYp : 0 < Y := by have := W.y_ge; omega
  have h5 := Nat.mod_lt (R * B32 + u0) hYp
  have h6 := Nat.div_add_mod' (R * B32 + u0) Y
  have h7 := W.y_lt
  have h8 : (U * B32 + u1) / Y = Q := Nat.div_eq_of_lt_le (by omega) (by rw [Nat.add_mul, Nat.one_mul]; have := Nat.mod_lt (U * B32 + u1) hYp; omega)
  rw [← h2, h3, h8] at hT
  rw [← h2] at hM
  rw [h3] at h6
  rw [hT, ← hM]
  refine ⟨Q * B32, (R * B32 + u0) % Y, ?_, ?_, wrap_tail (h := 4294967296) h6 (by omega), by simp⟩
  · exact w64 (by rw [B32_eq] at *; rw [B64_eq]; omega) (by rw [B32_eq]; simp)
  · exact w64 (by rw [B32_eq] at *; rw [B64_eq]; omega) (by simp)

set_option maxRecDepth 100000 in
set_option maxHeartbeats 2000000 in
theorem div64_main (hi lo y : Nat) (hy : y < B64) (hh : hi < y) (hl : lo < B64) (hz : 0 < hi) (w : World) :
    Calls Tryz.prog 123 #[.int .u64 (hi : Int), .int .u64 (lo : Int), .int .u64 (y : Int)] w fun e w' => e = .returned (.tuple #[.int .u64 (((hi * B64 + lo) / y : Nat) : Int), .int .u64 (((hi * B64 + lo) % y : Nat) : Int)]) ∧ w = w' := by
  have h0 : ((y : Int) == 0) = false := by simp; omega
  have h1 : ¬ ((y : Int) ≤ (hi : Int)) := by omega
  have h2 : ((hi : Int) == 0) = false := by simp; omega
  have W := words hy hh hl
  have hlz := lz64_any y hy w
  obtain ⟨b1, -, -⟩ := bl_bounds (x := y) (by omega)
  have b4 : bl y ≤ 64 := bl_le (by rw [← B64_pow]; exact hy)
  rw [show (64 - ((bl y : Nat) : Int)) = ((64 - bl y : Nat) : Int) by omega] at hlz
  generalize hY : y * 2 ^ (64 - bl y) = Y at W
  generalize hU : hi * 2 ^ (64 - bl y) + lo * 2 ^ (64 - bl y) / B64 = U at W
  generalize hZ : lo * 2 ^ (64 - bl y) % B64 = Z at W
  generalize hsd : 64 - bl y = s at W hlz hY hU hZ
  have f0 : (64 : Int) - (s : Int) = ((64 - s : Nat) : Int) := by have := W.s64; omega
  have f00 : (0:Int) ≤ 64 - (s : Int) := by have := W.s64; omega
  have f1 : IntKind.u64.wrap ((y : Int) * 2 ^ s) = (Y : Int) := by rw [shl_full, hY, Nat.mod_eq_of_lt W.y_lt]
  have f4 : bits .or .u64 (IntKind.u64.wrap ((hi : Int) * 2 ^ s)) ((lo : Int) / 2 ^ (64 - s)) = (U : Int) := by rw [or_two W.s64 hl W.h_lt, hU]
  have f5 : IntKind.u64.wrap ((lo : Int) * 2 ^ s) = (Z : Int) := by rw [shl_full, hZ]
  have hZl : Z < B64 := by rw [← hZ]; exact Nat.mod_lt _ (by decide)
  have hUl : U < B64 := Nat.lt_trans W.u_lt W.y_lt
  have f3 := and_low W.y_lt
  have f7 := and_low hZl
  have f2 : (Y : Int) / 4294967296 = ((Y / B32 : Nat) : Int) := by rw [B32_eq]; simp
  have f6 : (Z : Int) / 4294967296 = ((Z / B32 : Nat) : Int) := by rw [B32_eq]; simp
  have hYe := Nat.div_add_mod Y B32
  have hZe := Nat.div_add_mod Z B32
  have hal : Y / B32 < B32 := by have := W.y_lt; rw [B64_eq] at this; rw [B32_eq]; omega
  have ha0 : 2147483648 ≤ Y / B32 := by have := W.y_ge; rw [B32_eq]; omega
  have hbl : Y % B32 < B32 := Nat.mod_lt _ (by decide)
  have hu1 : Z / B32 < B32 := by rw [B64_eq] at hZl; rw [B32_eq]; omega
  have hu0 : Z % B32 < B32 := Nat.mod_lt _ (by decide)
  generalize Y / B32 = a at *
  generalize Y % B32 = b at *
  generalize Z / B32 = u1 at *
  generalize Z % B32 = u0 at *
  have hYab : a * B32 + b = Y := by rw [Nat.mul_comm]; exact hYe
  have f8 : ((a : Int) == 0) = false := by simp; omega
  have f9 := tdiv_nat (a := a) hUl
  have f10 := sub_low (a := a) (q := U / a) (r := U % a) (Nat.div_add_mod' U a) hUl
  have hG0 : Gss B32 a b U u1 (U / a) (U % a) := Gss.start (by omega) hu1 (Nat.le_of_lt hal) (by rw [hYab]; exact W.u_lt)
  generalize U / a = q0 at *
  generalize U % a = r0 at *
  have hbb : B32 * B32 = B64 := by decide
  have HT := two_rounds (h := B32) (Y := Y) (U := U) (u1 := u1) (u0 := u0) (by have := W.y_ge; omega)
  have hN : U * B32 * B32 + u1 * B32 + u0 = (hi * B64 + lo) * 2 ^ s := by rw [W.eq, Nat.mul_assoc, hbb, ← hZe, Nat.mul_comm u1]; omega
  rw [hN, ← W.y_eq, (moved_div (Nat.two_pow_pos s)).1] at HT
  have HM := (moved_div (N := hi * B64 + lo) (y := y) (Nat.two_pow_pos s)).2
  rw [HT.2, W.y_eq] at HM
  replace HT := HT.1
  rw [W.y_eq] at HT
  have HTT := Lib.hid HT; have HMM := Lib.hid HM; have HG := Lib.hid hG0; have HYY := Lib.hid hYab; have HW := Lib.hid W
  clear HT HM hG0 hYab W hN hbb hYe hZe hY hU hZ hsd b1 b4
  go_enter Tryz.func123, Tryz.ntmps123
  go_wp2_with fail
  refine hlz.mono ?_
  rintro e w1 ⟨rfl, rfl⟩
  clear hlz
  go_wp2_with fail
  go_loopw [15, 16] (fun qv rv wr => ∃ q r : Nat, qv = .int .u64 (q : Int) ∧ rv = .int .u64 (r : Int) ∧ Gss B32 a b U u1 q r ∧ wr = w) (fun q _ _ => (intOf q).toNat)
  case atStart => exact ⟨_, _, rfl, rfl, HG.out, rfl⟩
  case round =>
    clear HG f9 f10
    obtain ⟨q, r, rfl, rfl, hG, hwr⟩ := hrel
    subst hwr
    have hqB : q < B64 := Nat.lt_of_le_of_lt hG.ql hUl
    have hrl := hG.rl
    by_cases hc : B32 ≤ q ∨ B32 * r + u1 < q * b
    · obtain ⟨hq0, hD⟩ := half_down hG.half hG.ub hu1 hc
      have g1 : IntKind.u64.wrap ((q : Int) - 1) = ((q - 1 : Nat) : Int) := w64 (by omega) (by omega)
      have g2 : IntKind.u64.wrap ((r : Int) + (a : Int)) = ((r + a : Nat) : Int) := w64 (by rw [B32_eq] at *; rw [B64_eq]; omega) (by omega)
      have hgu := hG.ub
      have hql := hG.ql
      obtain ⟨q', hq'⟩ : ∃ q', q' = q - 1 := ⟨_, rfl⟩
      obtain ⟨r', hr'⟩ : ∃ r', r' = r + a := ⟨_, rfl⟩
      rw [← hq', ← hr'] at hD
      rw [← hq'] at g1
      rw [← hr'] at g2
      have HD := Lib.hid hD; have HQ := Lib.hid hq'; have HUB := Lib.hid hgu
      clear hD hG hr' hq' hgu
      by_cases hout : B32 ≤ r'
      · obtain ⟨o1, o2⟩ := half_out HD.out HUB.out hbl hout
        obtain ⟨o3, o4⟩ := half_end HD.out o2
        have gr : (4294967296 : Int) ≤ (r' : Int) := by rw [B32_eq] at hout; omega
        by_cases hq : B32 ≤ q
        · have gq : (4294967296 : Int) ≤ (q : Int) := by rw [B32_eq] at hq; omega
          clear hc
          obtain ⟨R, s1, s2, s3, f9, f10, hRl, hG2⟩ := div_mid HYY.out o3 o4 ha0 hal hu0 HW.out
          have HG2 := Lib.hid hG2; have S0 := Lib.hid o1; have S1 := Lib.hid s1; have S2 := Lib.hid s2
          clear hG2 s1 s2 o1 o3 o4
          generalize R / a = q2 at *
          generalize R % a = r2 at *
          go_wp2_with fail
          go_loopw [18, 16] (fun qv rv wz => ∃ q r : Nat, qv = .int .u64 (q : Int) ∧ rv = .int .u64 (r : Int) ∧ Gss B32 a b R u0 q r ∧ wz = wr) (fun q _ _ => (intOf q).toNat)
          case atStart => exact ⟨_, _, rfl, rfl, HG2.out, rfl⟩
          case round =>
            clear HG2 f9 f10
            obtain ⟨q, r, rfl, rfl, hG, hwr⟩ := hrel
            subst hwr
            have hqB : q < B64 := Nat.lt_of_le_of_lt hG.ql hRl
            have hrl := hG.rl
            by_cases hc : B32 ≤ q ∨ B32 * r + u0 < q * b
            · obtain ⟨hq0, hD⟩ := half_down hG.half hG.ub hu0 hc
              have g1 : IntKind.u64.wrap ((q : Int) - 1) = ((q - 1 : Nat) : Int) := w64 (by omega) (by omega)
              have g2 : IntKind.u64.wrap ((r : Int) + (a : Int)) = ((r + a : Nat) : Int) := w64 (by rw [B32_eq] at *; rw [B64_eq]; omega) (by omega)
              have hgu := hG.ub
              have hql := hG.ql
              obtain ⟨q', hq'⟩ : ∃ q', q' = q - 1 := ⟨_, rfl⟩
              obtain ⟨r', hr'⟩ : ∃ r', r' = r + a := ⟨_, rfl⟩
              rw [← hq', ← hr'] at hD
              rw [← hq'] at g1
              rw [← hr'] at g2
              have HD := Lib.hid hD; have HQ := Lib.hid hq'; have HUB := Lib.hid hgu
              clear hD hG hr' hq' hgu
              by_cases hout : B32 ≤ r'
              · obtain ⟨o1, o2⟩ := half_out HD.out HUB.out hbl hout
                obtain ⟨o3, o4⟩ := half_end HD.out o2
                have gr : (4294967296 : Int) ≤ (r' : Int) := by rw [B32_eq] at hout; omega
                by_cases hq : B32 ≤ q
                · have gq : (4294967296 : Int) ≤ (q : Int) := by rw [B32_eq] at hq; omega
                  clear hc
                  obtain ⟨V, E, e1, e2, e3, e4⟩ := div_end HYY.out HTT.out HMM.out S0.out S1.out S2.out o1 o3 o4 HW.out
                  go_wp2
                  exact bodyPost_ret (v := .tuple #[.int .u64 (((hi * B64 + lo) / y : Nat) : Int), .int .u64 (((hi * B64 + lo) % y : Nat) : Int)]) (by simp [results, Tryz.results123, go_sem]) rfl ⟨rfl, rfl⟩
                · have gq : ¬ (4294967296 : Int) ≤ (q : Int) := by rw [B32_eq] at hq; omega
                  obtain ⟨m1, m2, m3, h1, h2, h3, h4⟩ := gss_words (q := q) (r := r) (b := b) (u := u0) (by omega) hrl hbl hu0
                  have h5 : (m3 : Int) < (m1 : Int) := by have := (h4.1 (by omega)); omega
                  clear hc h4
                  obtain ⟨V, E, e1, e2, e3, e4⟩ := div_end HYY.out HTT.out HMM.out S0.out S1.out S2.out o1 o3 o4 HW.out
                  go_wp2
                  exact bodyPost_ret (v := .tuple #[.int .u64 (((hi * B64 + lo) / y : Nat) : Int), .int .u64 (((hi * B64 + lo) % y : Nat) : Int)]) (by simp [results, Tryz.results123, go_sem]) rfl ⟨rfl, rfl⟩
              · have gr : ¬ (4294967296 : Int) ≤ (r' : Int) := by rw [B32_eq] at hout; omega
                by_cases hq : B32 ≤ q
                · have gq : (4294967296 : Int) ≤ (q : Int) := by rw [B32_eq] at hq; omega
                  clear hc
                  go_wp2_with fail
                  go_roundw
                  case rel => exact ⟨q', r', rfl, rfl, ⟨HD.out, by omega, by have := HQ.out; omega, HUB.out⟩, by first | rfl | trivial⟩
                  case measure => have := HQ.out; simp [intOf]; omega
                · have gq : ¬ (4294967296 : Int) ≤ (q : Int) := by rw [B32_eq] at hq; omega
                  obtain ⟨m1, m2, m3, h1, h2, h3, h4⟩ := gss_words (q := q) (r := r) (b := b) (u := u0) (by omega) hrl hbl hu0
                  have h5 : (m3 : Int) < (m1 : Int) := by have := (h4.1 (by omega)); omega
                  clear hc h4
                  go_wp2_with fail
                  go_roundw
                  case rel => exact ⟨q', r', rfl, rfl, ⟨HD.out, by omega, by have := HQ.out; omega, HUB.out⟩, by first | rfl | trivial⟩
                  case measure => have := HQ.out; simp [intOf]; omega
            · have hq : ¬ B32 ≤ q := fun h => hc (.inl h)
              obtain ⟨o3, o4⟩ := half_end hG.half (by have : ¬ (B32 * r + u0 < q * b) := fun h => hc (.inr h); omega)
              have o1 : q < B32 := by omega
              have gq : ¬ (4294967296 : Int) ≤ (q : Int) := by rw [B32_eq] at hq; omega
              obtain ⟨m1, m2, m3, h1, h2, h3, h4⟩ := gss_words (q := q) (r := r) (b := b) (u := u0) (by omega) hrl hbl hu0
              have h5 : ¬ (m3 : Int) < (m1 : Int) := by intro hh; exact hc (.inr (h4.2 (by omega)))
              clear hc h4 hG
              obtain ⟨V, E, e1, e2, e3, e4⟩ := div_end HYY.out HTT.out HMM.out S0.out S1.out S2.out o1 o3 o4 HW.out
              go_wp2
              exact bodyPost_ret (v := .tuple #[.int .u64 (((hi * B64 + lo) / y : Nat) : Int), .int .u64 (((hi * B64 + lo) % y : Nat) : Int)]) (by simp [results, Tryz.results123, go_sem]) rfl ⟨rfl, rfl⟩
        · have gq : ¬ (4294967296 : Int) ≤ (q : Int) := by rw [B32_eq] at hq; omega
          obtain ⟨m1, m2, m3, h1, h2, h3, h4⟩ := gss_words (q := q) (r := r) (b := b) (u := u1) (by omega) hrl hbl hu1
          have h5 : (m3 : Int) < (m1 : Int) := by have := (h4.1 (by omega)); omega
          clear hc h4
          obtain ⟨R, s1, s2, s3, f9, f10, hRl, hG2⟩ := div_mid HYY.out o3 o4 ha0 hal hu0 HW.out
          have HG2 := Lib.hid hG2; have S0 := Lib.hid o1; have S1 := Lib.hid s1; have S2 := Lib.hid s2
          clear hG2 s1 s2 o1 o3 o4
          generalize R / a = q2 at *
          generalize R % a = r2 at *
          go_wp2_with fail
          go_loopw [18, 16] (fun qv rv wz => ∃ q r : Nat, qv = .int .u64 (q : Int) ∧ rv = .int .u64 (r : Int) ∧ Gss B32 a b R u0 q r ∧ wz = wr) (fun q _ _ => (intOf q).toNat)
          case atStart => exact ⟨_, _, rfl, rfl, HG2.out, rfl⟩
          case round =>
            clear HG2 f9 f10
            obtain ⟨q, r, rfl, rfl, hG, hwr⟩ := hrel
            subst hwr
            have hqB : q < B64 := Nat.lt_of_le_of_lt hG.ql hRl
            have hrl := hG.rl
            by_cases hc : B32 ≤ q ∨ B32 * r + u0 < q * b
            · obtain ⟨hq0, hD⟩ := half_down hG.half hG.ub hu0 hc
              have g1 : IntKind.u64.wrap ((q : Int) - 1) = ((q - 1 : Nat) : Int) := w64 (by omega) (by omega)
              have g2 : IntKind.u64.wrap ((r : Int) + (a : Int)) = ((r + a : Nat) : Int) := w64 (by rw [B32_eq] at *; rw [B64_eq]; omega) (by omega)
              have hgu := hG.ub
              have hql := hG.ql
              obtain ⟨q', hq'⟩ : ∃ q', q' = q - 1 := ⟨_, rfl⟩
              obtain ⟨r', hr'⟩ : ∃ r', r' = r + a := ⟨_, rfl⟩
              rw [← hq', ← hr'] at hD
              rw [← hq'] at g1
              rw [← hr'] at g2
              have HD := Lib.hid hD; have HQ := Lib.hid hq'; have HUB := Lib.hid hgu
              clear hD hG hr' hq' hgu
              by_cases hout : B32 ≤ r'
              · obtain ⟨o1, o2⟩ := half_out HD.out HUB.out hbl hout
                obtain ⟨o3, o4⟩ := half_end HD.out o2
                have gr : (4294967296 : Int) ≤ (r' : Int) := by rw [B32_eq] at hout; omega
                by_cases hq : B32 ≤ q
                · have gq : (4294967296 : Int) ≤ (q : Int) := by rw [B32_eq] at hq; omega
                  clear hc
                  obtain ⟨V, E, e1, e2, e3, e4⟩ := div_end HYY.out HTT.out HMM.out S0.out S1.out S2.out o1 o3 o4 HW.out
                  go_wp2
                  exact bodyPost_ret (v := .tuple #[.int .u64 (((hi * B64 + lo) / y : Nat) : Int), .int .u64 (((hi * B64 + lo) % y : Nat) : Int)]) (by simp [results, Tryz.results123, go_sem]) rfl ⟨rfl, rfl⟩
                · have gq : ¬ (4294967296 : Int) ≤ (q : Int) := by rw [B32_eq] at hq; omega
                  obtain ⟨m1, m2, m3, h1, h2, h3, h4⟩ := gss_words (q := q) (r := r) (b := b) (u := u0) (by omega) hrl hbl hu0
                  have h5 : (m3 : Int) < (m1 : Int) := by have := (h4.1 (by omega)); omega
                  clear hc h4
                  obtain ⟨V, E, e1, e2, e3, e4⟩ := div_end HYY.out HTT.out HMM.out S0.out S1.out S2.out o1 o3 o4 HW.out
                  go_wp2
                  exact bodyPost_ret (v := .tuple #[.int .u64 (((hi * B64 + lo) / y : Nat) : Int), .int .u64 (((hi * B64 + lo) % y : Nat) : Int)]) (by simp [results, Tryz.results123, go_sem]) rfl ⟨rfl, rfl⟩
              · have gr : ¬ (4294967296 : Int) ≤ (r' : Int) := by rw [B32_eq] at hout; omega
                by_cases hq : B32 ≤ q
                · have gq : (4294967296 : Int) ≤ (q : Int) := by rw [B32_eq] at hq; omega
                  clear hc
                  go_wp2_with fail
                  go_roundw
                  case rel => exact ⟨q', r', rfl, rfl, ⟨HD.out, by omega, by have := HQ.out; omega, HUB.out⟩, by first | rfl | trivial⟩
                  case measure => have := HQ.out; simp [intOf]; omega
                · have gq : ¬ (4294967296 : Int) ≤ (q : Int) := by rw [B32_eq] at hq; omega
                  obtain ⟨m1, m2, m3, h1, h2, h3, h4⟩ := gss_words (q := q) (r := r) (b := b) (u := u0) (by omega) hrl hbl hu0
                  have h5 : (m3 : Int) < (m1 : Int) := by have := (h4.1 (by omega)); omega
                  clear hc h4
                  go_wp2_with fail
                  go_roundw
                  case rel => exact ⟨q', r', rfl, rfl, ⟨HD.out, by omega, by have := HQ.out; omega, HUB.out⟩, by first | rfl | trivial⟩
                  case measure => have := HQ.out; simp [intOf]; omega
            · have hq : ¬ B32 ≤ q := fun h => hc (.inl h)
              obtain ⟨o3, o4⟩ := half_end hG.half (by have : ¬ (B32 * r + u0 < q * b) := fun h => hc (.inr h); omega)
              have o1 : q < B32 := by omega
              have gq : ¬ (4294967296 : Int) ≤ (q : Int) := by rw [B32_eq] at hq; omega
              obtain ⟨m1, m2, m3, h1, h2, h3, h4⟩ := gss_words (q := q) (r := r) (b := b) (u := u0) (by omega) hrl hbl hu0
              have h5 : ¬ (m3 : Int) < (m1 : Int) := by intro hh; exact hc (.inr (h4.2 (by omega)))
              clear hc h4 hG
              obtain ⟨V, E, e1, e2, e3, e4⟩ := div_end HYY.out HTT.out HMM.out S0.out S1.out S2.out o1 o3 o4 HW.out
              go_wp2
              exact bodyPost_ret (v := .tuple #[.int .u64 (((hi * B64 + lo) / y : Nat) : Int), .int .u64 (((hi * B64 + lo) % y : Nat) : Int)]) (by simp [results, Tryz.results123, go_sem]) rfl ⟨rfl, rfl⟩
      · have gr : ¬ (4294967296 : Int) ≤ (r' : Int) := by rw [B32_eq] at hout; omega
        by_cases hq : B32 ≤ q
        · have gq : (4294967296 : Int) ≤ (q : Int) := by rw [B32_eq] at hq; omega
          clear hc
          go_wp2_with fail
          go_roundw
          case rel => exact ⟨q', r', rfl, rfl, ⟨HD.out, by omega, by have := HQ.out; omega, HUB.out⟩, by first | rfl | trivial⟩
          case measure => have := HQ.out; simp [intOf]; omega
        · have gq : ¬ (4294967296 : Int) ≤ (q : Int) := by rw [B32_eq] at hq; omega
          obtain ⟨m1, m2, m3, h1, h2, h3, h4⟩ := gss_words (q := q) (r := r) (b := b) (u := u1) (by omega) hrl hbl hu1
          have h5 : (m3 : Int) < (m1 : Int) := by have := (h4.1 (by omega)); omega
          clear hc h4
          go_wp2_with fail
          go_roundw
          case rel => exact ⟨q', r', rfl, rfl, ⟨HD.out, by omega, by have := HQ.out; omega, HUB.out⟩, by first | rfl | trivial⟩
          case measure => have := HQ.out; simp [intOf]; omega
    · have hq : ¬ B32 ≤ q := fun h => hc (.inl h)
      obtain ⟨o3, o4⟩ := half_end hG.half (by have : ¬ (B32 * r + u1 < q * b) := fun h => hc (.inr h); omega)
      have o1 : q < B32 := by omega
      have gq : ¬ (4294967296 : Int) ≤ (q : Int) := by rw [B32_eq] at hq; omega
      obtain ⟨m1, m2, m3, h1, h2, h3, h4⟩ := gss_words (q := q) (r := r) (b := b) (u := u1) (by omega) hrl hbl hu1
      have h5 : ¬ (m3 : Int) < (m1 : Int) := by intro hh; exact hc (.inr (h4.2 (by omega)))
      clear hc h4 hG
      obtain ⟨R, s1, s2, s3, f9, f10, hRl, hG2⟩ := div_mid HYY.out o3 o4 ha0 hal hu0 HW.out
      have HG2 := Lib.hid hG2; have S0 := Lib.hid o1; have S1 := Lib.hid s1; have S2 := Lib.hid s2
      clear hG2 s1 s2 o1 o3 o4
      generalize R / a = q2 at *
      generalize R % a = r2 at *
      go_wp2_with fail
      go_loopw [18, 16] (fun qv rv wz => ∃ q r : Nat, qv = .int .u64 (q : Int) ∧ rv = .int .u64 (r : Int) ∧ Gss B32 a b R u0 q r ∧ wz = wr) (fun q _ _ => (intOf q).toNat)
      case atStart => exact ⟨_, _, rfl, rfl, HG2.out, rfl⟩
      case round =>
        clear HG2 f9 f10
        obtain ⟨q, r, rfl, rfl, hG, hwr⟩ := hrel
        subst hwr
        have hqB : q < B64 := Nat.lt_of_le_of_lt hG.ql hRl
        have hrl := hG.rl
        by_cases hc : B32 ≤ q ∨ B32 * r + u0 < q * b
        · obtain ⟨hq0, hD⟩ := half_down hG.half hG.ub hu0 hc
          have g1 : IntKind.u64.wrap ((q : Int) - 1) = ((q - 1 : Nat) : Int) := w64 (by omega) (by omega)
          have g2 : IntKind.u64.wrap ((r : Int) + (a : Int)) = ((r + a : Nat) : Int) := w64 (by rw [B32_eq] at *; rw [B64_eq]; omega) (by omega)
          have hgu := hG.ub
          have hql := hG.ql
          obtain ⟨q', hq'⟩ : ∃ q', q' = q - 1 := ⟨_, rfl⟩
          obtain ⟨r', hr'⟩ : ∃ r', r' = r + a := ⟨_, rfl⟩
          rw [← hq', ← hr'] at hD
          rw [← hq'] at g1
          rw [← hr'] at g2
          have HD := Lib.hid hD; have HQ := Lib.hid hq'; have HUB := Lib.hid hgu
          clear hD hG hr' hq' hgu
          by_cases hout : B32 ≤ r'
          · obtain ⟨o1, o2⟩ := half_out HD.out HUB.out hbl hout
            obtain ⟨o3, o4⟩ := half_end HD.out o2
            have gr : (4294967296 : Int) ≤ (r' : Int) := by rw [B32_eq] at hout; omega
            by_cases hq : B32 ≤ q
            · have gq : (4294967296 : Int) ≤ (q : Int) := by rw [B32_eq] at hq; omega
              clear hc
              obtain ⟨V, E, e1, e2, e3, e4⟩ := div_end HYY.out HTT.out HMM.out S0.out S1.out S2.out o1 o3 o4 HW.out
              go_wp2
              exact bodyPost_ret (v := .tuple #[.int .u64 (((hi * B64 + lo) / y : Nat) : Int), .int .u64 (((hi * B64 + lo) % y : Nat) : Int)]) (by simp [results, Tryz.results123, go_sem]) rfl ⟨rfl, rfl⟩
            · have gq : ¬ (4294967296 : Int) ≤ (q : Int) := by rw [B32_eq] at hq; omega
              obtain ⟨m1, m2, m3, h1, h2, h3, h4⟩ := gss_words (q := q) (r := r) (b := b) (u := u0) (by omega) hrl hbl hu0
              have h5 : (m3 : Int) < (m1 : Int) := by have := (h4.1 (by omega)); omega
              clear hc h4
              obtain ⟨V, E, e1, e2, e3, e4⟩ := div_end HYY.out HTT.out HMM.out S0.out S1.out S2.out o1 o3 o4 HW.out
              go_wp2
              exact bodyPost_ret (v := .tuple #[.int .u64 (((hi * B64 + lo) / y : Nat) : Int), .int .u64 (((hi * B64 + lo) % y : Nat) : Int)]) (by simp [results, Tryz.results123, go_sem]) rfl ⟨rfl, rfl⟩
          · have gr : ¬ (4294967296 : Int) ≤ (r' : Int) := by rw [B32_eq] at hout; omega
            by_cases hq : B32 ≤ q
            · have gq : (4294967296 : Int) ≤ (q : Int) := by rw [B32_eq] at hq; omega
              clear hc
              go_wp2_with fail
              go_roundw
              case rel => exact ⟨q', r', rfl, rfl, ⟨HD.out, by omega, by have := HQ.out; omega, HUB.out⟩, by first | rfl | trivial⟩
              case measure => have := HQ.out; simp [intOf]; omega
            · have gq : ¬ (4294967296 : Int) ≤ (q : Int) := by rw [B32_eq] at hq; omega
              obtain ⟨m1, m2, m3, h1, h2, h3, h4⟩ := gss_words (q := q) (r := r) (b := b) (u := u0) (by omega) hrl hbl hu0
              have h5 : (m3 : Int) < (m1 : Int) := by have := (h4.1 (by omega)); omega
              clear hc h4
              go_wp2_with fail
              go_roundw
              case rel => exact ⟨q', r', rfl, rfl, ⟨HD.out, by omega, by have := HQ.out; omega, HUB.out⟩, by first | rfl | trivial⟩
              case measure => have := HQ.out; simp [intOf]; omega
        · have hq : ¬ B32 ≤ q := fun h => hc (.inl h)
          obtain ⟨o3, o4⟩ := half_end hG.half (by have : ¬ (B32 * r + u0 < q * b) := fun h => hc (.inr h); omega)
          have o1 : q < B32 := by omega
          have gq : ¬ (4294967296 : Int) ≤ (q : Int) := by rw [B32_eq] at hq; omega
          obtain ⟨m1, m2, m3, h1, h2, h3, h4⟩ := gss_words (q := q) (r := r) (b := b) (u := u0) (by omega) hrl hbl hu0
          have h5 : ¬ (m3 : Int) < (m1 : Int) := by intro hh; exact hc (.inr (h4.2 (by omega)))
          clear hc h4 hG
          obtain ⟨V, E, e1, e2, e3, e4⟩ := div_end HYY.out HTT.out HMM.out S0.out S1.out S2.out o1 o3 o4 HW.out
          go_wp2
          exact bodyPost_ret (v := .tuple #[.int .u64 (((hi * B64 + lo) / y : Nat) : Int), .int .u64 (((hi * B64 + lo) % y : Nat) : Int)]) (by simp [results, Tryz.results123, go_sem]) rfl ⟨rfl, rfl⟩
end Go.Proofs.YtfgnleoaibcegaaGreat
