/-
  Walks and plain laws.
-/
import Derived.Test.YtfgnleoaibcegaaGreatXAH
set_option linter.unusedVariables false
set_option linter.unusedSimpArgs false
namespace Go.Proofs.YtfgnleoaibcegaaGreat

open Go.RowKit

theorem div64_quiet (hi lo y : Nat) (hy : y < B64) (hh : hi < y) (hl : lo < B64) (w : World) :
    Calls Tryz.prog 123 #[.int .u64 (hi : Int), .int .u64 (lo : Int), .int .u64 (y : Int)] w fun e w' => e = .returned (.tuple #[.int .u64 (((hi * B64 + lo) / y : Nat) : Int), .int .u64 (((hi * B64 + lo) % y : Nat) : Int)]) ∧ ∃ m, w' = w.drewN m := by
  refine (div64_any hi lo y hy hh hl w).mono ?_
  rintro e w' ⟨h1, h2⟩
  refine ⟨h1, ?_⟩
  rcases h2 with rfl | rfl
  · exact ⟨0, rfl⟩
  · exact ⟨1, rfl⟩

theorem quiet_add {P : Program} {f : FuncId} {args : Array Value} {w : World} {a n : Nat} {v : Value}
    (h : Calls P f args (w.drewN (a + n)) fun e w' => e = .returned v ∧ ∃ m, w' = (w.drewN (a + n)).drewN m) : Calls P f args (w.drewN (a + n)) fun e w'' => e = .returned v ∧ ∃ m, w'' = w.drewN (a + m) :=
  h.mono fun _ _ ⟨he, m, hm⟩ => ⟨he, n + m, by rw [hm, World.drewN_drewN, Nat.add_assoc]⟩

structure Gs (a b U u Q q r : Nat) : Prop where
  eq : q * a + r = U
  le : Q ≤ q
  ql : q < B64
theorem gs_down {a b U u Q q r : Nat} (H : Gs a b U u Q q r) (hc : B64 * r + u < q * b) (hQ : ∀ k, U * B64 + u < k * (a * B64 + b) → Q < k) : 0 < q ∧ Gs a b U u Q (q - 1) (r + a) := by
  have h1 := half_sum (h := B64) (b := b) (u1 := u) H.eq
  have h2 := hQ q (by omega)
  refine ⟨by omega, ?_, by omega, by have := H.ql; omega⟩
  have := H.eq
  obtain ⟨k, rfl⟩ : ∃ k, q = k + 1 := ⟨q - 1, by omega⟩
  rw [Nat.add_mul] at this
  simp; omega
theorem gs_end {a b U u Q q r : Nat} (H : Gs a b U u Q q r) (hc : q * b ≤ B64 * r + u) : q * (a * B64 + b) ≤ U * B64 + u := by
  have h1 := half_sum (h := B64) (b := b) (u1 := u) H.eq
  omega
theorem gs_out {a b U u Q q r : Nat} (H : Gs a b U u Q q r) (hU : U ≤ a * B64 + b) (hb : b < B64) (hr : B64 ≤ r) : q * b ≤ B64 * r + u := by
  have h1 := H.eq
  have h2 : q * a < B64 * a := by rw [Nat.mul_comm B64 a]; omega
  have h3 : q < B64 := Nat.lt_of_mul_lt_mul_right h2
  have h4 : q * b ≤ B64 * b := Nat.mul_le_mul_right b (Nat.le_of_lt h3)
  have h5 : B64 * b ≤ B64 * r := Nat.mul_le_mul_left B64 (by omega)
  omega

structure GsW (w : World) (g j gv ov n a0 a1 a2 v1 v2 Q : Nat) : Prop where
  c0 : w.cell? ⟨g, j + n, none⟩ = some (.int .u64 (a0 : Int))
  c1 : w.cell? ⟨g, j + (n - 1), none⟩ = some (.int .u64 (a1 : Int))
  c2 : w.cell? ⟨g, j + (n - 2), none⟩ = some (.int .u64 (a2 : Int))
  d1 : w.cell? ⟨gv, ov + (n - 1), none⟩ = some (.int .u64 (v1 : Int))
  d2 : w.cell? ⟨gv, ov + (n - 2), none⟩ = some (.int .u64 (v2 : Int))
  l0 : a0 < B64
  l1 : a1 < B64
  l2 : a2 < B64
  m1 : v1 < B64
  m2 : v2 < B64
  pos : 0 < v1
  le : a0 * B64 + a1 ≤ v1 * B64 + v2
  Qlt : Q < B64
  hQ : ∀ k, (a0 * B64 + a1) * B64 + a2 < k * (v1 * B64 + v2) → Q < k
theorem GsW.drewN {w : World} {g j gv ov n a0 a1 a2 v1 v2 Q : Nat} (h : GsW w g j gv ov n a0 a1 a2 v1 v2 Q) (m : Nat) : GsW (w.drewN m) g j gv ov n a0 a1 a2 v1 v2 Q :=
  ⟨h.c0, h.c1, h.c2, h.d1, h.d2, h.l0, h.l1, h.l2, h.m1, h.m2, h.pos, h.le, h.Qlt, h.hQ⟩
theorem GsW.low {w : World} {g j gv ov n a0 a1 a2 v1 v2 Q : Nat} (h : GsW w g j gv ov n a0 a1 a2 v1 v2 Q) (hlt : a0 < v1) :
    Gs v1 v2 (a0 * B64 + a1) a2 Q ((a0 * B64 + a1) / v1) ((a0 * B64 + a1) % v1) := by
  have h1 := half_start (b := v2) (U := a0 * B64 + a1) h.pos h.l2
  refine ⟨h1.eq, Nat.le_of_lt_succ (h.hQ _ h1.lt), ?_⟩
  rw [Nat.div_lt_iff_lt_mul h.pos]
  have := Nat.mul_le_mul_right B64 (show a0 + 1 ≤ v1 from hlt)
  rw [Nat.add_mul, Nat.mul_comm v1] at this
  have := h.l1
  omega
theorem GsW.top {w : World} {g j gv ov n a0 a1 a2 v1 v2 Q : Nat} (h : GsW w g j gv ov n a0 a1 a2 v1 v2 Q) (hlt : ¬ a0 < v1) :
    Gs v1 v2 (a0 * B64 + a1) a2 Q 18446744073709551615 (a1 + v1) := by
  have h1 : a0 = v1 := by
    have h2 := h.le
    have h3 := h.m2
    rcases Nat.lt_or_ge v1 a0 with h4 | h4
    · have := Nat.mul_le_mul_right B64 (show v1 + 1 ≤ a0 from h4)
      rw [Nat.add_mul] at this
      omega
    · omega
  subst h1
  have := h.Qlt
  refine ⟨?_, by rw [B64_eq] at this; omega, by decide⟩
  rw [B64_eq]
  omega

set_option maxRecDepth 100000 in
set_option maxHeartbeats 2000000 in
theorem guess_any (g j c gv ov n c' a0 a1 a2 v1 v2 Q : Nat) (w : World) (h : GsW w g j gv ov n a0 a1 a2 v1 v2 Q) (hn : 2 ≤ n) (hn2 : n ≤ 1099511627776) :
    Calls Tryz.prog 124 #[.slice (some ⟨g, j, none⟩) (n + 1) c, .slice (some ⟨gv, ov, none⟩) n c'] w fun e w' => ∃ q : Nat, e = .returned (.int .u64 (q : Int)) ∧ Q ≤ q ∧ q < B64 ∧ q * (v1 * B64 + v2) ≤ (a0 * B64 + a1) * B64 + a2 ∧ ∃ m, w' = w.drewN m := by
  have e1 : ((n : Int) - 1).toNat = n - 1 := by omega
  have e2 : ((n : Int) - 2).toNat = n - 2 := by omega
  have H := Lib.hid h
  have c0 := h.c0; have c1 := h.c1; have c2 := h.c2; have d1 := h.d1; have d2 := h.d2
  have k1 : (0 : Int) ≤ (n : Int) - 1 := by omega
  have k2 : (0 : Int) ≤ (n : Int) - 2 := by omega
  have k3 : (n : Int) - 1 < (n : Int) := by omega
  have k4 : (n : Int) - 2 < (n : Int) := by omega
  have k5 : (n : Int) - 1 < (n : Int) + 1 := by omega
  have k6 : (n : Int) - 2 < (n : Int) + 1 := by omega
  have k7 : (n : Int) < (n : Int) + 1 := by omega
  have k8 : IntKind.i64.wrap ((n : Int) - 1) = (n : Int) - 1 := IntWalk.i64_in _ (by omega)
  have k9 : IntKind.i64.wrap ((n : Int) - 2) = (n : Int) - 2 := IntWalk.i64_in _ (by omega)
  by_cases hlt : a0 < v1
  · have kl : (a0 : Int) < (v1 : Int) := by omega
    have hdv := fun wq : World => div64_quiet a0 a1 v1 h.m1 hlt h.l1 wq
    have hg := h.low hlt
    have hr := Nat.lt_trans (Nat.mod_lt (a0 * B64 + a1) h.pos) h.m1
    generalize (a0 * B64 + a1) / v1 = q0 at hdv hg
    generalize (a0 * B64 + a1) % v1 = r0 at hdv hg hr
    have G := Lib.hid hg
    have HR := Lib.hid hr
    have HDV := Lib.hid hdv
    clear h hdv hg hr
    go_enter Tryz.func124, Tryz.ntmps124
    go_wp2_with fail
    go_quiet (fail)
    go_wp2_with fail
    go_quiet ((go_at_call 123; exact quiet_add (HDV.out _)))
    go_wp2_with fail
    go_loopw [6, 7] (fun qv rv wr => ∃ q r m : Nat, qv = .int .u64 (q : Int) ∧ rv = .int .u64 (r : Int) ∧ Gs v1 v2 (a0 * B64 + a1) a2 Q q r ∧ r < B64 ∧ wr = w.drewN m) (fun q _ _ => (intOf q).toNat)
    case atStart => exact ⟨_, _, _, rfl, rfl, G.out, HR.out, by first | rfl | (rw [World.drewN_drewN])⟩
    case round =>
      clear G HR
      obtain ⟨q, r, m, rfl, rfl, hG, hrB, rfl⟩ := hrel
      have hW := H.out.drewN m
      have c0 := hW.c0; have c1 := hW.c1; have c2 := hW.c2; have d1 := hW.d1; have d2 := hW.d2
      clear hW
      have hqB := hG.ql
      have hml := fun wq : World => mul64_any q v2 hqB H.out.m2 wq
      have hlh := lo_hi (q * v2)
      have hll := lo_lt (q * v2)
      have GQ := Lib.hid hG
      by_cases hc : B64 * r + a2 < q * v2
      · obtain ⟨hq0, hD⟩ := gs_down hG hc H.out.hQ
        have g1 : IntKind.u64.wrap ((q : Int) - 1) = ((q - 1 : Nat) : Int) := w64 (by omega) (by omega)
        have hadd := fun wq : World => run_add0 r v1 wq
        have hah := lo_hi (r + v1)
        have hal := lo_lt (r + v1)
        obtain ⟨q', hq'⟩ : ∃ q', q' = q - 1 := ⟨_, rfl⟩
        rw [← hq'] at hD g1
        have HD := Lib.hid hD; have HQ := Lib.hid hq'
        clear hD hq' hG
        have hcase : ¬ (hi64 (q * v2) < r) ∧ (hi64 (q * v2) = r → ¬ lo64 (q * v2) ≤ a2) := by
          generalize hi64 (q * v2) = p at *
          generalize lo64 (q * v2) = o at *
          refine ⟨fun hp => ?_, fun hp => ?_⟩
          · have := Nat.mul_le_mul_left B64 (show p + 1 ≤ r from hp)
            rw [Nat.mul_add] at this
            omega
          · subst hp; omega
        obtain ⟨hp1, hp2⟩ := hcase
        have HC := Lib.hid hc
        generalize hi64 (q * v2) = p at *
        generalize lo64 (q * v2) = o at *
        clear hc hlh hll
        have p1 : ¬ (p : Int) < (r : Int) := by omega
        by_cases hout : B64 ≤ r + v1
        · have o1 := gs_end HD.out (gs_out HD.out H.out.le H.out.m2 hout)
          have hz : (((hi64 (r + v1) : Nat) : Int) == 0) = false := by
            have : 0 < hi64 (r + v1) := Nat.div_pos hout (by decide)
            simp; omega
          have O := Lib.hid o1
          generalize hi64 (r + v1) = t at *
          generalize lo64 (r + v1) = s at *
          clear o1 hah hal
          by_cases hpr : p = r
          · have p2 : ((p : Int) == (r : Int)) = true := by simp; omega
            have p3 : ¬ (o : Int) ≤ (a2 : Int) := by have := hp2 hpr; omega
            clear hp1 hp2 hpr
            go_wp2_with (go_at_call 92; refine (hml _).mono ?_; rintro e w1 ⟨rfl, rfl⟩)
            exact bodyPost_ret (v := .int .u64 (q' : Int)) (by simp [results, Tryz.results124, go_sem]) rfl ⟨_, rfl, HD.out.le, HD.out.ql, O.out, _, rfl⟩
          · have p2 : ((p : Int) == (r : Int)) = false := by simp; omega
            clear hp1 hp2 hpr
            go_wp2_with (go_at_call 92; refine (hml _).mono ?_; rintro e w1 ⟨rfl, rfl⟩)
            exact bodyPost_ret (v := .int .u64 (q' : Int)) (by simp [results, Tryz.results124, go_sem]) rfl ⟨_, rfl, HD.out.le, HD.out.ql, O.out, _, rfl⟩
        · have hz : hi64 (r + v1) = 0 := Nat.div_eq_of_lt (by omega)
          have hs : lo64 (r + v1) = r + v1 := Nat.mod_eq_of_lt (by omega)
          rw [hz, hs] at hadd
          obtain ⟨r', hr'⟩ : ∃ r', r' = r + v1 := ⟨_, rfl⟩
          rw [← hr'] at hadd
          have HD' := Lib.hid (show Gs v1 v2 (a0 * B64 + a1) a2 Q q' r' by rw [hr']; exact HD.out)
          have HR' := Lib.hid (show r' < B64 by omega)
          clear hz hs hah hal hr' HD
          by_cases hpr : p = r
          · have p2 : ((p : Int) == (r : Int)) = true := by simp; omega
            have p3 : ¬ (o : Int) ≤ (a2 : Int) := by have := hp2 hpr; omega
            clear hp1 hp2 hpr
            go_wp2_with (go_at_call 92; refine (hml _).mono ?_; rintro e w1 ⟨rfl, rfl⟩)
            go_roundw
            case rel => exact ⟨q', r', m, rfl, rfl, HD'.out, HR'.out, by first | rfl | trivial⟩
            case measure => have := HQ.out; simp [intOf]; omega
          · have p2 : ((p : Int) == (r : Int)) = false := by simp; omega
            clear hp1 hp2 hpr
            go_wp2_with (go_at_call 92; refine (hml _).mono ?_; rintro e w1 ⟨rfl, rfl⟩)
            go_roundw
            case rel => exact ⟨q', r', m, rfl, rfl, HD'.out, HR'.out, by first | rfl | trivial⟩
            case measure => have := HQ.out; simp [intOf]; omega
      · have o1 := gs_end hG (by omega)
        have O := Lib.hid o1
        have hcase : hi64 (q * v2) < r ∨ (¬ hi64 (q * v2) < r ∧ hi64 (q * v2) = r ∧ lo64 (q * v2) ≤ a2) := by
          generalize hi64 (q * v2) = p at *
          generalize lo64 (q * v2) = o at *
          rcases Nat.lt_trichotomy p r with hp | hp | hp
          · exact .inl hp
          · subst hp; exact .inr ⟨by omega, rfl, by omega⟩
          · have := Nat.mul_le_mul_left B64 (show r + 1 ≤ p from hp)
            have hl2 := H.out.l2
            rw [Nat.mul_add] at this
            omega
        generalize hi64 (q * v2) = p at *
        generalize lo64 (q * v2) = o at *
        clear hc hlh hll o1 hG
        rcases hcase with hp | ⟨hp0, hp, ho⟩
        · have p1 : (p : Int) < (r : Int) := by omega
          clear hp
          go_wp2_with (go_at_call 92; refine (hml _).mono ?_; rintro e w1 ⟨rfl, rfl⟩)
          exact bodyPost_ret (v := .int .u64 (q : Int)) (by simp [results, Tryz.results124, go_sem]) rfl ⟨_, rfl, GQ.out.le, GQ.out.ql, O.out, _, rfl⟩
        · have p1 : ¬ (p : Int) < (r : Int) := by omega
          have p2 : ((p : Int) == (r : Int)) = true := by simp; omega
          have p3 : (o : Int) ≤ (a2 : Int) := by omega
          clear hp hp0 ho
          go_wp2_with (go_at_call 92; refine (hml _).mono ?_; rintro e w1 ⟨rfl, rfl⟩)
          exact bodyPost_ret (v := .int .u64 (q : Int)) (by simp [results, Tryz.results124, go_sem]) rfl ⟨_, rfl, GQ.out.le, GQ.out.ql, O.out, _, rfl⟩
  · have kl : ¬ (a0 : Int) < (v1 : Int) := by omega
    have G := Lib.hid (h.top hlt)
    have hadd := fun wq : World => run_add0 a1 v1 wq
    have hah := lo_hi (a1 + v1)
    by_cases hout : B64 ≤ a1 + v1
    · have o1 := gs_end G.out (gs_out G.out H.out.le H.out.m2 hout)
      have hz : (((hi64 (a1 + v1) : Nat) : Int) == 0) = false := by
        have : 0 < hi64 (a1 + v1) := Nat.div_pos hout (by decide)
        simp; omega
      have O := Lib.hid o1
      clear o1 h
      generalize hi64 (a1 + v1) = t at *
      generalize lo64 (a1 + v1) = s at *
      clear hah
      go_enter Tryz.func124, Tryz.ntmps124
      go_wp2_with fail
      go_quiet (fail)
      go_wp2_with fail
      go_quiet (fail)
      go_wp2_with fail
      exact bodyPost_ret (v := .int .u64 18446744073709551615) (by simp [results, Tryz.results124, go_sem]) rfl ⟨18446744073709551615, rfl, G.out.le, G.out.ql, O.out, _, by first | rfl | (rw [World.drewN_drewN])⟩
    · have hz : hi64 (a1 + v1) = 0 := Nat.div_eq_of_lt (by omega)
      have hs : lo64 (a1 + v1) = a1 + v1 := Nat.mod_eq_of_lt (by omega)
      rw [hz, hs] at hadd
      obtain ⟨r0, hr0⟩ : ∃ r0, r0 = a1 + v1 := ⟨_, rfl⟩
      rw [← hr0] at hadd G
      have HR := Lib.hid (show r0 < B64 by omega)
      clear hz hs hah hr0 hout h
      go_enter Tryz.func124, Tryz.ntmps124
      go_wp2_with fail
      go_quiet (fail)
      go_wp2_with fail
      go_quiet (fail)
      go_wp2_with fail
      go_loopw [6, 7] (fun qv rv wr => ∃ q r m : Nat, qv = .int .u64 (q : Int) ∧ rv = .int .u64 (r : Int) ∧ Gs v1 v2 (a0 * B64 + a1) a2 Q q r ∧ r < B64 ∧ wr = w.drewN m) (fun q _ _ => (intOf q).toNat)
      case atStart => exact ⟨18446744073709551615, _, _, rfl, rfl, G.out, HR.out, by first | rfl | (rw [World.drewN_drewN])⟩
      case round =>
        clear G HR
        obtain ⟨q, r, m, rfl, rfl, hG, hrB, rfl⟩ := hrel
        have hW := H.out.drewN m
        have c0 := hW.c0; have c1 := hW.c1; have c2 := hW.c2; have d1 := hW.d1; have d2 := hW.d2
        clear hW
        have hqB := hG.ql
        have hml := fun wq : World => mul64_any q v2 hqB H.out.m2 wq
        have hlh := lo_hi (q * v2)
        have hll := lo_lt (q * v2)
        have GQ := Lib.hid hG
        by_cases hc : B64 * r + a2 < q * v2
        · obtain ⟨hq0, hD⟩ := gs_down hG hc H.out.hQ
          have g1 : IntKind.u64.wrap ((q : Int) - 1) = ((q - 1 : Nat) : Int) := w64 (by omega) (by omega)
          have hadd := fun wq : World => run_add0 r v1 wq
          have hah := lo_hi (r + v1)
          have hal := lo_lt (r + v1)
          obtain ⟨q', hq'⟩ : ∃ q', q' = q - 1 := ⟨_, rfl⟩
          rw [← hq'] at hD g1
          have HD := Lib.hid hD; have HQ := Lib.hid hq'
          clear hD hq' hG
          have hcase : ¬ (hi64 (q * v2) < r) ∧ (hi64 (q * v2) = r → ¬ lo64 (q * v2) ≤ a2) := by
            generalize hi64 (q * v2) = p at *
            generalize lo64 (q * v2) = o at *
            refine ⟨fun hp => ?_, fun hp => ?_⟩
            · have := Nat.mul_le_mul_left B64 (show p + 1 ≤ r from hp)
              rw [Nat.mul_add] at this
              omega
            · subst hp; omega
          obtain ⟨hp1, hp2⟩ := hcase
          have HC := Lib.hid hc
          generalize hi64 (q * v2) = p at *
          generalize lo64 (q * v2) = o at *
          clear hc hlh hll
          have p1 : ¬ (p : Int) < (r : Int) := by omega
          by_cases hout : B64 ≤ r + v1
          · have o1 := gs_end HD.out (gs_out HD.out H.out.le H.out.m2 hout)
            have hz : (((hi64 (r + v1) : Nat) : Int) == 0) = false := by
              have : 0 < hi64 (r + v1) := Nat.div_pos hout (by decide)
              simp; omega
            have O := Lib.hid o1
            generalize hi64 (r + v1) = t at *
            generalize lo64 (r + v1) = s at *
            clear o1 hah hal
            by_cases hpr : p = r
            · have p2 : ((p : Int) == (r : Int)) = true := by simp; omega
              have p3 : ¬ (o : Int) ≤ (a2 : Int) := by have := hp2 hpr; omega
              clear hp1 hp2 hpr
              go_wp2_with (go_at_call 92; refine (hml _).mono ?_; rintro e w1 ⟨rfl, rfl⟩)
              exact bodyPost_ret (v := .int .u64 (q' : Int)) (by simp [results, Tryz.results124, go_sem]) rfl ⟨_, rfl, HD.out.le, HD.out.ql, O.out, _, rfl⟩
            · have p2 : ((p : Int) == (r : Int)) = false := by simp; omega
              clear hp1 hp2 hpr
              go_wp2_with (go_at_call 92; refine (hml _).mono ?_; rintro e w1 ⟨rfl, rfl⟩)
              exact bodyPost_ret (v := .int .u64 (q' : Int)) (by simp [results, Tryz.results124, go_sem]) rfl ⟨_, rfl, HD.out.le, HD.out.ql, O.out, _, rfl⟩
          · have hz : hi64 (r + v1) = 0 := Nat.div_eq_of_lt (by omega)
            have hs : lo64 (r + v1) = r + v1 := Nat.mod_eq_of_lt (by omega)
            rw [hz, hs] at hadd
            obtain ⟨r', hr'⟩ : ∃ r', r' = r + v1 := ⟨_, rfl⟩
            rw [← hr'] at hadd
            have HD' := Lib.hid (show Gs v1 v2 (a0 * B64 + a1) a2 Q q' r' by rw [hr']; exact HD.out)
            have HR' := Lib.hid (show r' < B64 by omega)
            clear hz hs hah hal hr' HD
            by_cases hpr : p = r
            · have p2 : ((p : Int) == (r : Int)) = true := by simp; omega
              have p3 : ¬ (o : Int) ≤ (a2 : Int) := by have := hp2 hpr; omega
              clear hp1 hp2 hpr
              go_wp2_with (go_at_call 92; refine (hml _).mono ?_; rintro e w1 ⟨rfl, rfl⟩)
              go_roundw
              case rel => exact ⟨q', r', m, rfl, rfl, HD'.out, HR'.out, by first | rfl | trivial⟩
              case measure => have := HQ.out; simp [intOf]; omega
            · have p2 : ((p : Int) == (r : Int)) = false := by simp; omega
              clear hp1 hp2 hpr
              go_wp2_with (go_at_call 92; refine (hml _).mono ?_; rintro e w1 ⟨rfl, rfl⟩)
              go_roundw
              case rel => exact ⟨q', r', m, rfl, rfl, HD'.out, HR'.out, by first | rfl | trivial⟩
              case measure => have := HQ.out; simp [intOf]; omega
        · have o1 := gs_end hG (by omega)
          have O := Lib.hid o1
          have hcase : hi64 (q * v2) < r ∨ (¬ hi64 (q * v2) < r ∧ hi64 (q * v2) = r ∧ lo64 (q * v2) ≤ a2) := by
            generalize hi64 (q * v2) = p at *
            generalize lo64 (q * v2) = o at *
            rcases Nat.lt_trichotomy p r with hp | hp | hp
            · exact .inl hp
            · subst hp; exact .inr ⟨by omega, rfl, by omega⟩
            · have := Nat.mul_le_mul_left B64 (show r + 1 ≤ p from hp)
              have hl2 := H.out.l2
              rw [Nat.mul_add] at this
              omega
          generalize hi64 (q * v2) = p at *
          generalize lo64 (q * v2) = o at *
          clear hc hlh hll o1 hG
          rcases hcase with hp | ⟨hp0, hp, ho⟩
          · have p1 : (p : Int) < (r : Int) := by omega
            clear hp
            go_wp2_with (go_at_call 92; refine (hml _).mono ?_; rintro e w1 ⟨rfl, rfl⟩)
            exact bodyPost_ret (v := .int .u64 (q : Int)) (by simp [results, Tryz.results124, go_sem]) rfl ⟨_, rfl, GQ.out.le, GQ.out.ql, O.out, _, rfl⟩
          · have p1 : ¬ (p : Int) < (r : Int) := by omega
            have p2 : ((p : Int) == (r : Int)) = true := by simp; omega
            have p3 : (o : Int) ≤ (a2 : Int) := by omega
            clear hp hp0 ho
            go_wp2_with (go_at_call 92; refine (hml _).mono ?_; rintro e w1 ⟨rfl, rfl⟩)
            exact bodyPost_ret (v := .int .u64 (q : Int)) (by simp [results, Tryz.results124, go_sem]) rfl ⟨_, rfl, GQ.out.le, GQ.out.ql, O.out, _, rfl⟩
end Go.Proofs.YtfgnleoaibcegaaGreat
