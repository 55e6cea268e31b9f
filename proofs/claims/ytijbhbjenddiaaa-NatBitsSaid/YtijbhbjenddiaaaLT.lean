/-
  NatBits: the walk.
-/
import Derived.Deep.CutRange
import Derived.Deep.DeepCutAuto
import Derived.Deep.CutBlock
import Derived.Test.YtijbhbjenddiaaaBD
import Derived.Test.YtijbhbjenddiaaaAY
set_option linter.unusedVariables false
set_option linter.unusedSimpArgs false
namespace Go.Proofs.Ytijbhbjenddiaaa
open Go.RowKit

set_option maxRecDepth 100000 in
set_option maxHeartbeats 20000000 in
theorem natBits_walk0 (A0 : Option Addr) (n0 c0 : Nat) (l0 : List Nat) (nn : Int) (w : World) (h0 : BAt w A0 n0 c0 l0) (m0 : n0 ≤ c0) :
    Calls Try.prog 7 #[.slice A0 n0 c0, .int .i64 nn] w fun e w' => e = .returned (.bool true) ∧ Below w.heap.size w w' := by
  obtain ⟨N, hN, hand⟩ := and_i64 nn 9 (by omega)
  rw [show ((2 ^ 9 - 1 : Nat) : Int) = 511 from rfl] at hand
  have hN2 : N ≤ 511 := by omega
  clear hN
  have o2 := fun wq : World => of_sz 1 (by rw [B64_eq]; omega) wq
  rw [show ((1 : Nat) : Int) = 1 from rfl] at o2
  have O2 := Lib.hid o2
  clear o2
  go_enter Try.func7, Try.ntmps7
  go_wp2_with fail
  refine (cut_any A0 n0 c0 l0 _ h0 m0).mono ?_
  rintro e wa0 ⟨k0, rfl, hc0, hk0, rfl⟩
  clear h0
  go_wp2_with fail
  refine (frombytes_sz A0 k0 c0 _ _ hc0 (by omega)).mono ?_
  rintro e v0 ⟨B0, b0, d0, rfl, hd0, hn0, hb⟩
  generalize bev (l0.take 600) = x at hd0
  have hB0 := hb
  clear hb hc0
  have hx0 : Bx (v0.alloc (.cells #[.slice B0 b0 d0] 25)) (v0.heap.size) B0 b0 d0 x := by have := (Bx.new hd0); simpa only [World.size_alloc] using this
  have HB := Lib.hid (aft_al hB0 (.cells #[.slice B0 b0 d0] 25))
  have HX := Lib.hid hx0
  clear hx0 hd0 hB0
  go_wp2_with fail
  generalize (v0.alloc (.cells #[.slice B0 b0 d0] 25)) = V at *
  generalize hp0 : v0.heap.size = p0 at *
  skip
  clear hp0
  refine (O2.out V).mono ?_
  rintro e w1x ⟨A1x, n1x, c1x, rfl, hd, hnn1x, hb⟩
  have HX' := Lib.hid (HX.out.below hb)
  have HB' := Lib.hid (aft_call HB.out hb)
  have Hone' := Lib.hid hd
  clear HX HB hd hb
  have HX := HX'
  clear HX'
  have HB := HB'
  clear HB'
  have Hone := Hone'
  clear Hone'
  clear hand
  go_wp2_with fail
  refine (left_sz A1x n1x c1x (1) N w1x Hone.out (by omega) (by omega)).mono ?_
  rintro e w2x ⟨A2x, n2x, c2x, rfl, hd, hnn2x, hb⟩
  have HX' := Lib.hid (HX.out.below hb)
  have Hone' := Lib.hid (Hone.out.below hb)
  have HB' := Lib.hid (aft_call HB.out hb)
  have HP1' := Lib.hid hd
  clear HX Hone HB hd hb
  have HX := HX'
  clear HX'
  have Hone := Hone'
  clear Hone'
  have HB := HB'
  clear HB'
  have HP1 := HP1'
  clear HP1'
  clear Hone
  have HX' := Lib.hid (HX.out.al (.cells #[.slice A2x n2x c2x] 25))
  have HB' := Lib.hid (aft_al HB.out (.cells #[.slice A2x n2x c2x] 25))
  have hP' : Bx (w2x.alloc (.cells #[.slice A2x n2x c2x] 25)) (w2x.heap.size) A2x n2x c2x ((1 * 2 ^ N)) := by have := (Bx.new HP1.out); simpa only [World.size_alloc] using this
  have HP' := Lib.hid hP'
  clear HX HB HP1 hP'
  have HX := HX'
  clear HX'
  have HP := HP'
  clear HP'
  have HB := HB'
  clear HB'
  go_upto_region 4 with fail
  generalize (w2x.alloc (.cells #[.slice A2x n2x c2x] 25)) = V2x at *
  skip
  generalize w2x.heap.size = q2_0 at *
  go_cut [61] (fun s61 wx => s61 = .bool false ∧ Bx wx p0 B0 b0 d0 (x) ∧ Bx wx q2_0 A2x n2x c2x ((1 * 2 ^ N)) ∧ Below w.heap.size w wx)
  case first =>
    have cP := HP.out.cell
    go_wp2_with fail
    clear cP
    refine (len_pow A2x n2x c2x N V2x HP.out.at_ (by omega)).mono ?_
    rintro e w3x ⟨rfl, hb⟩
    have HX' := Lib.hid (HX.out.below hb)
    have HP' := Lib.hid (HP.out.below hb)
    have HB' := Lib.hid (aft_call HB.out hb)
    clear HX HP HB hb
    have HX := HX'
    clear HX'
    have HP := HP'
    clear HP'
    have HB := HB'
    clear HB'
    have cP := HP.out.cell
    go_wp2_with fail
    clear cP
    refine (bit_here A2x n2x c2x N w3x HP.out.at_ (by omega)).mono ?_
    rintro e w4x ⟨rfl, hb⟩
    have HX' := Lib.hid (HX.out.below hb)
    have HP' := Lib.hid (HP.out.below hb)
    have HB' := Lib.hid (aft_call HB.out hb)
    clear HX HP HB hb
    have HX := HX'
    clear HX'
    have HP := HP'
    clear HP'
    have HB := HB'
    clear HB'
    have cP := HP.out.cell
    go_wp2_with fail
    clear cP
    refine (bit_succ A2x n2x c2x N w4x HP.out.at_ (by omega)).mono ?_
    rintro e w5x ⟨rfl, hb⟩
    have HX' := Lib.hid (HX.out.below hb)
    have HP' := Lib.hid (HP.out.below hb)
    have HB' := Lib.hid (aft_call HB.out hb)
    clear HX HP HB hb
    have HX := HX'
    clear HX'
    have HP := HP'
    clear HP'
    have HB := HB'
    clear HB'
    by_cases hN0 : 0 < N
    · have e1 : decide ((0 : Int) < (N : Int)) = true := decide_eq_true (by omega)
      have cP := HP.out.cell
      go_wp2_with fail
      clear cP
      refine (bit_prev A2x n2x c2x N w5x HP.out.at_ (by omega) hN0).mono ?_
      rintro e w6x ⟨rfl, hb⟩
      have HX' := Lib.hid (HX.out.below hb)
      have HP' := Lib.hid (HP.out.below hb)
      have HB' := Lib.hid (aft_call HB.out hb)
      clear HX HP HB hb
      have HX := HX'
      clear HX'
      have HP := HP'
      clear HP'
      have HB := HB'
      clear HB'
      go_wp2_with fail
      go_meet
      exact ⟨rfl, HX.out, HP.out, HB.out⟩
    · have e1 : decide ((0 : Int) < (N : Int)) = false := decide_eq_false (by omega)
      have e2 : decide (0 < N) = false := decide_eq_false (by omega)
      go_wp2_with fail
      go_meet
      exact ⟨rfl, HX.out, HP.out, HB.out⟩
  case rest =>
    clear HX HP HB
    obtain ⟨rfl, hX, hP, hB⟩ := hcut
    have HX := Lib.hid hX
    have HP := Lib.hid hP
    have HB := Lib.hid hB
    clear hX hP hB
    have cX := HX.out.cell
    go_wp2_with fail
    clear cX
    refine (left_sz B0 b0 d0 (x) N wc HX.out.at_ (by omega) (by omega)).mono ?_
    rintro e w3x ⟨A3x, n3x, c3x, rfl, hd, hnn3x, hb⟩
    have HX' := Lib.hid (HX.out.below hb)
    have HP' := Lib.hid (HP.out.below hb)
    have HB' := Lib.hid (aft_call HB.out hb)
    have HL1' := Lib.hid hd
    clear HX HP HB hd hb
    have HX := HX'
    clear HX'
    have HP := HP'
    clear HP'
    have HB := HB'
    clear HB'
    have HL1 := HL1'
    clear HL1'
    have HX' := Lib.hid (HX.out.al (.cells #[.slice A3x n3x c3x] 25))
    have HP' := Lib.hid (HP.out.al (.cells #[.slice A3x n3x c3x] 25))
    have HB' := Lib.hid (aft_al HB.out (.cells #[.slice A3x n3x c3x] 25))
    have hL' : Bx (w3x.alloc (.cells #[.slice A3x n3x c3x] 25)) (w3x.heap.size) A3x n3x c3x ((x * 2 ^ N)) := by have := (Bx.new HL1.out); simpa only [World.size_alloc] using this
    have HL' := Lib.hid hL'
    clear HX HP HB HL1 hL'
    have HX := HX'
    clear HX'
    have HP := HP'
    clear HP'
    have HL := HL'
    clear HL'
    have HB := HB'
    clear HB'
    have cX := HX.out.cell; have cP := HP.out.cell
    go_wp2_with fail
    generalize (w3x.alloc (.cells #[.slice A3x n3x c3x] 25)) = V3x at *
    skip
    generalize w3x.heap.size = q3_0 at *
    clear cX cP
    have hP0 : 0 < 1 * 2 ^ N := by rw [Nat.one_mul]; exact Nat.two_pow_pos N
    refine (divmod_pos B0 b0 d0 (x) A2x n2x c2x ((1 * 2 ^ N)) V3x HX.out.at_ HP.out.at_ (by omega) (by omega) hP0).mono ?_
    rintro e w4x ⟨A4x, n4x, c4x, A5x, n5x, c5x, rfl, hd, hd2, hnn4x, hnn5x, hb⟩
    have HX' := Lib.hid (HX.out.below hb)
    have HP' := Lib.hid (HP.out.below hb)
    have HL' := Lib.hid (HL.out.below hb)
    have HB' := Lib.hid (aft_call HB.out hb)
    have Hq1' := Lib.hid hd
    have Hr1' := Lib.hid hd2
    clear HX HP HL HB hd hd2 hb
    have HX := HX'
    clear HX'
    have HP := HP'
    clear HP'
    have HL := HL'
    clear HL'
    have HB := HB'
    clear HB'
    have Hq1 := Hq1'
    clear Hq1'
    have Hr1 := Hr1'
    clear Hr1'
    have HX' := Lib.hid ((HX.out.al (.cells #[.slice A4x n4x c4x] 25)).al (.cells #[.slice A5x n5x c5x] 25))
    have HP' := Lib.hid ((HP.out.al (.cells #[.slice A4x n4x c4x] 25)).al (.cells #[.slice A5x n5x c5x] 25))
    have HL' := Lib.hid ((HL.out.al (.cells #[.slice A4x n4x c4x] 25)).al (.cells #[.slice A5x n5x c5x] 25))
    have HB' := Lib.hid (aft_al (aft_al HB.out (.cells #[.slice A4x n4x c4x] 25)) (.cells #[.slice A5x n5x c5x] 25))
    have hQ' : Bx ((w4x.alloc (.cells #[.slice A4x n4x c4x] 25)).alloc (.cells #[.slice A5x n5x c5x] 25)) (w4x.heap.size) A4x n4x c4x ((x / (1 * 2 ^ N))) := by have := ((Bx.new Hq1.out).al (.cells #[.slice A5x n5x c5x] 25)); simpa only [World.size_alloc] using this
    have HQ' := Lib.hid hQ'
    have hR' : Bx ((w4x.alloc (.cells #[.slice A4x n4x c4x] 25)).alloc (.cells #[.slice A5x n5x c5x] 25)) (w4x.heap.size + 1) A5x n5x c5x ((x % (1 * 2 ^ N))) := by have := (Bx.new (Hr1.out.al (.cells #[.slice A4x n4x c4x] 25))); simpa only [World.size_alloc] using this
    have HR' := Lib.hid hR'
    clear HX HP HL HB Hq1 hQ' Hr1 hR'
    have HX := HX'
    clear HX'
    have HP := HP'
    clear HP'
    have HL := HL'
    clear HL'
    have HQ := HQ'
    clear HQ'
    have HR := HR'
    clear HR'
    have HB := HB'
    clear HB'
    go_wp2_with fail
    generalize ((w4x.alloc (.cells #[.slice A4x n4x c4x] 25)).alloc (.cells #[.slice A5x n5x c5x] 25)) = V4x at *
    skip
    skip
    generalize w4x.heap.size + 1 = q4_1 at *
    generalize w4x.heap.size = q4_0 at *
    clear HR
    have hNt : (N : Int).toNat = N := Int.toNat_natCast N
    go_region_held3 (fun w' => w'.cell? ⟨p0, 0, none⟩ = some (.slice B0 b0 d0) ∧ w'.cell? ⟨q2_0, 0, none⟩ = some (.slice A2x n2x c2x) ∧ w'.cell? ⟨q3_0, 0, none⟩ = some (.slice A3x n3x c3x) ∧ w'.cell? ⟨q4_0, 0, none⟩ = some (.slice A4x n4x c4x)) (first | exact ⟨HX.out.cell, HP.out.cell, HL.out.cell, HQ.out.cell⟩ | exact ⟨HX.out.drew.cell, HP.out.drew.cell, HL.out.drew.cell, HQ.out.drew.cell⟩ | go_keep) (first
      | (go_at_call 19; (with_reducible refine (mul_sz B0 b0 d0 (x) A2x n2x c2x ((1 * 2 ^ N)) V4x.drew HX.out.drew.at_ HP.out.drew.at_ (by omega) (by omega)).mono ?_); rintro e w5x ⟨A6x, n6x, c6x, rfl, hd, hnn6x, hb⟩; have HX' := Lib.hid (HX.out.drew.below hb); have HP' := Lib.hid (HP.out.drew.below hb); have HL' := Lib.hid (HL.out.drew.below hb); have HQ' := Lib.hid (HQ.out.drew.below hb); have HB' := Lib.hid (aft_call HB.out.drew hb); have Hu' := Lib.hid hd; clear HX HP HL HQ HB hd hb; have HX := HX'; clear HX'; have HP := HP'; clear HP'; have HL := HL'; clear HL'; have HQ := HQ'; clear HQ'; have HB := HB'; clear HB'; have Hu := Hu'; clear Hu')
      | (go_at_call 18; (with_reducible refine (eq_same A3x n3x c3x A6x n6x c6x ((x * 2 ^ N)) w5x HL.out.at_ (Eq.subst (motive := fun z => DAt B64 w5x A6x n6x c6x z) (show x * (1 * 2 ^ N) = x * 2 ^ N by rw [Nat.one_mul]) Hu.out) (by omega) (by omega)).mono ?_); rintro e w6x ⟨rfl, hb⟩; have HX' := Lib.hid (HX.out.below hb); have HP' := Lib.hid (HP.out.below hb); have HL' := Lib.hid (HL.out.below hb); have HQ' := Lib.hid (HQ.out.below hb); have HB' := Lib.hid (aft_call HB.out hb); clear HX HP HL HQ Hu HB hb; have HX := HX'; clear HX'; have HP := HP'; clear HP'; have HL := HL'; clear HL'; have HQ := HQ'; clear HQ'; have HB := HB'; clear HB')
      | (go_at_call 34; (with_reducible refine (right_sz B0 b0 d0 (x) (N : Int) w6x HX.out.at_ (by omega) (by omega)).mono ?_); rintro e w7x ⟨A7x, n7x, c7x, rfl, hd, hnn7x, hb⟩; have HX' := Lib.hid (HX.out.below hb); have HP' := Lib.hid (HP.out.below hb); have HL' := Lib.hid (HL.out.below hb); have HQ' := Lib.hid (HQ.out.below hb); have HB' := Lib.hid (aft_call HB.out hb); have Hv' := Lib.hid hd; clear HX HP HL HQ HB hd hb; have HX := HX'; clear HX'; have HP := HP'; clear HP'; have HL := HL'; clear HL'; have HQ := HQ'; clear HQ'; have HB := HB'; clear HB'; have Hv := Hv'; clear Hv')
      | (go_at_call 18; (with_reducible refine (eq_same A7x n7x c7x A4x n4x c4x ((x / 2 ^ (N : Int).toNat)) w7x Hv.out (Eq.subst (motive := fun z => DAt B64 w7x A4x n4x c4x z) (show x / (1 * 2 ^ N) = x / 2 ^ (N : Int).toNat by rw [Nat.one_mul, hNt]) HQ.out.at_) (by omega) (by omega)).mono ?_); rintro e w8x ⟨rfl, hb⟩; have HX' := Lib.hid (HX.out.below hb); have HP' := Lib.hid (HP.out.below hb); have HL' := Lib.hid (HL.out.below hb); have HQ' := Lib.hid (HQ.out.below hb); have HB' := Lib.hid (aft_call HB.out hb); clear HX HP HL HQ Hv HB hb; have HX := HX'; clear HX'; have HP := HP'; clear HP'; have HL := HL'; clear HL'; have HQ := HQ'; clear HQ'; have HB := HB'; clear HB')
      | (go_at_call 34; (with_reducible refine (right_sz A3x n3x c3x ((x * 2 ^ N)) (N : Int) w8x HL.out.at_ (by omega) (by omega)).mono ?_); rintro e w9x ⟨A8x, n8x, c8x, rfl, hd, hnn8x, hb⟩; have HX' := Lib.hid (HX.out.below hb); have HP' := Lib.hid (HP.out.below hb); have HL' := Lib.hid (HL.out.below hb); have HQ' := Lib.hid (HQ.out.below hb); have HB' := Lib.hid (aft_call HB.out hb); have Hv2' := Lib.hid hd; clear HX HP HL HQ HB hd hb; have HX := HX'; clear HX'; have HP := HP'; clear HP'; have HL := HL'; clear HL'; have HQ := HQ'; clear HQ'; have HB := HB'; clear HB'; have Hv2 := Hv2'; clear Hv2')
      | (go_at_call 18; (with_reducible refine (eq_same A8x n8x c8x B0 b0 d0 (((x * 2 ^ N) / 2 ^ (N : Int).toNat)) w9x Hv2.out (Eq.subst (motive := fun z => DAt B64 w9x B0 b0 d0 z) (show x = x * 2 ^ N / 2 ^ (N : Int).toNat by rw [hNt, Nat.mul_div_cancel _ (Nat.two_pow_pos N)]) HX.out.at_) (by omega) (by omega)).mono ?_); rintro e w10x ⟨rfl, hb⟩; have HX' := Lib.hid (HX.out.below hb); have HP' := Lib.hid (HP.out.below hb); have HL' := Lib.hid (HL.out.below hb); have HQ' := Lib.hid (HQ.out.below hb); have HB' := Lib.hid (aft_call HB.out hb); clear HX HP HL HQ Hv2 HB hb; have HX := HX'; clear HX'; have HP := HP'; clear HP'; have HL := HL'; clear HL'; have HQ := HQ'; clear HQ'; have HB := HB'; clear HB'))
    clear HP HL HQ
    obtain ⟨Lx, hLx⟩ : ∃ m, bl x = m := ⟨_, rfl⟩
    have HLX := Lib.hid hLx
    clear hLx
    have hxp := HX.out.lt; have hgp := HB.out.size
    have HX' := Lib.hid (HX.out.al (.cells #[.slice none 0 0] 25)); have HS := Lib.hid (Bx.new (w := w10x) DAt.nil); have HB' := Lib.hid (aft_al HB.out (.cells #[.slice none 0 0] 25))
    clear HX HB
    have HX := HX'; have HB := HB'
    clear HX' HB'
    go_upto_block 0 with fail
    generalize w10x.alloc (.cells #[.slice none 0 0] 25) = V9 at *
    generalize w10x.heap.size = pS at *
    go_cut [14] (fun s14 wx => ∃ A' n' c', Bx wx p0 B0 b0 d0 x ∧ Bx wx pS A' n' c' (x % 2 ^ (min Lx 200)) ∧ n' ≤ b0 ∧ Below w.heap.size w wx)
    case first =>
      skip
      go_wp2_with fail
      go_loopw [14] (fun iv wr => ∃ (i : Nat) (A' : Option Addr) (n' c' : Nat), i ≤ 200 ∧ i ≤ Lx ∧ iv = .int .i64 (i : Int) ∧ Bx wr p0 B0 b0 d0 x ∧ Bx wr pS A' n' c' (x % 2 ^ i) ∧ n' ≤ b0 ∧ p0 ≠ pS ∧ w.heap.size ≤ pS ∧ Below w.heap.size w wr) (fun iv _ => 200 - (intOf iv).toNat)
      case atStart => exact ⟨0, none, 0, 0, by omega, by omega, rfl, HX.out, by rw [Nat.pow_zero, Nat.mod_one]; exact HS.out, by omega, by omega, by omega, HB.out⟩
      case round =>
        clear HX HS HB
        obtain ⟨i, A', n', c', hi2, hiL, rfl, hX, hS, hn', hne, hge, hB⟩ := hrel
        have HX := Lib.hid hX; have HS := Lib.hid hS; have HB := Lib.hid hB
        clear hX hS hB
        have cX := HX.out.cell
        go_wp2_with fail
        clear cX
        refine (len_of B0 b0 d0 _ Lx wr HX.out.at_ (by omega) HLX.out).mono ?_
        rintro e w11x ⟨rfl, hb⟩
        have HX' := Lib.hid (HX.out.below hb)
        have HS' := Lib.hid (HS.out.below hb)
        have HB' := Lib.hid (aft_call HB.out hb)
        clear HX HS HB hb
        have HX := HX'
        clear HX'
        have HS := HS'
        clear HS'
        have HB := HB'
        clear HB'
        by_cases hc : i < Lx ∧ i < 200
        · have e1 : decide ((i : Int) < (Lx : Int)) = true := decide_eq_true (by omega)
          have e2 : decide ((i : Int) < 200) = true := decide_eq_true (by omega)
          have e1n : i < Lx := hc.1
          have e2n : i < 200 := hc.2
          clear hc
          have cX := HX.out.cell
          go_wp2_with fail
          clear cX
          have hnx := sum_next x i
          by_cases hbit : x.testBit i = true
          · rw [if_pos hbit] at hnx
            have HNX := Lib.hid hnx
            clear hnx
            refine (bit_is B0 b0 d0 _ i true w11x HX.out.at_ (by omega) hbit).mono ?_
            rintro e w12x ⟨rfl, hb⟩
            have HX' := Lib.hid (HX.out.below hb)
            have HS' := Lib.hid (HS.out.below hb)
            have HB' := Lib.hid (aft_call HB.out hb)
            clear HX HS HB hb
            have HX := HX'
            clear HX'
            have HS := HS'
            clear HS'
            have HB := HB'
            clear HB'
            clear hbit
            go_wp2_with fail
            refine (O2.out w12x).mono ?_
            rintro e w13x ⟨A9x, n9x, c9x, rfl, hd, hnn9x, hb⟩
            have HX' := Lib.hid (HX.out.below hb)
            have HS' := Lib.hid (HS.out.below hb)
            have HB' := Lib.hid (aft_call HB.out hb)
            have Hone' := Lib.hid hd
            clear HX HS HB hd hb
            have HX := HX'
            clear HX'
            have HS := HS'
            clear HS'
            have HB := HB'
            clear HB'
            have Hone := Hone'
            clear Hone'
            go_wp2_with fail
            refine (left_sz A9x n9x c9x (1) i w13x Hone.out (by omega) (by omega)).mono ?_
            rintro e w14x ⟨A10x, n10x, c10x, rfl, hd, hnn10x, hb⟩
            have HX' := Lib.hid (HX.out.below hb)
            have HS' := Lib.hid (HS.out.below hb)
            have Hone' := Lib.hid (Hone.out.below hb)
            have HB' := Lib.hid (aft_call HB.out hb)
            have Hb1' := Lib.hid hd
            clear HX HS Hone HB hd hb
            have HX := HX'
            clear HX'
            have HS := HS'
            clear HS'
            have Hone := Hone'
            clear Hone'
            have HB := HB'
            clear HB'
            have Hb1 := Hb1'
            clear Hb1'
            clear Hone
            have HX' := Lib.hid (HX.out.al (.cells #[.slice A10x n10x c10x] 25))
            have HS' := Lib.hid (HS.out.al (.cells #[.slice A10x n10x c10x] 25))
            have HB' := Lib.hid (aft_al HB.out (.cells #[.slice A10x n10x c10x] 25))
            have hT' : Bx (w14x.alloc (.cells #[.slice A10x n10x c10x] 25)) (w14x.heap.size) A10x n10x c10x ((1 * 2 ^ i)) := by have := (Bx.new Hb1.out); simpa only [World.size_alloc] using this
            have HT' := Lib.hid hT'
            clear HX HS HB Hb1 hT'
            have HX := HX'
            clear HX'
            have HS := HS'
            clear HS'
            have HT := HT'
            clear HT'
            have HB := HB'
            clear HB'
            have cS := HS.out.cell
            go_wp2_with fail
            generalize (w14x.alloc (.cells #[.slice A10x n10x c10x] 25)) = V14x at *
            skip
            generalize w14x.heap.size = q14_0 at *
            clear cS
            refine (add_sz A' n' c' (x % 2 ^ i) A10x n10x c10x ((1 * 2 ^ i)) V14x HS.out.at_ HT.out.at_ (by omega) (by omega)).mono ?_
            rintro e w15x ⟨A11x, n11x, c11x, rfl, hd, hnn11x, hb⟩
            have HX' := Lib.hid (HX.out.below hb)
            have HS' := Lib.hid (HS.out.below hb)
            have HT' := Lib.hid (HT.out.below hb)
            have HB' := Lib.hid (aft_call HB.out hb)
            have Hs2' := Lib.hid hd
            clear HX HS HT HB hd hb
            have HX := HX'
            clear HX'
            have HS := HS'
            clear HS'
            have HT := HT'
            clear HT'
            have HB := HB'
            clear HB'
            have Hs2 := Hs2'
            clear Hs2'
            have cS := HS.out.cell; have fS := HS.out.fr; have lS := HS.out.lt
            have hS2 := Bx.st HS.out Hs2.out; have hX2 := Bx.far HX.out HS.out hne (.slice A11x n11x c11x)
            have hn3 : n11x ≤ b0 := DAt.len_le Hs2.out HX.out.at_ (by rw [Nat.one_mul, ← HNX.out]; exact Nat.mod_le _ _)
            have HS2 := Lib.hid hS2; have HX2 := Lib.hid hX2; have HB2 := Lib.hid (aft_set HB.out hge (.slice A11x n11x c11x))
            clear hS2 hX2
            go_wp2_with fail
            refine ⟨⟨i + 1, A11x, n11x, c11x, by omega, by omega, by go_num, HX2.out, by rw [HNX.out]; have := HS2.out; rw [Nat.one_mul] at this; exact this, hn3, hne, hge, HB2.out⟩, ?_⟩
            simp [intOf]; omega
          · have hbf : x.testBit i = false := by simpa using hbit
            rw [if_neg hbit, Nat.add_zero] at hnx
            have HNX := Lib.hid hnx
            clear hnx hbit
            refine (bit_is B0 b0 d0 _ i false w11x HX.out.at_ (by omega) hbf).mono ?_
            rintro e w12x ⟨rfl, hb⟩
            have HX' := Lib.hid (HX.out.below hb)
            have HS' := Lib.hid (HS.out.below hb)
            have HB' := Lib.hid (aft_call HB.out hb)
            clear HX HS HB hb
            have HX := HX'
            clear HX'
            have HS := HS'
            clear HS'
            have HB := HB'
            clear HB'
            clear hbf
            go_wp2_with fail
            refine ⟨⟨i + 1, A', n', c', by omega, by omega, by go_num, HX.out, by rw [HNX.out]; exact HS.out, hn', hne, hge, HB.out⟩, ?_⟩
            simp [intOf]; omega
        · have hmin : min Lx 200 = i := by omega
          by_cases hl : i < Lx
          · have e1 : decide ((i : Int) < (Lx : Int)) = true := decide_eq_true (by omega)
            have e2 : decide ((i : Int) < 200) = false := decide_eq_false (by omega)
            have e2n : ¬ i < 200 := by omega
            have HM := Lib.hid hmin
            clear hc hmin
            go_wp2_with fail
            go_meet
            exact ⟨A', n', c', HX.out, by rw [HM.out]; exact HS.out, hn', HB.out⟩
          · have e1 : decide ((i : Int) < (Lx : Int)) = false := decide_eq_false (by omega)
            have HM := Lib.hid hmin
            clear hc hmin
            go_wp2_with fail
            go_meet
            exact ⟨A', n', c', HX.out, by rw [HM.out]; exact HS.out, hn', HB.out⟩
    case rest =>
      clear HX HS HB
      obtain ⟨A', n', c', hX, hS, hn', hB⟩ := hcut
      have HX := Lib.hid hX; have HS := Lib.hid hS; have HB := Lib.hid hB
      clear hX hS hB
      obtain ⟨K, hK⟩ : ∃ K, min Lx 200 = K := ⟨_, rfl⟩
      rw [hK] at HS
      have hmin : min (Lx : Int) 200 = (K : Int) := by omega
      have hKl : K ≤ 200 := by omega
      have HKL := Lib.hid hK
      clear hK
      have hK0 : 0 < 1 * 2 ^ K := by rw [Nat.one_mul]; exact Nat.two_pow_pos K
      go_wp2_with fail
      have lX := HX.out.lt
      have lS := HS.out.lt
      have lw := HB.out.size
      skip
      have HXV := HX
      go_cut [17, 18, 19] (fun s17 s18 s19 wx => ∃ p0r A0r n0r c0r p1r A1r n1r c1r, s17 = .pointer (some ⟨p0r, 0, none⟩) ∧ s18 = .pointer (some ⟨p1r, 0, none⟩) ∧ s19 = .bool true ∧ Bx wx p0 B0 b0 d0 (x) ∧ Bx wx pS A' n' c' (x % 2 ^ K) ∧ Bx wx p0r A0r n0r c0r ((x / (1 * 2 ^ K))) ∧ Bx wx p1r A1r n1r c1r ((x % (1 * 2 ^ K))) ∧ n0r ≤ 4000 ∧ n1r ≤ 4000 ∧ Below w.heap.size w wx)
      case first =>
        as_aux_lemma =>
          go_region_held3 (fun w' => w'.cell? ⟨p0, 0, none⟩ = some (.slice B0 b0 d0)) (first | with_reducible exact HXV.out.drew.cell | with_reducible exact (HXV.out.al _).drew.cell | with_reducible exact ((HXV.out.al _).al _).drew.cell | with_reducible exact HXS11.out.cell | with_reducible exact (HXS11.out.al _).cell | with_reducible exact ((HXS11.out.al _).al _).cell | with_reducible exact HXS12.out.cell | with_reducible exact (HXS12.out.al _).cell | with_reducible exact ((HXS12.out.al _).al _).cell | with_reducible exact HXS13.out.cell | with_reducible exact (HXS13.out.al _).cell | with_reducible exact ((HXS13.out.al _).al _).cell | with_reducible exact (Bx.far HX.out K1.out (by omega) _).cell | with_reducible exact (Bx.far HX.out K2.out (by omega) _).cell | with_reducible exact ((Bx.far HX.out K1.out (by omega) _).al _).cell | with_reducible exact (Bx.far (Bx.far HX.out K1.out (by omega) _) (Bx.far K2.out K1.out (by omega) _) (by omega) _).cell | with_reducible exact (Bx.far (Bx.far HX.out K2.out (by omega) _) (Bx.far K1.out K2.out (by omega) _) (by omega) _).cell | exact HXV.out.cell | go_keep) (first
            | (go_at_call 16; (with_reducible refine (len_of B0 b0 d0 _ Lx _ (by first | with_reducible exact HX.out.drew.at_ | with_reducible exact ((HX.out.al _).drew).at_ | with_reducible exact (((HX.out.al _).al _).drew).at_) (by omega) HLX.out).mono ?_); rintro e w11x ⟨rfl, hb⟩; (first | with_reducible (have HX' := Lib.hid (HX.out.drew.below hb)) | with_reducible (have HX' := Lib.hid (((HX.out.al _).drew).below hb)) | with_reducible (have HX' := Lib.hid ((((HX.out.al _).al _).drew).below hb))); (first | with_reducible (have HS' := Lib.hid (HS.out.drew.below hb)) | with_reducible (have HS' := Lib.hid (((HS.out.al _).drew).below hb)) | with_reducible (have HS' := Lib.hid ((((HS.out.al _).al _).drew).below hb))); (first | with_reducible (have HB' := Lib.hid (aft_call HB.out.drew hb)) | with_reducible (have HB' := Lib.hid (aft_call (aft_al HB.out _).drew hb)) | with_reducible (have HB' := Lib.hid (aft_call (aft_al (aft_al HB.out _) _).drew hb))); (first | (with_reducible (have K1' := Lib.hid (K1.out.below hb)); with_reducible (have K2' := Lib.hid (K2.out.below hb)); clear K1 K2) | (with_reducible (have K1' := Lib.hid ((K1.out.al _).below hb)); have K2' := Lib.hid (((Bx.new (w := wc) DAt.nil).drew).below hb); clear K1) | (with_reducible (have K1' := Lib.hid ((((Bx.new (w := wc) DAt.nil).al _).drew).below hb)); have hk2 : Bx w11x (wc.heap.size + 1) none 0 0 0 := (by have := ((Bx.new (w := wc.alloc (.cells #[.slice none 0 0] 25)) DAt.nil).drew).below hb; rwa [World.size_alloc] at this); have K2' := Lib.hid hk2; clear hk2) | (with_reducible (have K1' := Lib.hid (K1.out.below hb)); clear K1) | (with_reducible (have K1' := Lib.hid (((Bx.new (w := wc) DAt.nil).drew).below hb))) | skip); (try have K1 := K1'); (try clear K1'); (try have K2 := K2'); (try clear K2'); (try have lk1 := K1.out.lt); (try have lk2 := K2.out.lt); clear HX HS HB hb; have HX := HX'; clear HX'; have HS := HS'; clear HS'; have HB := HB'; clear HB'; have lX := HX.out.lt; have lS := HS.out.lt; have lz := HB.out.size; have HXS11 := HX)
            | (go_at_call 35; (with_reducible refine (pow_any K _ (by omega)).mono ?_); rintro e w12x ⟨A9x, n9x, c9x, rfl, hd, hnn9x, hb⟩; (first | with_reducible (have HX' := Lib.hid (HX.out.below hb)) | with_reducible (have HX' := Lib.hid (((HX.out.al _)).below hb)) | with_reducible (have HX' := Lib.hid ((((HX.out.al _).al _)).below hb))); (first | with_reducible (have HS' := Lib.hid (HS.out.below hb)) | with_reducible (have HS' := Lib.hid (((HS.out.al _)).below hb)) | with_reducible (have HS' := Lib.hid ((((HS.out.al _).al _)).below hb))); (first | with_reducible (have HB' := Lib.hid (aft_call HB.out hb)) | with_reducible (have HB' := Lib.hid (aft_call (aft_al HB.out _) hb)) | with_reducible (have HB' := Lib.hid (aft_call (aft_al (aft_al HB.out _) _) hb))); (first | (with_reducible (have K1' := Lib.hid (K1.out.below hb)); with_reducible (have K2' := Lib.hid (K2.out.below hb)); clear K1 K2) | (with_reducible (have K1' := Lib.hid ((K1.out.al _).below hb)); have K2' := Lib.hid (((Bx.new (w := w11x) DAt.nil)).below hb); clear K1) | (with_reducible (have K1' := Lib.hid ((((Bx.new (w := w11x) DAt.nil).al _)).below hb)); have hk2 : Bx w12x (w11x.heap.size + 1) none 0 0 0 := (by have := ((Bx.new (w := w11x.alloc (.cells #[.slice none 0 0] 25)) DAt.nil)).below hb; rwa [World.size_alloc] at this); have K2' := Lib.hid hk2; clear hk2) | (with_reducible (have K1' := Lib.hid (K1.out.below hb)); clear K1) | (with_reducible (have K1' := Lib.hid (((Bx.new (w := w11x) DAt.nil)).below hb))) | skip); (try have K1 := K1'); (try clear K1'); (try have K2 := K2'); (try clear K2'); (try have lk1 := K1.out.lt); (try have lk2 := K2.out.lt); have Hpw' := Lib.hid hd; clear HX HS HB hd hb; have HX := HX'; clear HX'; have HS := HS'; clear HS'; have HB := HB'; clear HB'; have Hpw := Hpw'; clear Hpw'; have lX := HX.out.lt; have lS := HS.out.lt; have lz := HB.out.size; have HXS12 := HX)
            | (go_at_call 15; (with_reducible refine (divmod_pos B0 b0 d0 (x) A9x n9x c9x ((1 * 2 ^ K)) _ (by first | with_reducible exact HX.out.at_ | with_reducible exact ((HX.out.al _)).at_ | with_reducible exact (((HX.out.al _).al _)).at_) (by first | with_reducible exact Hpw.out | with_reducible exact ((Hpw.out.al _)) | with_reducible exact (((Hpw.out.al _).al _))) (by omega) (by omega) hK0).mono ?_); rintro e w13x ⟨A10x, n10x, c10x, A11x, n11x, c11x, rfl, hd, hd2, hnn10x, hnn11x, hb⟩; (first | with_reducible (have HX' := Lib.hid (HX.out.below hb)) | with_reducible (have HX' := Lib.hid (((HX.out.al _)).below hb)) | with_reducible (have HX' := Lib.hid ((((HX.out.al _).al _)).below hb))); (first | with_reducible (have HS' := Lib.hid (HS.out.below hb)) | with_reducible (have HS' := Lib.hid (((HS.out.al _)).below hb)) | with_reducible (have HS' := Lib.hid ((((HS.out.al _).al _)).below hb))); (first | with_reducible (have HB' := Lib.hid (aft_call HB.out hb)) | with_reducible (have HB' := Lib.hid (aft_call (aft_al HB.out _) hb)) | with_reducible (have HB' := Lib.hid (aft_call (aft_al (aft_al HB.out _) _) hb))); (first | (with_reducible (have K1' := Lib.hid (K1.out.below hb)); with_reducible (have K2' := Lib.hid (K2.out.below hb)); clear K1 K2) | (with_reducible (have K1' := Lib.hid ((K1.out.al _).below hb)); have K2' := Lib.hid (((Bx.new (w := w12x) DAt.nil)).below hb); clear K1) | (with_reducible (have K1' := Lib.hid ((((Bx.new (w := w12x) DAt.nil).al _)).below hb)); have hk2 : Bx w13x (w12x.heap.size + 1) none 0 0 0 := (by have := ((Bx.new (w := w12x.alloc (.cells #[.slice none 0 0] 25)) DAt.nil)).below hb; rwa [World.size_alloc] at this); have K2' := Lib.hid hk2; clear hk2) | (with_reducible (have K1' := Lib.hid (K1.out.below hb)); clear K1) | (with_reducible (have K1' := Lib.hid (((Bx.new (w := w12x) DAt.nil)).below hb))) | skip); (try have K1 := K1'); (try clear K1'); (try have K2 := K2'); (try clear K2'); (try have lk1 := K1.out.lt); (try have lk2 := K2.out.lt); have HQ1' := Lib.hid hd; have HR1' := Lib.hid hd2; clear HX HS Hpw HB hd hd2 hb; have HX := HX'; clear HX'; have HS := HS'; clear HS'; have HB := HB'; clear HB'; have HQ1 := HQ1'; clear HQ1'; have HR1 := HR1'; clear HR1'; have lX := HX.out.lt; have lS := HS.out.lt; have lz := HB.out.size; have HXS13 := HX; (first | (have q1 := K1.out.cell; have q2 := K2.out.cell; have r1 := K1.out.fr; have r2 := K2.out.fr; have s12 := fun u : Value => (Bx.far K2.out K1.out (by omega) u).cell; have s21 := fun u : Value => (Bx.far K1.out K2.out (by omega) u).cell) | (have q1 := K1.out.cell; have r1 := K1.out.fr) | skip)))
          all_goals
            go_wp2_with fail
            go_meet
            first
            | with_reducible exact ⟨_, A10x, n10x, c10x, _, A11x, n11x, c11x, rfl, rfl, rfl, Bx.far (Bx.far HX.out K1.out (by omega) _) (Bx.far K2.out K1.out (by omega) _) (by omega) _, Bx.far (Bx.far HS.out K1.out (by omega) _) (Bx.far K2.out K1.out (by omega) _) (by omega) _, Bx.far (Bx.st K1.out HQ1.out) (Bx.far K2.out K1.out (by omega) _) (by omega) _, Bx.st (Bx.far K2.out K1.out (by omega) _) (HR1.out.st K1.out _), (by omega), (by omega), aft_set (aft_set HB.out (by omega) _) (by omega) _⟩
            | with_reducible exact ⟨_, A10x, n10x, c10x, _, A11x, n11x, c11x, rfl, rfl, rfl, Bx.far (Bx.far HX.out K2.out (by omega) _) (Bx.far K1.out K2.out (by omega) _) (by omega) _, Bx.far (Bx.far HS.out K2.out (by omega) _) (Bx.far K1.out K2.out (by omega) _) (by omega) _, Bx.far (Bx.st K2.out HQ1.out) (Bx.far K1.out K2.out (by omega) _) (by omega) _, Bx.st (Bx.far K1.out K2.out (by omega) _) (HR1.out.st K2.out _), (by omega), (by omega), aft_set (aft_set HB.out (by omega) _) (by omega) _⟩
            | with_reducible exact ⟨_, A10x, n10x, c10x, _, A11x, n11x, c11x, rfl, rfl, rfl, (Bx.far HX.out K1.out (by omega) _).al _, (Bx.far HS.out K1.out (by omega) _).al _, (Bx.st K1.out HQ1.out).al _, Bx.newAt (HR1.out.st K1.out _) (by simp [World.setCell]), (by omega), (by omega), aft_al (aft_set HB.out (by omega) _) _⟩
            | with_reducible exact ⟨_, A10x, n10x, c10x, _, A11x, n11x, c11x, rfl, rfl, rfl, (Bx.far HX.out K1.out (by omega) _).al _, (Bx.far HS.out K1.out (by omega) _).al _, Bx.newAt (HQ1.out.st K1.out _) (by simp [World.setCell]), (Bx.st K1.out HR1.out).al _, (by omega), (by omega), aft_al (aft_set HB.out (by omega) _) _⟩
            | with_reducible exact ⟨_, A10x, n10x, c10x, _, A11x, n11x, c11x, rfl, rfl, rfl, (HX.out.al _).al _, (HS.out.al _).al _, (Bx.new HQ1.out).al _, Bx.newAt (HR1.out.al _) (by simp), (by omega), (by omega), aft_al (aft_al HB.out _) _⟩
            | with_reducible exact ⟨_, A10x, n10x, c10x, _, A11x, n11x, c11x, rfl, rfl, rfl, (HX.out.al _).al _, (HS.out.al _).al _, Bx.newAt (HQ1.out.al _) (by simp), (Bx.new HR1.out).al _, (by omega), (by omega), aft_al (aft_al HB.out _) _⟩
      case rest =>
        clear HX HS HB HXV lX lS lw
        obtain ⟨p14_0, A14_0, n14_0, c14_0, p14_1, A14_1, n14_1, c14_1, rfl, rfl, rfl, hX, hS, hQ, hR, hn14_0, hn14_1, hB⟩ := hcut
        have HX := Lib.hid hX
        have HS := Lib.hid hS
        have HQ := Lib.hid hQ
        have HR := Lib.hid hR
        have HB := Lib.hid hB
        clear hX hS hQ hR hB
        clear HQ hmin
        go_wp2_with fail
        have hbo : x.testBit Lx = false := bit_over (by rw [HLX.out]; exact Nat.le_refl _)
        have HER := Lib.hid (show x % (1 * 2 ^ K) = x % 2 ^ K by rw [Nat.one_mul])
        by_cases hL0 : Lx = 0
        · have f1 : ((Lx : Int) == 0) = true := by simp; exact hL0
          have hLl : Lx ≤ 200000 := by omega
          clear hL0
          obtain ⟨C, hCd⟩ : ∃ C : World → Prop, C = fun w' => Bx w' p0 B0 b0 d0 (x) ∧ Bx w' pS A' n' c' (x % 2 ^ K) ∧ Bx w' p14_1 A14_1 n14_1 c14_1 ((x % (1 * 2 ^ K))) ∧ Below w.heap.size w w' := ⟨_, rfl⟩
          have hC0 : C wc.drew := by rw [hCd]; exact ⟨HX.out.drew, HS.out.drew, HR.out.drew, HB.out.drew⟩
          have hcX := fun (w' : World) (hw : C w') => (show Bx w' p0 B0 b0 d0 (x) by rw [hCd] at hw; obtain ⟨h, _, _, _⟩ := hw; exact h)
          have hcS := fun (w' : World) (hw : C w') => (show Bx w' pS A' n' c' (x % 2 ^ K) by rw [hCd] at hw; obtain ⟨_, h, _, _⟩ := hw; exact h)
          have hcR := fun (w' : World) (hw : C w') => (show Bx w' p14_1 A14_1 n14_1 c14_1 ((x % (1 * 2 ^ K))) by rw [hCd] at hw; obtain ⟨_, _, h, _⟩ := hw; exact h)
          have hCb : ∀ w1 w2, C w1 → Below w1.heap.size w1 w2 → C w2 := by rw [hCd]; rintro w1 w2 ⟨h0, h1, h2, h3⟩ hb; exact ⟨h0.below hb, h1.below hb, h2.below hb, aft_call h3 hb⟩
          have hCo : ∀ w', C w' → Bx w' p0 B0 b0 d0 (x) ∧ Bx w' pS A' n' c' (x % 2 ^ K) ∧ Bx w' p14_1 A14_1 n14_1 c14_1 ((x % (1 * 2 ^ K))) ∧ Below w.heap.size w w' := by rw [hCd]; exact fun _ h => h
          clear hCd
          refine wp_region_quiet_at (C := C) (by kernel_rfl) (by kernel_rfl) hC0 ?_
          repeat (go_big_quiet_step (first | (intro _; exact rfl) | (intro hw; go_at_call 18; (with_reducible refine (eq_same A' n' c' A14_1 n14_1 c14_1 (x % 2 ^ K) _ (hcS _ hw).at_ (Eq.subst (motive := fun z => DAt B64 _ A14_1 n14_1 c14_1 z) HER.out (hcR _ hw).at_) (by omega) (by omega)).mono ?_); rintro e w2 ⟨rfl, hb⟩; exact ⟨rfl, hCb _ _ hw hb⟩) | (intro hw; go_at_call 16; (with_reducible refine (len_of B0 b0 d0 _ Lx _ (hcX _ hw).at_ (by omega) HLX.out).mono ?_); rintro e w2 ⟨rfl, hb⟩; exact ⟨rfl, hCb _ _ hw hb⟩) | (intro hw; go_at_call 33; (with_reducible refine (bit_is B0 b0 d0 _ Lx false _ (hcX _ hw).at_ (by omega) hbo).mono ?_); rintro e w2 ⟨rfl, hb⟩; exact ⟨rfl, hCb _ _ hw hb⟩) | (intro hw; go_at_call 21; (with_reducible refine (started_any _).mono ?_); rintro e w2 ⟨rfl, hb⟩; exact ⟨rfl, hCb _ _ hw hb⟩) | (intro hw; rw [(hcX _ hw).cell]; exact ⟨rfl, rfl⟩) | (intro hw; rw [(hcS _ hw).cell]; exact ⟨rfl, rfl⟩) | (intro hw; rw [(hcR _ hw).cell]; exact ⟨rfl, rfl⟩)))
          refine wpQuiet_nil ?_
          intro wq hwq
          obtain ⟨h0, h1, h2, h3⟩ := hCo _ hwq
          clear HX HS HR HB hC0 hCb hCo hwq hcX hcS hcR
          have HX := Lib.hid h0
          have HS := Lib.hid h1
          have HR := Lib.hid h2
          have HB := Lib.hid h3
          clear h0 h1 h2 h3
          go_wp2_with fail
          exact bodyPost_ret (v := .bool true) (by simp [results, Try.results7, go_sem]) rfl ⟨rfl, HB.out⟩
        · have f1 : ((Lx : Int) == 0) = false := by simp; exact hL0
          have hLl : Lx ≤ 70368744177664 := by rw [← HLX.out]; exact Nat.le_trans (bl_le (by have := HX.out.at_.lt two_le_B64; rwa [B64_pow_two] at this)) (by omega)
          have HBT := Lib.hid (fun (A : Option Addr) (n c : Nat) (wq : World) (h : DAt B64 wq A n c x) => (show Calls Try.prog 33 #[.agg #[.slice A n c], .int .i64 ((Lx : Int) - 1)] wq fun e w' => e = .returned (.bool true) ∧ Below wq.heap.size wq w' by
            have := bit_is A n c x (Lx - 1) true wq h (by omega) (by rw [← HLX.out]; exact bit_top (bl_pos.1 (by rw [HLX.out]; omega)))
            rwa [show ((Lx - 1 : Nat) : Int) = (Lx : Int) - 1 by omega] at this))
          clear hL0
          obtain ⟨C, hCd⟩ : ∃ C : World → Prop, C = fun w' => Bx w' p0 B0 b0 d0 (x) ∧ Bx w' pS A' n' c' (x % 2 ^ K) ∧ Bx w' p14_1 A14_1 n14_1 c14_1 ((x % (1 * 2 ^ K))) ∧ Below w.heap.size w w' := ⟨_, rfl⟩
          have hC0 : C wc.drew := by rw [hCd]; exact ⟨HX.out.drew, HS.out.drew, HR.out.drew, HB.out.drew⟩
          have hcX := fun (w' : World) (hw : C w') => (show Bx w' p0 B0 b0 d0 (x) by rw [hCd] at hw; obtain ⟨h, _, _, _⟩ := hw; exact h)
          have hcS := fun (w' : World) (hw : C w') => (show Bx w' pS A' n' c' (x % 2 ^ K) by rw [hCd] at hw; obtain ⟨_, h, _, _⟩ := hw; exact h)
          have hcR := fun (w' : World) (hw : C w') => (show Bx w' p14_1 A14_1 n14_1 c14_1 ((x % (1 * 2 ^ K))) by rw [hCd] at hw; obtain ⟨_, _, h, _⟩ := hw; exact h)
          have hCb : ∀ w1 w2, C w1 → Below w1.heap.size w1 w2 → C w2 := by rw [hCd]; rintro w1 w2 ⟨h0, h1, h2, h3⟩ hb; exact ⟨h0.below hb, h1.below hb, h2.below hb, aft_call h3 hb⟩
          have hCo : ∀ w', C w' → Bx w' p0 B0 b0 d0 (x) ∧ Bx w' pS A' n' c' (x % 2 ^ K) ∧ Bx w' p14_1 A14_1 n14_1 c14_1 ((x % (1 * 2 ^ K))) ∧ Below w.heap.size w w' := by rw [hCd]; exact fun _ h => h
          clear hCd
          refine wp_region_quiet_at (C := C) (by kernel_rfl) (by kernel_rfl) hC0 ?_
          repeat (go_big_quiet_step (first | (intro _; exact rfl) | (intro hw; go_at_call 18; (with_reducible refine (eq_same A' n' c' A14_1 n14_1 c14_1 (x % 2 ^ K) _ (hcS _ hw).at_ (Eq.subst (motive := fun z => DAt B64 _ A14_1 n14_1 c14_1 z) HER.out (hcR _ hw).at_) (by omega) (by omega)).mono ?_); rintro e w2 ⟨rfl, hb⟩; exact ⟨rfl, hCb _ _ hw hb⟩) | (intro hw; go_at_call 16; (with_reducible refine (len_of B0 b0 d0 _ Lx _ (hcX _ hw).at_ (by omega) HLX.out).mono ?_); rintro e w2 ⟨rfl, hb⟩; exact ⟨rfl, hCb _ _ hw hb⟩) | (intro hw; go_at_call 33; (with_reducible refine (bit_is B0 b0 d0 _ Lx false _ (hcX _ hw).at_ (by omega) hbo).mono ?_); rintro e w2 ⟨rfl, hb⟩; exact ⟨rfl, hCb _ _ hw hb⟩) | (intro hw; go_at_call 33; (with_reducible refine (HBT.out B0 b0 d0 _ (hcX _ hw).at_).mono ?_); rintro e w2 ⟨rfl, hb⟩; exact ⟨rfl, hCb _ _ hw hb⟩) | (intro hw; go_at_call 21; (with_reducible refine (started_any _).mono ?_); rintro e w2 ⟨rfl, hb⟩; exact ⟨rfl, hCb _ _ hw hb⟩) | (intro hw; rw [(hcX _ hw).cell]; exact ⟨rfl, rfl⟩) | (intro hw; rw [(hcS _ hw).cell]; exact ⟨rfl, rfl⟩) | (intro hw; rw [(hcR _ hw).cell]; exact ⟨rfl, rfl⟩)))
          refine wpQuiet_nil ?_
          intro wq hwq
          obtain ⟨h0, h1, h2, h3⟩ := hCo _ hwq
          clear HX HS HR HB hC0 hCb hCo hwq hcX hcS hcR
          have HX := Lib.hid h0
          have HS := Lib.hid h1
          have HR := Lib.hid h2
          have HB := Lib.hid h3
          clear h0 h1 h2 h3
          go_wp2_with fail
          exact bodyPost_ret (v := .bool true) (by simp [results, Try.results7, go_sem]) rfl ⟨rfl, HB.out⟩


theorem natBits_walk (A0 : Option Addr) (n0 c0 : Nat) (l0 : List Int) (nn : Int) (w : World) (h0 : InI .u8 1 1 w A0 n0 c0 l0) (hnn : (Lit.int .i64 nn).wf = true) :
    Calls Try.prog 7 #[.slice A0 n0 c0, .int .i64 nn] w fun e w' => e = .returned (.bool true) ∧ Below w.heap.size w w' :=
  natBits_walk0 A0 n0 c0 _ nn w (bat_in h0) h0.le

end Go.Proofs.Ytijbhbjenddiaaa
