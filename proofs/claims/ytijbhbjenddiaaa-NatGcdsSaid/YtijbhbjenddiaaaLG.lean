/-
  NatGcds: the walk.
-/
import Derived.Test.YtijbhbjenddiaaaAY
set_option linter.unusedVariables false
set_option linter.unusedSimpArgs false
namespace Go.Proofs.Ytijbhbjenddiaaa
open Go.RowKit

set_option maxRecDepth 100000 in
set_option maxHeartbeats 20000000 in
theorem natGcds_walk0 (A0 : Option Addr) (n0 c0 : Nat) (l0 : List Nat) (A1 : Option Addr) (n1 c1 : Nat) (l1 : List Nat) (A2 : Option Addr) (n2 c2 : Nat) (l2 : List Nat) (w : World) (h0 : BAt w A0 n0 c0 l0) (m0 : n0 ≤ c0) (h1 : BAt w A1 n1 c1 l1) (m1 : n1 ≤ c1) (h2 : BAt w A2 n2 c2 l2) (m2 : n2 ≤ c2) :
    Calls Try.prog 8 #[.slice A0 n0 c0, .slice A1 n1 c1, .slice A2 n2 c2] w fun e w' => e = .returned (.bool true) ∧ Below w.heap.size w w' := by
  go_enter Try.func8, Try.ntmps8
  go_wp2_with fail
  refine (cut_any A0 n0 c0 l0 _ h0 m0).mono ?_
  rintro e wa0 ⟨k0, rfl, hc0, hk0, rfl⟩
  clear h0
  go_wp2_with fail
  refine (frombytes_sz A0 k0 c0 _ _ hc0 (by omega)).mono ?_
  rintro e v0 ⟨B0, b0, d0, rfl, hd0, hn0, hb⟩
  generalize bev (l0.take 600) = x at hd0
  have hB0 := hb
  have h1 := h1.below hb
  have h2 := h2.below hb
  clear hb hc0
  go_wp2_with fail
  refine (cut_any A1 n1 c1 l1 _ h1 m1).mono ?_
  rintro e wa1 ⟨k1, rfl, hc1, hk1, rfl⟩
  clear h1
  go_wp2_with fail
  refine (frombytes_sz A1 k1 c1 _ _ hc1 (by omega)).mono ?_
  rintro e v1 ⟨B1, b1, d1, rfl, hd1, hn1, hb⟩
  generalize bev (l1.take 600) = y at hd1
  have hB1 := aft_call hB0 hb
  have hd0 := hd0.below hb
  have h2 := h2.below hb
  clear hb hc1 hB0
  go_wp2_with fail
  refine (cut_any A2 n2 c2 l2 _ h2 m2).mono ?_
  rintro e wa2 ⟨k2, rfl, hc2, hk2, rfl⟩
  clear h2
  go_wp2_with fail
  refine (frombytes_sz A2 k2 c2 _ _ hc2 (by omega)).mono ?_
  rintro e v2 ⟨B2, b2, d2, rfl, hd2, hn2, hb⟩
  generalize bev (l2.take 600) = z at hd2
  have hB2 := aft_call hB1 hb
  have hd0 := hd0.below hb
  have hd1 := hd1.below hb
  clear hb hc2 hB1
  have hx0 : Bx (((v2.alloc (.cells #[.slice B0 b0 d0] 25)).alloc (.cells #[.slice B1 b1 d1] 25)).alloc (.cells #[.slice B2 b2 d2] 25)) (v2.heap.size) B0 b0 d0 x := by have := (((Bx.new hd0).al (.cells #[.slice B1 b1 d1] 25)).al (.cells #[.slice B2 b2 d2] 25)); simpa only [World.size_alloc] using this
  have hx1 : Bx (((v2.alloc (.cells #[.slice B0 b0 d0] 25)).alloc (.cells #[.slice B1 b1 d1] 25)).alloc (.cells #[.slice B2 b2 d2] 25)) (v2.heap.size + 1) B1 b1 d1 y := by have := ((Bx.new (hd1.al (.cells #[.slice B0 b0 d0] 25))).al (.cells #[.slice B2 b2 d2] 25)); simpa only [World.size_alloc] using this
  have hx2 : Bx (((v2.alloc (.cells #[.slice B0 b0 d0] 25)).alloc (.cells #[.slice B1 b1 d1] 25)).alloc (.cells #[.slice B2 b2 d2] 25)) (v2.heap.size + 1 + 1) B2 b2 d2 z := by have := (Bx.new ((hd2.al (.cells #[.slice B0 b0 d0] 25)).al (.cells #[.slice B1 b1 d1] 25))); simpa only [World.size_alloc] using this
  have HB := Lib.hid (aft_al (aft_al (aft_al hB2 (.cells #[.slice B0 b0 d0] 25)) (.cells #[.slice B1 b1 d1] 25)) (.cells #[.slice B2 b2 d2] 25))
  have HX := Lib.hid hx0
  have HY := Lib.hid hx1
  have HZ := Lib.hid hx2
  clear hx0 hd0 hx1 hd1 hx2 hd2 hB2
  go_wp2_with fail
  generalize (((v2.alloc (.cells #[.slice B0 b0 d0] 25)).alloc (.cells #[.slice B1 b1 d1] 25)).alloc (.cells #[.slice B2 b2 d2] 25)) = V at *
  generalize hp2 : v2.heap.size + 1 + 1 = p2 at *
  generalize hp1 : v2.heap.size + 1 = p1 at *
  generalize hp0 : v2.heap.size = p0 at *
  have hpp : p0 < p1 ∧ p1 < p2 := by omega
  clear hp0 hp1 hp2
  refine (gcd_sz B0 b0 d0 (x) B1 b1 d1 (y) V HX.out.at_ HY.out.at_ (by omega) (by omega)).mono ?_
  rintro e w1x ⟨A1x, n1x, c1x, rfl, hd, hnn1x, hb⟩
  have HX' := Lib.hid (HX.out.below hb)
  have HY' := Lib.hid (HY.out.below hb)
  have HZ' := Lib.hid (HZ.out.below hb)
  have HB' := Lib.hid (aft_call HB.out hb)
  have HG1' := Lib.hid hd
  clear HX HY HZ HB hd hb
  have HX := HX'
  clear HX'
  have HY := HY'
  clear HY'
  have HZ := HZ'
  clear HZ'
  have HB := HB'
  clear HB'
  have HG1 := HG1'
  clear HG1'
  have HX' := Lib.hid (HX.out.al (.cells #[.slice A1x n1x c1x] 25))
  have HY' := Lib.hid (HY.out.al (.cells #[.slice A1x n1x c1x] 25))
  have HZ' := Lib.hid (HZ.out.al (.cells #[.slice A1x n1x c1x] 25))
  have HB' := Lib.hid (aft_al HB.out (.cells #[.slice A1x n1x c1x] 25))
  have hG' : Bx (w1x.alloc (.cells #[.slice A1x n1x c1x] 25)) (w1x.heap.size) A1x n1x c1x ((Nat.gcd x y)) := by have := (Bx.new HG1.out); simpa only [World.size_alloc] using this
  have HG' := Lib.hid hG'
  clear HX HY HZ HB HG1 hG'
  have HX := HX'
  clear HX'
  have HY := HY'
  clear HY'
  have HZ := HZ'
  clear HZ'
  have HG := HG'
  clear HG'
  have HB := HB'
  clear HB'
  go_wp2_with fail
  generalize (w1x.alloc (.cells #[.slice A1x n1x c1x] 25)) = V1x at *
  skip
  generalize w1x.heap.size = q1_0 at *
  go_region_held3 (fun w' => w'.cell? ⟨p0, 0, none⟩ = some (.slice B0 b0 d0) ∧ w'.cell? ⟨p1, 0, none⟩ = some (.slice B1 b1 d1) ∧ w'.cell? ⟨p2, 0, none⟩ = some (.slice B2 b2 d2) ∧ w'.cell? ⟨q1_0, 0, none⟩ = some (.slice A1x n1x c1x)) (first | exact ⟨HX.out.cell, HY.out.cell, HZ.out.cell, HG.out.cell⟩ | exact ⟨HX.out.drew.cell, HY.out.drew.cell, HZ.out.drew.cell, HG.out.drew.cell⟩ | go_keep) (first
    | (go_at_call 36; (with_reducible refine (gcd_sz B1 b1 d1 (y) B0 b0 d0 (x) V1x.drew HY.out.drew.at_ HX.out.drew.at_ (by omega) (by omega)).mono ?_); rintro e w2x ⟨A2x, n2x, c2x, rfl, hd, hnn2x, hb⟩; have HX' := Lib.hid (HX.out.drew.below hb); have HY' := Lib.hid (HY.out.drew.below hb); have HZ' := Lib.hid (HZ.out.drew.below hb); have HG' := Lib.hid (HG.out.drew.below hb); have HB' := Lib.hid (aft_call HB.out.drew hb); have Ht1' := Lib.hid hd; clear HX HY HZ HG HB hd hb; have HX := HX'; clear HX'; have HY := HY'; clear HY'; have HZ := HZ'; clear HZ'; have HG := HG'; clear HG'; have HB := HB'; clear HB'; have Ht1 := Ht1'; clear Ht1')
    | (go_at_call 18; (with_reducible refine (eq_same A1x n1x c1x A2x n2x c2x ((Nat.gcd x y)) w2x HG.out.at_ (Eq.subst (motive := fun z => DAt B64 w2x A2x n2x c2x z) (Nat.gcd_comm y x) Ht1.out) (by omega) (by omega)).mono ?_); rintro e w3x ⟨rfl, hb⟩; have HX' := Lib.hid (HX.out.below hb); have HY' := Lib.hid (HY.out.below hb); have HZ' := Lib.hid (HZ.out.below hb); have HG' := Lib.hid (HG.out.below hb); have HB' := Lib.hid (aft_call HB.out hb); clear HX HY HZ HG Ht1 HB hb; have HX := HX'; clear HX'; have HY := HY'; clear HY'; have HZ := HZ'; clear HZ'; have HG := HG'; clear HG'; have HB := HB'; clear HB')
    | (go_at_call 19; (with_reducible refine (mul_sz B0 b0 d0 (x) B2 b2 d2 (z) w3x HX.out.at_ HZ.out.at_ (by omega) (by omega)).mono ?_); rintro e w4x ⟨A3x, n3x, c3x, rfl, hd, hnn3x, hb⟩; have HX' := Lib.hid (HX.out.below hb); have HY' := Lib.hid (HY.out.below hb); have HZ' := Lib.hid (HZ.out.below hb); have HG' := Lib.hid (HG.out.below hb); have HB' := Lib.hid (aft_call HB.out hb); have Ht2' := Lib.hid hd; clear HX HY HZ HG HB hd hb; have HX := HX'; clear HX'; have HY := HY'; clear HY'; have HZ := HZ'; clear HZ'; have HG := HG'; clear HG'; have HB := HB'; clear HB'; have Ht2 := Ht2'; clear Ht2')
    | (go_at_call 19; (with_reducible refine (mul_sz B1 b1 d1 (y) B2 b2 d2 (z) w4x HY.out.at_ HZ.out.at_ (by omega) (by omega)).mono ?_); rintro e w5x ⟨A4x, n4x, c4x, rfl, hd, hnn4x, hb⟩; have HX' := Lib.hid (HX.out.below hb); have HY' := Lib.hid (HY.out.below hb); have HZ' := Lib.hid (HZ.out.below hb); have HG' := Lib.hid (HG.out.below hb); have Ht2' := Lib.hid (Ht2.out.below hb); have HB' := Lib.hid (aft_call HB.out hb); have Ht3' := Lib.hid hd; clear HX HY HZ HG Ht2 HB hd hb; have HX := HX'; clear HX'; have HY := HY'; clear HY'; have HZ := HZ'; clear HZ'; have HG := HG'; clear HG'; have Ht2 := Ht2'; clear Ht2'; have HB := HB'; clear HB'; have Ht3 := Ht3'; clear Ht3')
    | (go_at_call 36; (with_reducible refine (gcd_sz A3x n3x c3x ((x * z)) A4x n4x c4x ((y * z)) w5x Ht2.out Ht3.out (by omega) (by omega)).mono ?_); rintro e w6x ⟨A5x, n5x, c5x, rfl, hd, hnn5x, hb⟩; have HX' := Lib.hid (HX.out.below hb); have HY' := Lib.hid (HY.out.below hb); have HZ' := Lib.hid (HZ.out.below hb); have HG' := Lib.hid (HG.out.below hb); have HB' := Lib.hid (aft_call HB.out hb); have Ht4' := Lib.hid hd; clear HX HY HZ HG Ht2 Ht3 HB hd hb; have HX := HX'; clear HX'; have HY := HY'; clear HY'; have HZ := HZ'; clear HZ'; have HG := HG'; clear HG'; have HB := HB'; clear HB'; have Ht4 := Ht4'; clear Ht4')
    | (go_at_call 19; (with_reducible refine (mul_sz A1x n1x c1x ((Nat.gcd x y)) B2 b2 d2 (z) w6x HG.out.at_ HZ.out.at_ (by omega) (by omega)).mono ?_); rintro e w7x ⟨A6x, n6x, c6x, rfl, hd, hnn6x, hb⟩; have HX' := Lib.hid (HX.out.below hb); have HY' := Lib.hid (HY.out.below hb); have HZ' := Lib.hid (HZ.out.below hb); have HG' := Lib.hid (HG.out.below hb); have Ht4' := Lib.hid (Ht4.out.below hb); have HB' := Lib.hid (aft_call HB.out hb); have Ht5' := Lib.hid hd; clear HX HY HZ HG Ht4 HB hd hb; have HX := HX'; clear HX'; have HY := HY'; clear HY'; have HZ := HZ'; clear HZ'; have HG := HG'; clear HG'; have Ht4 := Ht4'; clear Ht4'; have HB := HB'; clear HB'; have Ht5 := Ht5'; clear Ht5')
    | (go_at_call 18; (with_reducible refine (eq_same A5x n5x c5x A6x n6x c6x ((Nat.gcd (x * z) (y * z))) w7x Ht4.out (Eq.subst (motive := fun z => DAt B64 w7x A6x n6x c6x z) (Nat.gcd_mul_right x z y).symm Ht5.out) (by omega) (by omega)).mono ?_); rintro e w8x ⟨rfl, hb⟩; have HX' := Lib.hid (HX.out.below hb); have HY' := Lib.hid (HY.out.below hb); have HZ' := Lib.hid (HZ.out.below hb); have HG' := Lib.hid (HG.out.below hb); have HB' := Lib.hid (aft_call HB.out hb); clear HX HY HZ HG Ht4 Ht5 HB hb; have HX := HX'; clear HX'; have HY := HY'; clear HY'; have HZ := HZ'; clear HZ'; have HG := HG'; clear HG'; have HB := HB'; clear HB')
    | (go_at_call 36; (with_reducible refine (gcd_sz B0 b0 d0 (x) none 0 0 (0) w8x HX.out.at_ DAt.nil (by omega) (by omega)).mono ?_); rintro e w9x ⟨A7x, n7x, c7x, rfl, hd, hnn7x, hb⟩; have HX' := Lib.hid (HX.out.below hb); have HY' := Lib.hid (HY.out.below hb); have HZ' := Lib.hid (HZ.out.below hb); have HG' := Lib.hid (HG.out.below hb); have HB' := Lib.hid (aft_call HB.out hb); have Ht6' := Lib.hid hd; clear HX HY HZ HG HB hd hb; have HX := HX'; clear HX'; have HY := HY'; clear HY'; have HZ := HZ'; clear HZ'; have HG := HG'; clear HG'; have HB := HB'; clear HB'; have Ht6 := Ht6'; clear Ht6')
    | (go_at_call 18; (with_reducible refine (eq_same A7x n7x c7x B0 b0 d0 ((Nat.gcd x 0)) w9x Ht6.out (Eq.subst (motive := fun z => DAt B64 w9x B0 b0 d0 z) (Nat.gcd_zero_right x).symm HX.out.at_) (by omega) (by omega)).mono ?_); rintro e w10x ⟨rfl, hb⟩; have HX' := Lib.hid (HX.out.below hb); have HY' := Lib.hid (HY.out.below hb); have HZ' := Lib.hid (HZ.out.below hb); have HG' := Lib.hid (HG.out.below hb); have HB' := Lib.hid (aft_call HB.out hb); clear HX HY HZ HG Ht6 HB hb; have HX := HX'; clear HX'; have HY := HY'; clear HY'; have HZ := HZ'; clear HZ'; have HG := HG'; clear HG'; have HB := HB'; clear HB'))
  clear HZ
  have cX := HX.out.cell; have cY := HY.out.cell; have cG := HG.out.cell
  by_cases hg : Nat.gcd x y = 0
  · skip
    go_wp2_with fail
    refine (divmod_zero B0 b0 d0 (x) A1x n1x c1x ((Nat.gcd x y)) w10x HX.out.at_ HG.out.at_ (by omega) (by omega) hg).mono ?_
    rintro e w11x ⟨A8x, n8x, c8x, A9x, n9x, c9x, rfl, hd, hd2, hnn8x, hnn9x, hb⟩
    have HX' := Lib.hid (HX.out.below hb)
    have HY' := Lib.hid (HY.out.below hb)
    have HG' := Lib.hid (HG.out.below hb)
    have HB' := Lib.hid (aft_call HB.out hb)
    have Hq1' := Lib.hid hd
    have Hr1' := Lib.hid hd2
    clear HX HY HG HB hd hd2 hb
    have HX := HX'
    clear HX'
    have HY := HY'
    clear HY'
    have HG := HG'
    clear HG'
    have HB := HB'
    clear HB'
    have Hq1 := Hq1'
    clear Hq1'
    have Hr1 := Hr1'
    clear Hr1'
    clear cX cY cG
    have HX' := Lib.hid ((HX.out.al (.cells #[.slice A8x n8x c8x] 25)).al (.cells #[.slice A9x n9x c9x] 25))
    have HY' := Lib.hid ((HY.out.al (.cells #[.slice A8x n8x c8x] 25)).al (.cells #[.slice A9x n9x c9x] 25))
    have HG' := Lib.hid ((HG.out.al (.cells #[.slice A8x n8x c8x] 25)).al (.cells #[.slice A9x n9x c9x] 25))
    have HB' := Lib.hid (aft_al (aft_al HB.out (.cells #[.slice A8x n8x c8x] 25)) (.cells #[.slice A9x n9x c9x] 25))
    have hQ' : Bx ((w11x.alloc (.cells #[.slice A8x n8x c8x] 25)).alloc (.cells #[.slice A9x n9x c9x] 25)) (w11x.heap.size) A8x n8x c8x (0) := by have := ((Bx.new Hq1.out).al (.cells #[.slice A9x n9x c9x] 25)); simpa only [World.size_alloc] using this
    have HQ' := Lib.hid hQ'
    have hR' : Bx ((w11x.alloc (.cells #[.slice A8x n8x c8x] 25)).alloc (.cells #[.slice A9x n9x c9x] 25)) (w11x.heap.size + 1) A9x n9x c9x (0) := by have := (Bx.new (Hr1.out.al (.cells #[.slice A8x n8x c8x] 25))); simpa only [World.size_alloc] using this
    have HR' := Lib.hid hR'
    clear HX HY HG HB Hq1 hQ' Hr1 hR'
    have HX := HX'
    clear HX'
    have HY := HY'
    clear HY'
    have HG := HG'
    clear HG'
    have HQ := HQ'
    clear HQ'
    have HR := HR'
    clear HR'
    have HB := HB'
    clear HB'
    have cY := HY.out.cell; have cG := HG.out.cell
    go_wp2_with fail
    generalize ((w11x.alloc (.cells #[.slice A8x n8x c8x] 25)).alloc (.cells #[.slice A9x n9x c9x] 25)) = V11x at *
    skip
    skip
    generalize w11x.heap.size + 1 = q11_1 at *
    generalize w11x.heap.size = q11_0 at *
    clear cY cG
    refine (divmod_zero B1 b1 d1 (y) A1x n1x c1x ((Nat.gcd x y)) V11x HY.out.at_ HG.out.at_ (by omega) (by omega) hg).mono ?_
    rintro e w12x ⟨A10x, n10x, c10x, A11x, n11x, c11x, rfl, hd, hd2, hnn10x, hnn11x, hb⟩
    have HX' := Lib.hid (HX.out.below hb)
    have HY' := Lib.hid (HY.out.below hb)
    have HG' := Lib.hid (HG.out.below hb)
    have HQ' := Lib.hid (HQ.out.below hb)
    have HR' := Lib.hid (HR.out.below hb)
    have HB' := Lib.hid (aft_call HB.out hb)
    have Hq2' := Lib.hid hd
    have Hr2' := Lib.hid hd2
    clear HX HY HG HQ HR HB hd hd2 hb
    have HX := HX'
    clear HX'
    have HY := HY'
    clear HY'
    have HG := HG'
    clear HG'
    have HQ := HQ'
    clear HQ'
    have HR := HR'
    clear HR'
    have HB := HB'
    clear HB'
    have Hq2 := Hq2'
    clear Hq2'
    have Hr2 := Hr2'
    clear Hr2'
    have HX' := Lib.hid ((HX.out.al (.cells #[.slice A10x n10x c10x] 25)).al (.cells #[.slice A11x n11x c11x] 25))
    have HY' := Lib.hid ((HY.out.al (.cells #[.slice A10x n10x c10x] 25)).al (.cells #[.slice A11x n11x c11x] 25))
    have HG' := Lib.hid ((HG.out.al (.cells #[.slice A10x n10x c10x] 25)).al (.cells #[.slice A11x n11x c11x] 25))
    have HQ' := Lib.hid ((HQ.out.al (.cells #[.slice A10x n10x c10x] 25)).al (.cells #[.slice A11x n11x c11x] 25))
    have HR' := Lib.hid ((HR.out.al (.cells #[.slice A10x n10x c10x] 25)).al (.cells #[.slice A11x n11x c11x] 25))
    have HB' := Lib.hid (aft_al (aft_al HB.out (.cells #[.slice A10x n10x c10x] 25)) (.cells #[.slice A11x n11x c11x] 25))
    have hQ2' : Bx ((w12x.alloc (.cells #[.slice A10x n10x c10x] 25)).alloc (.cells #[.slice A11x n11x c11x] 25)) (w12x.heap.size) A10x n10x c10x (0) := by have := ((Bx.new Hq2.out).al (.cells #[.slice A11x n11x c11x] 25)); simpa only [World.size_alloc] using this
    have HQ2' := Lib.hid hQ2'
    have hR2' : Bx ((w12x.alloc (.cells #[.slice A10x n10x c10x] 25)).alloc (.cells #[.slice A11x n11x c11x] 25)) (w12x.heap.size + 1) A11x n11x c11x (0) := by have := (Bx.new (Hr2.out.al (.cells #[.slice A10x n10x c10x] 25))); simpa only [World.size_alloc] using this
    have HR2' := Lib.hid hR2'
    clear HX HY HG HQ HR HB Hq2 hQ2' Hr2 hR2'
    have HX := HX'
    clear HX'
    have HY := HY'
    clear HY'
    have HG := HG'
    clear HG'
    have HQ := HQ'
    clear HQ'
    have HR := HR'
    clear HR'
    have HQ2 := HQ2'
    clear HQ2'
    have HR2 := HR2'
    clear HR2'
    have HB := HB'
    clear HB'
    have cG := HG.out.cell
    go_wp2_with fail
    generalize ((w12x.alloc (.cells #[.slice A10x n10x c10x] 25)).alloc (.cells #[.slice A11x n11x c11x] 25)) = V12x at *
    skip
    skip
    generalize w12x.heap.size + 1 = q12_1 at *
    generalize w12x.heap.size = q12_0 at *
    clear cG
    refine (len_zero A1x n1x c1x ((Nat.gcd x y)) V12x HG.out.at_ hg).mono ?_
    rintro e w13x ⟨rfl, hb⟩
    have HX' := Lib.hid (HX.out.below hb)
    have HY' := Lib.hid (HY.out.below hb)
    have HG' := Lib.hid (HG.out.below hb)
    have HQ' := Lib.hid (HQ.out.below hb)
    have HR' := Lib.hid (HR.out.below hb)
    have HQ2' := Lib.hid (HQ2.out.below hb)
    have HR2' := Lib.hid (HR2.out.below hb)
    have HB' := Lib.hid (aft_call HB.out hb)
    clear HX HY HG HQ HR HQ2 HR2 HB hb
    have HX := HX'
    clear HX'
    have HY := HY'
    clear HY'
    have HG := HG'
    clear HG'
    have HQ := HQ'
    clear HQ'
    have HR := HR'
    clear HR'
    have HQ2 := HQ2'
    clear HQ2'
    have HR2 := HR2'
    clear HR2'
    have HB := HB'
    clear HB'
    have cX := HX.out.cell; have cY := HY.out.cell
    go_wp2_with fail
    refine (len_zero B0 b0 d0 (x) w13x HX.out.at_ (Nat.eq_zero_of_gcd_eq_zero_left hg)).mono ?_
    rintro e w14x ⟨rfl, hb⟩
    have HX' := Lib.hid (HX.out.below hb)
    have HY' := Lib.hid (HY.out.below hb)
    have HG' := Lib.hid (HG.out.below hb)
    have HQ' := Lib.hid (HQ.out.below hb)
    have HR' := Lib.hid (HR.out.below hb)
    have HQ2' := Lib.hid (HQ2.out.below hb)
    have HR2' := Lib.hid (HR2.out.below hb)
    have HB' := Lib.hid (aft_call HB.out hb)
    clear HX HY HG HQ HR HQ2 HR2 HB hb
    have HX := HX'
    clear HX'
    have HY := HY'
    clear HY'
    have HG := HG'
    clear HG'
    have HQ := HQ'
    clear HQ'
    have HR := HR'
    clear HR'
    have HQ2 := HQ2'
    clear HQ2'
    have HR2 := HR2'
    clear HR2'
    have HB := HB'
    clear HB'
    clear cX cY
    have cY := HY.out.cell
    go_wp2_with fail
    refine (len_zero B1 b1 d1 (y) w14x HY.out.at_ (Nat.eq_zero_of_gcd_eq_zero_right hg)).mono ?_
    rintro e w15x ⟨rfl, hb⟩
    have HX' := Lib.hid (HX.out.below hb)
    have HY' := Lib.hid (HY.out.below hb)
    have HG' := Lib.hid (HG.out.below hb)
    have HQ' := Lib.hid (HQ.out.below hb)
    have HR' := Lib.hid (HR.out.below hb)
    have HQ2' := Lib.hid (HQ2.out.below hb)
    have HR2' := Lib.hid (HR2.out.below hb)
    have HB' := Lib.hid (aft_call HB.out hb)
    clear HX HY HG HQ HR HQ2 HR2 HB hb
    have HX := HX'
    clear HX'
    have HY := HY'
    clear HY'
    have HG := HG'
    clear HG'
    have HQ := HQ'
    clear HQ'
    have HR := HR'
    clear HR'
    have HQ2 := HQ2'
    clear HQ2'
    have HR2 := HR2'
    clear HR2'
    have HB := HB'
    clear HB'
    go_wp2_with fail
    refine (started_any w15x).mono ?_
    rintro e w16x ⟨rfl, hb⟩
    have HX' := Lib.hid (HX.out.below hb)
    have HY' := Lib.hid (HY.out.below hb)
    have HG' := Lib.hid (HG.out.below hb)
    have HQ' := Lib.hid (HQ.out.below hb)
    have HR' := Lib.hid (HR.out.below hb)
    have HQ2' := Lib.hid (HQ2.out.below hb)
    have HR2' := Lib.hid (HR2.out.below hb)
    have HB' := Lib.hid (aft_call HB.out hb)
    clear HX HY HG HQ HR HQ2 HR2 HB hb
    have HX := HX'
    clear HX'
    have HY := HY'
    clear HY'
    have HG := HG'
    clear HG'
    have HQ := HQ'
    clear HQ'
    have HR := HR'
    clear HR'
    have HQ2 := HQ2'
    clear HQ2'
    have HR2 := HR2'
    clear HR2'
    have HB := HB'
    clear HB'
    go_wp2_with fail
    exact bodyPost_ret (v := .bool true) (by simp [results, Try.results8, go_sem]) rfl ⟨rfl, HB.out⟩
  · go_wp2_with fail
    refine (divmod_pos B0 b0 d0 (x) A1x n1x c1x ((Nat.gcd x y)) w10x HX.out.at_ HG.out.at_ (by omega) (by omega) (Nat.pos_of_ne_zero hg)).mono ?_
    rintro e w11x ⟨A8x, n8x, c8x, A9x, n9x, c9x, rfl, hd, hd2, hnn8x, hnn9x, hb⟩
    have HX' := Lib.hid (HX.out.below hb)
    have HY' := Lib.hid (HY.out.below hb)
    have HG' := Lib.hid (HG.out.below hb)
    have HB' := Lib.hid (aft_call HB.out hb)
    have Hq1' := Lib.hid hd
    have Hr1' := Lib.hid hd2
    clear HX HY HG HB hd hd2 hb
    have HX := HX'
    clear HX'
    have HY := HY'
    clear HY'
    have HG := HG'
    clear HG'
    have HB := HB'
    clear HB'
    have Hq1 := Hq1'
    clear Hq1'
    have Hr1 := Hr1'
    clear Hr1'
    clear cX cY cG
    have HX' := Lib.hid ((HX.out.al (.cells #[.slice A8x n8x c8x] 25)).al (.cells #[.slice A9x n9x c9x] 25))
    have HY' := Lib.hid ((HY.out.al (.cells #[.slice A8x n8x c8x] 25)).al (.cells #[.slice A9x n9x c9x] 25))
    have HG' := Lib.hid ((HG.out.al (.cells #[.slice A8x n8x c8x] 25)).al (.cells #[.slice A9x n9x c9x] 25))
    have HB' := Lib.hid (aft_al (aft_al HB.out (.cells #[.slice A8x n8x c8x] 25)) (.cells #[.slice A9x n9x c9x] 25))
    have hQ' : Bx ((w11x.alloc (.cells #[.slice A8x n8x c8x] 25)).alloc (.cells #[.slice A9x n9x c9x] 25)) (w11x.heap.size) A8x n8x c8x ((x / (Nat.gcd x y))) := by have := ((Bx.new Hq1.out).al (.cells #[.slice A9x n9x c9x] 25)); simpa only [World.size_alloc] using this
    have HQ' := Lib.hid hQ'
    have hR' : Bx ((w11x.alloc (.cells #[.slice A8x n8x c8x] 25)).alloc (.cells #[.slice A9x n9x c9x] 25)) (w11x.heap.size + 1) A9x n9x c9x ((x % (Nat.gcd x y))) := by have := (Bx.new (Hr1.out.al (.cells #[.slice A8x n8x c8x] 25))); simpa only [World.size_alloc] using this
    have HR' := Lib.hid hR'
    clear HX HY HG HB Hq1 hQ' Hr1 hR'
    have HX := HX'
    clear HX'
    have HY := HY'
    clear HY'
    have HG := HG'
    clear HG'
    have HQ := HQ'
    clear HQ'
    have HR := HR'
    clear HR'
    have HB := HB'
    clear HB'
    have cY := HY.out.cell; have cG := HG.out.cell
    go_wp2_with fail
    generalize ((w11x.alloc (.cells #[.slice A8x n8x c8x] 25)).alloc (.cells #[.slice A9x n9x c9x] 25)) = V11x at *
    skip
    skip
    generalize w11x.heap.size + 1 = q11_1 at *
    generalize w11x.heap.size = q11_0 at *
    clear cY cG
    refine (divmod_pos B1 b1 d1 (y) A1x n1x c1x ((Nat.gcd x y)) V11x HY.out.at_ HG.out.at_ (by omega) (by omega) (Nat.pos_of_ne_zero hg)).mono ?_
    rintro e w12x ⟨A10x, n10x, c10x, A11x, n11x, c11x, rfl, hd, hd2, hnn10x, hnn11x, hb⟩
    have HX' := Lib.hid (HX.out.below hb)
    have HY' := Lib.hid (HY.out.below hb)
    have HG' := Lib.hid (HG.out.below hb)
    have HQ' := Lib.hid (HQ.out.below hb)
    have HR' := Lib.hid (HR.out.below hb)
    have HB' := Lib.hid (aft_call HB.out hb)
    have Hq2' := Lib.hid hd
    have Hr2' := Lib.hid hd2
    clear HX HY HG HQ HR HB hd hd2 hb
    have HX := HX'
    clear HX'
    have HY := HY'
    clear HY'
    have HG := HG'
    clear HG'
    have HQ := HQ'
    clear HQ'
    have HR := HR'
    clear HR'
    have HB := HB'
    clear HB'
    have Hq2 := Hq2'
    clear Hq2'
    have Hr2 := Hr2'
    clear Hr2'
    have HX' := Lib.hid ((HX.out.al (.cells #[.slice A10x n10x c10x] 25)).al (.cells #[.slice A11x n11x c11x] 25))
    have HY' := Lib.hid ((HY.out.al (.cells #[.slice A10x n10x c10x] 25)).al (.cells #[.slice A11x n11x c11x] 25))
    have HG' := Lib.hid ((HG.out.al (.cells #[.slice A10x n10x c10x] 25)).al (.cells #[.slice A11x n11x c11x] 25))
    have HQ' := Lib.hid ((HQ.out.al (.cells #[.slice A10x n10x c10x] 25)).al (.cells #[.slice A11x n11x c11x] 25))
    have HR' := Lib.hid ((HR.out.al (.cells #[.slice A10x n10x c10x] 25)).al (.cells #[.slice A11x n11x c11x] 25))
    have HB' := Lib.hid (aft_al (aft_al HB.out (.cells #[.slice A10x n10x c10x] 25)) (.cells #[.slice A11x n11x c11x] 25))
    have hQ2' : Bx ((w12x.alloc (.cells #[.slice A10x n10x c10x] 25)).alloc (.cells #[.slice A11x n11x c11x] 25)) (w12x.heap.size) A10x n10x c10x ((y / (Nat.gcd x y))) := by have := ((Bx.new Hq2.out).al (.cells #[.slice A11x n11x c11x] 25)); simpa only [World.size_alloc] using this
    have HQ2' := Lib.hid hQ2'
    have hR2' : Bx ((w12x.alloc (.cells #[.slice A10x n10x c10x] 25)).alloc (.cells #[.slice A11x n11x c11x] 25)) (w12x.heap.size + 1) A11x n11x c11x ((y % (Nat.gcd x y))) := by have := (Bx.new (Hr2.out.al (.cells #[.slice A10x n10x c10x] 25))); simpa only [World.size_alloc] using this
    have HR2' := Lib.hid hR2'
    clear HX HY HG HQ HR HB Hq2 hQ2' Hr2 hR2'
    have HX := HX'
    clear HX'
    have HY := HY'
    clear HY'
    have HG := HG'
    clear HG'
    have HQ := HQ'
    clear HQ'
    have HR := HR'
    clear HR'
    have HQ2 := HQ2'
    clear HQ2'
    have HR2 := HR2'
    clear HR2'
    have HB := HB'
    clear HB'
    have cG := HG.out.cell
    go_wp2_with fail
    generalize ((w12x.alloc (.cells #[.slice A10x n10x c10x] 25)).alloc (.cells #[.slice A11x n11x c11x] 25)) = V12x at *
    skip
    skip
    generalize w12x.heap.size + 1 = q12_1 at *
    generalize w12x.heap.size = q12_0 at *
    clear cG
    have hlen := len_any A1x n1x c1x (Nat.gcd x y) _ HG.out.at_ (by omega)
    have hlp : 0 < bl (Nat.gcd x y) := bl_pos.2 (Nat.pos_of_ne_zero hg)
    generalize bl (Nat.gcd x y) = L at hlen hlp
    have bL : ((L : Int) == 0) = false := by simp; omega
    refine (hlen).mono ?_
    rintro e w13x ⟨rfl, hb⟩
    have HX' := Lib.hid (HX.out.below hb)
    have HY' := Lib.hid (HY.out.below hb)
    have HG' := Lib.hid (HG.out.below hb)
    have HQ' := Lib.hid (HQ.out.below hb)
    have HR' := Lib.hid (HR.out.below hb)
    have HQ2' := Lib.hid (HQ2.out.below hb)
    have HR2' := Lib.hid (HR2.out.below hb)
    have HB' := Lib.hid (aft_call HB.out hb)
    clear HX HY HG HQ HR HQ2 HR2 HB hb
    have HX := HX'
    clear HX'
    have HY := HY'
    clear HY'
    have HG := HG'
    clear HG'
    have HQ := HQ'
    clear HQ'
    have HR := HR'
    clear HR'
    have HQ2 := HQ2'
    clear HQ2'
    have HR2 := HR2'
    clear HR2'
    have HB := HB'
    clear HB'
    clear hlen
    have cR := HR.out.cell; have cR2 := HR2.out.cell
    go_wp2_with fail
    refine (len_zero A9x n9x c9x ((x % (Nat.gcd x y))) w13x HR.out.at_ (Nat.mod_eq_zero_of_dvd (Nat.gcd_dvd_left x y))).mono ?_
    rintro e w14x ⟨rfl, hb⟩
    have HX' := Lib.hid (HX.out.below hb)
    have HY' := Lib.hid (HY.out.below hb)
    have HG' := Lib.hid (HG.out.below hb)
    have HQ' := Lib.hid (HQ.out.below hb)
    have HR' := Lib.hid (HR.out.below hb)
    have HQ2' := Lib.hid (HQ2.out.below hb)
    have HR2' := Lib.hid (HR2.out.below hb)
    have HB' := Lib.hid (aft_call HB.out hb)
    clear HX HY HG HQ HR HQ2 HR2 HB hb
    have HX := HX'
    clear HX'
    have HY := HY'
    clear HY'
    have HG := HG'
    clear HG'
    have HQ := HQ'
    clear HQ'
    have HR := HR'
    clear HR'
    have HQ2 := HQ2'
    clear HQ2'
    have HR2 := HR2'
    clear HR2'
    have HB := HB'
    clear HB'
    clear cR cR2
    have cR2 := HR2.out.cell
    go_wp2_with fail
    refine (len_zero A11x n11x c11x ((y % (Nat.gcd x y))) w14x HR2.out.at_ (Nat.mod_eq_zero_of_dvd (Nat.gcd_dvd_right x y))).mono ?_
    rintro e w15x ⟨rfl, hb⟩
    have HX' := Lib.hid (HX.out.below hb)
    have HY' := Lib.hid (HY.out.below hb)
    have HG' := Lib.hid (HG.out.below hb)
    have HQ' := Lib.hid (HQ.out.below hb)
    have HR' := Lib.hid (HR.out.below hb)
    have HQ2' := Lib.hid (HQ2.out.below hb)
    have HR2' := Lib.hid (HR2.out.below hb)
    have HB' := Lib.hid (aft_call HB.out hb)
    clear HX HY HG HQ HR HQ2 HR2 HB hb
    have HX := HX'
    clear HX'
    have HY := HY'
    clear HY'
    have HG := HG'
    clear HG'
    have HQ := HQ'
    clear HQ'
    have HR := HR'
    clear HR'
    have HQ2 := HQ2'
    clear HQ2'
    have HR2 := HR2'
    clear HR2'
    have HB := HB'
    clear HB'
    go_wp2_with fail
    refine (started_any w15x).mono ?_
    rintro e w16x ⟨rfl, hb⟩
    have HX' := Lib.hid (HX.out.below hb)
    have HY' := Lib.hid (HY.out.below hb)
    have HG' := Lib.hid (HG.out.below hb)
    have HQ' := Lib.hid (HQ.out.below hb)
    have HR' := Lib.hid (HR.out.below hb)
    have HQ2' := Lib.hid (HQ2.out.below hb)
    have HR2' := Lib.hid (HR2.out.below hb)
    have HB' := Lib.hid (aft_call HB.out hb)
    clear HX HY HG HQ HR HQ2 HR2 HB hb
    have HX := HX'
    clear HX'
    have HY := HY'
    clear HY'
    have HG := HG'
    clear HG'
    have HQ := HQ'
    clear HQ'
    have HR := HR'
    clear HR'
    have HQ2 := HQ2'
    clear HQ2'
    have HR2 := HR2'
    clear HR2'
    have HB := HB'
    clear HB'
    go_wp2_with fail
    exact bodyPost_ret (v := .bool true) (by simp [results, Try.results8, go_sem]) rfl ⟨rfl, HB.out⟩

theorem natGcds_walk (A0 : Option Addr) (n0 c0 : Nat) (l0 : List Int) (A1 : Option Addr) (n1 c1 : Nat) (l1 : List Int) (A2 : Option Addr) (n2 c2 : Nat) (l2 : List Int) (w : World) (h0 : InI .u8 1 1 w A0 n0 c0 l0) (h1 : InI .u8 1 1 w A1 n1 c1 l1) (h2 : InI .u8 1 1 w A2 n2 c2 l2) :
    Calls Try.prog 8 #[.slice A0 n0 c0, .slice A1 n1 c1, .slice A2 n2 c2] w fun e w' => e = .returned (.bool true) ∧ Below w.heap.size w w' :=
  natGcds_walk0 A0 n0 c0 _ A1 n1 c1 _ A2 n2 c2 _ w (bat_in h0) h0.le (bat_in h1) h1.le (bat_in h2) h2.le
end Go.Proofs.Ytijbhbjenddiaaa
