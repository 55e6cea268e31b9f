/-
  NatLaws: the walk.
-/
import Derived.Deep.CutRange
import Derived.Deep.DeepCutAuto
import Derived.Test.YtijbhbjenddiaaaAY
set_option linter.unusedVariables false
set_option linter.unusedSimpArgs false
namespace Go.Proofs.Ytijbhbjenddiaaa
open Go.RowKit

set_option maxRecDepth 100000 in
set_option maxHeartbeats 20000000 in
theorem natLaws_walk0 (A0 : Option Addr) (n0 c0 : Nat) (l0 : List Nat) (A1 : Option Addr) (n1 c1 : Nat) (l1 : List Nat) (A2 : Option Addr) (n2 c2 : Nat) (l2 : List Nat) (w : World) (h0 : BAt w A0 n0 c0 l0) (m0 : n0 ≤ c0) (h1 : BAt w A1 n1 c1 l1) (m1 : n1 ≤ c1) (h2 : BAt w A2 n2 c2 l2) (m2 : n2 ≤ c2) :
    Calls Try.prog 9 #[.slice A0 n0 c0, .slice A1 n1 c1, .slice A2 n2 c2] w fun e w' => e = .returned (.bool true) ∧ Below w.heap.size w w' := by
  go_enter Try.func9, Try.ntmps9
  go_wp2_with fail
  refine (cut_any A0 n0 c0 l0 _ h0 m0).mono ?_
  rintro e wa0 ⟨k0, rfl, hc0, hk0, rfl⟩
  clear h0
  go_wp2_with fail
  refine (frombytes_sz A0 k0 c0 _ _ hc0 (by omega)).mono ?_
  rintro e v0 ⟨B0, b0, d0, rfl, hd0, hn0, hb⟩
  generalize bev (l0.take 600) = x at hd0
  have hB0 := hb
  have h1 := h1.below hb
  have h2 := h2.below hb
  clear hb hc0
  go_wp2_with fail
  refine (cut_any A1 n1 c1 l1 _ h1 m1).mono ?_
  rintro e wa1 ⟨k1, rfl, hc1, hk1, rfl⟩
  clear h1
  go_wp2_with fail
  refine (frombytes_sz A1 k1 c1 _ _ hc1 (by omega)).mono ?_
  rintro e v1 ⟨B1, b1, d1, rfl, hd1, hn1, hb⟩
  generalize bev (l1.take 600) = y at hd1
  have hB1 := aft_call hB0 hb
  have hd0 := hd0.below hb
  have h2 := h2.below hb
  clear hb hc1 hB0
  go_wp2_with fail
  refine (cut_any A2 n2 c2 l2 _ h2 m2).mono ?_
  rintro e wa2 ⟨k2, rfl, hc2, hk2, rfl⟩
  clear h2
  go_wp2_with fail
  refine (frombytes_sz A2 k2 c2 _ _ hc2 (by omega)).mono ?_
  rintro e v2 ⟨B2, b2, d2, rfl, hd2, hn2, hb⟩
  generalize bev (l2.take 600) = z at hd2
  have hB2 := aft_call hB1 hb
  have hd0 := hd0.below hb
  have hd1 := hd1.below hb
  clear hb hc2 hB1
  have hx0 : Bx (((v2.alloc (.cells #[.slice B0 b0 d0] 25)).alloc (.cells #[.slice B1 b1 d1] 25)).alloc (.cells #[.slice B2 b2 d2] 25)) (v2.heap.size) B0 b0 d0 x := by have := (((Bx.new hd0).al (.cells #[.slice B1 b1 d1] 25)).al (.cells #[.slice B2 b2 d2] 25)); simpa only [World.size_alloc] using this
  have hx1 : Bx (((v2.alloc (.cells #[.slice B0 b0 d0] 25)).alloc (.cells #[.slice B1 b1 d1] 25)).alloc (.cells #[.slice B2 b2 d2] 25)) (v2.heap.size + 1) B1 b1 d1 y := by have := ((Bx.new (hd1.al (.cells #[.slice B0 b0 d0] 25))).al (.cells #[.slice B2 b2 d2] 25)); simpa only [World.size_alloc] using this
  have hx2 : Bx (((v2.alloc (.cells #[.slice B0 b0 d0] 25)).alloc (.cells #[.slice B1 b1 d1] 25)).alloc (.cells #[.slice B2 b2 d2] 25)) (v2.heap.size + 1 + 1) B2 b2 d2 z := by have := (Bx.new ((hd2.al (.cells #[.slice B0 b0 d0] 25)).al (.cells #[.slice B1 b1 d1] 25))); simpa only [World.size_alloc] using this
  have HB := Lib.hid (aft_al (aft_al (aft_al hB2 (.cells #[.slice B0 b0 d0] 25)) (.cells #[.slice B1 b1 d1] 25)) (.cells #[.slice B2 b2 d2] 25))
  have HX := Lib.hid hx0
  have HY := Lib.hid hx1
  have HZ := Lib.hid hx2
  clear hx0 hd0 hx1 hd1 hx2 hd2 hB2
  go_wp2_with fail
  generalize (((v2.alloc (.cells #[.slice B0 b0 d0] 25)).alloc (.cells #[.slice B1 b1 d1] 25)).alloc (.cells #[.slice B2 b2 d2] 25)) = V at *
  generalize hp2 : v2.heap.size + 1 + 1 = p2 at *
  generalize hp1 : v2.heap.size + 1 = p1 at *
  generalize hp0 : v2.heap.size = p0 at *
  have hpp : p0 < p1 ∧ p1 < p2 := by omega
  clear hp0 hp1 hp2
  have lX := HX.out.lt
  have lY := HY.out.lt
  have lZ := HZ.out.lt
  have lw := HB.out.size
  skip
  have HXV := HX
  have HYV := HY
  go_cut [10, 11] (fun s10 s11 wx => ∃ p0r A0r n0r c0r, s10 = .pointer (some ⟨p0r, 0, none⟩) ∧ s11 = .bool true ∧ Bx wx p0 B0 b0 d0 (x) ∧ Bx wx p1 B1 b1 d1 (y) ∧ Bx wx p2 B2 b2 d2 (z) ∧ Bx wx p0r A0r n0r c0r (((x + y) - y)) ∧ n0r ≤ 4000 ∧ Below w.heap.size w wx)
  case first =>
    go_region_held3 (fun w' => w'.cell? ⟨p0, 0, none⟩ = some (.slice B0 b0 d0) ∧ w'.cell? ⟨p1, 0, none⟩ = some (.slice B1 b1 d1)) (first | exact ⟨HXV.out.cell, HYV.out.cell⟩ | exact ⟨(HXV.out.al _).cell, (HYV.out.al _).cell⟩ | exact ⟨((HXV.out.al _).al _).cell, ((HYV.out.al _).al _).cell⟩ | exact ⟨HXS1.out.cell, HYS1.out.cell⟩ | exact ⟨(HXS1.out.al _).cell, (HYS1.out.al _).cell⟩ | exact ⟨((HXS1.out.al _).al _).cell, ((HYS1.out.al _).al _).cell⟩ | exact ⟨HXS2.out.cell, HYS2.out.cell⟩ | exact ⟨(HXS2.out.al _).cell, (HYS2.out.al _).cell⟩ | exact ⟨((HXS2.out.al _).al _).cell, ((HYS2.out.al _).al _).cell⟩ | exact ⟨(Bx.far HX.out K1.out (by omega) _).cell, (Bx.far HY.out K1.out (by omega) _).cell⟩ | go_keep) (first
      | (go_at_call 20; (with_reducible refine (add_sz B0 b0 d0 (x) B1 b1 d1 (y) _ (by first | exact HX.out.drew.at_ | exact ((HX.out.al _).drew).at_ | exact (((HX.out.al _).al _).drew).at_) (by first | exact HY.out.drew.at_ | exact ((HY.out.al _).drew).at_ | exact (((HY.out.al _).al _).drew).at_) (by omega) (by omega)).mono ?_); rintro e w1x ⟨A1x, n1x, c1x, rfl, hd, hnn1x, hb⟩; (first | (have HX' := Lib.hid (HX.out.drew.below hb)) | (have HX' := Lib.hid (((HX.out.al _).drew).below hb)) | (have HX' := Lib.hid ((((HX.out.al _).al _).drew).below hb))); (first | (have HY' := Lib.hid (HY.out.drew.below hb)) | (have HY' := Lib.hid (((HY.out.al _).drew).below hb)) | (have HY' := Lib.hid ((((HY.out.al _).al _).drew).below hb))); (first | (have HZ' := Lib.hid (HZ.out.drew.below hb)) | (have HZ' := Lib.hid (((HZ.out.al _).drew).below hb)) | (have HZ' := Lib.hid ((((HZ.out.al _).al _).drew).below hb))); (first | (have HB' := Lib.hid (aft_call HB.out.drew hb)) | (have HB' := Lib.hid (aft_call (aft_al HB.out _).drew hb)) | (have HB' := Lib.hid (aft_call (aft_al (aft_al HB.out _) _).drew hb))); (first | (have K1' := Lib.hid (K1.out.below hb); clear K1) | (have K1' := Lib.hid (((Bx.new (w := V) DAt.nil).drew).below hb)) | skip); (try have K1 := K1'); (try clear K1'); (try have lk1 := K1.out.lt); have Ht' := Lib.hid hd; clear HX HY HZ HB hd hb; have HX := HX'; clear HX'; have HY := HY'; clear HY'; have HZ := HZ'; clear HZ'; have HB := HB'; clear HB'; have Ht := Ht'; clear Ht'; have lX := HX.out.lt; have lY := HY.out.lt; have lZ := HZ.out.lt; have lz := HB.out.size; have HXS1 := HX; have HYS1 := HY)
      | (go_at_call 37; (with_reducible refine (sub_ge A1x n1x c1x ((x + y)) B1 b1 d1 (y) _ (by first | exact Ht.out | exact ((Ht.out.al _)) | exact (((Ht.out.al _).al _))) (by first | exact HY.out.at_ | exact ((HY.out.al _)).at_ | exact (((HY.out.al _).al _)).at_) (by omega) (by omega) (Nat.le_add_left y x)).mono ?_); rintro e w2x ⟨A2x, n2x, c2x, rfl, hd, hnn2x, hb⟩; (first | (have HX' := Lib.hid (HX.out.below hb)) | (have HX' := Lib.hid (((HX.out.al _)).below hb)) | (have HX' := Lib.hid ((((HX.out.al _).al _)).below hb))); (first | (have HY' := Lib.hid (HY.out.below hb)) | (have HY' := Lib.hid (((HY.out.al _)).below hb)) | (have HY' := Lib.hid ((((HY.out.al _).al _)).below hb))); (first | (have HZ' := Lib.hid (HZ.out.below hb)) | (have HZ' := Lib.hid (((HZ.out.al _)).below hb)) | (have HZ' := Lib.hid ((((HZ.out.al _).al _)).below hb))); (first | (have HB' := Lib.hid (aft_call HB.out hb)) | (have HB' := Lib.hid (aft_call (aft_al HB.out _) hb)) | (have HB' := Lib.hid (aft_call (aft_al (aft_al HB.out _) _) hb))); (first | (have K1' := Lib.hid (K1.out.below hb); clear K1) | (have K1' := Lib.hid (((Bx.new (w := w1x) DAt.nil)).below hb)) | skip); (try have K1 := K1'); (try clear K1'); (try have lk1 := K1.out.lt); have Hd' := Lib.hid hd; clear HX HY HZ Ht HB hd hb; have HX := HX'; clear HX'; have HY := HY'; clear HY'; have HZ := HZ'; clear HZ'; have HB := HB'; clear HB'; have Hd := Hd'; clear Hd'; have lX := HX.out.lt; have lY := HY.out.lt; have lZ := HZ.out.lt; have lz := HB.out.size; have HXS2 := HX; have HYS2 := HY; (first | (have q1 := K1.out.cell; have r1 := K1.out.fr) | skip)))
    all_goals
      go_wp2_with fail
      go_meet
      first
      | exact ⟨_, A2x, n2x, c2x, rfl, rfl, Bx.far HX.out K1.out (by omega) _, Bx.far HY.out K1.out (by omega) _, Bx.far HZ.out K1.out (by omega) _, Bx.st K1.out Hd.out, (by omega), aft_set HB.out (by omega) _⟩
      | exact ⟨_, A2x, n2x, c2x, rfl, rfl, HX.out.al _, HY.out.al _, HZ.out.al _, Bx.new Hd.out, (by omega), aft_al HB.out _⟩
  case rest =>
    clear HX HY HZ HB HXV HYV lX lY lZ lw
    obtain ⟨p3_0, A3_0, n3_0, c3_0, rfl, rfl, hX, hY, hZ, hD, hn3_0, hB⟩ := hcut
    have HX := Lib.hid hX
    have HY := Lib.hid hY
    have HZ := Lib.hid hZ
    have HD := Lib.hid hD
    have HB := Lib.hid hB
    clear hX hY hZ hD hB
    go_wp2_with fail
    go_region_held3 (fun w' => w'.cell? ⟨p0, 0, none⟩ = some (.slice B0 b0 d0) ∧ w'.cell? ⟨p1, 0, none⟩ = some (.slice B1 b1 d1) ∧ w'.cell? ⟨p3_0, 0, none⟩ = some (.slice A3_0 n3_0 c3_0)) (first | exact ⟨HX.out.cell, HY.out.cell, HD.out.cell⟩ | exact ⟨HX.out.drew.cell, HY.out.drew.cell, HD.out.drew.cell⟩ | go_keep) (first
      | (go_at_call 18; (with_reducible refine (eq_same A3_0 n3_0 c3_0 B0 b0 d0 (((x + y) - y)) wc.drew HD.out.drew.at_ (Eq.subst (motive := fun z => DAt B64 wc.drew B0 b0 d0 z) (Nat.add_sub_cancel (n := x) (m := y)).symm HX.out.drew.at_) (by omega) (by omega)).mono ?_); rintro e w4x ⟨rfl, hb⟩; have HX' := Lib.hid (HX.out.drew.below hb); have HY' := Lib.hid (HY.out.drew.below hb); have HZ' := Lib.hid (HZ.out.drew.below hb); have HD' := Lib.hid (HD.out.drew.below hb); have HB' := Lib.hid (aft_call HB.out.drew hb); clear HX HY HZ HD HB hb; have HX := HX'; clear HX'; have HY := HY'; clear HY'; have HZ := HZ'; clear HZ'; have HD := HD'; clear HD'; have HB := HB'; clear HB')
      | (go_at_call 20; (with_reducible refine (add_sz B0 b0 d0 (x) B1 b1 d1 (y) w4x HX.out.at_ HY.out.at_ (by omega) (by omega)).mono ?_); rintro e w5x ⟨A3x, n3x, c3x, rfl, hd, hnn3x, hb⟩; have HX' := Lib.hid (HX.out.below hb); have HY' := Lib.hid (HY.out.below hb); have HZ' := Lib.hid (HZ.out.below hb); have HD' := Lib.hid (HD.out.below hb); have HB' := Lib.hid (aft_call HB.out hb); have Hu' := Lib.hid hd; clear HX HY HZ HD HB hd hb; have HX := HX'; clear HX'; have HY := HY'; clear HY'; have HZ := HZ'; clear HZ'; have HD := HD'; clear HD'; have HB := HB'; clear HB'; have Hu := Hu'; clear Hu')
      | (go_at_call 20; (with_reducible refine (add_sz B1 b1 d1 (y) B0 b0 d0 (x) w5x HY.out.at_ HX.out.at_ (by omega) (by omega)).mono ?_); rintro e w6x ⟨A4x, n4x, c4x, rfl, hd, hnn4x, hb⟩; have HX' := Lib.hid (HX.out.below hb); have HY' := Lib.hid (HY.out.below hb); have HZ' := Lib.hid (HZ.out.below hb); have HD' := Lib.hid (HD.out.below hb); have Hu' := Lib.hid (Hu.out.below hb); have HB' := Lib.hid (aft_call HB.out hb); have Hv' := Lib.hid hd; clear HX HY HZ HD Hu HB hd hb; have HX := HX'; clear HX'; have HY := HY'; clear HY'; have HZ := HZ'; clear HZ'; have HD := HD'; clear HD'; have Hu := Hu'; clear Hu'; have HB := HB'; clear HB'; have Hv := Hv'; clear Hv')
      | (go_at_call 18; (with_reducible refine (eq_same A3x n3x c3x A4x n4x c4x ((x + y)) w6x Hu.out (Eq.subst (motive := fun z => DAt B64 w6x A4x n4x c4x z) (Nat.add_comm y x) Hv.out) (by omega) (by omega)).mono ?_); rintro e w7x ⟨rfl, hb⟩; have HX' := Lib.hid (HX.out.below hb); have HY' := Lib.hid (HY.out.below hb); have HZ' := Lib.hid (HZ.out.below hb); have HD' := Lib.hid (HD.out.below hb); have HB' := Lib.hid (aft_call HB.out hb); clear HX HY HZ HD Hu Hv HB hb; have HX := HX'; clear HX'; have HY := HY'; clear HY'; have HZ := HZ'; clear HZ'; have HD := HD'; clear HD'; have HB := HB'; clear HB')
      | (go_at_call 19; (with_reducible refine (mul_sz B0 b0 d0 (x) B1 b1 d1 (y) w7x HX.out.at_ HY.out.at_ (by omega) (by omega)).mono ?_); rintro e w8x ⟨A5x, n5x, c5x, rfl, hd, hnn5x, hb⟩; have HX' := Lib.hid (HX.out.below hb); have HY' := Lib.hid (HY.out.below hb); have HZ' := Lib.hid (HZ.out.below hb); have HD' := Lib.hid (HD.out.below hb); have HB' := Lib.hid (aft_call HB.out hb); have Hu' := Lib.hid hd; clear HX HY HZ HD HB hd hb; have HX := HX'; clear HX'; have HY := HY'; clear HY'; have HZ := HZ'; clear HZ'; have HD := HD'; clear HD'; have HB := HB'; clear HB'; have Hu := Hu'; clear Hu')
      | (go_at_call 19; (with_reducible refine (mul_sz B1 b1 d1 (y) B0 b0 d0 (x) w8x HY.out.at_ HX.out.at_ (by omega) (by omega)).mono ?_); rintro e w9x ⟨A6x, n6x, c6x, rfl, hd, hnn6x, hb⟩; have HX' := Lib.hid (HX.out.below hb); have HY' := Lib.hid (HY.out.below hb); have HZ' := Lib.hid (HZ.out.below hb); have HD' := Lib.hid (HD.out.below hb); have Hu' := Lib.hid (Hu.out.below hb); have HB' := Lib.hid (aft_call HB.out hb); have Hv' := Lib.hid hd; clear HX HY HZ HD Hu HB hd hb; have HX := HX'; clear HX'; have HY := HY'; clear HY'; have HZ := HZ'; clear HZ'; have HD := HD'; clear HD'; have Hu := Hu'; clear Hu'; have HB := HB'; clear HB'; have Hv := Hv'; clear Hv')
      | (go_at_call 18; (with_reducible refine (eq_same A5x n5x c5x A6x n6x c6x ((x * y)) w9x Hu.out (Eq.subst (motive := fun z => DAt B64 w9x A6x n6x c6x z) (Nat.mul_comm y x) Hv.out) (by omega) (by omega)).mono ?_); rintro e w10x ⟨rfl, hb⟩; have HX' := Lib.hid (HX.out.below hb); have HY' := Lib.hid (HY.out.below hb); have HZ' := Lib.hid (HZ.out.below hb); have HD' := Lib.hid (HD.out.below hb); have HB' := Lib.hid (aft_call HB.out hb); clear HX HY HZ HD Hu Hv HB hb; have HX := HX'; clear HX'; have HY := HY'; clear HY'; have HZ := HZ'; clear HZ'; have HD := HD'; clear HD'; have HB := HB'; clear HB'))
    clear HD
    go_wp2_with fail
    go_region_held3 (fun w' => w'.cell? ⟨p0, 0, none⟩ = some (.slice B0 b0 d0) ∧ w'.cell? ⟨p1, 0, none⟩ = some (.slice B1 b1 d1) ∧ w'.cell? ⟨p2, 0, none⟩ = some (.slice B2 b2 d2)) (first | exact ⟨HX.out.cell, HY.out.cell, HZ.out.cell⟩ | exact ⟨HX.out.drew.cell, HY.out.drew.cell, HZ.out.drew.cell⟩ | go_keep) (first
      | (go_at_call 20; (with_reducible refine (add_sz B0 b0 d0 (x) B1 b1 d1 (y) w10x.drew HX.out.drew.at_ HY.out.drew.at_ (by omega) (by omega)).mono ?_); rintro e w11x ⟨A7x, n7x, c7x, rfl, hd, hnn7x, hb⟩; have HX' := Lib.hid (HX.out.drew.below hb); have HY' := Lib.hid (HY.out.drew.below hb); have HZ' := Lib.hid (HZ.out.drew.below hb); have HB' := Lib.hid (aft_call HB.out.drew hb); have Hu' := Lib.hid hd; clear HX HY HZ HB hd hb; have HX := HX'; clear HX'; have HY := HY'; clear HY'; have HZ := HZ'; clear HZ'; have HB := HB'; clear HB'; have Hu := Hu'; clear Hu')
      | (go_at_call 20; (with_reducible refine (add_sz A7x n7x c7x ((x + y)) B2 b2 d2 (z) w11x Hu.out HZ.out.at_ (by omega) (by omega)).mono ?_); rintro e w12x ⟨A8x, n8x, c8x, rfl, hd, hnn8x, hb⟩; have HX' := Lib.hid (HX.out.below hb); have HY' := Lib.hid (HY.out.below hb); have HZ' := Lib.hid (HZ.out.below hb); have HB' := Lib.hid (aft_call HB.out hb); have Hv' := Lib.hid hd; clear HX HY HZ Hu HB hd hb; have HX := HX'; clear HX'; have HY := HY'; clear HY'; have HZ := HZ'; clear HZ'; have HB := HB'; clear HB'; have Hv := Hv'; clear Hv')
      | (go_at_call 20; (with_reducible refine (add_sz B1 b1 d1 (y) B2 b2 d2 (z) w12x HY.out.at_ HZ.out.at_ (by omega) (by omega)).mono ?_); rintro e w13x ⟨A9x, n9x, c9x, rfl, hd, hnn9x, hb⟩; have HX' := Lib.hid (HX.out.below hb); have HY' := Lib.hid (HY.out.below hb); have HZ' := Lib.hid (HZ.out.below hb); have Hv' := Lib.hid (Hv.out.below hb); have HB' := Lib.hid (aft_call HB.out hb); have Hs' := Lib.hid hd; clear HX HY HZ Hv HB hd hb; have HX := HX'; clear HX'; have HY := HY'; clear HY'; have HZ := HZ'; clear HZ'; have Hv := Hv'; clear Hv'; have HB := HB'; clear HB'; have Hs := Hs'; clear Hs')
      | (go_at_call 20; (with_reducible refine (add_sz B0 b0 d0 (x) A9x n9x c9x ((y + z)) w13x HX.out.at_ Hs.out (by omega) (by omega)).mono ?_); rintro e w14x ⟨A10x, n10x, c10x, rfl, hd, hnn10x, hb⟩; have HX' := Lib.hid (HX.out.below hb); have HY' := Lib.hid (HY.out.below hb); have HZ' := Lib.hid (HZ.out.below hb); have Hv' := Lib.hid (Hv.out.below hb); have HB' := Lib.hid (aft_call HB.out hb); have Ht' := Lib.hid hd; clear HX HY HZ Hv Hs HB hd hb; have HX := HX'; clear HX'; have HY := HY'; clear HY'; have HZ := HZ'; clear HZ'; have Hv := Hv'; clear Hv'; have HB := HB'; clear HB'; have Ht := Ht'; clear Ht')
      | (go_at_call 18; (with_reducible refine (eq_same A8x n8x c8x A10x n10x c10x (((x + y) + z)) w14x Hv.out (Eq.subst (motive := fun z => DAt B64 w14x A10x n10x c10x z) (Nat.add_assoc x y z).symm Ht.out) (by omega) (by omega)).mono ?_); rintro e w15x ⟨rfl, hb⟩; have HX' := Lib.hid (HX.out.below hb); have HY' := Lib.hid (HY.out.below hb); have HZ' := Lib.hid (HZ.out.below hb); have HB' := Lib.hid (aft_call HB.out hb); clear HX HY HZ Hv Ht HB hb; have HX := HX'; clear HX'; have HY := HY'; clear HY'; have HZ := HZ'; clear HZ'; have HB := HB'; clear HB')
      | (go_at_call 19; (with_reducible refine (mul_sz B0 b0 d0 (x) B1 b1 d1 (y) w15x HX.out.at_ HY.out.at_ (by omega) (by omega)).mono ?_); rintro e w16x ⟨A11x, n11x, c11x, rfl, hd, hnn11x, hb⟩; have HX' := Lib.hid (HX.out.below hb); have HY' := Lib.hid (HY.out.below hb); have HZ' := Lib.hid (HZ.out.below hb); have HB' := Lib.hid (aft_call HB.out hb); have Hu' := Lib.hid hd; clear HX HY HZ HB hd hb; have HX := HX'; clear HX'; have HY := HY'; clear HY'; have HZ := HZ'; clear HZ'; have HB := HB'; clear HB'; have Hu := Hu'; clear Hu')
      | (go_at_call 19; (with_reducible refine (mul_sz A11x n11x c11x ((x * y)) B2 b2 d2 (z) w16x Hu.out HZ.out.at_ (by omega) (by omega)).mono ?_); rintro e w17x ⟨A12x, n12x, c12x, rfl, hd, hnn12x, hb⟩; have HX' := Lib.hid (HX.out.below hb); have HY' := Lib.hid (HY.out.below hb); have HZ' := Lib.hid (HZ.out.below hb); have HB' := Lib.hid (aft_call HB.out hb); have Hv' := Lib.hid hd; clear HX HY HZ Hu HB hd hb; have HX := HX'; clear HX'; have HY := HY'; clear HY'; have HZ := HZ'; clear HZ'; have HB := HB'; clear HB'; have Hv := Hv'; clear Hv')
      | (go_at_call 19; (with_reducible refine (mul_sz B1 b1 d1 (y) B2 b2 d2 (z) w17x HY.out.at_ HZ.out.at_ (by omega) (by omega)).mono ?_); rintro e w18x ⟨A13x, n13x, c13x, rfl, hd, hnn13x, hb⟩; have HX' := Lib.hid (HX.out.below hb); have HY' := Lib.hid (HY.out.below hb); have HZ' := Lib.hid (HZ.out.below hb); have Hv' := Lib.hid (Hv.out.below hb); have HB' := Lib.hid (aft_call HB.out hb); have Hs' := Lib.hid hd; clear HX HY HZ Hv HB hd hb; have HX := HX'; clear HX'; have HY := HY'; clear HY'; have HZ := HZ'; clear HZ'; have Hv := Hv'; clear Hv'; have HB := HB'; clear HB'; have Hs := Hs'; clear Hs')
      | (go_at_call 19; (with_reducible refine (mul_sz B0 b0 d0 (x) A13x n13x c13x ((y * z)) w18x HX.out.at_ Hs.out (by omega) (by omega)).mono ?_); rintro e w19x ⟨A14x, n14x, c14x, rfl, hd, hnn14x, hb⟩; have HX' := Lib.hid (HX.out.below hb); have HY' := Lib.hid (HY.out.below hb); have HZ' := Lib.hid (HZ.out.below hb); have Hv' := Lib.hid (Hv.out.below hb); have HB' := Lib.hid (aft_call HB.out hb); have Ht' := Lib.hid hd; clear HX HY HZ Hv Hs HB hd hb; have HX := HX'; clear HX'; have HY := HY'; clear HY'; have HZ := HZ'; clear HZ'; have Hv := Hv'; clear Hv'; have HB := HB'; clear HB'; have Ht := Ht'; clear Ht')
      | (go_at_call 18; (with_reducible refine (eq_same A12x n12x c12x A14x n14x c14x (((x * y) * z)) w19x Hv.out (Eq.subst (motive := fun z => DAt B64 w19x A14x n14x c14x z) (Nat.mul_assoc x y z).symm Ht.out) (by omega) (by omega)).mono ?_); rintro e w20x ⟨rfl, hb⟩; have HX' := Lib.hid (HX.out.below hb); have HY' := Lib.hid (HY.out.below hb); have HZ' := Lib.hid (HZ.out.below hb); have HB' := Lib.hid (aft_call HB.out hb); clear HX HY HZ Hv Ht HB hb; have HX := HX'; clear HX'; have HY := HY'; clear HY'; have HZ := HZ'; clear HZ'; have HB := HB'; clear HB'))
    go_wp2_with fail
    have o1 := fun wq : World => of_sz 1 (by rw [B64_eq]; omega) wq
    rw [show ((1 : Nat) : Int) = 1 from rfl] at o1
    have O1 := Lib.hid o1
    clear o1
    go_region_held3 (fun w' => w'.cell? ⟨p0, 0, none⟩ = some (.slice B0 b0 d0) ∧ w'.cell? ⟨p1, 0, none⟩ = some (.slice B1 b1 d1) ∧ w'.cell? ⟨p2, 0, none⟩ = some (.slice B2 b2 d2)) (first | exact ⟨HX.out.cell, HY.out.cell, HZ.out.cell⟩ | exact ⟨HX.out.drew.cell, HY.out.drew.cell, HZ.out.drew.cell⟩ | go_keep) (first
      | (go_at_call 20; (with_reducible refine (add_sz B1 b1 d1 (y) B2 b2 d2 (z) w20x.drew HY.out.drew.at_ HZ.out.drew.at_ (by omega) (by omega)).mono ?_); rintro e w21x ⟨A15x, n15x, c15x, rfl, hd, hnn15x, hb⟩; have HX' := Lib.hid (HX.out.drew.below hb); have HY' := Lib.hid (HY.out.drew.below hb); have HZ' := Lib.hid (HZ.out.drew.below hb); have HB' := Lib.hid (aft_call HB.out.drew hb); have Hs' := Lib.hid hd; clear HX HY HZ HB hd hb; have HX := HX'; clear HX'; have HY := HY'; clear HY'; have HZ := HZ'; clear HZ'; have HB := HB'; clear HB'; have Hs := Hs'; clear Hs')
      | (go_at_call 19; (with_reducible refine (mul_sz B0 b0 d0 (x) A15x n15x c15x ((y + z)) w21x HX.out.at_ Hs.out (by omega) (by omega)).mono ?_); rintro e w22x ⟨A16x, n16x, c16x, rfl, hd, hnn16x, hb⟩; have HX' := Lib.hid (HX.out.below hb); have HY' := Lib.hid (HY.out.below hb); have HZ' := Lib.hid (HZ.out.below hb); have HB' := Lib.hid (aft_call HB.out hb); have Ht' := Lib.hid hd; clear HX HY HZ Hs HB hd hb; have HX := HX'; clear HX'; have HY := HY'; clear HY'; have HZ := HZ'; clear HZ'; have HB := HB'; clear HB'; have Ht := Ht'; clear Ht')
      | (go_at_call 19; (with_reducible refine (mul_sz B0 b0 d0 (x) B1 b1 d1 (y) w22x HX.out.at_ HY.out.at_ (by omega) (by omega)).mono ?_); rintro e w23x ⟨A17x, n17x, c17x, rfl, hd, hnn17x, hb⟩; have HX' := Lib.hid (HX.out.below hb); have HY' := Lib.hid (HY.out.below hb); have HZ' := Lib.hid (HZ.out.below hb); have Ht' := Lib.hid (Ht.out.below hb); have HB' := Lib.hid (aft_call HB.out hb); have Hu' := Lib.hid hd; clear HX HY HZ Ht HB hd hb; have HX := HX'; clear HX'; have HY := HY'; clear HY'; have HZ := HZ'; clear HZ'; have Ht := Ht'; clear Ht'; have HB := HB'; clear HB'; have Hu := Hu'; clear Hu')
      | (go_at_call 19; (with_reducible refine (mul_sz B0 b0 d0 (x) B2 b2 d2 (z) w23x HX.out.at_ HZ.out.at_ (by omega) (by omega)).mono ?_); rintro e w24x ⟨A18x, n18x, c18x, rfl, hd, hnn18x, hb⟩; have HX' := Lib.hid (HX.out.below hb); have HY' := Lib.hid (HY.out.below hb); have HZ' := Lib.hid (HZ.out.below hb); have Ht' := Lib.hid (Ht.out.below hb); have Hu' := Lib.hid (Hu.out.below hb); have HB' := Lib.hid (aft_call HB.out hb); have Hv' := Lib.hid hd; clear HX HY HZ Ht Hu HB hd hb; have HX := HX'; clear HX'; have HY := HY'; clear HY'; have HZ := HZ'; clear HZ'; have Ht := Ht'; clear Ht'; have Hu := Hu'; clear Hu'; have HB := HB'; clear HB'; have Hv := Hv'; clear Hv')
      | (go_at_call 20; (with_reducible refine (add_sz A17x n17x c17x ((x * y)) A18x n18x c18x ((x * z)) w24x Hu.out Hv.out (by omega) (by omega)).mono ?_); rintro e w25x ⟨A19x, n19x, c19x, rfl, hd, hnn19x, hb⟩; have HX' := Lib.hid (HX.out.below hb); have HY' := Lib.hid (HY.out.below hb); have HZ' := Lib.hid (HZ.out.below hb); have Ht' := Lib.hid (Ht.out.below hb); have HB' := Lib.hid (aft_call HB.out hb); have Hr' := Lib.hid hd; clear HX HY HZ Ht Hu Hv HB hd hb; have HX := HX'; clear HX'; have HY := HY'; clear HY'; have HZ := HZ'; clear HZ'; have Ht := Ht'; clear Ht'; have HB := HB'; clear HB'; have Hr := Hr'; clear Hr')
      | (go_at_call 18; (with_reducible refine (eq_same A16x n16x c16x A19x n19x c19x ((x * (y + z))) w25x Ht.out (Eq.subst (motive := fun z => DAt B64 w25x A19x n19x c19x z) (Nat.mul_add x y z).symm Hr.out) (by omega) (by omega)).mono ?_); rintro e w26x ⟨rfl, hb⟩; have HX' := Lib.hid (HX.out.below hb); have HY' := Lib.hid (HY.out.below hb); have HZ' := Lib.hid (HZ.out.below hb); have HB' := Lib.hid (aft_call HB.out hb); clear HX HY HZ Ht Hr HB hb; have HX := HX'; clear HX'; have HY := HY'; clear HY'; have HZ := HZ'; clear HZ'; have HB := HB'; clear HB')
      | (go_at_call 28; (with_reducible refine (O1.out w26x).mono ?_); rintro e w27x ⟨A20x, n20x, c20x, rfl, hd, hnn20x, hb⟩; have HX' := Lib.hid (HX.out.below hb); have HY' := Lib.hid (HY.out.below hb); have HZ' := Lib.hid (HZ.out.below hb); have HB' := Lib.hid (aft_call HB.out hb); have Hone' := Lib.hid hd; clear HX HY HZ HB hd hb; have HX := HX'; clear HX'; have HY := HY'; clear HY'; have HZ := HZ'; clear HZ'; have HB := HB'; clear HB'; have Hone := Hone'; clear Hone')
      | (go_at_call 19; (with_reducible refine (mul_sz B0 b0 d0 (x) A20x n20x c20x (1) w27x HX.out.at_ Hone.out (by omega) (by omega)).mono ?_); rintro e w28x ⟨A21x, n21x, c21x, rfl, hd, hnn21x, hb⟩; have HX' := Lib.hid (HX.out.below hb); have HY' := Lib.hid (HY.out.below hb); have HZ' := Lib.hid (HZ.out.below hb); have HB' := Lib.hid (aft_call HB.out hb); have Ht' := Lib.hid hd; clear HX HY HZ Hone HB hd hb; have HX := HX'; clear HX'; have HY := HY'; clear HY'; have HZ := HZ'; clear HZ'; have HB := HB'; clear HB'; have Ht := Ht'; clear Ht')
      | (go_at_call 18; (with_reducible refine (eq_same A21x n21x c21x B0 b0 d0 ((x * 1)) w28x Ht.out (Eq.subst (motive := fun z => DAt B64 w28x B0 b0 d0 z) (Nat.mul_one x).symm HX.out.at_) (by omega) (by omega)).mono ?_); rintro e w29x ⟨rfl, hb⟩; have HX' := Lib.hid (HX.out.below hb); have HY' := Lib.hid (HY.out.below hb); have HZ' := Lib.hid (HZ.out.below hb); have HB' := Lib.hid (aft_call HB.out hb); clear HX HY HZ Ht HB hb; have HX := HX'; clear HX'; have HY := HY'; clear HY'; have HZ := HZ'; clear HZ'; have HB := HB'; clear HB')
      | (go_at_call 20; (with_reducible refine (add_sz B0 b0 d0 (x) none 0 0 (0) w29x HX.out.at_ DAt.nil (by omega) (by omega)).mono ?_); rintro e w30x ⟨A22x, n22x, c22x, rfl, hd, hnn22x, hb⟩; have HX' := Lib.hid (HX.out.below hb); have HY' := Lib.hid (HY.out.below hb); have HZ' := Lib.hid (HZ.out.below hb); have HB' := Lib.hid (aft_call HB.out hb); have Ht' := Lib.hid hd; clear HX HY HZ HB hd hb; have HX := HX'; clear HX'; have HY := HY'; clear HY'; have HZ := HZ'; clear HZ'; have HB := HB'; clear HB'; have Ht := Ht'; clear Ht')
      | (go_at_call 18; (with_reducible refine (eq_same A22x n22x c22x B0 b0 d0 ((x + 0)) w30x Ht.out (Eq.subst (motive := fun z => DAt B64 w30x B0 b0 d0 z) (Nat.add_zero x).symm HX.out.at_) (by omega) (by omega)).mono ?_); rintro e w31x ⟨rfl, hb⟩; have HX' := Lib.hid (HX.out.below hb); have HY' := Lib.hid (HY.out.below hb); have HZ' := Lib.hid (HZ.out.below hb); have HB' := Lib.hid (aft_call HB.out hb); clear HX HY HZ Ht HB hb; have HX := HX'; clear HX'; have HY := HY'; clear HY'; have HZ := HZ'; clear HZ'; have HB := HB'; clear HB')
      | (go_at_call 21; (with_reducible refine (started_any w31x).mono ?_); rintro e w32x ⟨rfl, hb⟩; have HX' := Lib.hid (HX.out.below hb); have HY' := Lib.hid (HY.out.below hb); have HZ' := Lib.hid (HZ.out.below hb); have HB' := Lib.hid (aft_call HB.out hb); clear HX HY HZ HB hb; have HX := HX'; clear HX'; have HY := HY'; clear HY'; have HZ := HZ'; clear HZ'; have HB := HB'; clear HB'))
    go_wp2_with fail
    exact bodyPost_ret (v := .bool true) (by simp [results, Try.results9, go_sem]) rfl ⟨rfl, HB.out⟩

theorem natLaws_walk (A0 : Option Addr) (n0 c0 : Nat) (l0 : List Int) (A1 : Option Addr) (n1 c1 : Nat) (l1 : List Int) (A2 : Option Addr) (n2 c2 : Nat) (l2 : List Int) (w : World) (h0 : InI .u8 1 1 w A0 n0 c0 l0) (h1 : InI .u8 1 1 w A1 n1 c1 l1) (h2 : InI .u8 1 1 w A2 n2 c2 l2) :
    Calls Try.prog 9 #[.slice A0 n0 c0, .slice A1 n1 c1, .slice A2 n2 c2] w fun e w' => e = .returned (.bool true) ∧ Below w.heap.size w w' :=
  natLaws_walk0 A0 n0 c0 _ A1 n1 c1 _ A2 n2 c2 _ w (bat_in h0) h0.le (bat_in h1) h1.le (bat_in h2) h2.le
end Go.Proofs.Ytijbhbjenddiaaa
