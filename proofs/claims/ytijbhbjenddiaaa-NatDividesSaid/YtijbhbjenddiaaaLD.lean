/-
  NatDivides: the walk.
-/
import Derived.Deep.CutRange
import Derived.Deep.DeepCutAuto
import Derived.Test.YtijbhbjenddiaaaBA
import Derived.Test.YtijbhbjenddiaaaAY
set_option linter.unusedVariables false
set_option linter.unusedSimpArgs false
namespace Go.Proofs.Ytijbhbjenddiaaa
open Go.RowKit

set_option maxRecDepth 100000 in
set_option maxHeartbeats 20000000 in
theorem natDivides_walk0 (A0 : Option Addr) (n0 c0 : Nat) (l0 : List Nat) (A1 : Option Addr) (n1 c1 : Nat) (l1 : List Nat) (A2 : Option Addr) (n2 c2 : Nat) (l2 : List Nat) (w : World) (h0 : BAt w A0 n0 c0 l0) (m0 : n0 ≤ c0) (h1 : BAt w A1 n1 c1 l1) (m1 : n1 ≤ c1) (h2 : BAt w A2 n2 c2 l2) (m2 : n2 ≤ c2) :
    Calls Try.prog 3 #[.slice A0 n0 c0, .slice A1 n1 c1, .slice A2 n2 c2] w fun e w' => e = .returned (.bool true) ∧ Below w.heap.size w w' := by
  go_enter Try.func3, Try.ntmps3
  go_wp2_with fail
  refine (cut_any A0 n0 c0 l0 _ h0 m0).mono ?_
  rintro e wa0 ⟨k0, rfl, hc0, hk0, rfl⟩
  clear h0
  go_wp2_with fail
  refine (frombytes_sz A0 k0 c0 _ _ hc0 (by omega)).mono ?_
  rintro e v0 ⟨B0, b0, d0, rfl, hd0, hn0, hb⟩
  generalize bev (l0.take 600) = x at hd0
  have hB0 := hb
  have h1 := h1.below hb
  have h2 := h2.below hb
  clear hb hc0
  go_wp2_with fail
  refine (cut_any A1 n1 c1 l1 _ h1 m1).mono ?_
  rintro e wa1 ⟨k1, rfl, hc1, hk1, rfl⟩
  clear h1
  go_wp2_with fail
  refine (frombytes_sz A1 k1 c1 _ _ hc1 (by omega)).mono ?_
  rintro e v1 ⟨B1, b1, d1, rfl, hd1, hn1, hb⟩
  generalize bev (l1.take 600) = y at hd1
  have hB1 := aft_call hB0 hb
  have hd0 := hd0.below hb
  have h2 := h2.below hb
  clear hb hc1 hB0
  go_wp2_with fail
  refine (cut_any A2 n2 c2 l2 _ h2 m2).mono ?_
  rintro e wa2 ⟨k2, rfl, hc2, hk2, rfl⟩
  clear h2
  go_wp2_with fail
  refine (frombytes_sz A2 k2 c2 _ _ hc2 (by omega)).mono ?_
  rintro e v2 ⟨B2, b2, d2, rfl, hd2, hn2, hb⟩
  generalize bev (l2.take 600) = z at hd2
  have hB2 := aft_call hB1 hb
  have hd0 := hd0.below hb
  have hd1 := hd1.below hb
  clear hb hc2 hB1
  have hx0 : Bx (((v2.alloc (.cells #[.slice B0 b0 d0] 25)).alloc (.cells #[.slice B1 b1 d1] 25)).alloc (.cells #[.slice B2 b2 d2] 25)) (v2.heap.size) B0 b0 d0 x := by have := (((Bx.new hd0).al (.cells #[.slice B1 b1 d1] 25)).al (.cells #[.slice B2 b2 d2] 25)); simpa only [World.size_alloc] using this
  have hx1 : Bx (((v2.alloc (.cells #[.slice B0 b0 d0] 25)).alloc (.cells #[.slice B1 b1 d1] 25)).alloc (.cells #[.slice B2 b2 d2] 25)) (v2.heap.size + 1) B1 b1 d1 y := by have := ((Bx.new (hd1.al (.cells #[.slice B0 b0 d0] 25))).al (.cells #[.slice B2 b2 d2] 25)); simpa only [World.size_alloc] using this
  have hx2 : Bx (((v2.alloc (.cells #[.slice B0 b0 d0] 25)).alloc (.cells #[.slice B1 b1 d1] 25)).alloc (.cells #[.slice B2 b2 d2] 25)) (v2.heap.size + 1 + 1) B2 b2 d2 z := by have := (Bx.new ((hd2.al (.cells #[.slice B0 b0 d0] 25)).al (.cells #[.slice B1 b1 d1] 25))); simpa only [World.size_alloc] using this
  have HB := Lib.hid (aft_al (aft_al (aft_al hB2 (.cells #[.slice B0 b0 d0] 25)) (.cells #[.slice B1 b1 d1] 25)) (.cells #[.slice B2 b2 d2] 25))
  have HX := Lib.hid hx0
  have HY := Lib.hid hx1
  have HZ := Lib.hid hx2
  clear hx0 hd0 hx1 hd1 hx2 hd2 hB2
  go_wp2_with fail
  generalize (((v2.alloc (.cells #[.slice B0 b0 d0] 25)).alloc (.cells #[.slice B1 b1 d1] 25)).alloc (.cells #[.slice B2 b2 d2] 25)) = V at *
  generalize hp2 : v2.heap.size + 1 + 1 = p2 at *
  generalize hp1 : v2.heap.size + 1 = p1 at *
  generalize hp0 : v2.heap.size = p0 at *
  have hpp : p0 < p1 ∧ p1 < p2 := by omega
  clear hp0 hp1 hp2
  by_cases hy : y = 0
  · skip
    refine (divmod_zero B0 b0 d0 (x) B1 b1 d1 (y) V HX.out.at_ HY.out.at_ (by omega) (by omega) hy).mono ?_
    rintro e w1x ⟨A1x, n1x, c1x, A2x, n2x, c2x, rfl, hd, hd2, hnn1x, hnn2x, hb⟩
    have HX' := Lib.hid (HX.out.below hb)
    have HY' := Lib.hid (HY.out.below hb)
    have HZ' := Lib.hid (HZ.out.below hb)
    have HB' := Lib.hid (aft_call HB.out hb)
    have Hq1' := Lib.hid hd
    have Hr1' := Lib.hid hd2
    clear HX HY HZ HB hd hd2 hb
    have HX := HX'
    clear HX'
    have HY := HY'
    clear HY'
    have HZ := HZ'
    clear HZ'
    have HB := HB'
    clear HB'
    have Hq1 := Hq1'
    clear Hq1'
    have Hr1 := Hr1'
    clear Hr1'
    have HX' := Lib.hid ((HX.out.al (.cells #[.slice A1x n1x c1x] 25)).al (.cells #[.slice A2x n2x c2x] 25))
    have HY' := Lib.hid ((HY.out.al (.cells #[.slice A1x n1x c1x] 25)).al (.cells #[.slice A2x n2x c2x] 25))
    have HZ' := Lib.hid ((HZ.out.al (.cells #[.slice A1x n1x c1x] 25)).al (.cells #[.slice A2x n2x c2x] 25))
    have HB' := Lib.hid (aft_al (aft_al HB.out (.cells #[.slice A1x n1x c1x] 25)) (.cells #[.slice A2x n2x c2x] 25))
    have hQ' : Bx ((w1x.alloc (.cells #[.slice A1x n1x c1x] 25)).alloc (.cells #[.slice A2x n2x c2x] 25)) (w1x.heap.size) A1x n1x c1x (0) := by have := ((Bx.new Hq1.out).al (.cells #[.slice A2x n2x c2x] 25)); simpa only [World.size_alloc] using this
    have HQ' := Lib.hid hQ'
    have hR' : Bx ((w1x.alloc (.cells #[.slice A1x n1x c1x] 25)).alloc (.cells #[.slice A2x n2x c2x] 25)) (w1x.heap.size + 1) A2x n2x c2x (0) := by have := (Bx.new (Hr1.out.al (.cells #[.slice A1x n1x c1x] 25))); simpa only [World.size_alloc] using this
    have HR' := Lib.hid hR'
    clear HX HY HZ HB Hq1 hQ' Hr1 hR'
    have HX := HX'
    clear HX'
    have HY := HY'
    clear HY'
    have HZ := HZ'
    clear HZ'
    have HQ := HQ'
    clear HQ'
    have HR := HR'
    clear HR'
    have HB := HB'
    clear HB'
    have cY := HY.out.cell
    go_wp2_with fail
    generalize ((w1x.alloc (.cells #[.slice A1x n1x c1x] 25)).alloc (.cells #[.slice A2x n2x c2x] 25)) = V1x at *
    skip
    skip
    generalize w1x.heap.size + 1 = q1_1 at *
    generalize w1x.heap.size = q1_0 at *
    clear cY
    obtain ⟨C, hCd⟩ : ∃ C : World → Prop, C = fun w' => Bx w' p1 B1 b1 d1 (y) ∧ Bx w' q1_0 A1x n1x c1x (0) ∧ Bx w' q1_1 A2x n2x c2x (0) ∧ Below w.heap.size w w' := ⟨_, rfl⟩
    have hC0 : C V1x.drew := by rw [hCd]; exact ⟨HY.out.drew, HQ.out.drew, HR.out.drew, HB.out.drew⟩
    have hcY := fun (w' : World) (hw : C w') => (show Bx w' p1 B1 b1 d1 (y) by rw [hCd] at hw; obtain ⟨h, _, _, _⟩ := hw; exact h)
    have hcQ := fun (w' : World) (hw : C w') => (show Bx w' q1_0 A1x n1x c1x (0) by rw [hCd] at hw; obtain ⟨_, h, _, _⟩ := hw; exact h)
    have hcR := fun (w' : World) (hw : C w') => (show Bx w' q1_1 A2x n2x c2x (0) by rw [hCd] at hw; obtain ⟨_, _, h, _⟩ := hw; exact h)
    have hCb : ∀ w1 w2, C w1 → Below w1.heap.size w1 w2 → C w2 := by rw [hCd]; rintro w1 w2 ⟨h0, h1, h2, h3⟩ hb; exact ⟨h0.below hb, h1.below hb, h2.below hb, aft_call h3 hb⟩
    have hCo : ∀ w', C w' → Bx w' p1 B1 b1 d1 (y) ∧ Bx w' q1_0 A1x n1x c1x (0) ∧ Bx w' q1_1 A2x n2x c2x (0) ∧ Below w.heap.size w w' := by rw [hCd]; exact fun _ h => h
    clear hCd
    refine wp_region_quiet_at (C := C) (by kernel_rfl) (by kernel_rfl) hC0 ?_
    repeat (go_big_quiet_step (first | (intro _; exact rfl) | (intro hw; go_at_call 16; (with_reducible refine (len_zero B1 b1 d1 y _ (hcY _ hw).at_ hy).mono ?_); rintro e w2 ⟨rfl, hb⟩; exact ⟨rfl, hCb _ _ hw hb⟩) | (intro hw; rw [(hcY _ hw).cell]; exact ⟨rfl, rfl⟩) | (intro hw; rw [(hcQ _ hw).cell]; exact ⟨rfl, rfl⟩) | (intro hw; rw [(hcR _ hw).cell]; exact ⟨rfl, rfl⟩)))
    refine wpQuiet_nil ?_
    intro wq hwq
    obtain ⟨h0, h1, h2, h3⟩ := hCo _ hwq
    clear HY HQ HR HB hC0 hCb hCo hwq hcY hcQ hcR
    have HY := Lib.hid h0
    have HQ := Lib.hid h1
    have HR := Lib.hid h2
    have HB := Lib.hid h3
    clear h0 h1 h2 h3
    clear HX HZ
    have cQ := HQ.out.cell; have cR := HR.out.cell
    go_wp2_with fail
    refine (len_zero A1x n1x c1x (0) wq HQ.out.at_ rfl).mono ?_
    rintro e w2x ⟨rfl, hb⟩
    have HY' := Lib.hid (HY.out.below hb)
    have HQ' := Lib.hid (HQ.out.below hb)
    have HR' := Lib.hid (HR.out.below hb)
    have HB' := Lib.hid (aft_call HB.out hb)
    clear HY HQ HR HB hb
    have HY := HY'
    clear HY'
    have HQ := HQ'
    clear HQ'
    have HR := HR'
    clear HR'
    have HB := HB'
    clear HB'
    clear cQ cR
    have cR := HR.out.cell
    go_wp2_with fail
    refine (len_zero A2x n2x c2x (0) w2x HR.out.at_ rfl).mono ?_
    rintro e w3x ⟨rfl, hb⟩
    have HY' := Lib.hid (HY.out.below hb)
    have HQ' := Lib.hid (HQ.out.below hb)
    have HR' := Lib.hid (HR.out.below hb)
    have HB' := Lib.hid (aft_call HB.out hb)
    clear HY HQ HR HB hb
    have HY := HY'
    clear HY'
    have HQ := HQ'
    clear HQ'
    have HR := HR'
    clear HR'
    have HB := HB'
    clear HB'
    go_wp2_with fail
    refine (started_any w3x).mono ?_
    rintro e w4x ⟨rfl, hb⟩
    have HY' := Lib.hid (HY.out.below hb)
    have HQ' := Lib.hid (HQ.out.below hb)
    have HR' := Lib.hid (HR.out.below hb)
    have HB' := Lib.hid (aft_call HB.out hb)
    clear HY HQ HR HB hb
    have HY := HY'
    clear HY'
    have HQ := HQ'
    clear HQ'
    have HR := HR'
    clear HR'
    have HB := HB'
    clear HB'
    go_wp2_with fail
    exact bodyPost_ret (v := .bool true) (by simp [results, Try.results3, go_sem]) rfl ⟨rfl, HB.out⟩
  · have hy0 : 0 < y := Nat.pos_of_ne_zero hy
    refine (divmod_pos B0 b0 d0 (x) B1 b1 d1 (y) V HX.out.at_ HY.out.at_ (by omega) (by omega) hy0).mono ?_
    rintro e w1x ⟨A1x, n1x, c1x, A2x, n2x, c2x, rfl, hd, hd2, hnn1x, hnn2x, hb⟩
    have HX' := Lib.hid (HX.out.below hb)
    have HY' := Lib.hid (HY.out.below hb)
    have HZ' := Lib.hid (HZ.out.below hb)
    have HB' := Lib.hid (aft_call HB.out hb)
    have Hq1' := Lib.hid hd
    have Hr1' := Lib.hid hd2
    clear HX HY HZ HB hd hd2 hb
    have HX := HX'
    clear HX'
    have HY := HY'
    clear HY'
    have HZ := HZ'
    clear HZ'
    have HB := HB'
    clear HB'
    have Hq1 := Hq1'
    clear Hq1'
    have Hr1 := Hr1'
    clear Hr1'
    have hlp : 0 < bl y := bl_pos.2 hy0
    have hlen := fun A n c wq (h : DAt B64 wq A n c y) hn => len_any A n c y wq h hn
    generalize bl y = L at hlen hlp
    have bL : decide ((0 : Int) < (L : Int)) = true := decide_eq_true (by omega)
    have HLN := Lib.hid hlen
    clear hlen
    have HX' := Lib.hid ((HX.out.al (.cells #[.slice A1x n1x c1x] 25)).al (.cells #[.slice A2x n2x c2x] 25))
    have HY' := Lib.hid ((HY.out.al (.cells #[.slice A1x n1x c1x] 25)).al (.cells #[.slice A2x n2x c2x] 25))
    have HZ' := Lib.hid ((HZ.out.al (.cells #[.slice A1x n1x c1x] 25)).al (.cells #[.slice A2x n2x c2x] 25))
    have HB' := Lib.hid (aft_al (aft_al HB.out (.cells #[.slice A1x n1x c1x] 25)) (.cells #[.slice A2x n2x c2x] 25))
    have hQ' : Bx ((w1x.alloc (.cells #[.slice A1x n1x c1x] 25)).alloc (.cells #[.slice A2x n2x c2x] 25)) (w1x.heap.size) A1x n1x c1x ((x / y)) := by have := ((Bx.new Hq1.out).al (.cells #[.slice A2x n2x c2x] 25)); simpa only [World.size_alloc] using this
    have HQ' := Lib.hid hQ'
    have hR' : Bx ((w1x.alloc (.cells #[.slice A1x n1x c1x] 25)).alloc (.cells #[.slice A2x n2x c2x] 25)) (w1x.heap.size + 1) A2x n2x c2x ((x % y)) := by have := (Bx.new (Hr1.out.al (.cells #[.slice A1x n1x c1x] 25))); simpa only [World.size_alloc] using this
    have HR' := Lib.hid hR'
    clear HX HY HZ HB Hq1 hQ' Hr1 hR'
    have HX := HX'
    clear HX'
    have HY := HY'
    clear HY'
    have HZ := HZ'
    clear HZ'
    have HQ := HQ'
    clear HQ'
    have HR := HR'
    clear HR'
    have HB := HB'
    clear HB'
    have cY := HY.out.cell
    go_wp2_with fail
    generalize ((w1x.alloc (.cells #[.slice A1x n1x c1x] 25)).alloc (.cells #[.slice A2x n2x c2x] 25)) = V1x at *
    skip
    skip
    generalize w1x.heap.size + 1 = q1_1 at *
    generalize w1x.heap.size = q1_0 at *
    clear cY
    go_region_held3 (fun w' => w'.cell? ⟨p0, 0, none⟩ = some (.slice B0 b0 d0) ∧ w'.cell? ⟨p1, 0, none⟩ = some (.slice B1 b1 d1) ∧ w'.cell? ⟨q1_0, 0, none⟩ = some (.slice A1x n1x c1x) ∧ w'.cell? ⟨q1_1, 0, none⟩ = some (.slice A2x n2x c2x)) (first | exact ⟨HX.out.cell, HY.out.cell, HQ.out.cell, HR.out.cell⟩ | exact ⟨HX.out.drew.cell, HY.out.drew.cell, HQ.out.drew.cell, HR.out.drew.cell⟩ | go_keep) (first
      | (go_at_call 16; (with_reducible refine (HLN.out B1 b1 d1 V1x.drew HY.out.drew.at_ (by omega)).mono ?_); rintro e w2x ⟨rfl, hb⟩; have HX' := Lib.hid (HX.out.drew.below hb); have HY' := Lib.hid (HY.out.drew.below hb); have HZ' := Lib.hid (HZ.out.drew.below hb); have HQ' := Lib.hid (HQ.out.drew.below hb); have HR' := Lib.hid (HR.out.drew.below hb); have HB' := Lib.hid (aft_call HB.out.drew hb); clear HX HY HZ HQ HR HB hb; have HX := HX'; clear HX'; have HY := HY'; clear HY'; have HZ := HZ'; clear HZ'; have HQ := HQ'; clear HQ'; have HR := HR'; clear HR'; have HB := HB'; clear HB')
      | (go_at_call 17; (with_reducible refine (cmp_less A2x n2x c2x ((x % y)) B1 b1 d1 (y) w2x HR.out.at_ HY.out.at_ (by omega) (by omega) (Nat.mod_lt x hy0)).mono ?_); rintro e w3x ⟨rfl, hb⟩; have HX' := Lib.hid (HX.out.below hb); have HY' := Lib.hid (HY.out.below hb); have HZ' := Lib.hid (HZ.out.below hb); have HQ' := Lib.hid (HQ.out.below hb); have HR' := Lib.hid (HR.out.below hb); have HB' := Lib.hid (aft_call HB.out hb); clear HX HY HZ HQ HR HB hb; have HX := HX'; clear HX'; have HY := HY'; clear HY'; have HZ := HZ'; clear HZ'; have HQ := HQ'; clear HQ'; have HR := HR'; clear HR'; have HB := HB'; clear HB')
      | (go_at_call 19; (with_reducible refine (mul_sz A1x n1x c1x ((x / y)) B1 b1 d1 (y) w3x HQ.out.at_ HY.out.at_ (by omega) (by omega)).mono ?_); rintro e w4x ⟨A3x, n3x, c3x, rfl, hd, hnn3x, hb⟩; have HX' := Lib.hid (HX.out.below hb); have HY' := Lib.hid (HY.out.below hb); have HZ' := Lib.hid (HZ.out.below hb); have HQ' := Lib.hid (HQ.out.below hb); have HR' := Lib.hid (HR.out.below hb); have HB' := Lib.hid (aft_call HB.out hb); have Hu' := Lib.hid hd; clear HX HY HZ HQ HR HB hd hb; have HX := HX'; clear HX'; have HY := HY'; clear HY'; have HZ := HZ'; clear HZ'; have HQ := HQ'; clear HQ'; have HR := HR'; clear HR'; have HB := HB'; clear HB'; have Hu := Hu'; clear Hu')
      | (go_at_call 20; (with_reducible refine (add_sz A3x n3x c3x (((x / y) * y)) A2x n2x c2x ((x % y)) w4x Hu.out HR.out.at_ (by omega) (by omega)).mono ?_); rintro e w5x ⟨A4x, n4x, c4x, rfl, hd, hnn4x, hb⟩; have HX' := Lib.hid (HX.out.below hb); have HY' := Lib.hid (HY.out.below hb); have HZ' := Lib.hid (HZ.out.below hb); have HQ' := Lib.hid (HQ.out.below hb); have HR' := Lib.hid (HR.out.below hb); have HB' := Lib.hid (aft_call HB.out hb); have Hv' := Lib.hid hd; clear HX HY HZ HQ HR Hu HB hd hb; have HX := HX'; clear HX'; have HY := HY'; clear HY'; have HZ := HZ'; clear HZ'; have HQ := HQ'; clear HQ'; have HR := HR'; clear HR'; have HB := HB'; clear HB'; have Hv := Hv'; clear Hv')
      | (go_at_call 18; (with_reducible refine (eq_same A4x n4x c4x B0 b0 d0 ((((x / y) * y) + (x % y))) w5x Hv.out (Eq.subst (motive := fun z => DAt B64 w5x B0 b0 d0 z) (Nat.div_add_mod' x y).symm HX.out.at_) (by omega) (by omega)).mono ?_); rintro e w6x ⟨rfl, hb⟩; have HX' := Lib.hid (HX.out.below hb); have HY' := Lib.hid (HY.out.below hb); have HZ' := Lib.hid (HZ.out.below hb); have HQ' := Lib.hid (HQ.out.below hb); have HR' := Lib.hid (HR.out.below hb); have HB' := Lib.hid (aft_call HB.out hb); clear HX HY HZ HQ HR Hv HB hb; have HX := HX'; clear HX'; have HY := HY'; clear HY'; have HZ := HZ'; clear HZ'; have HQ := HQ'; clear HQ'; have HR := HR'; clear HR'; have HB := HB'; clear HB'))
    clear HQ HR HX
    go_wp2_with fail
    have lY := HY.out.lt
    have lZ := HZ.out.lt
    have lw := HB.out.size
    skip
    have HYV := HY
    have HZV := HZ
    go_cut [13, 14, 15] (fun s13 s14 s15 wx => ∃ p0r A0r n0r c0r p1r A1r n1r c1r, s13 = .pointer (some ⟨p0r, 0, none⟩) ∧ s14 = .pointer (some ⟨p1r, 0, none⟩) ∧ s15 = .bool true ∧ Bx wx p1 B1 b1 d1 (y) ∧ Bx wx p2 B2 b2 d2 (z) ∧ Bx wx p0r A0r n0r c0r (((y * z) / y)) ∧ Bx wx p1r A1r n1r c1r (((y * z) % y)) ∧ n0r ≤ 4000 ∧ n1r ≤ 4000 ∧ Below w.heap.size w wx)
    case first =>
      go_region_held3 (fun w' => w'.cell? ⟨p1, 0, none⟩ = some (.slice B1 b1 d1) ∧ w'.cell? ⟨p2, 0, none⟩ = some (.slice B2 b2 d2)) (first | exact ⟨HYV.out.cell, HZV.out.cell⟩ | exact ⟨(HYV.out.al _).cell, (HZV.out.al _).cell⟩ | exact ⟨((HYV.out.al _).al _).cell, ((HZV.out.al _).al _).cell⟩ | exact ⟨HYS7.out.cell, HZS7.out.cell⟩ | exact ⟨(HYS7.out.al _).cell, (HZS7.out.al _).cell⟩ | exact ⟨((HYS7.out.al _).al _).cell, ((HZS7.out.al _).al _).cell⟩ | exact ⟨HYS8.out.cell, HZS8.out.cell⟩ | exact ⟨(HYS8.out.al _).cell, (HZS8.out.al _).cell⟩ | exact ⟨((HYS8.out.al _).al _).cell, ((HZS8.out.al _).al _).cell⟩ | exact ⟨(Bx.far HY.out K1.out (by omega) _).cell, (Bx.far HZ.out K1.out (by omega) _).cell⟩ | exact ⟨(Bx.far HY.out K2.out (by omega) _).cell, (Bx.far HZ.out K2.out (by omega) _).cell⟩ | exact ⟨((Bx.far HY.out K1.out (by omega) _).al _).cell, ((Bx.far HZ.out K1.out (by omega) _).al _).cell⟩ | exact ⟨(Bx.far (Bx.far HY.out K1.out (by omega) _) (Bx.far K2.out K1.out (by omega) _) (by omega) _).cell, (Bx.far (Bx.far HZ.out K1.out (by omega) _) (Bx.far K2.out K1.out (by omega) _) (by omega) _).cell⟩ | exact ⟨(Bx.far (Bx.far HY.out K2.out (by omega) _) (Bx.far K1.out K2.out (by omega) _) (by omega) _).cell, (Bx.far (Bx.far HZ.out K2.out (by omega) _) (Bx.far K1.out K2.out (by omega) _) (by omega) _).cell⟩ | go_keep) (first
        | (go_at_call 19; (with_reducible refine (mul_sz B1 b1 d1 (y) B2 b2 d2 (z) _ (by first | exact HY.out.drew.at_ | exact ((HY.out.al _).drew).at_ | exact (((HY.out.al _).al _).drew).at_) (by first | exact HZ.out.drew.at_ | exact ((HZ.out.al _).drew).at_ | exact (((HZ.out.al _).al _).drew).at_) (by omega) (by omega)).mono ?_); rintro e w7x ⟨A5x, n5x, c5x, rfl, hd, hnn5x, hb⟩; (first | (have HY' := Lib.hid (HY.out.drew.below hb)) | (have HY' := Lib.hid (((HY.out.al _).drew).below hb)) | (have HY' := Lib.hid ((((HY.out.al _).al _).drew).below hb))); (first | (have HZ' := Lib.hid (HZ.out.drew.below hb)) | (have HZ' := Lib.hid (((HZ.out.al _).drew).below hb)) | (have HZ' := Lib.hid ((((HZ.out.al _).al _).drew).below hb))); (first | (have HB' := Lib.hid (aft_call HB.out.drew hb)) | (have HB' := Lib.hid (aft_call (aft_al HB.out _).drew hb)) | (have HB' := Lib.hid (aft_call (aft_al (aft_al HB.out _) _).drew hb))); (first | (have K1' := Lib.hid (K1.out.below hb); have K2' := Lib.hid (K2.out.below hb); clear K1 K2) | (have K1' := Lib.hid ((K1.out.al _).below hb); have K2' := Lib.hid (((Bx.new (w := w6x) DAt.nil).drew).below hb); clear K1) | (have K1' := Lib.hid ((((Bx.new (w := w6x) DAt.nil).al _).drew).below hb); have hk2 : Bx w7x (w6x.heap.size + 1) none 0 0 0 := (by have := ((Bx.new (w := w6x.alloc (.cells #[.slice none 0 0] 25)) DAt.nil).drew).below hb; rwa [World.size_alloc] at this); have K2' := Lib.hid hk2; clear hk2) | (have K1' := Lib.hid (K1.out.below hb); clear K1) | (have K1' := Lib.hid (((Bx.new (w := w6x) DAt.nil).drew).below hb)) | skip); (try have K1 := K1'); (try clear K1'); (try have K2 := K2'); (try clear K2'); (try have lk1 := K1.out.lt); (try have lk2 := K2.out.lt); have Hm' := Lib.hid hd; clear HY HZ HB hd hb; have HY := HY'; clear HY'; have HZ := HZ'; clear HZ'; have HB := HB'; clear HB'; have Hm := Hm'; clear Hm'; have lY := HY.out.lt; have lZ := HZ.out.lt; have lz := HB.out.size; have HYS7 := HY; have HZS7 := HZ)
        | (go_at_call 15; (with_reducible refine (divmod_pos A5x n5x c5x ((y * z)) B1 b1 d1 (y) _ (by first | exact Hm.out | exact ((Hm.out.al _)) | exact (((Hm.out.al _).al _))) (by first | exact HY.out.at_ | exact ((HY.out.al _)).at_ | exact (((HY.out.al _).al _)).at_) (by omega) (by omega) hy0).mono ?_); rintro e w8x ⟨A6x, n6x, c6x, A7x, n7x, c7x, rfl, hd, hd2, hnn6x, hnn7x, hb⟩; (first | (have HY' := Lib.hid (HY.out.below hb)) | (have HY' := Lib.hid (((HY.out.al _)).below hb)) | (have HY' := Lib.hid ((((HY.out.al _).al _)).below hb))); (first | (have HZ' := Lib.hid (HZ.out.below hb)) | (have HZ' := Lib.hid (((HZ.out.al _)).below hb)) | (have HZ' := Lib.hid ((((HZ.out.al _).al _)).below hb))); (first | (have HB' := Lib.hid (aft_call HB.out hb)) | (have HB' := Lib.hid (aft_call (aft_al HB.out _) hb)) | (have HB' := Lib.hid (aft_call (aft_al (aft_al HB.out _) _) hb))); (first | (have K1' := Lib.hid (K1.out.below hb); have K2' := Lib.hid (K2.out.below hb); clear K1 K2) | (have K1' := Lib.hid ((K1.out.al _).below hb); have K2' := Lib.hid (((Bx.new (w := w7x) DAt.nil)).below hb); clear K1) | (have K1' := Lib.hid ((((Bx.new (w := w7x) DAt.nil).al _)).below hb); have hk2 : Bx w8x (w7x.heap.size + 1) none 0 0 0 := (by have := ((Bx.new (w := w7x.alloc (.cells #[.slice none 0 0] 25)) DAt.nil)).below hb; rwa [World.size_alloc] at this); have K2' := Lib.hid hk2; clear hk2) | (have K1' := Lib.hid (K1.out.below hb); clear K1) | (have K1' := Lib.hid (((Bx.new (w := w7x) DAt.nil)).below hb)) | skip); (try have K1 := K1'); (try clear K1'); (try have K2 := K2'); (try clear K2'); (try have lk1 := K1.out.lt); (try have lk2 := K2.out.lt); have HM1' := Lib.hid hd; have HS1' := Lib.hid hd2; clear HY HZ Hm HB hd hd2 hb; have HY := HY'; clear HY'; have HZ := HZ'; clear HZ'; have HB := HB'; clear HB'; have HM1 := HM1'; clear HM1'; have HS1 := HS1'; clear HS1'; have lY := HY.out.lt; have lZ := HZ.out.lt; have lz := HB.out.size; have HYS8 := HY; have HZS8 := HZ; (first | (have q1 := K1.out.cell; have q2 := K2.out.cell; have r1 := K1.out.fr; have r2 := K2.out.fr; have s12 := fun u : Value => (Bx.far K2.out K1.out (by omega) u).cell; have s21 := fun u : Value => (Bx.far K1.out K2.out (by omega) u).cell) | (have q1 := K1.out.cell; have r1 := K1.out.fr) | skip)))
      all_goals
        go_wp2_with fail
        go_meet
        first
        | exact ⟨_, A6x, n6x, c6x, _, A7x, n7x, c7x, rfl, rfl, rfl, Bx.far (Bx.far HY.out K1.out (by omega) _) (Bx.far K2.out K1.out (by omega) _) (by omega) _, Bx.far (Bx.far HZ.out K1.out (by omega) _) (Bx.far K2.out K1.out (by omega) _) (by omega) _, Bx.far (Bx.st K1.out HM1.out) (Bx.far K2.out K1.out (by omega) _) (by omega) _, Bx.st (Bx.far K2.out K1.out (by omega) _) (HS1.out.st K1.out _), (by omega), (by omega), aft_set (aft_set HB.out (by omega) _) (by omega) _⟩
        | exact ⟨_, A6x, n6x, c6x, _, A7x, n7x, c7x, rfl, rfl, rfl, Bx.far (Bx.far HY.out K2.out (by omega) _) (Bx.far K1.out K2.out (by omega) _) (by omega) _, Bx.far (Bx.far HZ.out K2.out (by omega) _) (Bx.far K1.out K2.out (by omega) _) (by omega) _, Bx.far (Bx.st K2.out HM1.out) (Bx.far K1.out K2.out (by omega) _) (by omega) _, Bx.st (Bx.far K1.out K2.out (by omega) _) (HS1.out.st K2.out _), (by omega), (by omega), aft_set (aft_set HB.out (by omega) _) (by omega) _⟩
        | exact ⟨_, A6x, n6x, c6x, _, A7x, n7x, c7x, rfl, rfl, rfl, (Bx.far HY.out K1.out (by omega) _).al _, (Bx.far HZ.out K1.out (by omega) _).al _, (Bx.st K1.out HM1.out).al _, Bx.newAt (HS1.out.st K1.out _) (by simp [World.setCell]), (by omega), (by omega), aft_al (aft_set HB.out (by omega) _) _⟩
        | exact ⟨_, A6x, n6x, c6x, _, A7x, n7x, c7x, rfl, rfl, rfl, (Bx.far HY.out K1.out (by omega) _).al _, (Bx.far HZ.out K1.out (by omega) _).al _, Bx.newAt (HM1.out.st K1.out _) (by simp [World.setCell]), (Bx.st K1.out HS1.out).al _, (by omega), (by omega), aft_al (aft_set HB.out (by omega) _) _⟩
        | exact ⟨_, A6x, n6x, c6x, _, A7x, n7x, c7x, rfl, rfl, rfl, (HY.out.al _).al _, (HZ.out.al _).al _, (Bx.new HM1.out).al _, Bx.newAt (HS1.out.al _) (by simp), (by omega), (by omega), aft_al (aft_al HB.out _) _⟩
        | exact ⟨_, A6x, n6x, c6x, _, A7x, n7x, c7x, rfl, rfl, rfl, (HY.out.al _).al _, (HZ.out.al _).al _, Bx.newAt (HM1.out.al _) (by simp), (Bx.new HS1.out).al _, (by omega), (by omega), aft_al (aft_al HB.out _) _⟩
    case rest =>
      clear HY HZ HB HYV HZV lY lZ lw
      obtain ⟨p9_0, A9_0, n9_0, c9_0, p9_1, A9_1, n9_1, c9_1, rfl, rfl, rfl, hY, hZ, hM, hS, hn9_0, hn9_1, hB⟩ := hcut
      have HY := Lib.hid hY
      have HZ := Lib.hid hZ
      have HM := Lib.hid hM
      have HS := Lib.hid hS
      have HB := Lib.hid hB
      clear hY hZ hM hS hB
      have cM := HM.out.cell; have cZ := HZ.out.cell; have cS := HS.out.cell
      go_wp2_with fail
      refine (eq_same A9_0 n9_0 c9_0 B2 b2 d2 (((y * z) / y)) wc HM.out.at_ (Eq.subst (motive := fun z => DAt B64 wc B2 b2 d2 z) (Nat.mul_div_cancel_left z hy0).symm HZ.out.at_) (by omega) (by omega)).mono ?_
      rintro e w10x ⟨rfl, hb⟩
      have HY' := Lib.hid (HY.out.below hb)
      have HZ' := Lib.hid (HZ.out.below hb)
      have HM' := Lib.hid (HM.out.below hb)
      have HS' := Lib.hid (HS.out.below hb)
      have HB' := Lib.hid (aft_call HB.out hb)
      clear HY HZ HM HS HB hb
      have HY := HY'
      clear HY'
      have HZ := HZ'
      clear HZ'
      have HM := HM'
      clear HM'
      have HS := HS'
      clear HS'
      have HB := HB'
      clear HB'
      clear cM cZ cS
      have cS := HS.out.cell
      go_wp2_with fail
      refine (len_zero A9_1 n9_1 c9_1 (((y * z) % y)) w10x HS.out.at_ (Nat.mul_mod_right y z)).mono ?_
      rintro e w11x ⟨rfl, hb⟩
      have HY' := Lib.hid (HY.out.below hb)
      have HZ' := Lib.hid (HZ.out.below hb)
      have HM' := Lib.hid (HM.out.below hb)
      have HS' := Lib.hid (HS.out.below hb)
      have HB' := Lib.hid (aft_call HB.out hb)
      clear HY HZ HM HS HB hb
      have HY := HY'
      clear HY'
      have HZ := HZ'
      clear HZ'
      have HM := HM'
      clear HM'
      have HS := HS'
      clear HS'
      have HB := HB'
      clear HB'
      go_wp2_with fail
      refine (started_any w11x).mono ?_
      rintro e w12x ⟨rfl, hb⟩
      have HY' := Lib.hid (HY.out.below hb)
      have HZ' := Lib.hid (HZ.out.below hb)
      have HM' := Lib.hid (HM.out.below hb)
      have HS' := Lib.hid (HS.out.below hb)
      have HB' := Lib.hid (aft_call HB.out hb)
      clear HY HZ HM HS HB hb
      have HY := HY'
      clear HY'
      have HZ := HZ'
      clear HZ'
      have HM := HM'
      clear HM'
      have HS := HS'
      clear HS'
      have HB := HB'
      clear HB'
      go_wp2_with fail
      exact bodyPost_ret (v := .bool true) (by simp [results, Try.results3, go_sem]) rfl ⟨rfl, HB.out⟩

theorem natDivides_walk (A0 : Option Addr) (n0 c0 : Nat) (l0 : List Int) (A1 : Option Addr) (n1 c1 : Nat) (l1 : List Int) (A2 : Option Addr) (n2 c2 : Nat) (l2 : List Int) (w : World) (h0 : InI .u8 1 1 w A0 n0 c0 l0) (h1 : InI .u8 1 1 w A1 n1 c1 l1) (h2 : InI .u8 1 1 w A2 n2 c2 l2) :
    Calls Try.prog 3 #[.slice A0 n0 c0, .slice A1 n1 c1, .slice A2 n2 c2] w fun e w' => e = .returned (.bool true) ∧ Below w.heap.size w w' :=
  natDivides_walk0 A0 n0 c0 _ A1 n1 c1 _ A2 n2 c2 _ w (bat_in h0) h0.le (bat_in h1) h1.le (bat_in h2) h2.le
end Go.Proofs.Ytijbhbjenddiaaa
