/-
  NatGreat: the walk.
-/
import Derived.Test.YtijbhbjenddiaaaBH
import Derived.Test.YtijbhbjenddiaaaAY
import Derived.Deep.CutRange
import Derived.Deep.DeepCutAuto
set_option linter.unusedVariables false
set_option linter.unusedSimpArgs false
namespace Go.Proofs.Ytijbhbjenddiaaa
open Go.RowKit

set_option maxRecDepth 100000 in
set_option maxHeartbeats 20000000 in
theorem natGreat_walk0 (a0 c0 f0 : Int) (w : World) :
    Calls Try.prog 10 #[.int .i64 a0, .int .i64 c0, .int .i64 f0] w fun e w' => e = .returned (.bool true) ∧ Below w.heap.size w w' := by
  obtain ⟨A1, hA1, hA2⟩ := and_i64 a0 62 (by omega)
  rw [show ((2 ^ 62 - 1 : Nat) : Int) = 4611686018427387903 from rfl] at hA2
  have hA3 : A1 < 4611686018427387904 := hA1
  clear hA1
  obtain ⟨C1, hC1, hC2⟩ := and_i64 c0 62 (by omega)
  rw [show ((2 ^ 62 - 1 : Nat) : Int) = 4611686018427387903 from rfl] at hC2
  have hC3 : C1 < 4611686018427387904 := hC1
  clear hC1
  obtain ⟨F1, hF1, hF2⟩ := and_i64 f0 62 (by omega)
  rw [show ((2 ^ 62 - 1 : Nat) : Int) = 4611686018427387903 from rfl] at hF2
  have hF3 : F1 < 4611686018427387904 := hF1
  clear hF1
  obtain ⟨c, hc⟩ : ∃ c, c = 2 + C1 % 100000 := ⟨_, rfl⟩
  obtain ⟨a, ha⟩ : ∃ a, a = c + 2 + A1 % 100000 := ⟨_, rfl⟩
  obtain ⟨f, hf⟩ : ∃ f, f = F1 % 16777216 := ⟨_, rfl⟩
  have k1 : (C1 : Int).tmod 100000 = (C1 : Int) % 100000 := Int.tmod_eq_emod_of_nonneg (by omega)
  have k2 : IntKind.i64.wrap (2 + (C1 : Int) % 100000) = (c : Int) := by rw [IntKind.wrap_i64]; omega
  have k3 : (A1 : Int).tmod 100000 = (A1 : Int) % 100000 := Int.tmod_eq_emod_of_nonneg (by omega)
  have k4 : IntKind.i64.wrap ((c : Int) + 2) = (c : Int) + 2 := by rw [IntKind.wrap_i64]; omega
  have k5 : IntKind.i64.wrap ((c : Int) + 2 + (A1 : Int) % 100000) = (a : Int) := by rw [IntKind.wrap_i64]; omega
  have k6 : (F1 : Int).tmod 16777216 = (f : Int) := by rw [Int.tmod_eq_emod_of_nonneg (by omega)]; omega
  have hc2 : 2 ≤ c := by omega
  have hc3 : c ≤ 100001 := by omega
  have ha2 : c + 2 ≤ a := by omega
  have ha3 : a ≤ 200102 := by omega
  have hf2 : f < 16777216 := by omega
  have HF := Lib.hid (And.intro hF2 k6)
  obtain ⟨x, hx⟩ : ∃ x, x = 1 * 2 ^ a + 1 := ⟨_, rfl⟩
  obtain ⟨y, hy⟩ : ∃ y, y = 1 * 2 ^ c + 1 := ⟨_, rfl⟩
  have hpa := fun wq : World => power_any a 1 (by omega) (by rw [B64_eq]; omega) wq
  have hpc := fun wq : World => power_any c 1 (by omega) (by rw [B64_eq]; omega) wq
  rw [show ((1 : Nat) : Int) = 1 from rfl, ← hx] at hpa
  rw [show ((1 : Nat) : Int) = 1 from rfl, ← hy] at hpc
  have HPA := Lib.hid hpa; have HPC := Lib.hid hpc
  have o5 := fun wq : World => of_sz 5 (by rw [B64_eq]; omega) wq
  rw [show ((5 : Nat) : Int) = 5 from rfl] at o5
  have O5 := Lib.hid o5
  have GLE := Lib.hid (gr_le hc2 ha2 hx hy)
  have GPO := Lib.hid (gr_pos hc2 ha2 hx hy)
  have GSL := Lib.hid (gr_sub_len hc2 ha2 hx hy)
  have GSA := Lib.hid (gr_sub_at hc2 ha2 hx hy)
  have GSB := Lib.hid (gr_sub_below hc2 ha2 hx hy)
  have GAD := Lib.hid (gr_add hc2 ha2 hx hy)
  have GAL := Lib.hid (gr_add_len hc2 ha2 hx hy)
  have GAB := Lib.hid (gr_add_bit hc2 ha2 hx hy)
  have GMU := Lib.hid (gr_mul hc2 ha2 hx hy)
  have GML := Lib.hid (gr_mul_len hc2 ha2 hx hy)
  have GMB := Lib.hid (gr_mul_bit hc2 ha2 hx hy)
  have GDI := Lib.hid (gr_div hc2 ha2 hx hy)
  have GGC := Lib.hid (gr_gcd hc2 ha2 hx hy)
  have GLF := Lib.hid (gr_left hc2 ha2 hx hy f)
  clear hpa hpc o5 hx hy hc ha hf hF2 k6 hA3 hC3 hF3
  have HB := Lib.hid (Below.refl w.heap.size w)
  go_enter Try.func10, Try.ntmps10
  go_wp2_with fail
  clear k1 k2 k3 k4 k5 hA2 hC2
  refine (HPA.out w).mono ?_
  rintro e w1x ⟨A1x, n1x, c1x, rfl, hd, hnn1x, hb⟩
  have HB' := Lib.hid (aft_call HB.out hb)
  have Hx1' := Lib.hid hd
  clear HB hd hb
  have HB := HB'
  clear HB'
  have Hx1 := Hx1'
  clear Hx1'
  go_wp2_with fail
  refine (HPC.out w1x).mono ?_
  rintro e w2x ⟨A2x, n2x, c2x, rfl, hd, hnn2x, hb⟩
  have Hx1' := Lib.hid (Hx1.out.below hb)
  have HB' := Lib.hid (aft_call HB.out hb)
  have Hy1' := Lib.hid hd
  clear Hx1 HB hd hb
  have Hx1 := Hx1'
  clear Hx1'
  have HB := HB'
  clear HB'
  have Hy1 := Hy1'
  clear Hy1'
  have HB' := Lib.hid (aft_al (aft_al HB.out (.cells #[.slice A1x n1x c1x] 25)) (.cells #[.slice A2x n2x c2x] 25))
  have hX' : Bx ((w2x.alloc (.cells #[.slice A1x n1x c1x] 25)).alloc (.cells #[.slice A2x n2x c2x] 25)) (w2x.heap.size) A1x n1x c1x (x) := by have := ((Bx.new Hx1.out).al (.cells #[.slice A2x n2x c2x] 25)); simpa only [World.size_alloc] using this
  have HX' := Lib.hid hX'
  have hY' : Bx ((w2x.alloc (.cells #[.slice A1x n1x c1x] 25)).alloc (.cells #[.slice A2x n2x c2x] 25)) (w2x.heap.size + 1) A2x n2x c2x (y) := by have := (Bx.new (Hy1.out.al (.cells #[.slice A1x n1x c1x] 25))); simpa only [World.size_alloc] using this
  have HY' := Lib.hid hY'
  clear HB Hx1 hX' Hy1 hY'
  have HX := HX'
  clear HX'
  have HY := HY'
  clear HY'
  have HB := HB'
  clear HB'
  have cX := HX.out.cell; have cY := HY.out.cell
  go_wp2_with fail
  generalize ((w2x.alloc (.cells #[.slice A1x n1x c1x] 25)).alloc (.cells #[.slice A2x n2x c2x] 25)) = V2x at *
  skip
  skip
  generalize w2x.heap.size + 1 = q2_1 at *
  generalize w2x.heap.size = q2_0 at *
  clear cX cY
  refine (sub_ge A1x n1x c1x (x) A2x n2x c2x (y) V2x HX.out.at_ HY.out.at_ (by omega) (by omega) GLE.out).mono ?_
  rintro e w3x ⟨A3x, n3x, c3x, rfl, hd, hnn3x, hb⟩
  have HX' := Lib.hid (HX.out.below hb)
  have HY' := Lib.hid (HY.out.below hb)
  have HB' := Lib.hid (aft_call HB.out hb)
  have Hd1' := Lib.hid hd
  clear HX HY HB hd hb
  have HX := HX'
  clear HX'
  have HY := HY'
  clear HY'
  have HB := HB'
  clear HB'
  have Hd1 := Hd1'
  clear Hd1'
  have HX' := Lib.hid (HX.out.al (.cells #[.slice A3x n3x c3x] 25))
  have HY' := Lib.hid (HY.out.al (.cells #[.slice A3x n3x c3x] 25))
  have HB' := Lib.hid (aft_al HB.out (.cells #[.slice A3x n3x c3x] 25))
  have hD' : Bx (w3x.alloc (.cells #[.slice A3x n3x c3x] 25)) (w3x.heap.size) A3x n3x c3x ((x - y)) := by have := (Bx.new Hd1.out); simpa only [World.size_alloc] using this
  have HD' := Lib.hid hD'
  clear HX HY HB Hd1 hD'
  have HX := HX'
  clear HX'
  have HY := HY'
  clear HY'
  have HD := HD'
  clear HD'
  have HB := HB'
  clear HB'
  have cD := HD.out.cell
  go_wp2_with fail
  generalize (w3x.alloc (.cells #[.slice A3x n3x c3x] 25)) = V3x at *
  skip
  generalize w3x.heap.size = q3_0 at *
  clear cD
  refine (len_of A3x n3x c3x (x - y) a V3x HD.out.at_ (by omega) GSL.out).mono ?_
  rintro e w4x ⟨rfl, hb⟩
  have HX' := Lib.hid (HX.out.below hb)
  have HY' := Lib.hid (HY.out.below hb)
  have HD' := Lib.hid (HD.out.below hb)
  have HB' := Lib.hid (aft_call HB.out hb)
  clear HX HY HD HB hb
  have HX := HX'
  clear HX'
  have HY := HY'
  clear HY'
  have HD := HD'
  clear HD'
  have HB := HB'
  clear HB'
  have cD := HD.out.cell
  go_wp2_with fail
  clear cD
  have hb1 := bit_is A3x n3x c3x (x - y) (c - 1) false _ HD.out.at_ (by omega) GSB.out
  rw [show ((c - 1 : Nat) : Int) = (c : Int) - 1 by omega] at hb1
  refine (hb1).mono ?_
  rintro e w5x ⟨rfl, hb⟩
  have HX' := Lib.hid (HX.out.below hb)
  have HY' := Lib.hid (HY.out.below hb)
  have HD' := Lib.hid (HD.out.below hb)
  have HB' := Lib.hid (aft_call HB.out hb)
  clear HX HY HD HB hb
  have HX := HX'
  clear HX'
  have HY := HY'
  clear HY'
  have HD := HD'
  clear HD'
  have HB := HB'
  clear HB'
  clear hb1
  have cD := HD.out.cell
  go_wp2_with fail
  clear cD
  refine (bit_is A3x n3x c3x (x - y) c true w5x HD.out.at_ (by omega) GSA.out).mono ?_
  rintro e w6x ⟨rfl, hb⟩
  have HX' := Lib.hid (HX.out.below hb)
  have HY' := Lib.hid (HY.out.below hb)
  have HD' := Lib.hid (HD.out.below hb)
  have HB' := Lib.hid (aft_call HB.out hb)
  clear HX HY HD HB hb
  have HX := HX'
  clear HX'
  have HY := HY'
  clear HY'
  have HD := HD'
  clear HD'
  have HB := HB'
  clear HB'
  clear HD
  have cX := HX.out.cell; have cY := HY.out.cell
  go_wp2_with fail
  clear cX cY
  refine (add_sz A1x n1x c1x (x) A2x n2x c2x (y) w6x HX.out.at_ HY.out.at_ (by omega) (by omega)).mono ?_
  rintro e w7x ⟨A4x, n4x, c4x, rfl, hd, hnn4x, hb⟩
  have HX' := Lib.hid (HX.out.below hb)
  have HY' := Lib.hid (HY.out.below hb)
  have HB' := Lib.hid (aft_call HB.out hb)
  have Hu' := Lib.hid hd
  clear HX HY HB hd hb
  have HX := HX'
  clear HX'
  have HY := HY'
  clear HY'
  have HB := HB'
  clear HB'
  have Hu := Hu'
  clear Hu'
  go_wp2_with fail
  have hal := (Below.refl w7x.heap.size w7x).alloc (Nat.le_refl _) (.cells #[.int .i64 1, .int .i64 (c : Int), .int .i64 (a : Int)] 3)
  have hbt := bits_true A4x n4x c4x (x + y) (a + 1) w7x.heap.size 3 [1, c, a] (w7x.alloc (.cells #[.int .i64 1, .int .i64 (c : Int), .int .i64 (a : Int)] 3)) (Hu.out.al _) (by omega) rfl (by omega) (by simp) (fun i hi => by
    rcases i with _ | _ | _ | _ | i
    · exact ((Blk.new w7x 3 #[.int .i64 1, .int .i64 (c : Int), .int .i64 (a : Int)]).cell 0).trans rfl
    · exact ((Blk.new w7x 3 #[.int .i64 1, .int .i64 (c : Int), .int .i64 (a : Int)]).cell 1).trans rfl
    · exact ((Blk.new w7x 3 #[.int .i64 1, .int .i64 (c : Int), .int .i64 (a : Int)]).cell 2).trans rfl
    · omega
    · omega
    ) (fun i hi => by
    refine GAB.out _ ?_
    rcases i with _ | _ | _ | _ | i <;> first | (simp; done) | omega) (fun i hi => by
    rcases i with _ | _ | _ | _ | i <;> first | (simp; done) | (simp; omega) | omega) GAL.out GAD.out
  rw [show ((a + 1 : Nat) : Int) = (a : Int) + 1 by omega] at hbt
  have HX' := Lib.hid (HX.out.al (.cells #[.int .i64 1, .int .i64 (c : Int), .int .i64 (a : Int)] 3))
  have HY' := Lib.hid (HY.out.al (.cells #[.int .i64 1, .int .i64 (c : Int), .int .i64 (a : Int)] 3))
  have Hu' := Lib.hid (Hu.out.al (.cells #[.int .i64 1, .int .i64 (c : Int), .int .i64 (a : Int)] 3))
  have HB' := Lib.hid (aft_al HB.out (.cells #[.int .i64 1, .int .i64 (c : Int), .int .i64 (a : Int)] 3))
  clear HX HY Hu HB hal
  have HX := HX'
  clear HX'
  have HY := HY'
  clear HY'
  have Hu := Hu'
  clear Hu'
  have HB := HB'
  clear HB'
  refine (hbt).mono ?_
  rintro e w8x ⟨rfl, hb⟩
  have HX' := Lib.hid (HX.out.below hb)
  have HY' := Lib.hid (HY.out.below hb)
  have Hu' := Lib.hid (Hu.out.below hb)
  have HB' := Lib.hid (aft_call HB.out hb)
  clear HX HY Hu HB hb
  have HX := HX'
  clear HX'
  have HY := HY'
  clear HY'
  have Hu := Hu'
  clear Hu'
  have HB := HB'
  clear HB'
  clear hbt
  clear Hu
  have cX := HX.out.cell; have cY := HY.out.cell
  go_wp2_with fail
  clear cX cY
  refine (mul_sz A1x n1x c1x (x) A2x n2x c2x (y) w8x HX.out.at_ HY.out.at_ (by omega) (by omega)).mono ?_
  rintro e w9x ⟨A5x, n5x, c5x, rfl, hd, hnn5x, hb⟩
  have HX' := Lib.hid (HX.out.below hb)
  have HY' := Lib.hid (HY.out.below hb)
  have HB' := Lib.hid (aft_call HB.out hb)
  have Hp1' := Lib.hid hd
  clear HX HY HB hd hb
  have HX := HX'
  clear HX'
  have HY := HY'
  clear HY'
  have HB := HB'
  clear HB'
  have Hp1 := Hp1'
  clear Hp1'
  have hsz := World.size_alloc w9x (.cells #[.slice A5x n5x c5x] 25)
  have kac : IntKind.i64.wrap ((a : Int) + (c : Int)) = (a : Int) + (c : Int) := by rw [IntKind.wrap_i64]; omega
  have kac1 : IntKind.i64.wrap ((a : Int) + (c : Int) + 1) = (a : Int) + (c : Int) + 1 := by rw [IntKind.wrap_i64]; omega
  have HX' := Lib.hid (HX.out.al (.cells #[.slice A5x n5x c5x] 25))
  have HY' := Lib.hid (HY.out.al (.cells #[.slice A5x n5x c5x] 25))
  have HB' := Lib.hid (aft_al HB.out (.cells #[.slice A5x n5x c5x] 25))
  have hP' : Bx (w9x.alloc (.cells #[.slice A5x n5x c5x] 25)) (w9x.heap.size) A5x n5x c5x ((x * y)) := by have := (Bx.new Hp1.out); simpa only [World.size_alloc] using this
  have HP' := Lib.hid hP'
  clear HX HY HB Hp1 hP'
  have HX := HX'
  clear HX'
  have HY := HY'
  clear HY'
  have HP := HP'
  clear HP'
  have HB := HB'
  clear HB'
  have cP := HP.out.cell
  go_wp2_with fail
  generalize (w9x.alloc (.cells #[.slice A5x n5x c5x] 25)) = V9x at *
  skip
  generalize w9x.heap.size = q9_0 at *
  clear cP
  clear kac kac1
  have hal := (Below.refl V9x.heap.size V9x).alloc (Nat.le_refl _) (.cells #[.int .i64 0, .int .i64 (c : Int), .int .i64 (a : Int), .int .i64 ((a : Int) + (c : Int))] 3)
  have hbt := bits_true A5x n5x c5x (x * y) (a + c + 1) V9x.heap.size 4 [0, c, a, a + c] (V9x.alloc (.cells #[.int .i64 0, .int .i64 (c : Int), .int .i64 (a : Int), .int .i64 ((a : Int) + (c : Int))] 3)) (HP.out.at_.al _) (by omega) rfl (by omega) (by simp) (fun i hi => by
    rcases i with _ | _ | _ | _ | i
    · exact ((Blk.new V9x 3 #[.int .i64 0, .int .i64 (c : Int), .int .i64 (a : Int), .int .i64 ((a : Int) + (c : Int))]).cell 0).trans rfl
    · exact ((Blk.new V9x 3 #[.int .i64 0, .int .i64 (c : Int), .int .i64 (a : Int), .int .i64 ((a : Int) + (c : Int))]).cell 1).trans rfl
    · exact ((Blk.new V9x 3 #[.int .i64 0, .int .i64 (c : Int), .int .i64 (a : Int), .int .i64 ((a : Int) + (c : Int))]).cell 2).trans rfl
    · exact ((Blk.new V9x 3 #[.int .i64 0, .int .i64 (c : Int), .int .i64 (a : Int), .int .i64 ((a : Int) + (c : Int))]).cell 3).trans rfl
    · omega
    ) (fun i hi => by
    refine GMB.out _ ?_
    rcases i with _ | _ | _ | _ | i <;> first | (simp; done) | omega) (fun i hi => by
    rcases i with _ | _ | _ | _ | i <;> first | (simp; done) | (simp; omega) | omega) GML.out GMU.out
  rw [show ((a + c + 1 : Nat) : Int) = (a : Int) + (c : Int) + 1 by omega] at hbt
  rw [hsz] at hbt
  have HX' := Lib.hid (HX.out.al (.cells #[.int .i64 0, .int .i64 (c : Int), .int .i64 (a : Int), .int .i64 ((a : Int) + (c : Int))] 3))
  have HY' := Lib.hid (HY.out.al (.cells #[.int .i64 0, .int .i64 (c : Int), .int .i64 (a : Int), .int .i64 ((a : Int) + (c : Int))] 3))
  have HP' := Lib.hid (HP.out.al (.cells #[.int .i64 0, .int .i64 (c : Int), .int .i64 (a : Int), .int .i64 ((a : Int) + (c : Int))] 3))
  have HB' := Lib.hid (aft_al HB.out (.cells #[.int .i64 0, .int .i64 (c : Int), .int .i64 (a : Int), .int .i64 ((a : Int) + (c : Int))] 3))
  clear HX HY HP HB hal
  have HX := HX'
  clear HX'
  have HY := HY'
  clear HY'
  have HP := HP'
  clear HP'
  have HB := HB'
  clear HB'
  refine (hbt).mono ?_
  rintro e w10x ⟨rfl, hb⟩
  have HX' := Lib.hid (HX.out.below hb)
  have HY' := Lib.hid (HY.out.below hb)
  have HP' := Lib.hid (HP.out.below hb)
  have HB' := Lib.hid (aft_call HB.out hb)
  clear HX HY HP HB hb
  have HX := HX'
  clear HX'
  have HY := HY'
  clear HY'
  have HP := HP'
  clear HP'
  have HB := HB'
  clear HB'
  clear hbt
  clear hsz
  go_wp2_with fail
  have hx0 : 0 < x := by have := GPO.out; omega
  have lX := HX.out.lt
  have lY := HY.out.lt
  have lP := HP.out.lt
  have lw := HB.out.size
  skip
  have HPV := HP
  have HXV := HX
  go_cut [12, 13, 14] (fun s12 s13 s14 wx => ∃ p0r A0r n0r c0r p1r A1r n1r c1r, s12 = .pointer (some ⟨p0r, 0, none⟩) ∧ s13 = .pointer (some ⟨p1r, 0, none⟩) ∧ s14 = .bool true ∧ Bx wx q2_0 A1x n1x c1x (x) ∧ Bx wx q2_1 A2x n2x c2x (y) ∧ Bx wx q9_0 A5x n5x c5x ((x * y)) ∧ Bx wx p0r A0r n0r c0r ((((x * y) + 5) / x)) ∧ Bx wx p1r A1r n1r c1r ((((x * y) + 5) % x)) ∧ n0r ≤ 10000000 ∧ n1r ≤ 10000000 ∧ Below w.heap.size w wx)
  case first =>
    as_aux_lemma =>
      go_region_held3 (fun w' => w'.cell? ⟨q9_0, 0, none⟩ = some (.slice A5x n5x c5x) ∧ w'.cell? ⟨q2_0, 0, none⟩ = some (.slice A1x n1x c1x)) (first | with_reducible exact ⟨HPV.out.drew.cell, HXV.out.drew.cell⟩ | with_reducible exact ⟨(HPV.out.al _).drew.cell, (HXV.out.al _).drew.cell⟩ | with_reducible exact ⟨((HPV.out.al _).al _).drew.cell, ((HXV.out.al _).al _).drew.cell⟩ | with_reducible exact ⟨HPS11.out.cell, HXS11.out.cell⟩ | with_reducible exact ⟨(HPS11.out.al _).cell, (HXS11.out.al _).cell⟩ | with_reducible exact ⟨((HPS11.out.al _).al _).cell, ((HXS11.out.al _).al _).cell⟩ | with_reducible exact ⟨HPS12.out.cell, HXS12.out.cell⟩ | with_reducible exact ⟨(HPS12.out.al _).cell, (HXS12.out.al _).cell⟩ | with_reducible exact ⟨((HPS12.out.al _).al _).cell, ((HXS12.out.al _).al _).cell⟩ | with_reducible exact ⟨HPS13.out.cell, HXS13.out.cell⟩ | with_reducible exact ⟨(HPS13.out.al _).cell, (HXS13.out.al _).cell⟩ | with_reducible exact ⟨((HPS13.out.al _).al _).cell, ((HXS13.out.al _).al _).cell⟩ | with_reducible exact ⟨(HP.out.far K1.out (by omega) _).cell, (HX.out.far K1.out (by omega) _).cell⟩ | with_reducible exact ⟨(HP.out.far K2.out (by omega) _).cell, (HX.out.far K2.out (by omega) _).cell⟩ | with_reducible exact ⟨((HP.out.far K1.out (by omega) _).al _).cell, ((HX.out.far K1.out (by omega) _).al _).cell⟩ | with_reducible exact ⟨((HP.out.far K1.out (by omega) _).far (K2.out.far K1.out (by omega) _) (by omega) _).cell, ((HX.out.far K1.out (by omega) _).far (K2.out.far K1.out (by omega) _) (by omega) _).cell⟩ | with_reducible exact ⟨((HP.out.far K2.out (by omega) _).far (K1.out.far K2.out (by omega) _) (by omega) _).cell, ((HX.out.far K2.out (by omega) _).far (K1.out.far K2.out (by omega) _) (by omega) _).cell⟩ | exact ⟨HPV.out.cell, HXV.out.cell⟩ | go_keep) (first
        | (go_at_call 28; (with_reducible refine (O5.out _).mono ?_); rintro e w11x ⟨A6x, n6x, c6x, rfl, hd, hnn6x, hb⟩; (first | with_reducible (have HX' := Lib.hid (HX.out.drew.below hb)) | with_reducible (have HX' := Lib.hid (((HX.out.al _).drew).below hb)) | with_reducible (have HX' := Lib.hid ((((HX.out.al _).al _).drew).below hb))); (first | with_reducible (have HY' := Lib.hid (HY.out.drew.below hb)) | with_reducible (have HY' := Lib.hid (((HY.out.al _).drew).below hb)) | with_reducible (have HY' := Lib.hid ((((HY.out.al _).al _).drew).below hb))); (first | with_reducible (have HP' := Lib.hid (HP.out.drew.below hb)) | with_reducible (have HP' := Lib.hid (((HP.out.al _).drew).below hb)) | with_reducible (have HP' := Lib.hid ((((HP.out.al _).al _).drew).below hb))); (first | with_reducible (have HB' := Lib.hid (aft_call HB.out.drew hb)) | with_reducible (have HB' := Lib.hid (aft_call (aft_al HB.out _).drew hb)) | with_reducible (have HB' := Lib.hid (aft_call (aft_al (aft_al HB.out _) _).drew hb))); (first | (with_reducible (have K1' := Lib.hid (K1.out.below hb)); with_reducible (have K2' := Lib.hid (K2.out.below hb)); clear K1 K2) | (with_reducible (have K1' := Lib.hid ((K1.out.al _).below hb)); have K2' := Lib.hid (((Bx.new (w := w10x) DAt.nil).drew).below hb); clear K1) | (with_reducible (have K1' := Lib.hid ((((Bx.new (w := w10x) DAt.nil).al _).drew).below hb)); have hk2 : Bx w11x (w10x.heap.size + 1) none 0 0 0 := (by have := ((Bx.new (w := w10x.alloc (.cells #[.slice none 0 0] 25)) DAt.nil).drew).below hb; rwa [World.size_alloc] at this); have K2' := Lib.hid hk2; clear hk2) | (with_reducible (have K1' := Lib.hid (K1.out.below hb)); clear K1) | (with_reducible (have K1' := Lib.hid (((Bx.new (w := w10x) DAt.nil).drew).below hb))) | skip); (try have K1 := K1'); (try clear K1'); (try have K2 := K2'); (try clear K2'); (try have lk1 := K1.out.lt); (try have lk2 := K2.out.lt); have Hfive' := Lib.hid hd; clear HX HY HP HB hd hb; have HX := HX'; clear HX'; have HY := HY'; clear HY'; have HP := HP'; clear HP'; have HB := HB'; clear HB'; have Hfive := Hfive'; clear Hfive'; have lX := HX.out.lt; have lY := HY.out.lt; have lP := HP.out.lt; have lz := HB.out.size; have HPS11 := HP; have HXS11 := HX)
        | (go_at_call 20; (with_reducible refine (add_sz A5x n5x c5x ((x * y)) A6x n6x c6x (5) _ (by first | with_reducible exact HP.out.at_ | with_reducible exact ((HP.out.al _)).at_ | with_reducible exact (((HP.out.al _).al _)).at_) (by first | with_reducible exact Hfive.out | with_reducible exact ((Hfive.out.al _)) | with_reducible exact (((Hfive.out.al _).al _))) (by omega) (by omega)).mono ?_); rintro e w12x ⟨A7x, n7x, c7x, rfl, hd, hnn7x, hb⟩; (first | with_reducible (have HX' := Lib.hid (HX.out.below hb)) | with_reducible (have HX' := Lib.hid (((HX.out.al _)).below hb)) | with_reducible (have HX' := Lib.hid ((((HX.out.al _).al _)).below hb))); (first | with_reducible (have HY' := Lib.hid (HY.out.below hb)) | with_reducible (have HY' := Lib.hid (((HY.out.al _)).below hb)) | with_reducible (have HY' := Lib.hid ((((HY.out.al _).al _)).below hb))); (first | with_reducible (have HP' := Lib.hid (HP.out.below hb)) | with_reducible (have HP' := Lib.hid (((HP.out.al _)).below hb)) | with_reducible (have HP' := Lib.hid ((((HP.out.al _).al _)).below hb))); (first | with_reducible (have HB' := Lib.hid (aft_call HB.out hb)) | with_reducible (have HB' := Lib.hid (aft_call (aft_al HB.out _) hb)) | with_reducible (have HB' := Lib.hid (aft_call (aft_al (aft_al HB.out _) _) hb))); (first | (with_reducible (have K1' := Lib.hid (K1.out.below hb)); with_reducible (have K2' := Lib.hid (K2.out.below hb)); clear K1 K2) | (with_reducible (have K1' := Lib.hid ((K1.out.al _).below hb)); have K2' := Lib.hid (((Bx.new (w := w11x) DAt.nil)).below hb); clear K1) | (with_reducible (have K1' := Lib.hid ((((Bx.new (w := w11x) DAt.nil).al _)).below hb)); have hk2 : Bx w12x (w11x.heap.size + 1) none 0 0 0 := (by have := ((Bx.new (w := w11x.alloc (.cells #[.slice none 0 0] 25)) DAt.nil)).below hb; rwa [World.size_alloc] at this); have K2' := Lib.hid hk2; clear hk2) | (with_reducible (have K1' := Lib.hid (K1.out.below hb)); clear K1) | (with_reducible (have K1' := Lib.hid (((Bx.new (w := w11x) DAt.nil)).below hb))) | skip); (try have K1 := K1'); (try clear K1'); (try have K2 := K2'); (try clear K2'); (try have lk1 := K1.out.lt); (try have lk2 := K2.out.lt); have Hs' := Lib.hid hd; clear HX HY HP Hfive HB hd hb; have HX := HX'; clear HX'; have HY := HY'; clear HY'; have HP := HP'; clear HP'; have HB := HB'; clear HB'; have Hs := Hs'; clear Hs'; have lX := HX.out.lt; have lY := HY.out.lt; have lP := HP.out.lt; have lz := HB.out.size; have HPS12 := HP; have HXS12 := HX)
        | (go_at_call 15; (with_reducible refine (divmod_pos A7x n7x c7x (((x * y) + 5)) A1x n1x c1x (x) _ (by first | with_reducible exact Hs.out | with_reducible exact ((Hs.out.al _)) | with_reducible exact (((Hs.out.al _).al _))) (by first | with_reducible exact HX.out.at_ | with_reducible exact ((HX.out.al _)).at_ | with_reducible exact (((HX.out.al _).al _)).at_) (by omega) (by omega) hx0).mono ?_); rintro e w13x ⟨A8x, n8x, c8x, A9x, n9x, c9x, rfl, hd, hd2, hnn8x, hnn9x, hb⟩; (first | with_reducible (have HX' := Lib.hid (HX.out.below hb)) | with_reducible (have HX' := Lib.hid (((HX.out.al _)).below hb)) | with_reducible (have HX' := Lib.hid ((((HX.out.al _).al _)).below hb))); (first | with_reducible (have HY' := Lib.hid (HY.out.below hb)) | with_reducible (have HY' := Lib.hid (((HY.out.al _)).below hb)) | with_reducible (have HY' := Lib.hid ((((HY.out.al _).al _)).below hb))); (first | with_reducible (have HP' := Lib.hid (HP.out.below hb)) | with_reducible (have HP' := Lib.hid (((HP.out.al _)).below hb)) | with_reducible (have HP' := Lib.hid ((((HP.out.al _).al _)).below hb))); (first | with_reducible (have HB' := Lib.hid (aft_call HB.out hb)) | with_reducible (have HB' := Lib.hid (aft_call (aft_al HB.out _) hb)) | with_reducible (have HB' := Lib.hid (aft_call (aft_al (aft_al HB.out _) _) hb))); (first | (with_reducible (have K1' := Lib.hid (K1.out.below hb)); with_reducible (have K2' := Lib.hid (K2.out.below hb)); clear K1 K2) | (with_reducible (have K1' := Lib.hid ((K1.out.al _).below hb)); have K2' := Lib.hid (((Bx.new (w := w12x) DAt.nil)).below hb); clear K1) | (with_reducible (have K1' := Lib.hid ((((Bx.new (w := w12x) DAt.nil).al _)).below hb)); have hk2 : Bx w13x (w12x.heap.size + 1) none 0 0 0 := (by have := ((Bx.new (w := w12x.alloc (.cells #[.slice none 0 0] 25)) DAt.nil)).below hb; rwa [World.size_alloc] at this); have K2' := Lib.hid hk2; clear hk2) | (with_reducible (have K1' := Lib.hid (K1.out.below hb)); clear K1) | (with_reducible (have K1' := Lib.hid (((Bx.new (w := w12x) DAt.nil)).below hb))) | skip); (try have K1 := K1'); (try clear K1'); (try have K2 := K2'); (try clear K2'); (try have lk1 := K1.out.lt); (try have lk2 := K2.out.lt); have Hq1' := Lib.hid hd; have Hr1' := Lib.hid hd2; clear HX HY HP Hs HB hd hd2 hb; have HX := HX'; clear HX'; have HY := HY'; clear HY'; have HP := HP'; clear HP'; have HB := HB'; clear HB'; have Hq1 := Hq1'; clear Hq1'; have Hr1 := Hr1'; clear Hr1'; have lX := HX.out.lt; have lY := HY.out.lt; have lP := HP.out.lt; have lz := HB.out.size; have HPS13 := HP; have HXS13 := HX; (first | (have q1 := K1.out.cell; have q2 := K2.out.cell; have r1 := K1.out.fr; have r2 := K2.out.fr; have s12 := fun u : Value => (Bx.far K2.out K1.out (by omega) u).cell; have s21 := fun u : Value => (Bx.far K1.out K2.out (by omega) u).cell) | (have q1 := K1.out.cell; have r1 := K1.out.fr) | skip)))
      all_goals
        go_wp2_with fail
        go_meet
        first
        | with_reducible exact ⟨_, A8x, n8x, c8x, _, A9x, n9x, c9x, rfl, rfl, rfl, (HX.out.far K1.out (by omega) _).far (K2.out.far K1.out (by omega) _) (by omega) _, (HY.out.far K1.out (by omega) _).far (K2.out.far K1.out (by omega) _) (by omega) _, (HP.out.far K1.out (by omega) _).far (K2.out.far K1.out (by omega) _) (by omega) _, Bx.far (Bx.st K1.out Hq1.out) (Bx.far K2.out K1.out (by omega) _) (by omega) _, Bx.st (Bx.far K2.out K1.out (by omega) _) (Hr1.out.st K1.out _), (by omega), (by omega), aft_set (aft_set HB.out (by omega) _) (by omega) _⟩
        | with_reducible exact ⟨_, A8x, n8x, c8x, _, A9x, n9x, c9x, rfl, rfl, rfl, (HX.out.far K2.out (by omega) _).far (K1.out.far K2.out (by omega) _) (by omega) _, (HY.out.far K2.out (by omega) _).far (K1.out.far K2.out (by omega) _) (by omega) _, (HP.out.far K2.out (by omega) _).far (K1.out.far K2.out (by omega) _) (by omega) _, Bx.far (Bx.st K2.out Hq1.out) (Bx.far K1.out K2.out (by omega) _) (by omega) _, Bx.st (Bx.far K1.out K2.out (by omega) _) (Hr1.out.st K2.out _), (by omega), (by omega), aft_set (aft_set HB.out (by omega) _) (by omega) _⟩
        | with_reducible exact ⟨_, A8x, n8x, c8x, _, A9x, n9x, c9x, rfl, rfl, rfl, (HX.out.far K1.out (by omega) _).al _, (HY.out.far K1.out (by omega) _).al _, (HP.out.far K1.out (by omega) _).al _, (Bx.st K1.out Hq1.out).al _, Bx.newAt (Hr1.out.st K1.out _) (by simp [World.setCell]), (by omega), (by omega), aft_al (aft_set HB.out (by omega) _) _⟩
        | with_reducible exact ⟨_, A8x, n8x, c8x, _, A9x, n9x, c9x, rfl, rfl, rfl, (HX.out.far K1.out (by omega) _).al _, (HY.out.far K1.out (by omega) _).al _, (HP.out.far K1.out (by omega) _).al _, Bx.newAt (Hq1.out.st K1.out _) (by simp [World.setCell]), (Bx.st K1.out Hr1.out).al _, (by omega), (by omega), aft_al (aft_set HB.out (by omega) _) _⟩
        | with_reducible exact ⟨_, A8x, n8x, c8x, _, A9x, n9x, c9x, rfl, rfl, rfl, (HX.out.al _).al _, (HY.out.al _).al _, (HP.out.al _).al _, (Bx.new Hq1.out).al _, Bx.newAt (Hr1.out.al _) (by simp), (by omega), (by omega), aft_al (aft_al HB.out _) _⟩
        | with_reducible exact ⟨_, A8x, n8x, c8x, _, A9x, n9x, c9x, rfl, rfl, rfl, (HX.out.al _).al _, (HY.out.al _).al _, (HP.out.al _).al _, Bx.newAt (Hq1.out.al _) (by simp), (Bx.new Hr1.out).al _, (by omega), (by omega), aft_al (aft_al HB.out _) _⟩
  case rest =>
    clear HX HY HP HB HPV HXV lX lY lP lw
    obtain ⟨p14_0, A14_0, n14_0, c14_0, p14_1, A14_1, n14_1, c14_1, rfl, rfl, rfl, hX, hY, hP, hQ, hR, hn14_0, hn14_1, hB⟩ := hcut
    have HX := Lib.hid hX
    have HY := Lib.hid hY
    have HP := Lib.hid hP
    have HQ := Lib.hid hQ
    have HR := Lib.hid hR
    have HB := Lib.hid hB
    clear hX hY hP hQ hR hB
    have HR' := Lib.hid (show Bx wc p14_1 A14_1 n14_1 c14_1 5 from GDI.out.2 ▸ HR.out)
    have HQ' := Lib.hid (show Bx wc p14_0 A14_0 n14_0 c14_0 y from GDI.out.1 ▸ HQ.out)
    clear HR HQ
    have HR := HR'; have HQ := HQ'
    clear HR' HQ'
    have cR := HR.out.cell
    go_wp2_with fail
    clear cR
    refine (uint_of A14_1 n14_1 c14_1 5 wc HR.out.at_ (by omega) (by decide)).mono ?_
    rintro e w15x ⟨rfl, hb⟩
    have HX' := Lib.hid (HX.out.below hb)
    have HY' := Lib.hid (HY.out.below hb)
    have HP' := Lib.hid (HP.out.below hb)
    have HQ' := Lib.hid (HQ.out.below hb)
    have HR' := Lib.hid (HR.out.below hb)
    have HB' := Lib.hid (aft_call HB.out hb)
    clear HX HY HP HQ HR HB hb
    have HX := HX'
    clear HX'
    have HY := HY'
    clear HY'
    have HP := HP'
    clear HP'
    have HQ := HQ'
    clear HQ'
    have HR := HR'
    clear HR'
    have HB := HB'
    clear HB'
    clear HR
    have cQ := HQ.out.cell; have cY := HY.out.cell
    go_wp2_with fail
    clear cQ cY
    refine (cmp_same A14_0 n14_0 c14_0 y A2x n2x c2x y w15x HQ.out.at_ HY.out.at_ (by omega) (by omega) rfl).mono ?_
    rintro e w16x ⟨rfl, hb⟩
    have HX' := Lib.hid (HX.out.below hb)
    have HY' := Lib.hid (HY.out.below hb)
    have HP' := Lib.hid (HP.out.below hb)
    have HQ' := Lib.hid (HQ.out.below hb)
    have HB' := Lib.hid (aft_call HB.out hb)
    clear HX HY HP HQ HB hb
    have HX := HX'
    clear HX'
    have HY := HY'
    clear HY'
    have HP := HP'
    clear HP'
    have HQ := HQ'
    clear HQ'
    have HB := HB'
    clear HB'
    clear HQ HY
    obtain ⟨q1, q2⟩ := HF.out
    have cX := HX.out.cell
    go_wp2_with fail
    clear cX
    clear q1 q2
    refine (left_sz A1x n1x c1x x f w16x HX.out.at_ (by omega) (by omega)).mono ?_
    rintro e w17x ⟨A10x, n10x, c10x, rfl, hd, hnn10x, hb⟩
    have HX' := Lib.hid (HX.out.below hb)
    have HP' := Lib.hid (HP.out.below hb)
    have HB' := Lib.hid (aft_call HB.out hb)
    have Hl1' := Lib.hid hd
    clear HX HP HB hd hb
    have HX := HX'
    clear HX'
    have HP := HP'
    clear HP'
    have HB := HB'
    clear HB'
    have Hl1 := Hl1'
    clear Hl1'
    have HX' := Lib.hid (HX.out.al (.cells #[.slice A10x n10x c10x] 25))
    have HP' := Lib.hid (HP.out.al (.cells #[.slice A10x n10x c10x] 25))
    have HB' := Lib.hid (aft_al HB.out (.cells #[.slice A10x n10x c10x] 25))
    have hL' : Bx (w17x.alloc (.cells #[.slice A10x n10x c10x] 25)) (w17x.heap.size) A10x n10x c10x ((x * 2 ^ f)) := by have := (Bx.new Hl1.out); simpa only [World.size_alloc] using this
    have HL' := Lib.hid hL'
    clear HX HP HB Hl1 hL'
    have HX := HX'
    clear HX'
    have HP := HP'
    clear HP'
    have HL := HL'
    clear HL'
    have HB := HB'
    clear HB'
    go_wp2_with fail
    generalize (w17x.alloc (.cells #[.slice A10x n10x c10x] 25)) = V17x at *
    skip
    generalize w17x.heap.size = q17_0 at *
    have kw1 : IntKind.i64.wrap ((a : Int) + 1) = (a : Int) + 1 := by rw [IntKind.wrap_i64]; omega
    have kw2 : IntKind.i64.wrap ((a : Int) + 1 + (f : Int)) = (a : Int) + 1 + (f : Int) := by rw [IntKind.wrap_i64]; omega
    have kw3 : IntKind.i64.wrap ((f : Int) - 1) = (f : Int) - 1 := by rw [IntKind.wrap_i64]; omega
    have HLN := Lib.hid (fun (A : Option Addr) (n c : Nat) (wq : World) (h : DAt B64 wq A n c (x * 2 ^ f)) (hn : n ≤ 1099511627776) => (show Calls Try.prog 16 #[.agg #[.slice A n c]] wq fun e w' => e = .returned (.int .i64 ((a : Int) + 1 + (f : Int))) ∧ Below wq.heap.size wq w' by
      have := len_of A n c _ _ wq h hn GLF.out.1
      rwa [show ((a + 1 + f : Nat) : Int) = (a : Int) + 1 + (f : Int) by omega] at this))
    have HBF := Lib.hid (fun (A : Option Addr) (n c : Nat) (wq : World) (h : DAt B64 wq A n c (x * 2 ^ f)) => (show Calls Try.prog 33 #[.agg #[.slice A n c], .int .i64 ((f : Int) - 1)] wq fun e w' => e = .returned (.bool false) ∧ Below wq.heap.size wq w' by
      rcases Nat.eq_zero_or_pos f with h0 | h0
      · exact bit_less A n c _ _ wq h (by omega)
      · have := bit_is A n c _ (f - 1) false wq h (by omega) (GLF.out.2.2.1 h0)
        rwa [show ((f - 1 : Nat) : Int) = (f : Int) - 1 by omega] at this))
    have hft : (f : Int).toNat = f := Int.toNat_natCast f
    have HFT := Lib.hid hft
    clear hft
    go_region_held3 (fun w' => w'.cell? ⟨q2_0, 0, none⟩ = some (.slice A1x n1x c1x) ∧ w'.cell? ⟨q9_0, 0, none⟩ = some (.slice A5x n5x c5x) ∧ w'.cell? ⟨q17_0, 0, none⟩ = some (.slice A10x n10x c10x)) (first | exact ⟨HX.out.cell, HP.out.cell, HL.out.cell⟩ | exact ⟨HX.out.drew.cell, HP.out.drew.cell, HL.out.drew.cell⟩ | go_keep) (first
      | (go_at_call 16; (with_reducible refine (HLN.out A10x n10x c10x V17x.drew HL.out.drew.at_ (by omega)).mono ?_); rintro e w18x ⟨rfl, hb⟩; have HX' := Lib.hid (HX.out.drew.below hb); have HP' := Lib.hid (HP.out.drew.below hb); have HL' := Lib.hid (HL.out.drew.below hb); have HB' := Lib.hid (aft_call HB.out.drew hb); clear HX HP HL HB hb; have HX := HX'; clear HX'; have HP := HP'; clear HP'; have HL := HL'; clear HL'; have HB := HB'; clear HB')
      | (go_at_call 33; (with_reducible refine (bit_is A10x n10x c10x (x * 2 ^ f) f true w18x HL.out.at_ (by omega) GLF.out.2.1).mono ?_); rintro e w19x ⟨rfl, hb⟩; have HX' := Lib.hid (HX.out.below hb); have HP' := Lib.hid (HP.out.below hb); have HL' := Lib.hid (HL.out.below hb); have HB' := Lib.hid (aft_call HB.out hb); clear HX HP HL HB hb; have HX := HX'; clear HX'; have HP := HP'; clear HP'; have HL := HL'; clear HL'; have HB := HB'; clear HB')
      | (go_at_call 33; (with_reducible refine (HBF.out A10x n10x c10x w19x HL.out.at_).mono ?_); rintro e w20x ⟨rfl, hb⟩; have HX' := Lib.hid (HX.out.below hb); have HP' := Lib.hid (HP.out.below hb); have HL' := Lib.hid (HL.out.below hb); have HB' := Lib.hid (aft_call HB.out hb); clear HX HP HL HB hb; have HX := HX'; clear HX'; have HP := HP'; clear HP'; have HL := HL'; clear HL'; have HB := HB'; clear HB')
      | (go_at_call 34; (with_reducible refine (right_sz A10x n10x c10x (x * 2 ^ f) (f : Int) w20x HL.out.at_ (by omega) (by omega)).mono ?_); rintro e w21x ⟨A11x, n11x, c11x, rfl, hd, hnn11x, hb⟩; have HX' := Lib.hid (HX.out.below hb); have HP' := Lib.hid (HP.out.below hb); have HL' := Lib.hid (HL.out.below hb); have HB' := Lib.hid (aft_call HB.out hb); have Hv' := Lib.hid hd; clear HX HP HL HB hd hb; have HX := HX'; clear HX'; have HP := HP'; clear HP'; have HL := HL'; clear HL'; have HB := HB'; clear HB'; have Hv := Hv'; clear Hv')
      | (go_at_call 17; (with_reducible refine (cmp_same A11x n11x c11x ((x * 2 ^ f / 2 ^ (f : Int).toNat)) A1x n1x c1x (x) w21x Hv.out HX.out.at_ (by omega) (by omega) (show x * 2 ^ f / 2 ^ (f : Int).toNat = x by rw [HFT.out]; exact GLF.out.2.2.2)).mono ?_); rintro e w22x ⟨rfl, hb⟩; have HX' := Lib.hid (HX.out.below hb); have HP' := Lib.hid (HP.out.below hb); have HL' := Lib.hid (HL.out.below hb); have HB' := Lib.hid (aft_call HB.out hb); clear HX HP HL Hv HB hb; have HX := HX'; clear HX'; have HP := HP'; clear HP'; have HL := HL'; clear HL'; have HB := HB'; clear HB')
      | (go_at_call 36; (with_reducible refine (gcd_sz A5x n5x c5x ((x * y)) A1x n1x c1x (x) w22x HP.out.at_ HX.out.at_ (by omega) (by omega)).mono ?_); rintro e w23x ⟨A12x, n12x, c12x, rfl, hd, hnn12x, hb⟩; have HX' := Lib.hid (HX.out.below hb); have HP' := Lib.hid (HP.out.below hb); have HL' := Lib.hid (HL.out.below hb); have HB' := Lib.hid (aft_call HB.out hb); have Hgg' := Lib.hid hd; clear HX HP HL HB hd hb; have HX := HX'; clear HX'; have HP := HP'; clear HP'; have HL := HL'; clear HL'; have HB := HB'; clear HB'; have Hgg := Hgg'; clear Hgg')
      | (go_at_call 17; (with_reducible refine (cmp_same A12x n12x c12x ((Nat.gcd (x * y) x)) A1x n1x c1x (x) w23x Hgg.out HX.out.at_ (by omega) (by omega) GGC.out).mono ?_); rintro e w24x ⟨rfl, hb⟩; have HX' := Lib.hid (HX.out.below hb); have HP' := Lib.hid (HP.out.below hb); have HL' := Lib.hid (HL.out.below hb); have HB' := Lib.hid (aft_call HB.out hb); clear HX HP HL Hgg HB hb; have HX := HX'; clear HX'; have HP := HP'; clear HP'; have HL := HL'; clear HL'; have HB := HB'; clear HB')
      | (go_at_call 21; (with_reducible refine (started_any w24x).mono ?_); rintro e w25x ⟨rfl, hb⟩; have HX' := Lib.hid (HX.out.below hb); have HP' := Lib.hid (HP.out.below hb); have HL' := Lib.hid (HL.out.below hb); have HB' := Lib.hid (aft_call HB.out hb); clear HX HP HL HB hb; have HX := HX'; clear HX'; have HP := HP'; clear HP'; have HL := HL'; clear HL'; have HB := HB'; clear HB'))
    go_wp2_with fail
    exact bodyPost_ret (v := .bool true) (by simp [results, Try.results10, go_sem]) rfl ⟨rfl, HB.out⟩

theorem natGreat_walk (a0 c0 f0 : Int) (w : World) (h0 : (Lit.int .i64 a0).wf = true) (h1 : (Lit.int .i64 c0).wf = true) (h2 : (Lit.int .i64 f0).wf = true) :
    Calls Try.prog 10 #[.int .i64 a0, .int .i64 c0, .int .i64 f0] w fun e w' => e = .returned (.bool true) ∧ Below w.heap.size w w' := natGreat_walk0 a0 c0 f0 w
end Go.Proofs.Ytijbhbjenddiaaa
