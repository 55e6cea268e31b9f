/-
  The laws' helpers: bytes cut off; the document's examples, first half.
-/
import Derived.Test.YtijbhbjenddiaaaBA
import Derived.Deep.CutRange
import Derived.Deep.DeepCutAuto
set_option linter.unusedVariables false
set_option linter.unusedSimpArgs false
namespace Go.Proofs.Ytijbhbjenddiaaa
open Go.RowKit

set_option maxRecDepth 100000 in
set_option maxHeartbeats 20000000 in
theorem started_any (w : World) : Calls Try.prog 21 #[] w fun e w' => e = .returned (.bool true) ∧ Below w.heap.size w w' := by
  have o1 := fun wq : World => of_sz 18446744073709551615 (by rw [B64_eq]; omega) wq
  have o2 := fun wq : World => of_sz 1 (by rw [B64_eq]; omega) wq
  have o3 := fun wq : World => of_sz 17 (by rw [B64_eq]; omega) wq
  have o4 := fun wq : World => of_sz 5 (by rw [B64_eq]; omega) wq
  have o5 := fun wq : World => of_sz 256 (by rw [B64_eq]; omega) wq
  rw [show ((256 : Nat) : Int) = 256 from rfl] at o5
  have O5 := Lib.hid o5
  clear o5
  rw [show ((18446744073709551615 : Nat) : Int) = 18446744073709551615 from rfl] at o1
  rw [show ((1 : Nat) : Int) = 1 from rfl] at o2
  rw [show ((17 : Nat) : Int) = 17 from rfl] at o3
  rw [show ((5 : Nat) : Int) = 5 from rfl] at o4
  have O1 := Lib.hid o1; have O2 := Lib.hid o2; have O3 := Lib.hid o3; have O4 := Lib.hid o4
  clear o1 o2 o3 o4
  go_enter Try.func21, Try.ntmps21
  go_wp2_with fail
  refine (O1.out _).mono ?_
  rintro e w1 ⟨A1, n1, c1, rfl, hd1, hn1, hb1⟩
  go_wp2_with fail
  refine (O2.out _).mono ?_
  rintro e w2 ⟨A2, n2, c2, rfl, hd2, hn2, hb2⟩
  go_wp2_with fail
  refine (add_sz A1 n1 c1 _ A2 n2 c2 _ _ (hd1.below hb2) hd2 (by omega) (by omega)).mono ?_
  rintro e w3 ⟨A3, n3, c3, rfl, hd3, hn3, hb3⟩
  have HB3 := Lib.hid (hb1.trans ((hb2.mono hb1.size).trans (hb3.mono (Nat.le_trans hb1.size hb2.size))))
  clear hd1 hb1 hd2 hb2 hb3
  go_wp2_with fail
  refine (O3.out _).mono ?_
  rintro e w4 ⟨A4, n4, c4, rfl, hd4, hn4, hb4⟩
  have hx0 : Bx ((w4.alloc (.cells #[.slice A3 n3 c3] 25)).alloc (.cells #[.slice A4 n4 c4] 25)) w4.heap.size A3 n3 c3 (18446744073709551615 + 1) := (Bx.new (hd3.below hb4)).al _
  have hy0 : Bx ((w4.alloc (.cells #[.slice A3 n3 c3] 25)).alloc (.cells #[.slice A4 n4 c4] 25)) (w4.heap.size + 1) A4 n4 c4 17 := by have := Bx.new (hd4.al (.cells #[.slice A3 n3 c3] 25)); rwa [World.size_alloc] at this
  have hb0 := ((HB3.out.trans (hb4.mono HB3.out.size)).alloc (Nat.le_trans HB3.out.size hb4.size) (.cells #[.slice A3 n3 c3] 25)).alloc (by have := HB3.out.size; have := hb4.size; simp; omega) (.cells #[.slice A4 n4 c4] 25)
  have HX := Lib.hid hx0; have HY := Lib.hid hy0; have HB := Lib.hid hb0
  clear hd3 hd4 hb4 HB3 hx0 hy0 hb0
  go_wp2_with fail
  generalize (w4.alloc (.cells #[.slice A3 n3 c3] 25)).alloc (.cells #[.slice A4 n4 c4] 25) = W at *
  have hc1 := HX.out.cell
  have hc2 := HY.out.cell
  generalize w4.heap.size + 1 = p2 at *
  generalize w4.heap.size = p1 at *
  go_cut [3, 4, 5] (fun s3 s4 s5 wx => ∃ p3 p4 A5 n5 c5 A6 n6 c6, s3 = .pointer (some ⟨p3, 0, none⟩) ∧ s4 = .pointer (some ⟨p4, 0, none⟩) ∧ s5 = .bool true ∧ Bx wx p1 A3 n3 c3 (18446744073709551615 + 1) ∧ Bx wx p3 A5 n5 c5 3 ∧ Bx wx p4 A6 n6 c6 2 ∧ n5 ≤ 1 ∧ n6 ≤ 1 ∧ Below w.heap.size w wx)
  case first =>
    have l0 := HX.out.lt
    have lw := HB.out.size
    have l2 := HY.out.lt
    have HC2 := Lib.hid hc2; have HC2a := Lib.hid (fun o => (HY.out.al o).cell); have HC2b := Lib.hid (fun o o' => ((HY.out.al o).al o').cell)
    clear hc1 hc2
    go_region_held3 (fun w' => w'.cell? ⟨p2, 0, none⟩ = some (.slice A4 n4 c4)) (first | exact HC2.out | exact HC2a.out _ | exact HC2b.out _ _ | exact yc5.out | exact yc6.out | exact ya5.out _ | exact yb5.out _ _ | exact ya6.out _ | exact yb6.out _ _ | exact ys1.out _ | exact ys2.out _ | exact ys12.out _ _ | exact ys21.out _ _ | exact ysa.out _ _ | go_keep) (first
      | (go_at_call 28; (with_reducible refine (O4.out _).mono ?_); rintro e w5 ⟨A5, n5, c5, rfl, hd5, hn5, hb5⟩
         first
         | (have hx5 := HX.out.drew.below hb5; have hy5 := HY.out.drew.below hb5; have hB5 := aft_call HB.out.drew hb5)
         | (have hx5 := (HX.out.al _).drew.below hb5; have hy5 := (HY.out.al _).drew.below hb5; have hB5 := aft_call (aft_al HB.out _).drew hb5; have k1 := (Bx.new (w := W) DAt.nil).drew.below hb5; have lk := k1.lt)
         | (have hx5 := ((HX.out.al _).al _).drew.below hb5; have hy5 := ((HY.out.al _).al _).drew.below hb5; have hB5 := aft_call (aft_al (aft_al HB.out _) _).drew hb5; have k1 := ((Bx.new (w := W) DAt.nil).al _).drew.below hb5; have lk := k1.lt; have k2 : Bx w5 (W.heap.size + 1) none 0 0 0 := (by have := (Bx.new (w := W.alloc (.cells #[.slice none 0 0] 25)) DAt.nil).drew.below hb5; rwa [World.size_alloc] at this))
         have ly5 := hy5.lt; have lz := hx5.lt
         have yc5 := Lib.hid hy5.cell; have ya5 := Lib.hid (fun o => (hy5.al o).cell); have yb5 := Lib.hid (fun o o' => ((hy5.al o).al o').cell)
         have HX5 := Lib.hid hx5; have HB5 := Lib.hid hB5; have HY5 := Lib.hid hy5; 
         have lz5 := hB5.size
         clear hx5 hB5 hb5 hy5)
      | (go_at_call 15; (with_reducible refine (divmod_sz A4 n4 c4 17 A5 n5 c5 5 _ ?_ ?_ (by omega) (by omega)).mono ?_)
         · first | exact HY5.out.at_ | exact (HY5.out.al _).at_ | exact ((HY5.out.al _).al _).at_
         · first | exact hd5 | exact hd5.al _ | exact (hd5.al _).al _
         rintro e w6 ⟨A6, n6, c6, A7, n7, c7, rfl, hd6, hd7, hn6, hn7, hb6⟩
         have hy6 : Bx w6 p2 A4 n4 c4 17 := by first | exact HY5.out.below hb6 | exact (HY5.out.al _).below hb6 | exact ((HY5.out.al _).al _).below hb6
         have yc6 := Lib.hid hy6.cell; have ya6 := Lib.hid (fun o => (hy6.al o).cell); have yb6 := Lib.hid (fun o o' => ((hy6.al o).al o').cell)
         first
         | (have hx6 := HX5.out.below hb6; have hB6 := aft_call HB5.out hb6)
         | (have hx6 := (HX5.out.al _).below hb6; have hB6 := aft_call (aft_al HB5.out _) hb6; have j1 := (Bx.new (w := w5) DAt.nil).below hb6)
         | (have hx6 := ((HX5.out.al _).al _).below hb6; have hB6 := aft_call (aft_al (aft_al HB5.out _) _) hb6; have j1 := ((Bx.new (w := w5) DAt.nil).al _).below hb6; have j2 : Bx w6 (w5.heap.size + 1) none 0 0 0 := (by have := (Bx.new (w := w5.alloc (.cells #[.slice none 0 0] 25)) DAt.nil).below hb6; rwa [World.size_alloc] at this))
         have hd6' : DAt B64 w6 A6 n6 c6 3 := hd6
         have hd7' : DAt B64 w6 A7 n7 c7 2 := hd7
         have m6 := hd6'.le two_le_B64 (k := 1) (by decide)
         have m7 := hd7'.le two_le_B64 (k := 1) (by decide)
         first
         | (have K1 := k1.below hb6; have K2 := k2.below hb6)
         | (have K1 := (k1.al _).below hb6; have K2 := j1)
         | (have K1 := j1; have K2 := j2)
         | (have K1 := k1.below hb6)
         | (have K1 := j1)
         | skip
         first
         | (have q1 := K1.cell; have q2 := K2.cell; have r1 := K1.fr; have r2 := K2.fr; have t1 := K1.lt; have t2 := K2.lt; have s12 := fun u : Value => (Bx.far K2 K1 (by omega) u).cell; have s21 := fun u : Value => (Bx.far K1 K2 (by omega) u).cell; have ys1 := Lib.hid (fun u : Value => (Bx.far hy6 K1 (by omega) u).cell); have ys2 := Lib.hid (fun u : Value => (Bx.far hy6 K2 (by omega) u).cell); have ys12 := Lib.hid (fun u u' : Value => (Bx.far (Bx.far hy6 K1 (by omega) u) (Bx.far K2 K1 (by omega) u) (by omega) u').cell); have ys21 := Lib.hid (fun u u' : Value => (Bx.far (Bx.far hy6 K2 (by omega) u) (Bx.far K1 K2 (by omega) u) (by omega) u').cell); have KK1 := Lib.hid K1; have KK2 := Lib.hid K2; clear K1 K2)
         | (have q1 := K1.cell; have r1 := K1.fr; have t1 := K1.lt; have ys1 := Lib.hid (fun u : Value => (Bx.far hy6 K1 (by omega) u).cell); have ysa := Lib.hid (fun (u : Value) (o : Obj) => ((Bx.far hy6 K1 (by omega) u).al o).cell); have KK1 := Lib.hid K1; clear K1)
         | skip
         have HX6 := Lib.hid hx6; have HB6 := Lib.hid hB6; have HD6 := Lib.hid hd6'; have HD7 := Lib.hid hd7'; have lz6 := hB6.size
         clear hx6 hB6 hd6 hd7 hd6' hd7' hb6 hd5 hy6))
    all_goals
      go_wp2_with fail
      go_meet
      first
      | exact ⟨_, _, A6, n6, c6, A7, n7, c7, rfl, rfl, rfl, Bx.far (Bx.far HX6.out KK1.out (by omega) _) (Bx.far KK2.out KK1.out (by omega) _) (by omega) _, Bx.far (Bx.st KK1.out HD6.out) (Bx.far KK2.out KK1.out (by omega) _) (by omega) _, Bx.st (Bx.far KK2.out KK1.out (by omega) _) (HD7.out.st KK1.out _), m6, m7, aft_set (aft_set HB6.out (by omega) _) (by omega) _⟩
      | exact ⟨_, _, A6, n6, c6, A7, n7, c7, rfl, rfl, rfl, Bx.far (Bx.far HX6.out KK2.out (by omega) _) (Bx.far KK1.out KK2.out (by omega) _) (by omega) _, Bx.far (Bx.st KK2.out HD6.out) (Bx.far KK1.out KK2.out (by omega) _) (by omega) _, Bx.st (Bx.far KK1.out KK2.out (by omega) _) (HD7.out.st KK2.out _), m6, m7, aft_set (aft_set HB6.out (by omega) _) (by omega) _⟩
      | exact ⟨_, _, A6, n6, c6, A7, n7, c7, rfl, rfl, rfl, (Bx.far HX6.out KK1.out (by omega) _).al _, (Bx.st KK1.out HD6.out).al _, Bx.newAt (HD7.out.st KK1.out _) (by simp [World.setCell]), m6, m7, aft_al (aft_set HB6.out (by omega) _) _⟩
      | exact ⟨_, _, A6, n6, c6, A7, n7, c7, rfl, rfl, rfl, (Bx.far HX6.out KK1.out (by omega) _).al _, Bx.newAt (HD6.out.st KK1.out _) (by simp [World.setCell]), (Bx.st KK1.out HD7.out).al _, m6, m7, aft_al (aft_set HB6.out (by omega) _) _⟩
      | exact ⟨_, _, A6, n6, c6, A7, n7, c7, rfl, rfl, rfl, (HX6.out.al _).al _, (Bx.new HD6.out).al _, Bx.newAt (HD7.out.al _) (by simp), m6, m7, aft_al (aft_al HB6.out _) _⟩
      | exact ⟨_, _, A6, n6, c6, A7, n7, c7, rfl, rfl, rfl, (HX6.out.al _).al _, Bx.newAt (HD6.out.al _) (by simp), (Bx.new HD7.out).al _, m6, m7, aft_al (aft_al HB6.out _) _⟩
  case rest =>
    clear HX HY HB hc1 hc2
    obtain ⟨p3, p4, A5, n5, c5, A6, n6, c6, rfl, rfl, rfl, hX, h3, h4, m5, m6, hB⟩ := hcut
    have c3 := h3.cell
    have HX := Lib.hid hX; have H3 := Lib.hid h3; have H4 := Lib.hid h4; have HB := Lib.hid hB
    clear hX h3 h4 hB
    go_wp2_with fail
    refine (uint_of A5 n5 c5 3 _ H3.out.at_ (by omega) (by decide)).mono ?_
    rintro e x1 ⟨rfl, hb⟩
    have HX1 := Lib.hid (HX.out.below hb); have H41 := Lib.hid (H4.out.below hb); have HB1 := Lib.hid (aft_call HB.out hb)
    clear hb HX H3 H4 HB c3
    have c4 := H41.out.cell
    go_wp2_with fail
    refine (uint_of A6 n6 c6 2 _ H41.out.at_ (by omega) (by decide)).mono ?_
    rintro e x2 ⟨rfl, hb⟩
    have HX2 := Lib.hid (HX1.out.below hb); have HB2 := Lib.hid (aft_call HB1.out hb)
    clear hb HX1 H41 HB1 c4
    go_wp2_with fail
    refine (parse_seven _).mono ?_
    rintro e x3 ⟨A7, n7, c7, rfl, hd7, hn7, hb⟩
    have HX3 := Lib.hid ((HX2.out.below hb).al (.cells #[.slice A7 n7 c7] 25)); have HB3 := Lib.hid (aft_al (aft_call HB2.out hb) (.cells #[.slice A7 n7 c7] 25)); have H7 := Lib.hid (Bx.new hd7)
    clear hb HX2 HB2 hd7
    go_wp2_with fail
    generalize x3.alloc (.cells #[.slice A7 n7 c7] 25) = y3 at *
    generalize x3.heap.size = p7 at *
    refine (O2.out _).mono ?_
    rintro e x4 ⟨A8, n8, c8, rfl, hd8, hn8, hb⟩
    have HX4 := Lib.hid (HX3.out.below hb); have HB4 := Lib.hid (aft_call HB3.out hb); have H74 := Lib.hid (H7.out.below hb)
    clear hb HX3 HB3 H7
    go_wp2_with fail
    refine (left_far1 A8 n8 c8 _ hd8 (by omega)).mono ?_
    rintro e x5 ⟨A9, n9, c9, rfl, hd9, hb⟩
    have HX5 := Lib.hid ((HX4.out.below hb).al (.cells #[.slice A9 n9 c9] 25)); have HB5 := Lib.hid (aft_al (aft_call HB4.out hb) (.cells #[.slice A9 n9 c9] 25)); have H75 := Lib.hid ((H74.out.below hb).al (.cells #[.slice A9 n9 c9] 25))
    clear hb HX4 HB4 H74 hd8 hd9
    have cX := HX5.out.cell
    go_wp2_with fail
    refine (text_of A3 n3 c3 _ _ _ HX5.out.at_ (by omega) txt_great).mono ?_
    rintro e x6 ⟨rfl, hb⟩
    have HX6 := Lib.hid (HX5.out.below hb); have HB6 := Lib.hid (aft_call HB5.out hb); have H76 := Lib.hid (H75.out.below hb)
    clear hb HX5 HB5 H75 cX
    have cX := HX6.out.cell
    go_wp2_with fail
    refine (len_of A3 n3 c3 _ _ _ HX6.out.at_ (by omega) bl_great).mono ?_
    rintro e x7 ⟨rfl, hb⟩
    have HB7 := Lib.hid (aft_call HB6.out hb); have H77 := Lib.hid (H76.out.below hb)
    clear hb HX6 HB6 H76 cX
    have c7 := H77.out.cell
    go_wp2_with fail
    refine (text_of A7 n7 _ _ _ _ H77.out.at_ (by omega) txt_seven).mono ?_
    rintro e x8 ⟨rfl, hb⟩
    have HB8 := Lib.hid (aft_call HB7.out hb)
    clear hb H77 HB7 c7
    go_wp2_with fail
    refine (O5.out _).mono ?_
    rintro e x9 ⟨A10, n10, c10, rfl, hd10, hn10, hb⟩
    have HB9 := Lib.hid (aft_call HB8.out hb)
    clear hb HB8
    go_wp2_with fail
    have hby := bytes_eq A10 n10 c10 256 x9 hd10 (by omega)
    rw [bytes_256] at hby
    refine hby.mono ?_
    rintro e x10 ⟨g, rfl, hg, hBg, hb⟩
    have hcv := run_string_of_own x10 g 2 2 [1, 0] (Bw.of_bg hBg) rfl
    rw [str_256] at hcv
    have HB10 := Lib.hid (aft_call HB9.out hb)
    clear hb HB9 hBg hd10 hby
    go_wp2_with fail
    exact bodyPost_ret (v := .bool true) (by simp [results, Try.results21, go_sem]) rfl ⟨rfl, HB10.out⟩
end Go.Proofs.Ytijbhbjenddiaaa
