/-
  power: 2^n and a word.
-/
import Derived.Test.YtijbhbjenddiaaaBD
set_option linter.unusedVariables false
set_option linter.unusedSimpArgs false
namespace Go.Proofs.Ytijbhbjenddiaaa
open Go.RowKit

set_option maxRecDepth 100000 in
set_option maxHeartbeats 4000000 in
theorem power_any (N d : Nat) (hN : N ≤ 16777216) (hd : d < B64) (w : World) : Calls Try.prog 38 #[.int .i64 (N : Int), .int .u64 (d : Int)] w fun e w' => ∃ A3 n3 c3, e = .returned (.agg #[.slice A3 n3 c3]) ∧ DAt B64 w' A3 n3 c3 (1 * 2 ^ N + d) ∧ n3 ≤ N + 3 ∧ Below w.heap.size w w' := by
  have o2 := fun wq : World => of_sz 1 (by rw [B64_eq]; omega) wq
  rw [show ((1 : Nat) : Int) = 1 from rfl] at o2
  have O2 := Lib.hid o2
  have OD := Lib.hid (fun wq : World => of_sz d hd wq)
  clear o2
  have HR0 := Lib.hid (Bx.new (w := w) DAt.nil)
  have HB0 := Lib.hid (aft_al (Below.refl w.heap.size w) (.cells #[.slice none 0 0] 25))
  go_enter Try.func38, Try.ntmps38
  go_wp2_with fail
  refine (O2.out _).mono ?_
  rintro e w1 ⟨A1, n1, c1, rfl, hd1, hn1, hb⟩
  have HR1 := Lib.hid (HR0.out.below hb); have HB1 := Lib.hid (aft_call HB0.out hb)
  clear hb HR0 HB0
  go_wp2_with fail
  refine (left_sz A1 n1 c1 1 N _ hd1 (by omega) (by omega)).mono ?_
  rintro e w2 ⟨A2, n2, c2, rfl, hd2, hn2, hb⟩
  have HR2 := Lib.hid ((HR1.out.below hb).al (.cells #[.slice A2 n2 c2] 25))
  have HB2 := Lib.hid (aft_al (aft_call HB1.out hb) (.cells #[.slice A2 n2 c2] 25))
  have HX := Lib.hid (Bx.new hd2)
  have hlt := (HR1.out.below hb).lt
  have hsz2 := (aft_call HB1.out hb).size
  clear hb hd1 hd2 HR1 HB1
  go_wp2_with fail
  generalize w2.alloc (.cells #[.slice A2 n2 c2] 25) = V at *
  generalize w2.heap.size = p at *
  have HXV := HX
  have cX := HX.out.cell
  go_region_held3 (fun w' => w'.cell? ⟨p, 0, none⟩ = some (.slice A2 n2 c2)) (first | with_reducible exact HX3.out.cell | with_reducible exact HX4.out.cell | with_reducible exact (Bx.far HX4.out HR4.out (by omega) _).cell | exact HXV.out.cell | go_keep) (first
    | (go_at_call 28; (with_reducible refine (OD.out V.drew).mono ?_); rintro e w3 ⟨A3, n3, c3, rfl, hd3, hn3, hb⟩; have HX3 := Lib.hid (HX.out.drew.below hb); have HR3 := Lib.hid (HR2.out.drew.below hb); have HB3 := Lib.hid (aft_call HB2.out.drew hb); have HD3 := Lib.hid hd3; clear hb hd3)
    | (go_at_call 20; (with_reducible refine (add_sz A2 n2 c2 (1 * 2 ^ N) A3 n3 c3 d w3 HX3.out.at_ HD3.out (by omega) (by omega)).mono ?_); rintro e w4 ⟨A4, n4, c4, rfl, hd4, hn4, hb⟩; have HX4 := Lib.hid (HX3.out.below hb); have HR4 := Lib.hid (HR3.out.below hb); have HB4 := Lib.hid (aft_call HB3.out hb); have HD4 := Lib.hid hd4; have qc4 := HR4.out.cell; have f4 := HR4.out.fr; clear hb hd4))
  have hf := Bx.st HR4.out HD4.out
  have c5 := hf.cell
  have HF := Lib.hid hf
  have HB5 := Lib.hid (aft_set HB4.out (Nat.le_refl _) (.slice A4 n4 c4))
  clear hf
  go_wp2_with fail
  exact bodyPost_ret (v := .agg #[.slice A4 n4 c4]) (by simp [results, Try.results38, go_sem, c5]) rfl ⟨A4, n4, _, rfl, HF.out.at_, by omega, HB5.out⟩
end Go.Proofs.Ytijbhbjenddiaaa
