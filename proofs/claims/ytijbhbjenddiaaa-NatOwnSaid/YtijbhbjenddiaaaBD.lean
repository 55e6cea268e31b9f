/-
  pow; bits of a power, asked by ints.
-/
import Derived.Test.YtijbhbjenddiaaaBC
set_option linter.unusedVariables false
set_option linter.unusedSimpArgs false
namespace Go.Proofs.Ytijbhbjenddiaaa
open Go.RowKit

theorem bit_succ (A : Option Addr) (n c N : Nat) (w : World) (h : DAt B64 w A n c (1 * 2 ^ N)) (hi : N ≤ 1000) :
    Calls Try.prog 33 #[.agg #[.slice A n c], .int .i64 ((N : Int) + 1)] w fun e w' => e = .returned (.bool false) ∧ Below w.heap.size w w' := by
  have := bit_is A n c _ (N + 1) false w h (by omega) (by rw [bit_pow, decide_eq_false (by omega)])
  rwa [show ((N + 1 : Nat) : Int) = (N : Int) + 1 by omega] at this
theorem bit_here (A : Option Addr) (n c N : Nat) (w : World) (h : DAt B64 w A n c (1 * 2 ^ N)) (hi : N ≤ 1000) :
    Calls Try.prog 33 #[.agg #[.slice A n c], .int .i64 (N : Int)] w fun e w' => e = .returned (.bool true) ∧ Below w.heap.size w w' :=
  bit_is A n c _ N true w h (by omega) (by rw [bit_pow, decide_eq_true rfl])
theorem bit_prev (A : Option Addr) (n c N : Nat) (w : World) (h : DAt B64 w A n c (1 * 2 ^ N)) (hi : N ≤ 1000) (h0 : 0 < N) :
    Calls Try.prog 33 #[.agg #[.slice A n c], .int .i64 ((N : Int) - 1)] w fun e w' => e = .returned (.bool false) ∧ Below w.heap.size w w' := by
  have := bit_is A n c _ (N - 1) false w h (by omega) (by rw [bit_pow, decide_eq_false (by omega)])
  rwa [show ((N - 1 : Nat) : Int) = (N : Int) - 1 by omega] at this
theorem len_pow (A : Option Addr) (n c N : Nat) (w : World) (h : DAt B64 w A n c (1 * 2 ^ N)) (hn : n ≤ 1099511627776) :
    Calls Try.prog 16 #[.agg #[.slice A n c]] w fun e w' => e = .returned (.int .i64 ((N : Int) + 1)) ∧ Below w.heap.size w w' := by
  have := len_of A n c _ (N + 1) w h hn (bl_pow N)
  rwa [show ((N + 1 : Nat) : Int) = (N : Int) + 1 by omega] at this

set_option maxRecDepth 100000 in
set_option maxHeartbeats 2000000 in
theorem pow_any (N : Nat) (w : World) (hN : N ≤ 1000) : Calls Try.prog 35 #[.int .i64 (N : Int)] w fun e w' => ∃ A3 n3 c3, e = .returned (.agg #[.slice A3 n3 c3]) ∧ DAt B64 w' A3 n3 c3 (1 * 2 ^ N) ∧ n3 ≤ 1001 ∧ Below w.heap.size w w' := by
  have o2 := fun wq : World => of_sz 1 (by rw [B64_eq]; omega) wq
  rw [show ((1 : Nat) : Int) = 1 from rfl] at o2
  have O2 := Lib.hid o2
  clear o2
  have hr0 : Bx (w.alloc (.cells #[.slice none 0 0] 25)) w.heap.size none 0 0 0 := Bx.new DAt.nil
  have HR0 := Lib.hid hr0
  have HB0 := Lib.hid (aft_al (Below.refl w.heap.size w) (.cells #[.slice none 0 0] 25))
  clear hr0
  go_enter Try.func35, Try.ntmps35
  go_wp2_with fail
  refine (O2.out _).mono ?_
  rintro e w1 ⟨A1, n1, c1, rfl, hd1, hn1, hb⟩
  have HR1 := Lib.hid (HR0.out.below hb); have HB1 := Lib.hid (aft_call HB0.out hb)
  clear hb HR0 HB0
  go_wp2_with fail
  refine (left_sz A1 n1 c1 1 N _ hd1 (by omega) (by omega)).mono ?_
  rintro e w2 ⟨A2, n2, c2, rfl, hd2, hn2, hb⟩
  have hr2 := (HR1.out.below hb)
  have hr3 := hr2.al (.cells #[.slice A2 n2 c2] 25)
  have c3 := hr3.cell
  have f3 := hr3.fr
  have lt3 := hr2.lt
  have hf := (Bx.st hr2 hd2).al (.cells #[.slice A2 n2 c2] 25)
  have c4 := hf.cell
  have HF := Lib.hid hf
  have HB3 := Lib.hid (aft_al (aft_set (aft_call HB1.out hb) (Nat.le_refl _) (.slice A2 n2 c2)) (.cells #[.slice A2 n2 c2] 25))
  clear hr2 hr3 hb hd1 hd2 HR1 HB1 hf
  go_wp2_with fail
  exact bodyPost_ret (v := .agg #[.slice A2 n2 c2]) (by simp [results, Try.results35, go_sem, c4]) rfl ⟨A2, n2, c2, rfl, HF.out.at_, by omega, HB3.out⟩
end Go.Proofs.Ytijbhbjenddiaaa
