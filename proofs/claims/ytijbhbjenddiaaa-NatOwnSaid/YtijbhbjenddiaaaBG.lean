/-
  bits: true where a number is the sum of the powers at just these places.
-/
import Derived.Test.YtijbhbjenddiaaaBF
import Derived.Deep.CutRange
import Derived.Deep.DeepCutAuto
set_option linter.unusedVariables false
set_option linter.unusedSimpArgs false
namespace Go.Proofs.Ytijbhbjenddiaaa
open Go.RowKit

set_option maxRecDepth 100000 in
set_option maxHeartbeats 20000000 in
theorem bits_true (A : Option Addr) (n c x k ga m : Nat) (l : List Nat) (w : World) (hx : DAt B64 w A n c x) (hn : n ≤ 100000000) (hm : l.length = m) (hm2 : m ≤ 1000) (hga : ga < w.heap.size) (hl : ∀ i, i < m → w.cell? ⟨ga, i, none⟩ = some (.int .i64 ((l.getD i 0 : Nat) : Int)))
    (hb : ∀ i, i < m → x.testBit (l.getD i 0) = true) (hd : ∀ i, i < m → l.getD i 0 ≤ 16777216) (hk : bl x = k) (hsum : sumPow l = x) :
    Calls Try.prog 39 #[.agg #[.slice A n c], .int .i64 (k : Int), .slice (some ⟨ga, 0, none⟩) m m] w fun e w' => e = .returned (.bool true) ∧ Below w.heap.size w w' := by
  have o2 := fun wq : World => of_sz 1 (by rw [B64_eq]; omega) wq
  rw [show ((1 : Nat) : Int) = 1 from rfl] at o2
  have O2 := Lib.hid o2; have HM := Lib.hid hm; have HBT := Lib.hid hb; have HDL := Lib.hid hd; have HK := Lib.hid hk; have HSU := Lib.hid hsum
  clear o2 hm hb hd hk hsum
  have HX := Lib.hid ((Bx.new hx).al (.cells #[.slice none 0 0] 25))
  have hs0 : Bx ((w.alloc (.cells #[.slice A n c] 25)).alloc (.cells #[.slice none 0 0] 25)) (w.heap.size + 1) none 0 0 0 := by have := Bx.new (w := w.alloc (.cells #[.slice A n c] 25)) DAt.nil; simpa only [World.size_alloc] using this
  have HS := Lib.hid hs0
  have HB := Lib.hid (aft_al (aft_al (Below.refl w.heap.size w) (.cells #[.slice A n c] 25)) (.cells #[.slice none 0 0] 25))
  have HLL := Lib.hid hl; have HGA := Lib.hid hga
  clear hs0 hl hx
  go_enter Try.func39, Try.ntmps39
  go_wp2_with fail
  generalize (w.alloc (.cells #[.slice A n c] 25)).alloc (.cells #[.slice none 0 0] 25) = V at *
  obtain ⟨pS, hpS⟩ : ∃ p, p = w.heap.size + 1 := ⟨_, rfl⟩
  rw [← hpS] at HS ⊢
  obtain ⟨pX, hpX⟩ : ∃ p, p = w.heap.size := ⟨_, rfl⟩
  have hge : w.heap.size ≤ pS := by omega
  have hXS : pX ≠ pS := by omega
  have hgX : ga ≠ pX ∧ ga ≠ pS := by omega
  rw [← hpX] at HX ⊢
  clear hpS hpX hga
  skip
  go_loopg [8] (m + 1) (fun q iv wr => ∃ (i : Nat) (A' : Option Addr) (n' c' : Nat), i ≤ m ∧ q = m + 1 - i ∧ iv = .int .i64 (i : Int) ∧ Bx wr pX A n c x ∧ Bx wr pS A' n' c' (sumPow (l.take i)) ∧ n' ≤ n ∧ Below w.heap.size w wr)
  case atStart => exact ⟨0, none, 0, 0, by omega, by omega, rfl, HX.out, HS.out, by omega, HB.out⟩
  case round =>
    clear HX HS HB
    obtain ⟨i, A', n', c', hi, hq, rfl, hX, hS, hn', hB⟩ := hrel
    have HX := Lib.hid hX; have HS := Lib.hid hS; have HB := Lib.hid hB
    clear hX hS hB
    by_cases hlt : i < m
    · have hd1 := HDL.out i hlt; have hb1 := HBT.out i hlt; have hnx := sumPow_next (l := l) (i := i) (by rw [HM.out]; exact hlt)
      have HT := Lib.hid (Cx.mk ((HB.out.cell (p := ⟨ga, i, none⟩) HGA.out).trans (HLL.out i hlt)) (Nat.lt_of_lt_of_le HGA.out HB.out.size))
      generalize l.getD i 0 = di at hd1 hb1 hnx HT
      have HNX := Lib.hid hnx; have HB1 := Lib.hid hb1
      clear hnx hb1
      have g1 : (0 : Int) ≤ (i : Int) := by omega
      have g2 : (i : Int) < (m : Int) := by omega
      go_wp2_with fail
      have HV := HB
      have lX := HX.out.lt
      have lS := HS.out.lt
      have lT := HT.out.lt
      have lw := HB.out.size
      skip
      have HTV := HT
      go_cut [9, 10] (fun s9 s10 wx => ∃ p0r A0r n0r c0r, s9 = .pointer (some ⟨p0r, 0, none⟩) ∧ s10 = .bool true ∧ Bx wx pX A n c (x) ∧ Bx wx pS A' n' c' (sumPow (l.take i)) ∧ Cx wx ga i (.int .i64 (di : Int)) ∧ Bx wx p0r A0r n0r c0r ((1 * 2 ^ di)) ∧ n0r ≤ 100000000 ∧ Below w.heap.size w wx)
      case first =>
        as_aux_lemma =>
          go_region_held3 (fun w' => w'.cell? ⟨ga, i, none⟩ = some (.int .i64 (di : Int))) (first | with_reducible exact HTV.out.drew.cell | with_reducible exact (HTV.out.al _).drew.cell | with_reducible exact ((HTV.out.al _).al _).drew.cell | with_reducible exact HTS1.out.cell | with_reducible exact (HTS1.out.al _).cell | with_reducible exact ((HTS1.out.al _).al _).cell | with_reducible exact HTS2.out.cell | with_reducible exact (HTS2.out.al _).cell | with_reducible exact ((HTS2.out.al _).al _).cell | with_reducible exact (HT.out.far K1.out (by omega) _).cell | exact HTV.out.cell | go_keep) (first
            | (go_at_call 28; (with_reducible refine (O2.out _).mono ?_); rintro e w1x ⟨A1x, n1x, c1x, rfl, hd, hnn1x, hb⟩; (first | with_reducible (have HX' := Lib.hid (HX.out.drew.below hb)) | with_reducible (have HX' := Lib.hid (((HX.out.al _).drew).below hb)) | with_reducible (have HX' := Lib.hid ((((HX.out.al _).al _).drew).below hb))); (first | with_reducible (have HS' := Lib.hid (HS.out.drew.below hb)) | with_reducible (have HS' := Lib.hid (((HS.out.al _).drew).below hb)) | with_reducible (have HS' := Lib.hid ((((HS.out.al _).al _).drew).below hb))); (first | with_reducible (have HT' := Lib.hid (HT.out.drew.below hb)) | with_reducible (have HT' := Lib.hid (((HT.out.al _).drew).below hb)) | with_reducible (have HT' := Lib.hid ((((HT.out.al _).al _).drew).below hb))); (first | with_reducible (have HB' := Lib.hid (aft_call HB.out.drew hb)) | with_reducible (have HB' := Lib.hid (aft_call (aft_al HB.out _).drew hb)) | with_reducible (have HB' := Lib.hid (aft_call (aft_al (aft_al HB.out _) _).drew hb))); (first | (with_reducible (have K1' := Lib.hid (K1.out.below hb)); clear K1) | (with_reducible (have K1' := Lib.hid (((Bx.new (w := wr) DAt.nil).drew).below hb))) | skip); (try have K1 := K1'); (try clear K1'); (try have lk1 := K1.out.lt); have Hone' := Lib.hid hd; clear HX HS HT HB hd hb; have HX := HX'; clear HX'; have HS := HS'; clear HS'; have HT := HT'; clear HT'; have HB := HB'; clear HB'; have Hone := Hone'; clear Hone'; have lX := HX.out.lt; have lS := HS.out.lt; have lT := HT.out.lt; have lz := HB.out.size; have HTS1 := HT)
            | (go_at_call 32; (with_reducible refine (left_sz A1x n1x c1x (1) di _ (by first | with_reducible exact Hone.out | with_reducible exact ((Hone.out.al _)) | with_reducible exact (((Hone.out.al _).al _))) (by omega) (by omega)).mono ?_); rintro e w2x ⟨A2x, n2x, c2x, rfl, hd, hnn2x, hb⟩; (first | with_reducible (have HX' := Lib.hid (HX.out.below hb)) | with_reducible (have HX' := Lib.hid (((HX.out.al _)).below hb)) | with_reducible (have HX' := Lib.hid ((((HX.out.al _).al _)).below hb))); (first | with_reducible (have HS' := Lib.hid (HS.out.below hb)) | with_reducible (have HS' := Lib.hid (((HS.out.al _)).below hb)) | with_reducible (have HS' := Lib.hid ((((HS.out.al _).al _)).below hb))); (first | with_reducible (have HT' := Lib.hid (HT.out.below hb)) | with_reducible (have HT' := Lib.hid (((HT.out.al _)).below hb)) | with_reducible (have HT' := Lib.hid ((((HT.out.al _).al _)).below hb))); (first | with_reducible (have HB' := Lib.hid (aft_call HB.out hb)) | with_reducible (have HB' := Lib.hid (aft_call (aft_al HB.out _) hb)) | with_reducible (have HB' := Lib.hid (aft_call (aft_al (aft_al HB.out _) _) hb))); (first | (with_reducible (have K1' := Lib.hid (K1.out.below hb)); clear K1) | (with_reducible (have K1' := Lib.hid (((Bx.new (w := w1x) DAt.nil)).below hb))) | skip); (try have K1 := K1'); (try clear K1'); (try have lk1 := K1.out.lt); have HP1' := Lib.hid hd; clear HX HS HT Hone HB hd hb; have HX := HX'; clear HX'; have HS := HS'; clear HS'; have HT := HT'; clear HT'; have HB := HB'; clear HB'; have HP1 := HP1'; clear HP1'; have lX := HX.out.lt; have lS := HS.out.lt; have lT := HT.out.lt; have lz := HB.out.size; have HTS2 := HT; (first | (have q1 := K1.out.cell; have r1 := K1.out.fr) | skip)))
          all_goals
            go_wp2_with fail
            go_meet
            first
            | with_reducible exact ⟨_, A2x, n2x, c2x, rfl, rfl, HX.out.far K1.out (by omega) _, HS.out.far K1.out (by omega) _, HT.out.far K1.out (by omega) _, Bx.st K1.out HP1.out, (by omega), aft_set HB.out (by omega) _⟩
            | with_reducible exact ⟨_, A2x, n2x, c2x, rfl, rfl, HX.out.al _, HS.out.al _, HT.out.al _, Bx.new HP1.out, (by omega), aft_al HB.out _⟩
      case rest =>
        clear HX HS HT HB HTV lX lS lT lw
        obtain ⟨p3_0, A3_0, n3_0, c3_0, rfl, rfl, hX, hS, hT, hP, hn3_0, hB⟩ := hcut
        have HX := Lib.hid hX
        have HS := Lib.hid hS
        have HT := Lib.hid hT
        have HP := Lib.hid hP
        have HB := Lib.hid hB
        clear hX hS hT hP hB
        have cS := HS.out.cell; have cP := HP.out.cell
        go_wp2_with fail
        clear cS cP
        refine (add_sz A' n' c' (sumPow (l.take i)) A3_0 n3_0 c3_0 ((1 * 2 ^ di)) wc HS.out.at_ HP.out.at_ (by omega) (by omega)).mono ?_
        rintro e w4x ⟨A3x, n3x, c3x, rfl, hd, hnn3x, hb⟩
        have HX' := Lib.hid (HX.out.below hb)
        have HS' := Lib.hid (HS.out.below hb)
        have HT' := Lib.hid (HT.out.below hb)
        have HP' := Lib.hid (HP.out.below hb)
        have HB' := Lib.hid (aft_call HB.out hb)
        have Hs2' := Lib.hid hd
        clear HX HS HT HP HB hd hb
        have HX := HX'
        clear HX'
        have HS := HS'
        clear HS'
        have HT := HT'
        clear HT'
        have HP := HP'
        clear HP'
        have HB := HB'
        clear HB'
        have Hs2 := Hs2'
        clear Hs2'
        have qS := HS.out.cell; have fS := HS.out.fr; have lS := HS.out.lt
        have hn3 : n3x ≤ n := DAt.len_le Hs2.out HX.out.at_ (by rw [← HNX.out, ← HSU.out]; exact sumPow_take_le _ _)
        have HS2 := Lib.hid (Bx.st HS.out Hs2.out); have HX2 := Lib.hid (HX.out.far HS.out hXS (.slice A3x n3x c3x)); have HB2 := Lib.hid (aft_set HB.out hge (.slice A3x n3x c3x)); have HT2 := Lib.hid (HT.out.far HS.out hgX.2 (.slice A3x n3x c3x))
        clear HS HX HB HT HP Hs2
        go_wp2_with fail
        skip
        have cX := HX2.out.cell; have cT := HT2.out.cell; have HXV := HX2; have HTV := HT2
        go_region_held3 (fun w' => w'.cell? ⟨pX, 0, none⟩ = some (.slice A n c) ∧ w'.cell? ⟨ga, i, none⟩ = some (.int .i64 (di : Int))) (first | with_reducible exact ⟨HX3.out.cell, HT3.out.cell⟩ | exact ⟨HXV.out.cell, HTV.out.cell⟩ | go_keep) (first | (go_at_call 33; refine (bit_is A n c x di true _ HX2.out.drew.at_ (by omega) HB1.out).mono ?_; rintro e w9 ⟨rfl, hb⟩; have HX3 := Lib.hid (HX2.out.drew.below hb); have HS3 := Lib.hid (HS2.out.drew.below hb); have HT3 := Lib.hid (HT2.out.drew.below hb); have HB3 := Lib.hid (aft_call HB2.out.drew hb); clear hb))
        go_wp2_with fail
        go_roundg (m + 1 - (i + 1))
        case measure => omega
        case rel => exact ⟨i + 1, A3x, n3x, c3x, by omega, by omega, by go_num, HX3.out, by rw [HNX.out]; exact HS3.out, hn3, HB3.out⟩
    · obtain rfl : m = i := by omega
      have hst : sumPow (l.take m) = x := by rw [List.take_of_length_le (by rw [HM.out]; exact Nat.le_refl _)]; exact HSU.out
      rw [hst] at HS
      clear hst
      have cX := HX.out.cell
      go_wp2_with fail
      clear cX
      refine (len_of A n c x k wr HX.out.at_ (by omega) HK.out).mono ?_
      rintro e w1x ⟨rfl, hb⟩
      have HX' := Lib.hid (HX.out.below hb)
      have HS' := Lib.hid (HS.out.below hb)
      have HB' := Lib.hid (aft_call HB.out hb)
      clear HX HS HB hb
      have HX := HX'
      clear HX'
      have HS := HS'
      clear HS'
      have HB := HB'
      clear HB'
      have cX := HX.out.cell; have cS := HS.out.cell
      go_wp2_with fail
      clear cX cS
      refine (cmp_same A n c x A' n' c' x w1x HX.out.at_ HS.out.at_ (by omega) (by omega) rfl).mono ?_
      rintro e w2x ⟨rfl, hb⟩
      have HX' := Lib.hid (HX.out.below hb)
      have HS' := Lib.hid (HS.out.below hb)
      have HB' := Lib.hid (aft_call HB.out hb)
      clear HX HS HB hb
      have HX := HX'
      clear HX'
      have HS := HS'
      clear HS'
      have HB := HB'
      clear HB'
      go_wp2_with fail
      exact bodyPost_ret (v := .bool true) (by simp [results, Try.results39, go_sem]) rfl ⟨rfl, HB.out⟩
end Go.Proofs.Ytijbhbjenddiaaa
