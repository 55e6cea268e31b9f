/-
  Walks and plain laws.
-/
import Derived.Test.YtfgnleoaibcegaaGreatXAV
set_option linter.unusedVariables false
set_option linter.unusedSimpArgs false
namespace Go.Proofs.YtfgnleoaibcegaaGreat

open Go.RowKit

theorem le400 {w : World} {A : Option Addr} {n c x i : Nat} (h : DAt B64 w A n c x) (hx : x < 10 ^ i) (hi : i ≤ 400) : n ≤ 400 := by
  refine Nat.le_trans (h.le two_le_B64 (Nat.lt_of_lt_of_le hx ?_)) hi
  exact Nat.pow_le_pow_left (by decide) i

set_option maxRecDepth 100000 in
set_option maxHeartbeats 2000000 in
theorem parse_short (s : ByteArray) (w : World) (hs : s.size < 1 ∨ 400 < s.size) :
    Calls Tryz.prog 108 #[.string s] w fun e w' => ∃ A n c, e = .returned (.tuple #[.agg #[.slice A n c], .bool (parseOk (bytesL s))]) ∧ DAt B64 w' A n c (parseV (bytesL s)) ∧ Below w.heap.size w w' := by
  have h1 : parseOk (bytesL s) = false := by
    unfold parseOk
    rw [bytesL_length]
    rcases hs with h | h
    · rw [decide_eq_false (show ¬ 1 ≤ s.size by omega)]; rfl
    · rw [decide_eq_false (show ¬ s.size ≤ 400 by omega), Bool.and_false]; rfl
  have h2 : parseV (bytesL s) = 0 := by unfold parseV; rw [h1]; rfl
  rw [h1, h2]
  clear h1 h2
  have hr := PsRel.start w
  have hbel : Below w.heap.size w (w.alloc (.cells #[.slice none 0 0] 26)) := (Below.refl _ _).alloc (Nat.le_refl _) _
  have HB := Lib.hid (hbel.setCell (p := ⟨w.heap.size, 0, none⟩) (Nat.le_refl _) (.slice none 0 0))
  have HB0 := Lib.hid hbel
  clear hr hbel
  by_cases h : s.size < 1
  · have b1 : decide ((s.size : Int) < 1) = true := decide_eq_true (by omega)
    have c1 : decide (s.size < 1) = true := decide_eq_true (by omega)
    clear hs
    go_enter Tryz.func108, Tryz.ntmps108
    go_wp2_with fail
    exact bodyPost_ret (v := .tuple #[.agg #[.slice none 0 0], .bool false]) (by simp [results, Tryz.results108, go_sem]) rfl ⟨_, _, _, rfl, DAt.nil, by first | exact HB0.out | exact HB.out⟩
  · have b1 : decide ((s.size : Int) < 1) = false := decide_eq_false (by omega)
    have c1 : decide (s.size < 1) = false := decide_eq_false (by omega)
    have b2 : decide ((400 : Int) < (s.size : Int)) = true := decide_eq_true (by omega)
    have c2 : decide (400 < s.size) = true := decide_eq_true (by omega)
    clear hs
    go_enter Tryz.func108, Tryz.ntmps108
    go_wp2_with fail
    exact bodyPost_ret (v := .tuple #[.agg #[.slice none 0 0], .bool false]) (by simp [results, Tryz.results108, go_sem]) rfl ⟨_, _, _, rfl, DAt.nil, by first | exact HB0.out | exact HB.out⟩

set_option maxRecDepth 100000 in
set_option maxHeartbeats 2000000 in
theorem parse_long (s : ByteArray) (w : World) (hs1 : 1 ≤ s.size) (hs2 : s.size ≤ 400) :
    Calls Tryz.prog 108 #[.string s] w fun e w' => ∃ A n c, e = .returned (.tuple #[.agg #[.slice A n c], .bool (parseOk (bytesL s))]) ∧ DAt B64 w' A n c (parseV (bytesL s)) ∧ Below w.heap.size w w' := by
  obtain ⟨l, hl⟩ : ∃ l, l = bytesL s := ⟨_, rfl⟩
  have hlen : l.length = s.size := by rw [hl]; exact bytesL_length s
  have HL := Lib.hid hl
  rw [← hl]
  have hmf := fun (fn : Fn) (first cap : Array Value) (w : World) => (show (Instr.makeFunc fn first cap).run Tryz.prog w = .ok (.func fn first cap) w from rfl)
  have b1 : decide ((s.size : Int) < 1) = false := decide_eq_false (by omega)
  have b2 : decide ((400 : Int) < (s.size : Int)) = false := decide_eq_false (by omega)
  have c1 : decide (s.size < 1) = false := decide_eq_false (by omega)
  have c2 : decide (400 < s.size) = false := decide_eq_false (by omega)
  have HR0 := Lib.hid (PsRel.start w)
  have HLEN := Lib.hid hlen
  have HS1 := Lib.hid hs1; have HS2 := Lib.hid hs2
  clear hl hlen hs1 hs2
  go_enter Tryz.func108, Tryz.ntmps108
  go_wp2_with fail
  clear b1 b2 c1 c2
  generalize ((w.alloc (.cells #[.slice none 0 0] 26)).alloc (.cells #[.slice none 0 0] 26)) = W at HR0 ⊢
  go_loopg [0] s.size (fun k sq wr => ∃ (u : ByteArray) (i : Nat) (A : Option Addr) (n c : Nat), sq = .string u ∧ bytesL u = l.drop i ∧ u.size = k ∧ i + k = s.size ∧ (l.take i).all isDig = true ∧ PsRel w A n c (readD (l.take i)) wr)
  case atStart => exact ⟨s, 0, none, 0, 0, rfl, by rw [List.drop_zero]; exact HL.out.symm, rfl, by omega, by simp, HR0.out⟩
  case round =>
    clear HR0
    obtain ⟨u, i, A, n, c, rfl, hu, huk, hik, hdig, hr⟩ := hrel
    have hLl : (bytesL u).length = u.size := bytesL_length u
    have hlt := fun j => getD_lt (show 2 ≤ 256 by omega) (bytesL_lt u) j
    by_cases h0 : 0 < u.size
    · have b0 : decide ((0 : Int) < (u.size : Int)) = true := decide_eq_true (by omega)
      obtain ⟨n1, hn1⟩ : ∃ n1, n1 = min 18 u.size := ⟨_, rfl⟩
      have hmin : min (18 : Int) (u.size : Int) = (n1 : Int) := by omega
      have hn18 : n1 ≤ 18 := by omega
      have hnu : n1 ≤ u.size := by omega
      have hn0 : 0 < n1 := by omega
      have hsl := run_slice_bytes u n1 hnu
      have hex := bytesL_extract u n1 hnu
      have hsz : (u.extract n1 u.size).size = u.size - n1 := by rw [← bytesL_length, hex, List.length_drop, hLl]
      have hid := fun j (h : j < u.size) => run_index_byte u j h
      have HU := Lib.hid hu
      generalize u.extract n1 u.size = u2 at *
      generalize bytesL u = L at *
      have HEX := Lib.hid hex; have HSZ := Lib.hid hsz; have HR := Lib.hid hr; have HD := Lib.hid hdig; have HIX := Lib.hid hid; have HLL := Lib.hid hLl; have HLT := Lib.hid hlt; have HMIN := Lib.hid hn1; have HUK := Lib.hid huk; have HIK := Lib.hid hik
      clear hex hsz hr hdig hu hid hLl hlt hn1 huk hik
      go_wp2_with fail
      generalize wr = Wo at HR ⊢
      go_loopw [6, 7, 27] (fun sq vq kq wr1 => ∃ (k sc v : Nat), k ≤ n1 ∧ sq = .int .u64 (sc : Int) ∧ vq = .int .u64 (v : Int) ∧ kq = .int .i64 (k : Int) ∧ ChIs L k sc v ∧ Wo = wr1) (fun _ _ kq _ => n1 - (intOf kq).toNat)
      case atStart => exact ⟨0, 1, 0, by omega, rfl, rfl, rfl, ChIs.start L, rfl⟩
      case round =>
        obtain ⟨k, sc, v, hk, rfl, rfl, rfl, hC, rfl⟩ := hrel
        by_cases hkn : k < n1
        · have hix := HIX.out k (by omega)
          have hdB := HLT.out k
          have hkL : k < L.length := by rw [HLL.out]; omega
          have hN := hC.next hkL
          have hbad := parse_bad (k := k) HU.out hkL
          obtain ⟨hs17, hv17⟩ := hC.lt (by omega)
          generalize L.getD k 0 = d at *
          have HN := Lib.hid hN; have HB := Lib.hid hbad
          clear hN hC hbad
          by_cases hd : 48 ≤ d ∧ d ≤ 57
          · have b1 : decide ((d : Int) < 48) = false := decide_eq_false (by omega)
            have b2 : decide ((57 : Int) < (d : Int)) = false := decide_eq_false (by omega)
            have c1 : decide (d < 48) = false := decide_eq_false (by omega)
            have c2 : decide (57 < d) = false := decide_eq_false (by omega)
            have f1 : IntKind.u8.wrap ((d : Int) - 48) = (d : Int) - 48 := by rw [IntKind.wrap_u8]; omega
            have f2 : IntKind.u64.wrap ((d : Int) - 48) = (d : Int) - 48 := by rw [IntKind.wrap_u64]; omega
            have f3 : IntKind.u64.wrap (10 * (sc : Int)) = 10 * (sc : Int) := by rw [IntKind.wrap_u64]; omega
            have f4 : IntKind.u64.wrap (10 * (v : Int)) = 10 * (v : Int) := by rw [IntKind.wrap_u64]; omega
            have f5 : IntKind.u64.wrap (10 * (v : Int) + ((d : Int) - 48)) = 10 * (v : Int) + ((d : Int) - 48) := by rw [IntKind.wrap_u64]; omega
            have HDD := Lib.hid hd
            have e1 : (10 * (v : Int) + ((d : Int) - 48)) = ((10 * v + (d - 48) : Nat) : Int) := by omega
            have HE := Lib.hid e1
            clear hd e1 hs17 hv17 hdB
            go_wp2_with fail
            refine ⟨⟨k + 1, 10 * sc, 10 * v + (d - 48), by omega, by go_num, by rw [HE.out], by go_num, HN.out HDD.out.1 HDD.out.2, by first | rfl | trivial⟩, ?_⟩
            simp [intOf]; omega
          · obtain ⟨p1, p2⟩ := HB.out hd
            have b2f := HR.out.b2
            have f2f := HR.out.f2
            have HP1 := Lib.hid p1; have HP2 := Lib.hid p2
            have HF := Lib.hid (HR.out.bel.setCell (p := ⟨w.heap.size, 0, none⟩) (Nat.le_refl _) (.slice none 0 0))
            clear p1 p2
            by_cases hd1 : d < 48
            · have b1 : decide ((d : Int) < 48) = true := decide_eq_true (by omega)
              have c1 : decide (d < 48) = true := decide_eq_true (by omega)
              clear hd
              go_wp2_with fail
              exact bodyPost_ret (v := .tuple #[.agg #[.slice none 0 0], .bool false]) (by simp [results, Tryz.results108, go_sem, b2f]) rfl ⟨_, _, _, by rw [HP1.out], by rw [HP2.out]; exact DAt.nil, by first | exact HF.out | exact HR.out.bel⟩
            · have b1 : decide ((d : Int) < 48) = false := decide_eq_false (by omega)
              have c1 : decide (d < 48) = false := decide_eq_false (by omega)
              have b2 : decide ((57 : Int) < (d : Int)) = true := decide_eq_true (by omega)
              have c2 : decide (57 < d) = true := decide_eq_true (by omega)
              clear hd hd1
              go_wp2_with fail
              exact bodyPost_ret (v := .tuple #[.agg #[.slice none 0 0], .bool false]) (by simp [results, Tryz.results108, go_sem, b2f]) rfl ⟨_, _, _, by rw [HP1.out], by rw [HP2.out]; exact DAt.nil, by first | exact HF.out | exact HR.out.bel⟩
        · obtain rfl : n1 = k := by omega
          obtain ⟨hscB, hvB⟩ := hC.lt18 hn18
          obtain ⟨q1, q2⟩ := hC.chunk HU.out (by rw [HLL.out]; exact hnu) HD.out
          have hnx : n ≤ 400 := le400 HR.out.dx (readD_lt _ (all_dig_le HD.out)) (by rw [List.length_take]; have := HIK.out; have := HS2.out; omega)
          have hrd := HR.out.drew
          generalize readD (l.take i) = X at *
          have OV := Lib.hid (fun wq : World => of_any v hvB wq)
          have OS := Lib.hid (fun wq : World => of_any sc hscB wq)
          have HRD := Lib.hid hrd
          have bp := HR.out.bp
          have fp := HR.out.fp
          have HQ1 := Lib.hid q1; have HQ2 := Lib.hid q2
          have HSB := Lib.hid hscB; have HVB := Lib.hid hvB
          clear hC q1 q2 hscB hvB hrd
          go_wp2_with fail
          go_region_with (first
            | (go_at_call 40; (with_reducible refine (OV.out _).mono ?_); rintro e wa ⟨A1, n1', c1, rfl, hd1, hb1⟩; have hr1 := HRD.out.below hb1; have bp1 := hr1.bp; have hn1s := hd1.le two_le_B64 (k := 1) (by rw [Nat.pow_one]; exact HVB.out); have HR1 := Lib.hid hr1; have HD1 := Lib.hid hd1; clear hr1 hd1 hb1)
            | (go_at_call 40; (with_reducible refine (OS.out _).mono ?_); rintro e wb ⟨A2, n2', c2, rfl, hd2, hb2⟩; have hr2 := HR1.out.below hb2; have bp2 := hr2.bp; have fp2 := hr2.fp; have hn2s := hd2.le two_le_B64 (k := 1) (by rw [Nat.pow_one]; exact HSB.out); have HR2 := Lib.hid hr2; have HD2 := Lib.hid hd2; have HD12 := Lib.hid (HD1.out.below hb2); clear hr2 hd2 hb2)
            | (go_at_call 126; (with_reducible refine (fold_mul A n c X A2 n2' c2 sc wb HR2.out.dx HD2.out (by omega) (by omega)).mono ?_); rintro e wc ⟨A3, n3', c3, rfl, hd3, hb3⟩; have hr3 := HR2.out.below hb3; have bp3 := hr3.bp; have HR3 := Lib.hid hr3; have HD3 := Lib.hid hd3; have HD13 := Lib.hid (HD12.out.below hb3); have hn3s : n3' ≤ n + 1 := hd3.le two_le_B64 (by rw [Nat.pow_succ]; exact Nat.lt_of_le_of_lt (Nat.mul_le_mul_right _ (Nat.le_of_lt (HR2.out.dx.lt two_le_B64))) (Nat.mul_lt_mul_of_pos_left HSB.out (Nat.pow_pos (by decide)))); clear hr3 hd3 hb3)
            | (go_at_call 126; (with_reducible refine (fold_add A3 n3' c3 (X * sc) A1 n1' c1 v wc HD3.out HD13.out (by omega) (by omega)).mono ?_); rintro e wd ⟨A4, n4', c4, rfl, hd4, hb4⟩; have hr4 := HR3.out.below hb4; have bp4 := hr4.bp; have fp4 := hr4.fp; have HR4 := Lib.hid (hr4.set_ hd4); clear hr4 hd4 hb4))
          all_goals
            go_wp2_with fail
            go_roundg (u.size - n1)
            case measure => have := HUK.out; omega
            case rel => exact ⟨u2, i + n1, A4, n4', c4, rfl, by rw [HEX.out, HU.out, List.drop_drop], HSZ.out, by have := HUK.out; have := HIK.out; omega, HQ2.out, by have := HR4.out; rw [HQ1.out] at this; exact this⟩
    · have b0 : decide ((0 : Int) < (u.size : Int)) = false := decide_eq_false (by omega)
      have c0 : decide (0 < u.size) = false := decide_eq_false (by omega)
      have hi : i = s.size := by omega
      have htl : l.take i = l := List.take_of_length_le (by rw [HLEN.out]; omega)
      rw [htl] at hr hdig
      obtain ⟨p1, p2⟩ := parse_good (l := l) (by rw [HLEN.out]; exact HS1.out) (by rw [HLEN.out]; exact HS2.out) hdig
      have HP1 := Lib.hid p1; have HP2 := Lib.hid p2
      have bp := hr.bp
      have b2 := hr.b2
      have f2 := hr.f2
      have HF := Lib.hid (hr.dx.put b2 (.slice A n c))
      have HB := Lib.hid (hr.bel.setCell (p := ⟨w.heap.size, 0, none⟩) (Nat.le_refl _) (.slice A n c))
      clear hr hdig htl hi p1 p2 hu huk hik hLl hlt
      go_wp2_with fail
      exact bodyPost_ret (v := .tuple #[.agg #[.slice A n c], .bool true]) (by simp [results, Tryz.results108, go_sem, b2]) rfl ⟨_, _, _, by rw [HP1.out], by rw [HP2.out]; exact HF.out, HB.out⟩

theorem parse_any (s : ByteArray) (w : World) :
    Calls Tryz.prog 108 #[.string s] w fun e w' => ∃ A n c, e = .returned (.tuple #[.agg #[.slice A n c], .bool (parseOk (bytesL s))]) ∧ DAt B64 w' A n c (parseV (bytesL s)) ∧ Below w.heap.size w w' := by
  by_cases h : s.size < 1 ∨ 400 < s.size
  · exact parse_short s w h
  · exact parse_long s w (by omega) (by omega)
end Go.Proofs.YtfgnleoaibcegaaGreat
