/-
  NatOwn: the walk.
-/
import Derived.Test.YtijbhbjenddiaaaBJ
import Derived.Test.YtijbhbjenddiaaaAY
import Derived.ArgAppend
set_option linter.unusedVariables false
set_option linter.unusedSimpArgs false
namespace Go.Proofs.Ytijbhbjenddiaaa
open Go.RowKit

set_option maxRecDepth 100000 in
set_option maxHeartbeats 20000000 in
theorem natOwn_walk0 (A0 : Option Addr) (n0 c0 : Nat) (l0 : List Nat) (w : World) (h0 : BAt w A0 n0 c0 l0) (m0 : n0 ≤ c0) :
    Calls Try.prog 5 #[.slice A0 n0 c0] w fun e w' => e = .returned (.bool true) ∧ Below w.heap.size w w' := by
  have HA := Lib.hid h0
  obtain ⟨i0, hi0, hz0, hz1, hz2⟩ := byte_parts
  go_enter Try.func5, Try.ntmps5
  go_wp2_with fail
  refine (cut_any A0 n0 c0 l0 _ h0 m0).mono ?_
  rintro e wa ⟨k0, rfl, hc0, hk0, rfl⟩
  clear h0
  obtain ⟨l, hl⟩ : ∃ l, l = l0.take 600 := ⟨_, rfl⟩
  rw [← hl] at hc0
  have HLE := Lib.hid hl
  clear hl
  have hlen := hc0.len
  have hbyte := hc0.byte
  have hbyte0 := hbyte
  go_wp2_with fail
  refine (wide_any A0 k0 c0 l _ hc0 hk0).mono ?_
  rintro e w1 ⟨g, c2, rfl, hge, hBw, hc2, hm2, hb⟩
  have hB1 := hb
  have hbl := (hBw.take k0)
  rw [List.take_append_of_le_length (by omega), List.take_of_length_le (by omega)] at hbl
  clear hc0 hb hBw
  go_wp2_with fail
  refine (frombytes_sz (some ⟨g, 0, none⟩) k0 c2 l _ (hbl.bat hlen hbyte c2) (by omega)).mono ?_
  rintro e w2 ⟨Ax, nx, cx, rfl, hd, hnx, hb⟩
  obtain ⟨x, hx⟩ : ∃ x, x = bev l := ⟨_, rfl⟩
  rw [← hx] at hd
  have HX0 := Lib.hid hx
  have HX := Lib.hid (Bx.new hd)
  have HBw := Lib.hid ((hbl.below hb hbl.lt).al (.cells #[.slice Ax nx cx] 25))
  have HB := Lib.hid (aft_al (aft_call hB1 hb) (.cells #[.slice Ax nx cx] 25))
  clear hx hd hbl hb hB1 hbyte
  go_wp2_with fail
  generalize w2.alloc (.cells #[.slice Ax nx cx] 25) = V at *
  generalize w2.heap.size = pX at *
  obtain ⟨sx, hsx⟩ : ∃ s, s = strB (txt x) := ⟨_, rfl⟩
  have htx := fun A n c wq (h : DAt B64 wq A n c x) hn => text_any A n c x wq h hn
  rw [← hsx] at htx
  have HTX := Lib.hid htx
  obtain ⟨m, hme⟩ : ∃ m, (bytesOf x).length = m := ⟨_, rfl⟩
  have hby := fun A n c wq (h : DAt B64 wq A n c x) hn => bytes_eq A n c x wq h hn
  rw [hme] at hby
  have hm600 : m ≤ 600 := by
    have h1 := bev_lt (l := l) hbyte0
    rw [hlen, ← HX0.out] at h1
    rw [← hme]
    exact Nat.le_trans (bytesOf_le h1) hk0
  have HBY := Lib.hid hby; have HME := Lib.hid hme
  clear hby hme
  clear htx hsx
  refine (HTX.out Ax nx cx V HX.out.at_ (by omega)).mono ?_
  rintro e w3 ⟨rfl, hb⟩
  have HX1 := Lib.hid (HX.out.below hb); have HBw1 := Lib.hid (HBw.out.below hb HBw.out.lt); have HB1 := Lib.hid (aft_call HB.out hb)
  clear hb HX HBw HB
  go_wp2_with fail
  go_loopw [6] (fun iv wr => ∃ (i : Nat) (L : List Nat), i ≤ k0 ∧ iv = .int .i64 (i : Int) ∧ L.length = k0 ∧ Bw wr g L ∧ Bx wr pX Ax nx cx x ∧ Below w.heap.size w wr) (fun iv _ => k0 - (intOf iv).toNat)
  case atStart => exact ⟨0, l, by omega, rfl, hlen, HBw1.out, HX1.out, HB1.out⟩
  case round =>
    clear HX1 HBw1 HB1 hlen
    obtain ⟨i, L, hi, rfl, hL, hBw, hX, hB⟩ := hrel
    by_cases hlt : i < k0
    · have hc := hBw.cell (i := i) (by omega)
      have hf := hBw.frozen i
      have g1 : (i : Int) < (k0 : Int) := by omega
      generalize L.getD i 0 = di at hc
      have HBW := Lib.hid (hBw.set_ i 170); have HX2 := Lib.hid (hX.byte hc (.int .u8 ((170 : Nat) : Int))); have HB2 := Lib.hid (aft_set' hB hge i (.int .u8 ((170 : Nat) : Int)))
      clear hBw hX hB
      go_wp2_with fail
      refine ⟨⟨i + 1, L.set i 170, by omega, by go_num, by rw [List.length_set]; exact hL, HBW.out, HX2.out, HB2.out⟩, ?_⟩
      simp [intOf]; omega
    · have hik : i = k0 := by omega
      have HX := Lib.hid hX; have HB := Lib.hid hB
      clear hBw hX hB hik hL
      go_wp2_with fail
      have HXV := HX
      have cX := HX.out.cell
      go_region_held3 (fun w' => w'.cell? ⟨pX, 0, none⟩ = some (.slice Ax nx cx)) (first | with_reducible exact HX2.out.cell | with_reducible exact HX1.out.cell | exact HXV.out.cell | go_keep) (first
        | (go_at_call 22; (with_reducible refine (HBY.out Ax nx cx wr.drew HX.out.drew.at_ (by omega)).mono ?_); rintro e w4 ⟨q1, rfl, hq1, hQ1, hb⟩; have HX1 := Lib.hid (HX.out.drew.below hb); have HB1 := Lib.hid (aft_call HB.out.drew hb); have hz1' := HB.out.size; have HQ1 := Lib.hid hQ1; have hlt1 := hQ1.lt; clear hb hQ1)
        | (go_at_call 22; (with_reducible refine (HBY.out Ax nx cx w4 HX1.out.at_ (by omega)).mono ?_); rintro e w5 ⟨q2, rfl, hq2, hQ2, hb⟩; have HX2 := Lib.hid (HX1.out.below hb); have HB2 := Lib.hid (aft_call HB1.out hb); have HQ12 := Lib.hid (HQ1.out.below hb hlt1); have HQ2 := Lib.hid hQ2; clear hb hQ2))
      have hne : q1 ≠ q2 := by omega
      have hg1 : w.heap.size ≤ q1 := Nat.le_trans hz1' hq1
      have hg2 : w.heap.size ≤ q2 := by omega
      have hcv1 := run_string_of_own w5 q1 m m (bytesOf x) (Bw.of_bg HQ12.out) HME.out
      have hcv2 := run_string_of_own w5 q2 m m (bytesOf x) (Bw.of_bg HQ2.out) HME.out
      generalize strB (bytesOf x) = sb at hcv1 hcv2
      clear cX HXV HX1 HB1 HQ1 HX HB hq1 hq2 hlt1 hz1' hlt
      go_wp2_with fail
      clear hcv1 hcv2
      go_loopw [9] (fun iv wr => ∃ (i : Nat) (L1 L2 : List Nat), i ≤ m ∧ iv = .int .i64 (i : Int) ∧ L1.length = m ∧ L2.length = m ∧ firsts L1 i 11 ∧ firsts L2 i 22 ∧ Bg wr q1 L1 ∧ Bg wr q2 L2 ∧ Bx wr pX Ax nx cx x ∧ Below w.heap.size w wr) (fun iv _ => m - (intOf iv).toNat)
      case atStart => exact ⟨0, _, _, by omega, rfl, HME.out, HME.out, fun j hj => by omega, fun j hj => by omega, HQ12.out, HQ2.out, HX2.out, HB2.out⟩
      case round =>
        clear HQ12 HQ2 HX2 HB2
        obtain ⟨i2, L1, L2, hi2, rfl, hL1, hL2, hf1, hf2, hQ1, hQ2, hX, hB⟩ := hrel
        by_cases hlt2 : i2 < m
        · have hc1 := hQ1.cell (i := i2) (by omega)
          have hc2' := hQ2.cell (i := i2) (by omega)
          have fr1 := hQ1.frozen i2
          have fr2 := hQ2.frozen i2
          have g1 : (i2 : Int) < (m : Int) := by omega
          have F1 := Lib.hid (firsts_set hf1 (by omega)); have F2 := Lib.hid (firsts_set hf2 (by omega))
          generalize L1.getD i2 0 = d1 at hc1
          generalize L2.getD i2 0 = d2 at hc2'
          have hs2 : ∀ u, (wr.setCell ⟨q1, i2, none⟩ u).cell? ⟨q2, i2, none⟩ = some (.int .u8 (d2 : Int)) := fun u => by
            rw [World.cell?_setCell_other _ _ _ _ (by intro e; injection e; omega)]; exact hc2'
          have hX1 := hX.byte hc1 (.int .u8 ((11 : Nat) : Int))
          have HX2 := Lib.hid (hX1.byte (hs2 _) (.int .u8 ((22 : Nat) : Int)))
          have HQ1 := Lib.hid (Blk.far (hQ1.set_ i2 11) (p := ⟨q2, i2, none⟩) (by simpa using hne) (.int .u8 ((22 : Nat) : Int)))
          have HQ2 := Lib.hid ((show Bg (wr.setCell ⟨q1, i2, none⟩ (.int .u8 ((11 : Nat) : Int))) q2 L2 from Blk.far hQ2 (p := ⟨q1, i2, none⟩) (by simpa using Ne.symm hne) _).set_ i2 22)
          have HB2 := Lib.hid (aft_set' (aft_set' hB hg1 i2 (.int .u8 ((11 : Nat) : Int))) hg2 i2 (.int .u8 ((22 : Nat) : Int)))
          clear hX hX1 hQ1 hQ2 hB hf1 hf2
          go_wp2_with fail
          refine ⟨⟨i2 + 1, L1.set i2 11, L2.set i2 22, by omega, by go_num, by rw [List.length_set]; exact hL1, by rw [List.length_set]; exact hL2, F1.out, F2.out, HQ1.out, HQ2.out, HX2.out, HB2.out⟩, ?_⟩
          simp [intOf]; omega
        · have him : i2 = m := by omega
          rw [him] at hf1 hf2
          have HX := Lib.hid hX; have HB := Lib.hid hB; have HF1 := Lib.hid hf1; have HF2 := Lib.hid hf2; have HL1 := Lib.hid hL1; have HL2 := Lib.hid hL2
          have HQ1 := Lib.hid hQ1; have HQ2 := Lib.hid hQ2
          clear hX hB hf1 hf2 hQ1 hQ2 hL1 hL2 him
          have olds1 : ∀ b, some (⟨q1, 0, none⟩ : Addr) = some b → ∀ j u, (bv L1)[j]? = some u → (wr.alloc (.cells (bv [33, 33, 33, 33, 33, 33, 33, 33, 33]).toArray 5)).cell? (b.add j) = some u := fun b e j u hu => by
            injection e with e
            subst e
            have hj : j < L1.length := by have := (List.getElem?_eq_some_iff.1 hu).1; rw [bv_length] at this; exact this
            rw [Addr.add_lit, Nat.zero_add, World.cell?_alloc_lt _ _ _ (by simpa using HQ1.out.lt), HQ1.out.cell hj, ← hu, bv_get _ j hj]
          have lr1 := (lit_read wr [33, 33, 33, 33, 33, 33, 33, 33, 33] 5).2 (by simp)
          go_wp2_with (first
            | (at_builtin; refine wpList_append_grows _ rfl (.tmp 51) (.tmp 52) 22 rfl 5 i0 _ 1 1 Try.underlying22 hi0 hz0 hz1 hz2 rfl (by omega) (some ⟨q1, 0, none⟩) m m (bv L1) rfl (fun h => by cases h) (by rw [bv_length, HL1.out]; omega) olds1 ⟨wr.heap.size, 0, none⟩ 9 9 (bv [33, 33, 33, 33, 33, 33, 33, 33, 33]) rfl rfl (by obtain ⟨ad, e, _, hh⟩ := lr1; injection e with e; subst e; exact hh) (bv_one _) (by omega) (by unfold maxLen; omega) (by omega) ?_
               intro v3 w6 hown3 hgr3
               obtain ⟨g3, c3, ev, hg3, hB3, hl3, hc3a, hc3b⟩ := Bw.of_own (l := L1 ++ [33, 33, 33, 33, 33, 33, 33, 33, 33]) (by rw [bv_append]; simpa using hown3) (by omega)
               subst ev
               have HQ16 := Lib.hid (show Bg w6 q1 L1 from Blk.grown (Blk.alloc HQ1.out _) hgr3 (by simp))
               have HQ26 := Lib.hid (show Bg w6 q2 L2 from Blk.grown (Blk.alloc HQ2.out _) hgr3 (by simp))
               have HX6 := Lib.hid ((HX.out.al (.cells (bv [33, 33, 33, 33, 33, 33, 33, 33, 33]).toArray 5)).below (below_of_grown hgr3))
               have HB6 := Lib.hid (aft_call (aft_al HB.out (.cells (bv [33, 33, 33, 33, 33, 33, 33, 33, 33]).toArray 5)) (below_of_grown hgr3))
               have HB36 := Lib.hid hB3
               have olds2 : ∀ b, some (⟨q2, 0, none⟩ : Addr) = some b → ∀ j u, (bv L2)[j]? = some u → (w6.alloc (.cells (bv [44, 44, 44, 44, 44, 44, 44, 44, 44]).toArray 5)).cell? (b.add j) = some u := fun b e j u hu => by
                 injection e with e
                 subst e
                 have hj : j < L2.length := by have := (List.getElem?_eq_some_iff.1 hu).1; rw [bv_length] at this; exact this
                 rw [Addr.add_lit, Nat.zero_add, World.cell?_alloc_lt _ _ _ (by simpa using HQ26.out.lt), HQ26.out.cell hj, ← hu, bv_get _ j hj]
               have lr2 := (lit_read w6 [44, 44, 44, 44, 44, 44, 44, 44, 44] 5).2 (by simp)
               clear hown3 hgr3 hB3)
            | (at_builtin; refine wpList_append_grows _ rfl (.tmp 54) (.tmp 55) 22 rfl 5 i0 _ 1 1 Try.underlying22 hi0 hz0 hz1 hz2 rfl (by omega) (some ⟨q2, 0, none⟩) m m (bv L2) rfl (fun h => by cases h) (by rw [bv_length, HL2.out]; omega) olds2 ⟨w6.heap.size, 0, none⟩ 9 9 (bv [44, 44, 44, 44, 44, 44, 44, 44, 44]) rfl rfl (by obtain ⟨ad, e, _, hh⟩ := lr2; injection e with e; subst e; exact hh) (bv_one _) (by omega) (by unfold maxLen; omega) (by omega) ?_
               intro v4 w7 hown4 hgr4
               obtain ⟨g4, c4, ev, hg4, hB4, hl4, hc4a, hc4b⟩ := Bw.of_own (l := L2 ++ [44, 44, 44, 44, 44, 44, 44, 44, 44]) (by rw [bv_append]; simpa using hown4) (by omega)
               subst ev
               have HQ17 := Lib.hid (show Bg w7 q1 L1 from Blk.grown (Blk.alloc HQ16.out _) hgr4 (by simp))
               have HQ27 := Lib.hid (show Bg w7 q2 L2 from Blk.grown (Blk.alloc HQ26.out _) hgr4 (by simp))
               have HX7 := Lib.hid ((HX6.out.al (.cells (bv [44, 44, 44, 44, 44, 44, 44, 44, 44]).toArray 5)).below (below_of_grown hgr4))
               have HB7 := Lib.hid (aft_call (aft_al HB6.out (.cells (bv [44, 44, 44, 44, 44, 44, 44, 44, 44]).toArray 5)) (below_of_grown hgr4))
               have HB37 := Lib.hid ((HB36.out.al (.cells (bv [44, 44, 44, 44, 44, 44, 44, 44, 44]).toArray 5)).grownN hgr4)
               have HB47 := Lib.hid hB4
               clear hown4 hgr4 hB4))
          clear HQ1 HQ2 HX HB HQ16 HQ26 HX6 HB6 HB36 olds1 olds2 lr1 lr2
          go_loopw [12] (fun iv wr9 => ∃ i : Nat, i ≤ m ∧ iv = .int .i64 (i : Int) ∧ w7 = wr9) (fun iv _ => m - (intOf iv).toNat)
          case atStart => exact ⟨0, by omega, rfl, rfl⟩
          case round =>
            obtain ⟨i3, hi3, rfl, rfl⟩ := hrel
            by_cases hlt3 : i3 < m
            · have hc1 := HQ17.out.cell (i := i3) (by rw [HL1.out]; exact hlt3)
              have hc2 := HQ27.out.cell (i := i3) (by rw [HL2.out]; exact hlt3)
              rw [HF1.out i3 hlt3] at hc1
              rw [HF2.out i3 hlt3] at hc2
              rw [show ((11 : Nat) : Int) = 11 from rfl] at hc1
              rw [show ((22 : Nat) : Int) = 22 from rfl] at hc2
              have g1 : (i3 : Int) < (m : Int) := by omega
              go_wp2_with fail
              refine ⟨⟨i3 + 1, by omega, by go_num, by first | rfl | trivial⟩, ?_⟩
              simp [intOf]; omega
            · have hi3m : ¬ (i3 : Int) < (m : Int) := by omega
              clear hlt3
              go_wp2_with fail
              clear hi3m
              go_loopw [13] (fun iv wr9 => ∃ i : Nat, i ≤ 9 ∧ iv = .int .i64 ((m + i : Nat) : Int) ∧ w7 = wr9) (fun iv _ => m + 9 - (intOf iv).toNat)
              case atStart => exact ⟨0, by omega, rfl, rfl⟩
              case round =>
                obtain ⟨i4, hi4, rfl, rfl⟩ := hrel
                by_cases hlt4 : i4 < 9
                · have hc1 := HB37.out.cell (i := m + i4) (by rw [List.length_append, HL1.out]; simp; omega)
                  have hc2 := HB47.out.cell (i := m + i4) (by rw [List.length_append, HL2.out]; simp; omega)
                  have e1 : (L1 ++ [33, 33, 33, 33, 33, 33, 33, 33, 33]).getD (m + i4) 0 = 33 := by
                    rw [List.getD_eq_getElem?_getD, List.getElem?_append_right (by rw [HL1.out]; omega), HL1.out, Nat.add_sub_cancel_left]
                    rcases i4 with _ | _ | _ | _ | _ | _ | _ | _ | _ | i4 <;> first | rfl | omega
                  have e2 : (L2 ++ [44, 44, 44, 44, 44, 44, 44, 44, 44]).getD (m + i4) 0 = 44 := by
                    rw [List.getD_eq_getElem?_getD, List.getElem?_append_right (by rw [HL2.out]; omega), HL2.out, Nat.add_sub_cancel_left]
                    rcases i4 with _ | _ | _ | _ | _ | _ | _ | _ | _ | i4 <;> first | rfl | omega
                  rw [e1, show ((33 : Nat) : Int) = 33 from rfl] at hc1
                  rw [e2, show ((44 : Nat) : Int) = 44 from rfl] at hc2
                  clear e1 e2
                  obtain ⟨j, hj⟩ : ∃ j, j = m + i4 := ⟨_, rfl⟩
                  rw [← hj] at hc1 hc2 ⊢
                  have g1 : (j : Int) < (m : Int) + 9 := by omega
                  have hj9 : j < m + 9 := by omega
                  have HJ := Lib.hid hj
                  clear hj
                  go_wp2_with fail
                  refine ⟨⟨i4 + 1, by omega, by rw [HJ.out]; go_num, by first | rfl | trivial⟩, ?_⟩
                  simp [intOf]; omega
                · obtain rfl : i4 = 9 := by omega
                  have g1 : ¬ ((m + 9 : Nat) : Int) < (m : Int) + 9 := by omega
                  go_wp2_with fail
                  have HXV := HX7
                  have hcut := fun wq (hq : Below w.heap.size w wq) => cut_any A0 n0 c0 l0 wq (HA.out.below hq) m0
                  have HCU := Lib.hid hcut
                  have HLX := Lib.hid (show bev (l0.take 600) = x by rw [← HLE.out]; exact HX0.out.symm)
                  clear hcut g1
                  go_region_held3 (fun w' => w'.cell? ⟨pX, 0, none⟩ = some (.slice Ax nx cx)) (first | with_reducible exact HY4.out.cell | with_reducible exact HY3.out.cell | with_reducible exact HY2.out.cell | with_reducible exact HY1.out.cell | exact HXV.out.cell | go_keep) (first
                    | (go_at_call 23; (with_reducible refine (HTX.out Ax nx cx w7.drew HX7.out.drew.at_ (by omega)).mono ?_); rintro e y1 ⟨rfl, hb⟩; have HY1 := Lib.hid (HX7.out.drew.below hb); have HZ1 := Lib.hid (aft_call HB7.out.drew hb); clear hb)
                    | (go_at_call 14; (with_reducible refine (HCU.out y1 HZ1.out).mono ?_); rintro e y9 ⟨k9, rfl, hc9, hk9, rfl⟩; have HC9 := Lib.hid hc9; clear hc9)
                    | (go_at_call 13; (with_reducible refine (frombytes_sz A0 k9 c0 (l0.take 600) y1 HC9.out (by omega)).mono ?_); rintro e y2 ⟨Az, nz', cz, rfl, hd, hnz, hb⟩; have HY2 := Lib.hid (HY1.out.below hb); have HZ2 := Lib.hid (aft_call HZ1.out hb); have HD2 := Lib.hid hd; clear hb hd)
                    | (go_at_call 18; (with_reducible refine (eq_same Ax nx cx Az nz' cz x y2 HY2.out.at_ (Eq.subst (motive := fun z => DAt B64 y2 Az nz' cz z) HLX.out HD2.out) (by omega) (by omega)).mono ?_); rintro e y3 ⟨rfl, hb⟩; have HY3 := Lib.hid (HY2.out.below hb); have HZ3 := Lib.hid (aft_call HZ2.out hb); clear hb)
                    | (go_at_call 21; (with_reducible refine (started_any y3).mono ?_); rintro e y4 ⟨rfl, hb⟩; have HY4 := Lib.hid (HY3.out.below hb); have HZ4 := Lib.hid (aft_call HZ3.out hb); clear hb))
                  go_wp2_with fail
                  exact bodyPost_ret (v := .bool true) (by simp [results, Try.results5, go_sem]) rfl ⟨rfl, HZ4.out⟩

theorem natOwn_walk (A0 : Option Addr) (n0 c0 : Nat) (l0 : List Int) (w : World) (h0 : InI .u8 1 1 w A0 n0 c0 l0) :
    Calls Try.prog 5 #[.slice A0 n0 c0] w fun e w' => e = .returned (.bool true) ∧ Below w.heap.size w w' :=
  natOwn_walk0 A0 n0 c0 _ w (bat_in h0) h0.le
end Go.Proofs.Ytijbhbjenddiaaa
