/-
  NatBack: the walk.
-/
import Derived.Test.YtijbhbjenddiaaaBB
import Derived.Test.YtijbhbjenddiaaaAY
set_option linter.unusedVariables false
set_option linter.unusedSimpArgs false
namespace Go.Proofs.Ytijbhbjenddiaaa
open Go.RowKit

set_option maxRecDepth 100000 in
set_option maxHeartbeats 20000000 in
theorem natBack_walk0 (A0 : Option Addr) (n0 c0 : Nat) (l0 : List Nat) (A1 : Option Addr) (n1 c1 : Nat) (l1 : List Nat) (w : World) (h0 : BAt w A0 n0 c0 l0) (m0 : n0 ≤ c0) (h1 : BAt w A1 n1 c1 l1) (m1 : n1 ≤ c1) :
    Calls Try.prog 4 #[.slice A0 n0 c0, .slice A1 n1 c1] w fun e w' => e = .returned (.bool true) ∧ Below w.heap.size w w' := by
  go_enter Try.func4, Try.ntmps4
  go_wp2_with fail
  refine (cut_any A0 n0 c0 l0 _ h0 m0).mono ?_
  rintro e wa0 ⟨k0, rfl, hc0, hk0, rfl⟩
  clear h0
  go_wp2_with fail
  refine (cut_any A1 n1 c1 l1 _ h1 m1).mono ?_
  rintro e wa1 ⟨k1, rfl, hc1, hk1, rfl⟩
  clear h1
  go_wp2_with fail
  refine (frombytes_sz A0 k0 c0 _ _ hc0 (by omega)).mono ?_
  rintro e v0 ⟨B0, b0, d0, rfl, hd0, hn0, hb⟩
  have hxl0 : bev (l0.take 600) < 256 ^ k0 := by have := bev_lt hc0.byte; rwa [hc0.len] at this
  generalize bev (l0.take 600) = x at hd0 hxl0
  have HXL0 := Lib.hid hxl0
  clear hxl0
  have hB0 := hb
  have hc1 := hc1.below hb
  clear hb hc0
  go_wp2_with fail
  refine (frombytes_sz A1 k1 c1 _ _ hc1 (by omega)).mono ?_
  rintro e v1 ⟨B1, b1, d1, rfl, hd1, hn1, hb⟩
  have hxl1 : bev (l1.take 600) < 256 ^ k1 := by have := bev_lt hc1.byte; rwa [hc1.len] at this
  generalize bev (l1.take 600) = y at hd1 hxl1
  have HXL1 := Lib.hid hxl1
  clear hxl1
  have hB1 := aft_call hB0 hb
  have hd0 := hd0.below hb
  clear hb hc1 hB0
  have hx0 : Bx ((v1.alloc (.cells #[.slice B0 b0 d0] 25)).alloc (.cells #[.slice B1 b1 d1] 25)) (v1.heap.size) B0 b0 d0 x := by have := ((Bx.new hd0).al (.cells #[.slice B1 b1 d1] 25)); simpa only [World.size_alloc] using this
  have hx1 : Bx ((v1.alloc (.cells #[.slice B0 b0 d0] 25)).alloc (.cells #[.slice B1 b1 d1] 25)) (v1.heap.size + 1) B1 b1 d1 y := by have := (Bx.new (hd1.al (.cells #[.slice B0 b0 d0] 25))); simpa only [World.size_alloc] using this
  have HB := Lib.hid (aft_al (aft_al hB1 (.cells #[.slice B0 b0 d0] 25)) (.cells #[.slice B1 b1 d1] 25))
  have HX := Lib.hid hx0
  have HY := Lib.hid hx1
  clear hx0 hd0 hx1 hd1 hB1
  go_wp2_with fail
  generalize ((v1.alloc (.cells #[.slice B0 b0 d0] 25)).alloc (.cells #[.slice B1 b1 d1] 25)) = V at *
  generalize hp1 : v1.heap.size + 1 = p1 at *
  generalize hp0 : v1.heap.size = p0 at *
  have hpp : p0 < p1 := by omega
  clear hp0 hp1
  obtain ⟨mx, hme⟩ : ∃ m, (bytesOf x).length = m := ⟨_, rfl⟩
  have hmk : mx ≤ k0 := by rw [← hme]; exact bytesOf_le HXL0.out
  have hmp : 0 < mx ↔ 0 < x := by rw [← hme]; exact bytesOf_pos
  have hby := fun A n c wq (h : DAt B64 wq A n c x) hn => bytes_eq A n c x wq h hn
  rw [hme] at hby
  have HBY := Lib.hid hby; have HME := Lib.hid hme
  clear hby hme
  obtain ⟨Lt, hlt⟩ : ∃ m, (txt x).length = m := ⟨_, rfl⟩
  have hl1 : 1 ≤ Lt := by rw [← hlt]; exact txt_pos x
  obtain ⟨sx, hsx⟩ : ∃ s, s = strB (txt x) := ⟨_, rfl⟩
  have hsz : sx.size = Lt := by rw [hsx, strB_size]; exact hlt
  have htx := fun A n c wq (h : DAt B64 wq A n c x) hn => text_any A n c x wq h hn
  have hp1 := fun wq (h : (txt x).length ≤ 400) => parse_txt x wq h
  have hp2 := fun wq (h : ¬ (txt x).length ≤ 400) => parse_txt_long x wq h
  have hix := fun (h : 0 < sx.size) => run_index_byte sx 0 h
  have hhd := @txt_head x
  rw [← hsx] at htx hp1 hp2
  rw [hlt] at hp1 hp2 hhd
  have hbl : (bytesL sx).getD 0 0 = (txt x).getD 0 0 := by rw [hsx, txt_bytesL]
  rw [hbl] at hix
  generalize (txt x).getD 0 0 = ch at hix hhd
  have HSX := Lib.hid hsx; have HTX := Lib.hid htx; have HP1 := Lib.hid hp1; have HP2 := Lib.hid hp2; have HIX := Lib.hid hix; have HHD := Lib.hid hhd; have HLT := Lib.hid hlt
  clear hsx htx hp1 hp2 hix hhd hlt hbl
  refine (HBY.out B0 b0 d0 V HX.out.at_ (by omega)).mono ?_
  rintro e w1x ⟨g1, rfl, hg, hBg, hb⟩
  have HX' := Lib.hid (HX.out.below hb)
  have HY' := Lib.hid (HY.out.below hb)
  have HB' := Lib.hid (aft_call HB.out hb)
  clear HX HY HB hb
  have HX := HX'
  clear HX'
  have HY := HY'
  clear HY'
  have HB := HB'
  clear HB'
  have HBG := Lib.hid hBg
  clear hg hBg
  go_wp2_with fail
  refine (frombytes_back g1 mx x w1x HBG.out HME.out (by omega)).mono ?_
  rintro e w2x ⟨A1x, n1x, c1x, rfl, hd, hnn1x, hb⟩
  have HX' := Lib.hid (HX.out.below hb)
  have HY' := Lib.hid (HY.out.below hb)
  have HB' := Lib.hid (aft_call HB.out hb)
  have Hz1' := Lib.hid hd
  clear HX HY HB hd hb
  have HX := HX'
  clear HX'
  have HY := HY'
  clear HY'
  have HB := HB'
  clear HB'
  have Hz1 := Hz1'
  clear Hz1'
  clear HBG
  have HX' := Lib.hid (HX.out.al (.cells #[.slice A1x n1x c1x] 25))
  have HY' := Lib.hid (HY.out.al (.cells #[.slice A1x n1x c1x] 25))
  have HB' := Lib.hid (aft_al HB.out (.cells #[.slice A1x n1x c1x] 25))
  have hZ' : Bx (w2x.alloc (.cells #[.slice A1x n1x c1x] 25)) (w2x.heap.size) A1x n1x c1x (x) := by have := (Bx.new Hz1.out); simpa only [World.size_alloc] using this
  have HZ' := Lib.hid hZ'
  clear HX HY HB Hz1 hZ'
  have HX := HX'
  clear HX'
  have HY := HY'
  clear HY'
  have HZ := HZ'
  clear HZ'
  have HB := HB'
  clear HB'
  have cX := HX.out.cell
  go_wp2_with fail
  generalize (w2x.alloc (.cells #[.slice A1x n1x c1x] 25)) = V2x at *
  skip
  generalize w2x.heap.size = q2_0 at *
  clear cX
  refine (eq_same B0 b0 d0 A1x n1x c1x (x) V2x HX.out.at_ HZ.out.at_ (by omega) (by omega)).mono ?_
  rintro e w3x ⟨rfl, hb⟩
  have HX' := Lib.hid (HX.out.below hb)
  have HY' := Lib.hid (HY.out.below hb)
  have HZ' := Lib.hid (HZ.out.below hb)
  have HB' := Lib.hid (aft_call HB.out hb)
  clear HX HY HZ HB hb
  have HX := HX'
  clear HX'
  have HY := HY'
  clear HY'
  have HZ := HZ'
  clear HZ'
  have HB := HB'
  clear HB'
  clear HZ
  obtain ⟨my, hmy⟩ : ∃ m, (bytesOf y).length = m := ⟨_, rfl⟩
  have hbyy := fun A n c wq (h : DAt B64 wq A n c y) hn => bytes_eq A n c y wq h hn
  rw [hmy] at hbyy
  obtain ⟨sy, hsy⟩ : ∃ s, s = strB (txt y) := ⟨_, rfl⟩
  have hty := fun A n c wq (h : DAt B64 wq A n c y) hn => text_any A n c y wq h hn
  rw [← hsy] at hty
  obtain ⟨s, hs⟩ : ∃ s, s = decide (x = y) := ⟨_, rfl⟩
  obtain ⟨sbx, hsbx⟩ : ∃ s, strB (bytesOf x) = s := ⟨_, rfl⟩
  obtain ⟨sby, hsby⟩ : ∃ s, strB (bytesOf y) = s := ⟨_, rfl⟩
  have htq : (sx.toList == sy.toList) = s := by rw [HSX.out, hsy, txt_beq, hs]
  have hbq : (sbx.toList == sby.toList) = s := by rw [← hsbx, ← hsby, bytes_beq, hs]
  have hc1 := fun A n c A' n' c' wq h1 h2 h3 h4 => cmp_any A n c x A' n' c' y wq h1 h2 h3 h4
  have hc2 := fun A n c A' n' c' wq h1 h2 h3 h4 => cmp_any A n c y A' n' c' x wq h1 h2 h3 h4
  have hcs : (cmpI x y == 0) = s := by rw [cmp_is, hs]
  have hcn : IntKind.i64.wrap (-(cmpI y x)) = cmpI x y := by rw [← cmp_turn]; unfold cmpI; (repeat' split) <;> decide
  generalize cmpI x y = ci at hc1 hcs hcn
  generalize cmpI y x = cj at hc2 hcn
  have HBYY := Lib.hid hbyy; have HMEY := Lib.hid hmy; have HTY := Lib.hid hty; have HC1 := Lib.hid hc1; have HC2 := Lib.hid hc2; have HSBX := Lib.hid hsbx; have HSBY := Lib.hid hsby; have HTQ := Lib.hid htq; have HBQ := Lib.hid hbq; have HCN := Lib.hid hcn
  clear hbyy hmy hty hsy hs hsbx hsby htq hbq hc1 hc2 hcn
  have hcase : (mx = 0 ∧ Lt = 1) ∨ (0 < mx ∧ Lt = 1) ∨ (0 < mx ∧ 1 < Lt ∧ Lt ≤ 400) ∨ (0 < mx ∧ 1 < Lt ∧ ¬ Lt ≤ 400) := by
    have h0 : mx = 0 → Lt = 1 := fun h => by have hx0 : x = 0 := by omega
                                             rw [← HLT.out, hx0]; rfl
    omega
  clear hmp
  rcases hcase with ⟨u1, u2⟩ | ⟨u1, u2⟩ | ⟨u1, u2, u3⟩ | ⟨u1, u2, u3⟩
  · skip
    have t1 : decide ((k0 : Int) < (mx : Int)) = false := decide_eq_false (by omega)
    have t1n : decide (k0 < mx) = false := decide_eq_false (by omega)
    have t1p : ¬ k0 < mx := by omega
    have t2 : decide ((0 : Int) < (mx : Int)) = false := decide_eq_false (by omega)
    have t2n : decide (0 < mx) = false := decide_eq_false (by omega)
    have t2p : ¬ 0 < mx := by omega
    have v1 : decide ((Lt : Int) ≤ (400 : Int)) = true := decide_eq_true (by omega)
    have v1n : decide (Lt ≤ 400) = true := decide_eq_true (by omega)
    have v1p : Lt ≤ 400 := by omega
    have v3 : decide ((1 : Int) < (Lt : Int)) = false := decide_eq_false (by omega)
    have v3n : decide (1 < Lt) = false := decide_eq_false (by omega)
    have v3p : ¬ 1 < Lt := by omega
    have v2 : ((Lt : Int) == 0) = false := by simp; omega
    have v2n : (Lt == 0) = false := by simp; omega
    have hi0 := HIX.out (by omega)
    rw [show (((0 : Nat)) : Int) = 0 from rfl] at hi0
    clear u1 u2
    have cX := HX.out.cell
    go_wp2_with fail
    clear cX
    refine (HBY.out B0 b0 d0 w3x HX.out.at_ (by omega)).mono ?_
    rintro e w4x ⟨g2, rfl, hg, hBg, hb⟩
    have HX' := Lib.hid (HX.out.below hb)
    have HY' := Lib.hid (HY.out.below hb)
    have HB' := Lib.hid (aft_call HB.out hb)
    clear HX HY HB hb
    have HX := HX'
    clear HX'
    have HY := HY'
    clear HY'
    have HB := HB'
    clear HB'
    have HBG := Lib.hid hBg
    clear hg hBg
    clear HBG
    have cX := HX.out.cell
    go_wp2_with fail
    clear cX
    refine (HBY.out B0 b0 d0 w4x HX.out.at_ (by omega)).mono ?_
    rintro e w5x ⟨g3, rfl, hg, hBg, hb⟩
    have HX' := Lib.hid (HX.out.below hb)
    have HY' := Lib.hid (HY.out.below hb)
    have HB' := Lib.hid (aft_call HB.out hb)
    clear HX HY HB hb
    have HX := HX'
    clear HX'
    have HY := HY'
    clear HY'
    have HB := HB'
    clear HB'
    have HBG := Lib.hid hBg
    clear hg hBg
    clear HBG
    have cX := HX.out.cell
    go_wp2_with fail
    clear cX
    refine (HTX.out B0 b0 d0 w5x HX.out.at_ (by omega)).mono ?_
    rintro e w6x ⟨rfl, hb⟩
    have HX' := Lib.hid (HX.out.below hb)
    have HY' := Lib.hid (HY.out.below hb)
    have HB' := Lib.hid (aft_call HB.out hb)
    clear HX HY HB hb
    have HX := HX'
    clear HX'
    have HY := HY'
    clear HY'
    have HB := HB'
    clear HB'
    go_wp2_with fail
    refine (HP1.out w6x (by omega)).mono ?_
    rintro e w7x ⟨A2x, n2x, c2x, rfl, hd, hnn2x, hb⟩
    have HX' := Lib.hid (HX.out.below hb)
    have HY' := Lib.hid (HY.out.below hb)
    have HB' := Lib.hid (aft_call HB.out hb)
    have Hq1' := Lib.hid hd
    clear HX HY HB hd hb
    have HX := HX'
    clear HX'
    have HY := HY'
    clear HY'
    have HB := HB'
    clear HB'
    have Hq1 := Hq1'
    clear Hq1'
    have HX' := Lib.hid (HX.out.al (.cells #[.slice A2x n2x c2x] 25))
    have HY' := Lib.hid (HY.out.al (.cells #[.slice A2x n2x c2x] 25))
    have HB' := Lib.hid (aft_al HB.out (.cells #[.slice A2x n2x c2x] 25))
    have hQ' : Bx (w7x.alloc (.cells #[.slice A2x n2x c2x] 25)) (w7x.heap.size) A2x n2x c2x (x) := by have := (Bx.new Hq1.out); simpa only [World.size_alloc] using this
    have HQ' := Lib.hid hQ'
    clear HX HY HB Hq1 hQ'
    have HX := HX'
    clear HX'
    have HY := HY'
    clear HY'
    have HQ := HQ'
    clear HQ'
    have HB := HB'
    clear HB'
    have cX := HX.out.cell
    go_wp2_with fail
    generalize (w7x.alloc (.cells #[.slice A2x n2x c2x] 25)) = V7x at *
    skip
    generalize w7x.heap.size = q7_0 at *
    clear cX
    refine (eq_same A2x n2x c2x B0 b0 d0 (x) V7x HQ.out.at_ HX.out.at_ (by omega) (by omega)).mono ?_
    rintro e w8x ⟨rfl, hb⟩
    have HX' := Lib.hid (HX.out.below hb)
    have HY' := Lib.hid (HY.out.below hb)
    have HQ' := Lib.hid (HQ.out.below hb)
    have HB' := Lib.hid (aft_call HB.out hb)
    clear HX HY HQ HB hb
    have HX := HX'
    clear HX'
    have HY := HY'
    clear HY'
    have HQ := HQ'
    clear HQ'
    have HB := HB'
    clear HB'
    have cX := HX.out.cell; have cY := HY.out.cell
    go_wp2_with fail
    clear cX cY
    clear HQ hi0 v1 v1n v1p v2 v2n v3 v3n v3p t1 t1n t1p t2 t2n t2p
    refine (HC1.out B0 b0 d0 B1 b1 d1 w8x HX.out.at_ HY.out.at_ (by omega) (by omega)).mono ?_
    rintro e w9x ⟨rfl, hb⟩
    have HX' := Lib.hid (HX.out.below hb)
    have HY' := Lib.hid (HY.out.below hb)
    have HB' := Lib.hid (aft_call HB.out hb)
    clear HX HY HB hb
    have HX := HX'
    clear HX'
    have HY := HY'
    clear HY'
    have HB := HB'
    clear HB'
    go_wp2_with fail
    have htq := HTQ.out; have hbq := HBQ.out; have hcn := HCN.out
    refine wp_region_held_drew (S := fun w' => w'.cell? ⟨p0, 0, none⟩ = some (.slice B0 b0 d0) ∧ w'.cell? ⟨p1, 0, none⟩ = some (.slice B1 b1 d1)) (by kernel_rfl) ?_ (fun hHeld => ?_)
    · exact ⟨HX.out.cell, HY.out.cell⟩
    refine wpAnyH_take (i := 0) (oi := ⟨some 88, _, _, _, _, _⟩) (v := ?v0) rfl (by kernel_rfl) (by kernel_rfl) (by kernel_rfl) (fun _ _ _ h => h) (Or.inl ⟨by rfl, ?hy0⟩) (by assumption) ?_
    case hy0 => (intro w hSw; (try dsimp only at hSw); go_simp; try with_reducible rfl)
    try simp only [Act.put, List.setIfInBounds_toArray, List.set_cons_zero, List.set_cons_succ]
    refine wpAnyH_take (i := 1) (oi := ⟨some 89, _, _, _, _, _⟩) (v := ?v1) rfl (by kernel_rfl) (by kernel_rfl) (by kernel_rfl) (fun _ _ _ h => h) (Or.inl ⟨by rfl, ?hy1⟩) (by assumption) ?_
    case hy1 => (intro w hSw; (try dsimp only at hSw); go_simp; try with_reducible rfl)
    try simp only [Act.put, List.setIfInBounds_toArray, List.set_cons_zero, List.set_cons_succ]
    refine wpAnyH_take (i := 4) (oi := ⟨some 92, _, _, _, _, _⟩) (v := ?v4) rfl (by kernel_rfl) (by kernel_rfl) (by kernel_rfl) (fun _ _ _ h => h) (Or.inl ⟨by rfl, ?hy4⟩) (by assumption) ?_
    case hy4 => (intro w hSw; (try dsimp only at hSw); go_simp; try with_reducible rfl)
    try simp only [Act.put, List.setIfInBounds_toArray, List.set_cons_zero, List.set_cons_succ]
    refine wpAnyH_ready (rs := [2]) (by kernel_rfl) (by simp) ?_
    refine (AllReadyH.cons (o := ⟨some 90, _, _, _, _, _⟩) rfl (fun K hK => ?_) AllReadyH.nil)
    go_simp
    refine (HBY.out B0 b0 d0 w9x.drew HX.out.drew.at_ (by omega)).mono ?_
    rintro e w10x ⟨ga, rfl, hg, hBa, hb⟩
    have hcv1 := run_string_of_own w10x ga mx mx (bytesOf x) (Bw.of_bg hBa) HME.out
    rw [HSBX.out] at hcv1
    have HBA := Lib.hid hBa; have hlta := hBa.lt
    clear hg hBa
    have HX' := Lib.hid (HX.out.drew.below hb)
    have HY' := Lib.hid (HY.out.drew.below hb)
    have HB' := Lib.hid (aft_call HB.out.drew hb)
    clear HX HY HB hb
    have HX := HX'
    clear HX'
    have HY := HY'
    clear HY'
    have HB := HB'
    clear HB'
    go_wp2_with fail
    refine hK.out _ _ ?_ (fun hHeld => ?_)
    · exact ⟨HX.out.cell, HY.out.cell⟩
    clear hK K
    try simp only [Act.put, List.setIfInBounds_toArray, List.set_cons_zero, List.set_cons_succ]
    refine wpAnyH_ready (rs := [3, 5]) (by kernel_rfl) (by simp) ?_
    refine (AllReadyH.cons (o := ⟨some 91, _, _, _, _, _⟩) rfl (fun K hK => ?_) (AllReadyH.cons (o := ⟨some 93, _, _, _, _, _⟩) rfl (fun K hK => ?_) AllReadyH.nil))
    · go_simp
      refine hK.out _ _ ?_ (fun hHeld => ?_)
      · exact ⟨HX.out.cell, HY.out.cell⟩
      clear hK K
      try simp only [Act.put, List.setIfInBounds_toArray, List.set_cons_zero, List.set_cons_succ]
      refine wpAnyH_ready (rs := [5]) (by kernel_rfl) (by simp) ?_
      refine (AllReadyH.cons (o := ⟨some 93, _, _, _, _, _⟩) rfl (fun K hK => ?_) AllReadyH.nil)
      go_simp
      refine (HBYY.out B1 b1 d1 w10x HY.out.at_ (by omega)).mono ?_
      rintro e w11x ⟨gb, rfl, hg, hBb, hb⟩
      have hcv2 := run_string_of_own w11x gb my my (bytesOf y) (Bw.of_bg hBb) HMEY.out
      rw [HSBY.out] at hcv2
      have hcv1b := run_string_of_own w11x ga mx mx (bytesOf x) (Bw.of_bg (HBA.out.below hb hlta)) HME.out
      rw [HSBX.out] at hcv1b
      clear hg hBb HBA hlta
      have HX' := Lib.hid (HX.out.below hb)
      have HY' := Lib.hid (HY.out.below hb)
      have HB' := Lib.hid (aft_call HB.out hb)
      clear HX HY HB hb
      have HX := HX'
      clear HX'
      have HY := HY'
      clear HY'
      have HB := HB'
      clear HB'
      go_wp2_with fail
      refine hK.out _ _ ?_ (fun hHeld => ?_)
      · exact ⟨HX.out.cell, HY.out.cell⟩
      clear hK K
      try simp only [Act.put, List.setIfInBounds_toArray, List.set_cons_zero, List.set_cons_succ]
      refine wpAnyH_ready (rs := [6]) (by kernel_rfl) (by simp) ?_
      refine (AllReadyH.cons (o := ⟨some 94, _, _, _, _, _⟩) rfl (fun K hK => ?_) AllReadyH.nil)
      go_simp
      refine hK.out _ _ ?_ (fun hHeld => ?_)
      · exact ⟨HX.out.cell, HY.out.cell⟩
      clear hK K
      try simp only [Act.put, List.setIfInBounds_toArray, List.set_cons_zero, List.set_cons_succ]
      clear hcv1 hcv1b hcv2
      refine wpAnyH_take (i := 7) (oi := ⟨some 95, _, _, _, _, _⟩) (v := ?v7) rfl (by kernel_rfl) (by kernel_rfl) (by kernel_rfl) (fun _ _ _ h => h) (Or.inl ⟨by rfl, ?hy7⟩) (by assumption) ?_
      case hy7 => (intro w hSw; (try dsimp only at hSw); go_simp; try with_reducible rfl)
      try simp only [Act.put, List.setIfInBounds_toArray, List.set_cons_zero, List.set_cons_succ]
      refine wpAnyH_take (i := 8) (oi := ⟨some 96, _, _, _, _, _⟩) (v := ?v8) rfl (by kernel_rfl) (by kernel_rfl) (by kernel_rfl) (fun _ _ _ h => h) (Or.inl ⟨by rfl, ?hy8⟩) (by assumption) ?_
      case hy8 => (intro w hSw; (try dsimp only at hSw); go_simp; try with_reducible rfl)
      try simp only [Act.put, List.setIfInBounds_toArray, List.set_cons_zero, List.set_cons_succ]
      refine wpAnyH_take (i := 9) (oi := ⟨some 97, _, _, _, _, _⟩) (v := ?v9) rfl (by kernel_rfl) (by kernel_rfl) (by kernel_rfl) (fun _ _ _ h => h) (Or.inl ⟨by rfl, ?hy9⟩) (by assumption) ?_
      case hy9 => (intro w hSw; (try dsimp only at hSw); go_simp; try with_reducible rfl)
      try simp only [Act.put, List.setIfInBounds_toArray, List.set_cons_zero, List.set_cons_succ]
      refine wpAnyH_take (i := 10) (oi := ⟨some 98, _, _, _, _, _⟩) (v := ?v10) rfl (by kernel_rfl) (by kernel_rfl) (by kernel_rfl) (fun _ _ _ h => h) (Or.inl ⟨by rfl, ?hy10⟩) (by assumption) ?_
      case hy10 => (intro w hSw; (try dsimp only at hSw); go_simp; try with_reducible rfl)
      try simp only [Act.put, List.setIfInBounds_toArray, List.set_cons_zero, List.set_cons_succ]
      refine wpAnyH_take (i := 11) (oi := ⟨some 99, _, _, _, _, _⟩) (v := ?v11) rfl (by kernel_rfl) (by kernel_rfl) (by kernel_rfl) (fun _ _ _ h => h) (Or.inl ⟨by rfl, ?hy11⟩) (by assumption) ?_
      case hy11 => (intro w hSw; (try dsimp only at hSw); go_simp; try with_reducible rfl)
      try simp only [Act.put, List.setIfInBounds_toArray, List.set_cons_zero, List.set_cons_succ]
      refine wpAnyH_take (i := 12) (oi := ⟨some 100, _, _, _, _, _⟩) (v := ?v12) rfl (by kernel_rfl) (by kernel_rfl) (by kernel_rfl) (fun _ _ _ h => h) (Or.inl ⟨by rfl, ?hy12⟩) (by assumption) ?_
      case hy12 => (intro w hSw; (try dsimp only at hSw); go_simp; try with_reducible rfl)
      try simp only [Act.put, List.setIfInBounds_toArray, List.set_cons_zero, List.set_cons_succ]
      refine wpAnyH_ready (rs := [13]) (by kernel_rfl) (by simp) ?_
      refine (AllReadyH.cons (o := ⟨some 101, _, _, _, _, _⟩) rfl (fun K hK => ?_) AllReadyH.nil)
      go_simp
      refine (HTY.out B1 b1 d1 w11x HY.out.at_ (by omega)).mono ?_
      rintro e w12x ⟨rfl, hb⟩
      have HX' := Lib.hid (HX.out.below hb)
      have HY' := Lib.hid (HY.out.below hb)
      have HB' := Lib.hid (aft_call HB.out hb)
      clear HX HY HB hb
      have HX := HX'
      clear HX'
      have HY := HY'
      clear HY'
      have HB := HB'
      clear HB'
      go_wp2_with fail
      refine hK.out _ _ ?_ (fun hHeld => ?_)
      · exact ⟨HX.out.cell, HY.out.cell⟩
      clear hK K
      try simp only [Act.put, List.setIfInBounds_toArray, List.set_cons_zero, List.set_cons_succ]
      refine wpAnyH_take (i := 14) (oi := ⟨some 102, _, _, _, _, _⟩) (v := ?v14) rfl (by kernel_rfl) (by kernel_rfl) (by kernel_rfl) (fun _ _ _ h => h) (Or.inl ⟨by rfl, ?hy14⟩) (by assumption) ?_
      case hy14 => (intro w hSw; (try dsimp only at hSw); go_simp; try with_reducible rfl)
      try simp only [Act.put, List.setIfInBounds_toArray, List.set_cons_zero, List.set_cons_succ]
      refine wpAnyH_take (i := 15) (oi := ⟨some 103, _, _, _, _, _⟩) (v := ?v15) rfl (by kernel_rfl) (by kernel_rfl) (by kernel_rfl) (fun _ _ _ h => h) (Or.inl ⟨by rfl, ?hy15⟩) (by assumption) ?_
      case hy15 => (intro w hSw; (try dsimp only at hSw); go_simp; try with_reducible rfl)
      try simp only [Act.put, List.setIfInBounds_toArray, List.set_cons_zero, List.set_cons_succ]
      refine wpAnyH_take (i := 16) (oi := ⟨some 104, _, _, _, _, _⟩) (v := ?v16) rfl (by kernel_rfl) (by kernel_rfl) (by kernel_rfl) (fun _ _ _ h => h) (Or.inl ⟨by rfl, ?hy16⟩) (by assumption) ?_
      case hy16 => (intro w hSw; (try dsimp only at hSw); go_simp; try with_reducible rfl)
      try simp only [Act.put, List.setIfInBounds_toArray, List.set_cons_zero, List.set_cons_succ]
      refine wpAnyH_take (i := 17) (oi := ⟨some 105, _, _, _, _, _⟩) (v := ?v17) rfl (by kernel_rfl) (by kernel_rfl) (by kernel_rfl) (fun _ _ _ h => h) (Or.inl ⟨by rfl, ?hy17⟩) (by assumption) ?_
      case hy17 => (intro w hSw; (try dsimp only at hSw); go_simp; try with_reducible rfl)
      try simp only [Act.put, List.setIfInBounds_toArray, List.set_cons_zero, List.set_cons_succ]
      refine wpAnyH_take (i := 18) (oi := ⟨some 106, _, _, _, _, _⟩) (v := ?v18) rfl (by kernel_rfl) (by kernel_rfl) (by kernel_rfl) (fun _ _ _ h => h) (Or.inl ⟨by rfl, ?hy18⟩) (by assumption) ?_
      case hy18 => (intro w hSw; (try dsimp only at hSw); go_simp; try with_reducible rfl)
      try simp only [Act.put, List.setIfInBounds_toArray, List.set_cons_zero, List.set_cons_succ]
      refine wpAnyH_take (i := 19) (oi := ⟨some 107, _, _, _, _, _⟩) (v := ?v19) rfl (by kernel_rfl) (by kernel_rfl) (by kernel_rfl) (fun _ _ _ h => h) (Or.inl ⟨by rfl, ?hy19⟩) (by assumption) ?_
      case hy19 => (intro w hSw; (try dsimp only at hSw); go_simp; try with_reducible rfl)
      try simp only [Act.put, List.setIfInBounds_toArray, List.set_cons_zero, List.set_cons_succ]
      refine wpAnyH_take (i := 21) (oi := ⟨some 109, _, _, _, _, _⟩) (v := ?v21) rfl (by kernel_rfl) (by kernel_rfl) (by kernel_rfl) (fun _ _ _ h => h) (Or.inl ⟨by rfl, ?hy21⟩) (by assumption) ?_
      case hy21 => (intro w hSw; (try dsimp only at hSw); go_simp; try with_reducible rfl)
      try simp only [Act.put, List.setIfInBounds_toArray, List.set_cons_zero, List.set_cons_succ]
      refine wpAnyH_take (i := 22) (oi := ⟨some 110, _, _, _, _, _⟩) (v := ?v22) rfl (by kernel_rfl) (by kernel_rfl) (by kernel_rfl) (fun _ _ _ h => h) (Or.inl ⟨by rfl, ?hy22⟩) (by assumption) ?_
      case hy22 => (intro w hSw; (try dsimp only at hSw); go_simp; try with_reducible rfl)
      try simp only [Act.put, List.setIfInBounds_toArray, List.set_cons_zero, List.set_cons_succ]
      refine wpAnyH_ready (rs := [20]) (by kernel_rfl) (by simp) ?_
      refine (AllReadyH.cons (o := ⟨some 108, _, _, _, _, _⟩) rfl (fun K hK => ?_) AllReadyH.nil)
      go_simp
      refine (HC1.out B0 b0 d0 B1 b1 d1 w12x HX.out.at_ HY.out.at_ (by omega) (by omega)).mono ?_
      rintro e w13x ⟨rfl, hb⟩
      have HX' := Lib.hid (HX.out.below hb)
      have HY' := Lib.hid (HY.out.below hb)
      have HB' := Lib.hid (aft_call HB.out hb)
      clear HX HY HB hb
      have HX := HX'
      clear HX'
      have HY := HY'
      clear HY'
      have HB := HB'
      clear HB'
      go_wp2_with fail
      refine hK.out _ _ ?_ (fun hHeld => ?_)
      · exact ⟨HX.out.cell, HY.out.cell⟩
      clear hK K
      try simp only [Act.put, List.setIfInBounds_toArray, List.set_cons_zero, List.set_cons_succ]
      refine wpAnyH_ready (rs := [23]) (by kernel_rfl) (by simp) ?_
      refine (AllReadyH.cons (o := ⟨some 111, _, _, _, _, _⟩) rfl (fun K hK => ?_) AllReadyH.nil)
      go_simp
      refine (HC2.out B1 b1 d1 B0 b0 d0 w13x HY.out.at_ HX.out.at_ (by omega) (by omega)).mono ?_
      rintro e w14x ⟨rfl, hb⟩
      have HX' := Lib.hid (HX.out.below hb)
      have HY' := Lib.hid (HY.out.below hb)
      have HB' := Lib.hid (aft_call HB.out hb)
      clear HX HY HB hb
      have HX := HX'
      clear HX'
      have HY := HY'
      clear HY'
      have HB := HB'
      clear HB'
      go_wp2_with fail
      refine hK.out _ _ ?_ (fun hHeld => ?_)
      · exact ⟨HX.out.cell, HY.out.cell⟩
      clear hK K
      try simp only [Act.put, List.setIfInBounds_toArray, List.set_cons_zero, List.set_cons_succ]
      refine wpAnyH_take (i := 24) (oi := ⟨some 112, _, _, _, _, _⟩) (v := ?v24) rfl (by kernel_rfl) (by kernel_rfl) (by kernel_rfl) (fun _ _ _ h => h) (Or.inl ⟨by rfl, ?hy24⟩) (by assumption) ?_
      case hy24 => (intro w hSw; (try dsimp only at hSw); go_simp; try with_reducible rfl)
      try simp only [Act.put, List.setIfInBounds_toArray, List.set_cons_zero, List.set_cons_succ]
      refine wpAnyH_take (i := 25) (oi := ⟨some 113, _, _, _, _, _⟩) (v := ?v25) rfl (by kernel_rfl) (by kernel_rfl) (by kernel_rfl) (fun _ _ _ h => h) (Or.inl ⟨by rfl, ?hy25⟩) (by assumption) ?_
      case hy25 => (intro w hSw; (try dsimp only at hSw); go_simp; try with_reducible rfl)
      try simp only [Act.put, List.setIfInBounds_toArray, List.set_cons_zero, List.set_cons_succ]
      refine wpAnyH_take (i := 26) (oi := ⟨some 114, _, _, _, _, _⟩) (v := ?v26) rfl (by kernel_rfl) (by kernel_rfl) (by kernel_rfl) (fun _ _ _ h => h) (Or.inl ⟨by rfl, ?hy26⟩) (by assumption) ?_
      case hy26 => (intro w hSw; (try dsimp only at hSw); go_simp; try with_reducible rfl)
      try simp only [Act.put, List.setIfInBounds_toArray, List.set_cons_zero, List.set_cons_succ]
      refine wpAnyH_take (i := 27) (oi := ⟨some 115, _, _, _, _, _⟩) (v := ?v27) rfl (by kernel_rfl) (by kernel_rfl) (by kernel_rfl) (fun _ _ _ h => h) (Or.inl ⟨by rfl, ?hy27⟩) (by assumption) ?_
      case hy27 => (intro w hSw; (try dsimp only at hSw); go_simp; try with_reducible rfl)
      try simp only [Act.put, List.setIfInBounds_toArray, List.set_cons_zero, List.set_cons_succ]
      refine wpAnyH_ready (rs := [28]) (by kernel_rfl) (by simp) ?_
      refine (AllReadyH.cons (o := ⟨some 116, _, _, _, _, _⟩) rfl (fun K hK => ?_) AllReadyH.nil)
      go_simp
      refine (started_any w14x).mono ?_
      rintro e w15x ⟨rfl, hb⟩
      have HX' := Lib.hid (HX.out.below hb)
      have HY' := Lib.hid (HY.out.below hb)
      have HB' := Lib.hid (aft_call HB.out hb)
      clear HX HY HB hb
      have HX := HX'
      clear HX'
      have HY := HY'
      clear HY'
      have HB := HB'
      clear HB'
      go_wp2_with fail
      refine hK.out _ _ ?_ (fun hHeld => ?_)
      · exact ⟨HX.out.cell, HY.out.cell⟩
      clear hK K
      try simp only [Act.put, List.setIfInBounds_toArray, List.set_cons_zero, List.set_cons_succ]
      refine wpAnyH_take (i := 29) (oi := ⟨some 117, _, _, _, _, _⟩) (v := ?v29) rfl (by kernel_rfl) (by kernel_rfl) (by kernel_rfl) (fun _ _ _ h => h) (Or.inl ⟨by rfl, ?hy29⟩) (by assumption) ?_
      case hy29 => (intro w hSw; (try dsimp only at hSw); go_simp; try with_reducible rfl)
      try simp only [Act.put, List.setIfInBounds_toArray, List.set_cons_zero, List.set_cons_succ]
      refine wpAnyH_take (i := 30) (oi := ⟨some 4, _, _, _, _, _⟩) (v := ?v30) rfl (by kernel_rfl) (by kernel_rfl) (by kernel_rfl) (fun _ _ _ h => h) (Or.inl ⟨by rfl, ?hy30⟩) (by assumption) ?_
      case hy30 => (intro w hSw; (try dsimp only at hSw); go_simp; try with_reducible rfl)
      try simp only [Act.put, List.setIfInBounds_toArray, List.set_cons_zero, List.set_cons_succ]
      refine wpAnyH_done (by kernel_rfl) ?_ _
      go_wp2_with fail
      exact bodyPost_ret (v := .bool true) (by simp [results, Try.results4, go_sem]) rfl ⟨rfl, HB.out⟩
    · go_simp
      refine (HBYY.out B1 b1 d1 w10x HY.out.at_ (by omega)).mono ?_
      rintro e w11x ⟨gb, rfl, hg, hBb, hb⟩
      have hcv2 := run_string_of_own w11x gb my my (bytesOf y) (Bw.of_bg hBb) HMEY.out
      rw [HSBY.out] at hcv2
      have hcv1b := run_string_of_own w11x ga mx mx (bytesOf x) (Bw.of_bg (HBA.out.below hb hlta)) HME.out
      rw [HSBX.out] at hcv1b
      clear hg hBb HBA hlta
      have HX' := Lib.hid (HX.out.below hb)
      have HY' := Lib.hid (HY.out.below hb)
      have HB' := Lib.hid (aft_call HB.out hb)
      clear HX HY HB hb
      have HX := HX'
      clear HX'
      have HY := HY'
      clear HY'
      have HB := HB'
      clear HB'
      go_wp2_with fail
      refine hK.out _ _ ?_ (fun hHeld => ?_)
      · exact ⟨HX.out.cell, HY.out.cell⟩
      clear hK K
      try simp only [Act.put, List.setIfInBounds_toArray, List.set_cons_zero, List.set_cons_succ]
      refine wpAnyH_ready (rs := [3, 6]) (by kernel_rfl) (by simp) ?_
      refine (AllReadyH.cons (o := ⟨some 91, _, _, _, _, _⟩) rfl (fun K hK => ?_) (AllReadyH.cons (o := ⟨some 94, _, _, _, _, _⟩) rfl (fun K hK => ?_) AllReadyH.nil))
      · go_simp
        refine hK.out _ _ ?_ (fun hHeld => ?_)
        · exact ⟨HX.out.cell, HY.out.cell⟩
        clear hK K
        try simp only [Act.put, List.setIfInBounds_toArray, List.set_cons_zero, List.set_cons_succ]
        refine wpAnyH_ready (rs := [6]) (by kernel_rfl) (by simp) ?_
        refine (AllReadyH.cons (o := ⟨some 94, _, _, _, _, _⟩) rfl (fun K hK => ?_) AllReadyH.nil)
        go_simp
        refine hK.out _ _ ?_ (fun hHeld => ?_)
        · exact ⟨HX.out.cell, HY.out.cell⟩
        clear hK K
        try simp only [Act.put, List.setIfInBounds_toArray, List.set_cons_zero, List.set_cons_succ]
        clear hcv1 hcv1b hcv2
        refine wpAnyH_take (i := 7) (oi := ⟨some 95, _, _, _, _, _⟩) (v := ?v7) rfl (by kernel_rfl) (by kernel_rfl) (by kernel_rfl) (fun _ _ _ h => h) (Or.inl ⟨by rfl, ?hy7⟩) (by assumption) ?_
        case hy7 => (intro w hSw; (try dsimp only at hSw); go_simp; try with_reducible rfl)
        try simp only [Act.put, List.setIfInBounds_toArray, List.set_cons_zero, List.set_cons_succ]
        refine wpAnyH_take (i := 8) (oi := ⟨some 96, _, _, _, _, _⟩) (v := ?v8) rfl (by kernel_rfl) (by kernel_rfl) (by kernel_rfl) (fun _ _ _ h => h) (Or.inl ⟨by rfl, ?hy8⟩) (by assumption) ?_
        case hy8 => (intro w hSw; (try dsimp only at hSw); go_simp; try with_reducible rfl)
        try simp only [Act.put, List.setIfInBounds_toArray, List.set_cons_zero, List.set_cons_succ]
        refine wpAnyH_take (i := 9) (oi := ⟨some 97, _, _, _, _, _⟩) (v := ?v9) rfl (by kernel_rfl) (by kernel_rfl) (by kernel_rfl) (fun _ _ _ h => h) (Or.inl ⟨by rfl, ?hy9⟩) (by assumption) ?_
        case hy9 => (intro w hSw; (try dsimp only at hSw); go_simp; try with_reducible rfl)
        try simp only [Act.put, List.setIfInBounds_toArray, List.set_cons_zero, List.set_cons_succ]
        refine wpAnyH_take (i := 10) (oi := ⟨some 98, _, _, _, _, _⟩) (v := ?v10) rfl (by kernel_rfl) (by kernel_rfl) (by kernel_rfl) (fun _ _ _ h => h) (Or.inl ⟨by rfl, ?hy10⟩) (by assumption) ?_
        case hy10 => (intro w hSw; (try dsimp only at hSw); go_simp; try with_reducible rfl)
        try simp only [Act.put, List.setIfInBounds_toArray, List.set_cons_zero, List.set_cons_succ]
        refine wpAnyH_take (i := 11) (oi := ⟨some 99, _, _, _, _, _⟩) (v := ?v11) rfl (by kernel_rfl) (by kernel_rfl) (by kernel_rfl) (fun _ _ _ h => h) (Or.inl ⟨by rfl, ?hy11⟩) (by assumption) ?_
        case hy11 => (intro w hSw; (try dsimp only at hSw); go_simp; try with_reducible rfl)
        try simp only [Act.put, List.setIfInBounds_toArray, List.set_cons_zero, List.set_cons_succ]
        refine wpAnyH_take (i := 12) (oi := ⟨some 100, _, _, _, _, _⟩) (v := ?v12) rfl (by kernel_rfl) (by kernel_rfl) (by kernel_rfl) (fun _ _ _ h => h) (Or.inl ⟨by rfl, ?hy12⟩) (by assumption) ?_
        case hy12 => (intro w hSw; (try dsimp only at hSw); go_simp; try with_reducible rfl)
        try simp only [Act.put, List.setIfInBounds_toArray, List.set_cons_zero, List.set_cons_succ]
        refine wpAnyH_ready (rs := [13]) (by kernel_rfl) (by simp) ?_
        refine (AllReadyH.cons (o := ⟨some 101, _, _, _, _, _⟩) rfl (fun K hK => ?_) AllReadyH.nil)
        go_simp
        refine (HTY.out B1 b1 d1 w11x HY.out.at_ (by omega)).mono ?_
        rintro e w12x ⟨rfl, hb⟩
        have HX' := Lib.hid (HX.out.below hb)
        have HY' := Lib.hid (HY.out.below hb)
        have HB' := Lib.hid (aft_call HB.out hb)
        clear HX HY HB hb
        have HX := HX'
        clear HX'
        have HY := HY'
        clear HY'
        have HB := HB'
        clear HB'
        go_wp2_with fail
        refine hK.out _ _ ?_ (fun hHeld => ?_)
        · exact ⟨HX.out.cell, HY.out.cell⟩
        clear hK K
        try simp only [Act.put, List.setIfInBounds_toArray, List.set_cons_zero, List.set_cons_succ]
        refine wpAnyH_take (i := 14) (oi := ⟨some 102, _, _, _, _, _⟩) (v := ?v14) rfl (by kernel_rfl) (by kernel_rfl) (by kernel_rfl) (fun _ _ _ h => h) (Or.inl ⟨by rfl, ?hy14⟩) (by assumption) ?_
        case hy14 => (intro w hSw; (try dsimp only at hSw); go_simp; try with_reducible rfl)
        try simp only [Act.put, List.setIfInBounds_toArray, List.set_cons_zero, List.set_cons_succ]
        refine wpAnyH_take (i := 15) (oi := ⟨some 103, _, _, _, _, _⟩) (v := ?v15) rfl (by kernel_rfl) (by kernel_rfl) (by kernel_rfl) (fun _ _ _ h => h) (Or.inl ⟨by rfl, ?hy15⟩) (by assumption) ?_
        case hy15 => (intro w hSw; (try dsimp only at hSw); go_simp; try with_reducible rfl)
        try simp only [Act.put, List.setIfInBounds_toArray, List.set_cons_zero, List.set_cons_succ]
        refine wpAnyH_take (i := 16) (oi := ⟨some 104, _, _, _, _, _⟩) (v := ?v16) rfl (by kernel_rfl) (by kernel_rfl) (by kernel_rfl) (fun _ _ _ h => h) (Or.inl ⟨by rfl, ?hy16⟩) (by assumption) ?_
        case hy16 => (intro w hSw; (try dsimp only at hSw); go_simp; try with_reducible rfl)
        try simp only [Act.put, List.setIfInBounds_toArray, List.set_cons_zero, List.set_cons_succ]
        refine wpAnyH_take (i := 17) (oi := ⟨some 105, _, _, _, _, _⟩) (v := ?v17) rfl (by kernel_rfl) (by kernel_rfl) (by kernel_rfl) (fun _ _ _ h => h) (Or.inl ⟨by rfl, ?hy17⟩) (by assumption) ?_
        case hy17 => (intro w hSw; (try dsimp only at hSw); go_simp; try with_reducible rfl)
        try simp only [Act.put, List.setIfInBounds_toArray, List.set_cons_zero, List.set_cons_succ]
        refine wpAnyH_take (i := 18) (oi := ⟨some 106, _, _, _, _, _⟩) (v := ?v18) rfl (by kernel_rfl) (by kernel_rfl) (by kernel_rfl) (fun _ _ _ h => h) (Or.inl ⟨by rfl, ?hy18⟩) (by assumption) ?_
        case hy18 => (intro w hSw; (try dsimp only at hSw); go_simp; try with_reducible rfl)
        try simp only [Act.put, List.setIfInBounds_toArray, List.set_cons_zero, List.set_cons_succ]
        refine wpAnyH_take (i := 19) (oi := ⟨some 107, _, _, _, _, _⟩) (v := ?v19) rfl (by kernel_rfl) (by kernel_rfl) (by kernel_rfl) (fun _ _ _ h => h) (Or.inl ⟨by rfl, ?hy19⟩) (by assumption) ?_
        case hy19 => (intro w hSw; (try dsimp only at hSw); go_simp; try with_reducible rfl)
        try simp only [Act.put, List.setIfInBounds_toArray, List.set_cons_zero, List.set_cons_succ]
        refine wpAnyH_take (i := 21) (oi := ⟨some 109, _, _, _, _, _⟩) (v := ?v21) rfl (by kernel_rfl) (by kernel_rfl) (by kernel_rfl) (fun _ _ _ h => h) (Or.inl ⟨by rfl, ?hy21⟩) (by assumption) ?_
        case hy21 => (intro w hSw; (try dsimp only at hSw); go_simp; try with_reducible rfl)
        try simp only [Act.put, List.setIfInBounds_toArray, List.set_cons_zero, List.set_cons_succ]
        refine wpAnyH_take (i := 22) (oi := ⟨some 110, _, _, _, _, _⟩) (v := ?v22) rfl (by kernel_rfl) (by kernel_rfl) (by kernel_rfl) (fun _ _ _ h => h) (Or.inl ⟨by rfl, ?hy22⟩) (by assumption) ?_
        case hy22 => (intro w hSw; (try dsimp only at hSw); go_simp; try with_reducible rfl)
        try simp only [Act.put, List.setIfInBounds_toArray, List.set_cons_zero, List.set_cons_succ]
        refine wpAnyH_ready (rs := [20]) (by kernel_rfl) (by simp) ?_
        refine (AllReadyH.cons (o := ⟨some 108, _, _, _, _, _⟩) rfl (fun K hK => ?_) AllReadyH.nil)
        go_simp
        refine (HC1.out B0 b0 d0 B1 b1 d1 w12x HX.out.at_ HY.out.at_ (by omega) (by omega)).mono ?_
        rintro e w13x ⟨rfl, hb⟩
        have HX' := Lib.hid (HX.out.below hb)
        have HY' := Lib.hid (HY.out.below hb)
        have HB' := Lib.hid (aft_call HB.out hb)
        clear HX HY HB hb
        have HX := HX'
        clear HX'
        have HY := HY'
        clear HY'
        have HB := HB'
        clear HB'
        go_wp2_with fail
        refine hK.out _ _ ?_ (fun hHeld => ?_)
        · exact ⟨HX.out.cell, HY.out.cell⟩
        clear hK K
        try simp only [Act.put, List.setIfInBounds_toArray, List.set_cons_zero, List.set_cons_succ]
        refine wpAnyH_ready (rs := [23]) (by kernel_rfl) (by simp) ?_
        refine (AllReadyH.cons (o := ⟨some 111, _, _, _, _, _⟩) rfl (fun K hK => ?_) AllReadyH.nil)
        go_simp
        refine (HC2.out B1 b1 d1 B0 b0 d0 w13x HY.out.at_ HX.out.at_ (by omega) (by omega)).mono ?_
        rintro e w14x ⟨rfl, hb⟩
        have HX' := Lib.hid (HX.out.below hb)
        have HY' := Lib.hid (HY.out.below hb)
        have HB' := Lib.hid (aft_call HB.out hb)
        clear HX HY HB hb
        have HX := HX'
        clear HX'
        have HY := HY'
        clear HY'
        have HB := HB'
        clear HB'
        go_wp2_with fail
        refine hK.out _ _ ?_ (fun hHeld => ?_)
        · exact ⟨HX.out.cell, HY.out.cell⟩
        clear hK K
        try simp only [Act.put, List.setIfInBounds_toArray, List.set_cons_zero, List.set_cons_succ]
        refine wpAnyH_take (i := 24) (oi := ⟨some 112, _, _, _, _, _⟩) (v := ?v24) rfl (by kernel_rfl) (by kernel_rfl) (by kernel_rfl) (fun _ _ _ h => h) (Or.inl ⟨by rfl, ?hy24⟩) (by assumption) ?_
        case hy24 => (intro w hSw; (try dsimp only at hSw); go_simp; try with_reducible rfl)
        try simp only [Act.put, List.setIfInBounds_toArray, List.set_cons_zero, List.set_cons_succ]
        refine wpAnyH_take (i := 25) (oi := ⟨some 113, _, _, _, _, _⟩) (v := ?v25) rfl (by kernel_rfl) (by kernel_rfl) (by kernel_rfl) (fun _ _ _ h => h) (Or.inl ⟨by rfl, ?hy25⟩) (by assumption) ?_
        case hy25 => (intro w hSw; (try dsimp only at hSw); go_simp; try with_reducible rfl)
        try simp only [Act.put, List.setIfInBounds_toArray, List.set_cons_zero, List.set_cons_succ]
        refine wpAnyH_take (i := 26) (oi := ⟨some 114, _, _, _, _, _⟩) (v := ?v26) rfl (by kernel_rfl) (by kernel_rfl) (by kernel_rfl) (fun _ _ _ h => h) (Or.inl ⟨by rfl, ?hy26⟩) (by assumption) ?_
        case hy26 => (intro w hSw; (try dsimp only at hSw); go_simp; try with_reducible rfl)
        try simp only [Act.put, List.setIfInBounds_toArray, List.set_cons_zero, List.set_cons_succ]
        refine wpAnyH_take (i := 27) (oi := ⟨some 115, _, _, _, _, _⟩) (v := ?v27) rfl (by kernel_rfl) (by kernel_rfl) (by kernel_rfl) (fun _ _ _ h => h) (Or.inl ⟨by rfl, ?hy27⟩) (by assumption) ?_
        case hy27 => (intro w hSw; (try dsimp only at hSw); go_simp; try with_reducible rfl)
        try simp only [Act.put, List.setIfInBounds_toArray, List.set_cons_zero, List.set_cons_succ]
        refine wpAnyH_ready (rs := [28]) (by kernel_rfl) (by simp) ?_
        refine (AllReadyH.cons (o := ⟨some 116, _, _, _, _, _⟩) rfl (fun K hK => ?_) AllReadyH.nil)
        go_simp
        refine (started_any w14x).mono ?_
        rintro e w15x ⟨rfl, hb⟩
        have HX' := Lib.hid (HX.out.below hb)
        have HY' := Lib.hid (HY.out.below hb)
        have HB' := Lib.hid (aft_call HB.out hb)
        clear HX HY HB hb
        have HX := HX'
        clear HX'
        have HY := HY'
        clear HY'
        have HB := HB'
        clear HB'
        go_wp2_with fail
        refine hK.out _ _ ?_ (fun hHeld => ?_)
        · exact ⟨HX.out.cell, HY.out.cell⟩
        clear hK K
        try simp only [Act.put, List.setIfInBounds_toArray, List.set_cons_zero, List.set_cons_succ]
        refine wpAnyH_take (i := 29) (oi := ⟨some 117, _, _, _, _, _⟩) (v := ?v29) rfl (by kernel_rfl) (by kernel_rfl) (by kernel_rfl) (fun _ _ _ h => h) (Or.inl ⟨by rfl, ?hy29⟩) (by assumption) ?_
        case hy29 => (intro w hSw; (try dsimp only at hSw); go_simp; try with_reducible rfl)
        try simp only [Act.put, List.setIfInBounds_toArray, List.set_cons_zero, List.set_cons_succ]
        refine wpAnyH_take (i := 30) (oi := ⟨some 4, _, _, _, _, _⟩) (v := ?v30) rfl (by kernel_rfl) (by kernel_rfl) (by kernel_rfl) (fun _ _ _ h => h) (Or.inl ⟨by rfl, ?hy30⟩) (by assumption) ?_
        case hy30 => (intro w hSw; (try dsimp only at hSw); go_simp; try with_reducible rfl)
        try simp only [Act.put, List.setIfInBounds_toArray, List.set_cons_zero, List.set_cons_succ]
        refine wpAnyH_done (by kernel_rfl) ?_ _
        go_wp2_with fail
        exact bodyPost_ret (v := .bool true) (by simp [results, Try.results4, go_sem]) rfl ⟨rfl, HB.out⟩
      · go_simp
        refine hK.out _ _ ?_ (fun hHeld => ?_)
        · exact ⟨HX.out.cell, HY.out.cell⟩
        clear hK K
        try simp only [Act.put, List.setIfInBounds_toArray, List.set_cons_zero, List.set_cons_succ]
        refine wpAnyH_ready (rs := [3]) (by kernel_rfl) (by simp) ?_
        refine (AllReadyH.cons (o := ⟨some 91, _, _, _, _, _⟩) rfl (fun K hK => ?_) AllReadyH.nil)
        go_simp
        refine hK.out _ _ ?_ (fun hHeld => ?_)
        · exact ⟨HX.out.cell, HY.out.cell⟩
        clear hK K
        try simp only [Act.put, List.setIfInBounds_toArray, List.set_cons_zero, List.set_cons_succ]
        clear hcv1 hcv1b hcv2
        refine wpAnyH_take (i := 7) (oi := ⟨some 95, _, _, _, _, _⟩) (v := ?v7) rfl (by kernel_rfl) (by kernel_rfl) (by kernel_rfl) (fun _ _ _ h => h) (Or.inl ⟨by rfl, ?hy7⟩) (by assumption) ?_
        case hy7 => (intro w hSw; (try dsimp only at hSw); go_simp; try with_reducible rfl)
        try simp only [Act.put, List.setIfInBounds_toArray, List.set_cons_zero, List.set_cons_succ]
        refine wpAnyH_take (i := 8) (oi := ⟨some 96, _, _, _, _, _⟩) (v := ?v8) rfl (by kernel_rfl) (by kernel_rfl) (by kernel_rfl) (fun _ _ _ h => h) (Or.inl ⟨by rfl, ?hy8⟩) (by assumption) ?_
        case hy8 => (intro w hSw; (try dsimp only at hSw); go_simp; try with_reducible rfl)
        try simp only [Act.put, List.setIfInBounds_toArray, List.set_cons_zero, List.set_cons_succ]
        refine wpAnyH_take (i := 9) (oi := ⟨some 97, _, _, _, _, _⟩) (v := ?v9) rfl (by kernel_rfl) (by kernel_rfl) (by kernel_rfl) (fun _ _ _ h => h) (Or.inl ⟨by rfl, ?hy9⟩) (by assumption) ?_
        case hy9 => (intro w hSw; (try dsimp only at hSw); go_simp; try with_reducible rfl)
        try simp only [Act.put, List.setIfInBounds_toArray, List.set_cons_zero, List.set_cons_succ]
        refine wpAnyH_take (i := 10) (oi := ⟨some 98, _, _, _, _, _⟩) (v := ?v10) rfl (by kernel_rfl) (by kernel_rfl) (by kernel_rfl) (fun _ _ _ h => h) (Or.inl ⟨by rfl, ?hy10⟩) (by assumption) ?_
        case hy10 => (intro w hSw; (try dsimp only at hSw); go_simp; try with_reducible rfl)
        try simp only [Act.put, List.setIfInBounds_toArray, List.set_cons_zero, List.set_cons_succ]
        refine wpAnyH_take (i := 11) (oi := ⟨some 99, _, _, _, _, _⟩) (v := ?v11) rfl (by kernel_rfl) (by kernel_rfl) (by kernel_rfl) (fun _ _ _ h => h) (Or.inl ⟨by rfl, ?hy11⟩) (by assumption) ?_
        case hy11 => (intro w hSw; (try dsimp only at hSw); go_simp; try with_reducible rfl)
        try simp only [Act.put, List.setIfInBounds_toArray, List.set_cons_zero, List.set_cons_succ]
        refine wpAnyH_take (i := 12) (oi := ⟨some 100, _, _, _, _, _⟩) (v := ?v12) rfl (by kernel_rfl) (by kernel_rfl) (by kernel_rfl) (fun _ _ _ h => h) (Or.inl ⟨by rfl, ?hy12⟩) (by assumption) ?_
        case hy12 => (intro w hSw; (try dsimp only at hSw); go_simp; try with_reducible rfl)
        try simp only [Act.put, List.setIfInBounds_toArray, List.set_cons_zero, List.set_cons_succ]
        refine wpAnyH_ready (rs := [13]) (by kernel_rfl) (by simp) ?_
        refine (AllReadyH.cons (o := ⟨some 101, _, _, _, _, _⟩) rfl (fun K hK => ?_) AllReadyH.nil)
        go_simp
        refine (HTY.out B1 b1 d1 w11x HY.out.at_ (by omega)).mono ?_
        rintro e w12x ⟨rfl, hb⟩
        have HX' := Lib.hid (HX.out.below hb)
        have HY' := Lib.hid (HY.out.below hb)
        have HB' := Lib.hid (aft_call HB.out hb)
        clear HX HY HB hb
        have HX := HX'
        clear HX'
        have HY := HY'
        clear HY'
        have HB := HB'
        clear HB'
        go_wp2_with fail
        refine hK.out _ _ ?_ (fun hHeld => ?_)
        · exact ⟨HX.out.cell, HY.out.cell⟩
        clear hK K
        try simp only [Act.put, List.setIfInBounds_toArray, List.set_cons_zero, List.set_cons_succ]
        refine wpAnyH_take (i := 14) (oi := ⟨some 102, _, _, _, _, _⟩) (v := ?v14) rfl (by kernel_rfl) (by kernel_rfl) (by kernel_rfl) (fun _ _ _ h => h) (Or.inl ⟨by rfl, ?hy14⟩) (by assumption) ?_
        case hy14 => (intro w hSw; (try dsimp only at hSw); go_simp; try with_reducible rfl)
        try simp only [Act.put, List.setIfInBounds_toArray, List.set_cons_zero, List.set_cons_succ]
        refine wpAnyH_take (i := 15) (oi := ⟨some 103, _, _, _, _, _⟩) (v := ?v15) rfl (by kernel_rfl) (by kernel_rfl) (by kernel_rfl) (fun _ _ _ h => h) (Or.inl ⟨by rfl, ?hy15⟩) (by assumption) ?_
        case hy15 => (intro w hSw; (try dsimp only at hSw); go_simp; try with_reducible rfl)
        try simp only [Act.put, List.setIfInBounds_toArray, List.set_cons_zero, List.set_cons_succ]
        refine wpAnyH_take (i := 16) (oi := ⟨some 104, _, _, _, _, _⟩) (v := ?v16) rfl (by kernel_rfl) (by kernel_rfl) (by kernel_rfl) (fun _ _ _ h => h) (Or.inl ⟨by rfl, ?hy16⟩) (by assumption) ?_
        case hy16 => (intro w hSw; (try dsimp only at hSw); go_simp; try with_reducible rfl)
        try simp only [Act.put, List.setIfInBounds_toArray, List.set_cons_zero, List.set_cons_succ]
        refine wpAnyH_take (i := 17) (oi := ⟨some 105, _, _, _, _, _⟩) (v := ?v17) rfl (by kernel_rfl) (by kernel_rfl) (by kernel_rfl) (fun _ _ _ h => h) (Or.inl ⟨by rfl, ?hy17⟩) (by assumption) ?_
        case hy17 => (intro w hSw; (try dsimp only at hSw); go_simp; try with_reducible rfl)
        try simp only [Act.put, List.setIfInBounds_toArray, List.set_cons_zero, List.set_cons_succ]
        refine wpAnyH_take (i := 18) (oi := ⟨some 106, _, _, _, _, _⟩) (v := ?v18) rfl (by kernel_rfl) (by kernel_rfl) (by kernel_rfl) (fun _ _ _ h => h) (Or.inl ⟨by rfl, ?hy18⟩) (by assumption) ?_
        case hy18 => (intro w hSw; (try dsimp only at hSw); go_simp; try with_reducible rfl)
        try simp only [Act.put, List.setIfInBounds_toArray, List.set_cons_zero, List.set_cons_succ]
        refine wpAnyH_take (i := 19) (oi := ⟨some 107, _, _, _, _, _⟩) (v := ?v19) rfl (by kernel_rfl) (by kernel_rfl) (by kernel_rfl) (fun _ _ _ h => h) (Or.inl ⟨by rfl, ?hy19⟩) (by assumption) ?_
        case hy19 => (intro w hSw; (try dsimp only at hSw); go_simp; try with_reducible rfl)
        try simp only [Act.put, List.setIfInBounds_toArray, List.set_cons_zero, List.set_cons_succ]
        refine wpAnyH_take (i := 21) (oi := ⟨some 109, _, _, _, _, _⟩) (v := ?v21) rfl (by kernel_rfl) (by kernel_rfl) (by kernel_rfl) (fun _ _ _ h => h) (Or.inl ⟨by rfl, ?hy21⟩) (by assumption) ?_
        case hy21 => (intro w hSw; (try dsimp only at hSw); go_simp; try with_reducible rfl)
        try simp only [Act.put, List.setIfInBounds_toArray, List.set_cons_zero, List.set_cons_succ]
        refine wpAnyH_take (i := 22) (oi := ⟨some 110, _, _, _, _, _⟩) (v := ?v22) rfl (by kernel_rfl) (by kernel_rfl) (by kernel_rfl) (fun _ _ _ h => h) (Or.inl ⟨by rfl, ?hy22⟩) (by assumption) ?_
        case hy22 => (intro w hSw; (try dsimp only at hSw); go_simp; try with_reducible rfl)
        try simp only [Act.put, List.setIfInBounds_toArray, List.set_cons_zero, List.set_cons_succ]
        refine wpAnyH_ready (rs := [20]) (by kernel_rfl) (by simp) ?_
        refine (AllReadyH.cons (o := ⟨some 108, _, _, _, _, _⟩) rfl (fun K hK => ?_) AllReadyH.nil)
        go_simp
        refine (HC1.out B0 b0 d0 B1 b1 d1 w12x HX.out.at_ HY.out.at_ (by omega) (by omega)).mono ?_
        rintro e w13x ⟨rfl, hb⟩
        have HX' := Lib.hid (HX.out.below hb)
        have HY' := Lib.hid (HY.out.below hb)
        have HB' := Lib.hid (aft_call HB.out hb)
        clear HX HY HB hb
        have HX := HX'
        clear HX'
        have HY := HY'
        clear HY'
        have HB := HB'
        clear HB'
        go_wp2_with fail
        refine hK.out _ _ ?_ (fun hHeld => ?_)
        · exact ⟨HX.out.cell, HY.out.cell⟩
        clear hK K
        try simp only [Act.put, List.setIfInBounds_toArray, List.set_cons_zero, List.set_cons_succ]
        refine wpAnyH_ready (rs := [23]) (by kernel_rfl) (by simp) ?_
        refine (AllReadyH.cons (o := ⟨some 111, _, _, _, _, _⟩) rfl (fun K hK => ?_) AllReadyH.nil)
        go_simp
        refine (HC2.out B1 b1 d1 B0 b0 d0 w13x HY.out.at_ HX.out.at_ (by omega) (by omega)).mono ?_
        rintro e w14x ⟨rfl, hb⟩
        have HX' := Lib.hid (HX.out.below hb)
        have HY' := Lib.hid (HY.out.below hb)
        have HB' := Lib.hid (aft_call HB.out hb)
        clear HX HY HB hb
        have HX := HX'
        clear HX'
        have HY := HY'
        clear HY'
        have HB := HB'
        clear HB'
        go_wp2_with fail
        refine hK.out _ _ ?_ (fun hHeld => ?_)
        · exact ⟨HX.out.cell, HY.out.cell⟩
        clear hK K
        try simp only [Act.put, List.setIfInBounds_toArray, List.set_cons_zero, List.set_cons_succ]
        refine wpAnyH_take (i := 24) (oi := ⟨some 112, _, _, _, _, _⟩) (v := ?v24) rfl (by kernel_rfl) (by kernel_rfl) (by kernel_rfl) (fun _ _ _ h => h) (Or.inl ⟨by rfl, ?hy24⟩) (by assumption) ?_
        case hy24 => (intro w hSw; (try dsimp only at hSw); go_simp; try with_reducible rfl)
        try simp only [Act.put, List.setIfInBounds_toArray, List.set_cons_zero, List.set_cons_succ]
        refine wpAnyH_take (i := 25) (oi := ⟨some 113, _, _, _, _, _⟩) (v := ?v25) rfl (by kernel_rfl) (by kernel_rfl) (by kernel_rfl) (fun _ _ _ h => h) (Or.inl ⟨by rfl, ?hy25⟩) (by assumption) ?_
        case hy25 => (intro w hSw; (try dsimp only at hSw); go_simp; try with_reducible rfl)
        try simp only [Act.put, List.setIfInBounds_toArray, List.set_cons_zero, List.set_cons_succ]
        refine wpAnyH_take (i := 26) (oi := ⟨some 114, _, _, _, _, _⟩) (v := ?v26) rfl (by kernel_rfl) (by kernel_rfl) (by kernel_rfl) (fun _ _ _ h => h) (Or.inl ⟨by rfl, ?hy26⟩) (by assumption) ?_
        case hy26 => (intro w hSw; (try dsimp only at hSw); go_simp; try with_reducible rfl)
        try simp only [Act.put, List.setIfInBounds_toArray, List.set_cons_zero, List.set_cons_succ]
        refine wpAnyH_take (i := 27) (oi := ⟨some 115, _, _, _, _, _⟩) (v := ?v27) rfl (by kernel_rfl) (by kernel_rfl) (by kernel_rfl) (fun _ _ _ h => h) (Or.inl ⟨by rfl, ?hy27⟩) (by assumption) ?_
        case hy27 => (intro w hSw; (try dsimp only at hSw); go_simp; try with_reducible rfl)
        try simp only [Act.put, List.setIfInBounds_toArray, List.set_cons_zero, List.set_cons_succ]
        refine wpAnyH_ready (rs := [28]) (by kernel_rfl) (by simp) ?_
        refine (AllReadyH.cons (o := ⟨some 116, _, _, _, _, _⟩) rfl (fun K hK => ?_) AllReadyH.nil)
        go_simp
        refine (started_any w14x).mono ?_
        rintro e w15x ⟨rfl, hb⟩
        have HX' := Lib.hid (HX.out.below hb)
        have HY' := Lib.hid (HY.out.below hb)
        have HB' := Lib.hid (aft_call HB.out hb)
        clear HX HY HB hb
        have HX := HX'
        clear HX'
        have HY := HY'
        clear HY'
        have HB := HB'
        clear HB'
        go_wp2_with fail
        refine hK.out _ _ ?_ (fun hHeld => ?_)
        · exact ⟨HX.out.cell, HY.out.cell⟩
        clear hK K
        try simp only [Act.put, List.setIfInBounds_toArray, List.set_cons_zero, List.set_cons_succ]
        refine wpAnyH_take (i := 29) (oi := ⟨some 117, _, _, _, _, _⟩) (v := ?v29) rfl (by kernel_rfl) (by kernel_rfl) (by kernel_rfl) (fun _ _ _ h => h) (Or.inl ⟨by rfl, ?hy29⟩) (by assumption) ?_
        case hy29 => (intro w hSw; (try dsimp only at hSw); go_simp; try with_reducible rfl)
        try simp only [Act.put, List.setIfInBounds_toArray, List.set_cons_zero, List.set_cons_succ]
        refine wpAnyH_take (i := 30) (oi := ⟨some 4, _, _, _, _, _⟩) (v := ?v30) rfl (by kernel_rfl) (by kernel_rfl) (by kernel_rfl) (fun _ _ _ h => h) (Or.inl ⟨by rfl, ?hy30⟩) (by assumption) ?_
        case hy30 => (intro w hSw; (try dsimp only at hSw); go_simp; try with_reducible rfl)
        try simp only [Act.put, List.setIfInBounds_toArray, List.set_cons_zero, List.set_cons_succ]
        refine wpAnyH_done (by kernel_rfl) ?_ _
        go_wp2_with fail
        exact bodyPost_ret (v := .bool true) (by simp [results, Try.results4, go_sem]) rfl ⟨rfl, HB.out⟩
  · skip
    have t1 : decide ((k0 : Int) < (mx : Int)) = false := decide_eq_false (by omega)
    have t1n : decide (k0 < mx) = false := decide_eq_false (by omega)
    have t1p : ¬ k0 < mx := by omega
    have t2 : decide ((0 : Int) < (mx : Int)) = true := decide_eq_true (by omega)
    have t2n : decide (0 < mx) = true := decide_eq_true (by omega)
    have t2p : 0 < mx := by omega
    have v1 : decide ((Lt : Int) ≤ (400 : Int)) = true := decide_eq_true (by omega)
    have v1n : decide (Lt ≤ 400) = true := decide_eq_true (by omega)
    have v1p : Lt ≤ 400 := by omega
    have v3 : decide ((1 : Int) < (Lt : Int)) = false := decide_eq_false (by omega)
    have v3n : decide (1 < Lt) = false := decide_eq_false (by omega)
    have v3p : ¬ 1 < Lt := by omega
    have v2 : ((Lt : Int) == 0) = false := by simp; omega
    have v2n : (Lt == 0) = false := by simp; omega
    have hi0 := HIX.out (by omega)
    rw [show (((0 : Nat)) : Int) = 0 from rfl] at hi0
    clear u1 u2
    have cX := HX.out.cell
    go_wp2_with fail
    clear cX
    refine (HBY.out B0 b0 d0 w3x HX.out.at_ (by omega)).mono ?_
    rintro e w4x ⟨g2, rfl, hg, hBg, hb⟩
    have HX' := Lib.hid (HX.out.below hb)
    have HY' := Lib.hid (HY.out.below hb)
    have HB' := Lib.hid (aft_call HB.out hb)
    clear HX HY HB hb
    have HX := HX'
    clear HX'
    have HY := HY'
    clear HY'
    have HB := HB'
    clear HB'
    have HBG := Lib.hid hBg
    clear hg hBg
    clear HBG
    have cX := HX.out.cell
    go_wp2_with fail
    clear cX
    refine (HBY.out B0 b0 d0 w4x HX.out.at_ (by omega)).mono ?_
    rintro e w5x ⟨g3, rfl, hg, hBg, hb⟩
    have HX' := Lib.hid (HX.out.below hb)
    have HY' := Lib.hid (HY.out.below hb)
    have HB' := Lib.hid (aft_call HB.out hb)
    clear HX HY HB hb
    have HX := HX'
    clear HX'
    have HY := HY'
    clear HY'
    have HB := HB'
    clear HB'
    have HBG := Lib.hid hBg
    clear hg hBg
    clear HBG
    have cX := HX.out.cell
    go_wp2_with fail
    clear cX
    refine (HBY.out B0 b0 d0 w5x HX.out.at_ (by omega)).mono ?_
    rintro e w6x ⟨g4, rfl, hg, hBg, hb⟩
    have HX' := Lib.hid (HX.out.below hb)
    have HY' := Lib.hid (HY.out.below hb)
    have HB' := Lib.hid (aft_call HB.out hb)
    clear HX HY HB hb
    have HX := HX'
    clear HX'
    have HY := HY'
    clear HY'
    have HB := HB'
    clear HB'
    have HBG := Lib.hid hBg
    clear hg hBg
    have hb0 := HBG.out.cell (i := 0) (by rw [HME.out]; exact t2p)
    have hne := bytesOf_head (x := x) (by rw [HME.out]; exact t2p)
    generalize (bytesOf x).getD 0 0 = dg0 at hb0 hne
    have t3 : (((dg0 : Nat) : Int) == 0) = false := by simp; omega
    have t4 : (0 : Int) < (mx : Int) := by omega
    clear HBG
    have cX := HX.out.cell
    go_wp2_with fail
    clear cX
    clear hb0 t3 t4 hne
    refine (HTX.out B0 b0 d0 w6x HX.out.at_ (by omega)).mono ?_
    rintro e w7x ⟨rfl, hb⟩
    have HX' := Lib.hid (HX.out.below hb)
    have HY' := Lib.hid (HY.out.below hb)
    have HB' := Lib.hid (aft_call HB.out hb)
    clear HX HY HB hb
    have HX := HX'
    clear HX'
    have HY := HY'
    clear HY'
    have HB := HB'
    clear HB'
    go_wp2_with fail
    refine (HP1.out w7x (by omega)).mono ?_
    rintro e w8x ⟨A2x, n2x, c2x, rfl, hd, hnn2x, hb⟩
    have HX' := Lib.hid (HX.out.below hb)
    have HY' := Lib.hid (HY.out.below hb)
    have HB' := Lib.hid (aft_call HB.out hb)
    have Hq1' := Lib.hid hd
    clear HX HY HB hd hb
    have HX := HX'
    clear HX'
    have HY := HY'
    clear HY'
    have HB := HB'
    clear HB'
    have Hq1 := Hq1'
    clear Hq1'
    have HX' := Lib.hid (HX.out.al (.cells #[.slice A2x n2x c2x] 25))
    have HY' := Lib.hid (HY.out.al (.cells #[.slice A2x n2x c2x] 25))
    have HB' := Lib.hid (aft_al HB.out (.cells #[.slice A2x n2x c2x] 25))
    have hQ' : Bx (w8x.alloc (.cells #[.slice A2x n2x c2x] 25)) (w8x.heap.size) A2x n2x c2x (x) := by have := (Bx.new Hq1.out); simpa only [World.size_alloc] using this
    have HQ' := Lib.hid hQ'
    clear HX HY HB Hq1 hQ'
    have HX := HX'
    clear HX'
    have HY := HY'
    clear HY'
    have HQ := HQ'
    clear HQ'
    have HB := HB'
    clear HB'
    have cX := HX.out.cell
    go_wp2_with fail
    generalize (w8x.alloc (.cells #[.slice A2x n2x c2x] 25)) = V8x at *
    skip
    generalize w8x.heap.size = q8_0 at *
    clear cX
    refine (eq_same A2x n2x c2x B0 b0 d0 (x) V8x HQ.out.at_ HX.out.at_ (by omega) (by omega)).mono ?_
    rintro e w9x ⟨rfl, hb⟩
    have HX' := Lib.hid (HX.out.below hb)
    have HY' := Lib.hid (HY.out.below hb)
    have HQ' := Lib.hid (HQ.out.below hb)
    have HB' := Lib.hid (aft_call HB.out hb)
    clear HX HY HQ HB hb
    have HX := HX'
    clear HX'
    have HY := HY'
    clear HY'
    have HQ := HQ'
    clear HQ'
    have HB := HB'
    clear HB'
    have cX := HX.out.cell; have cY := HY.out.cell
    go_wp2_with fail
    clear cX cY
    clear HQ hi0 v1 v1n v1p v2 v2n v3 v3n v3p t1 t1n t1p t2 t2n t2p
    refine (HC1.out B0 b0 d0 B1 b1 d1 w9x HX.out.at_ HY.out.at_ (by omega) (by omega)).mono ?_
    rintro e w10x ⟨rfl, hb⟩
    have HX' := Lib.hid (HX.out.below hb)
    have HY' := Lib.hid (HY.out.below hb)
    have HB' := Lib.hid (aft_call HB.out hb)
    clear HX HY HB hb
    have HX := HX'
    clear HX'
    have HY := HY'
    clear HY'
    have HB := HB'
    clear HB'
    go_wp2_with fail
    have htq := HTQ.out; have hbq := HBQ.out; have hcn := HCN.out
    refine wp_region_held_drew (S := fun w' => w'.cell? ⟨p0, 0, none⟩ = some (.slice B0 b0 d0) ∧ w'.cell? ⟨p1, 0, none⟩ = some (.slice B1 b1 d1)) (by kernel_rfl) ?_ (fun hHeld => ?_)
    · exact ⟨HX.out.cell, HY.out.cell⟩
    refine wpAnyH_take (i := 0) (oi := ⟨some 88, _, _, _, _, _⟩) (v := ?v0) rfl (by kernel_rfl) (by kernel_rfl) (by kernel_rfl) (fun _ _ _ h => h) (Or.inl ⟨by rfl, ?hy0⟩) (by assumption) ?_
    case hy0 => (intro w hSw; (try dsimp only at hSw); go_simp; try with_reducible rfl)
    try simp only [Act.put, List.setIfInBounds_toArray, List.set_cons_zero, List.set_cons_succ]
    refine wpAnyH_take (i := 1) (oi := ⟨some 89, _, _, _, _, _⟩) (v := ?v1) rfl (by kernel_rfl) (by kernel_rfl) (by kernel_rfl) (fun _ _ _ h => h) (Or.inl ⟨by rfl, ?hy1⟩) (by assumption) ?_
    case hy1 => (intro w hSw; (try dsimp only at hSw); go_simp; try with_reducible rfl)
    try simp only [Act.put, List.setIfInBounds_toArray, List.set_cons_zero, List.set_cons_succ]
    refine wpAnyH_take (i := 4) (oi := ⟨some 92, _, _, _, _, _⟩) (v := ?v4) rfl (by kernel_rfl) (by kernel_rfl) (by kernel_rfl) (fun _ _ _ h => h) (Or.inl ⟨by rfl, ?hy4⟩) (by assumption) ?_
    case hy4 => (intro w hSw; (try dsimp only at hSw); go_simp; try with_reducible rfl)
    try simp only [Act.put, List.setIfInBounds_toArray, List.set_cons_zero, List.set_cons_succ]
    refine wpAnyH_ready (rs := [2]) (by kernel_rfl) (by simp) ?_
    refine (AllReadyH.cons (o := ⟨some 90, _, _, _, _, _⟩) rfl (fun K hK => ?_) AllReadyH.nil)
    go_simp
    refine (HBY.out B0 b0 d0 w10x.drew HX.out.drew.at_ (by omega)).mono ?_
    rintro e w11x ⟨ga, rfl, hg, hBa, hb⟩
    have hcv1 := run_string_of_own w11x ga mx mx (bytesOf x) (Bw.of_bg hBa) HME.out
    rw [HSBX.out] at hcv1
    have HBA := Lib.hid hBa; have hlta := hBa.lt
    clear hg hBa
    have HX' := Lib.hid (HX.out.drew.below hb)
    have HY' := Lib.hid (HY.out.drew.below hb)
    have HB' := Lib.hid (aft_call HB.out.drew hb)
    clear HX HY HB hb
    have HX := HX'
    clear HX'
    have HY := HY'
    clear HY'
    have HB := HB'
    clear HB'
    go_wp2_with fail
    refine hK.out _ _ ?_ (fun hHeld => ?_)
    · exact ⟨HX.out.cell, HY.out.cell⟩
    clear hK K
    try simp only [Act.put, List.setIfInBounds_toArray, List.set_cons_zero, List.set_cons_succ]
    refine wpAnyH_ready (rs := [3, 5]) (by kernel_rfl) (by simp) ?_
    refine (AllReadyH.cons (o := ⟨some 91, _, _, _, _, _⟩) rfl (fun K hK => ?_) (AllReadyH.cons (o := ⟨some 93, _, _, _, _, _⟩) rfl (fun K hK => ?_) AllReadyH.nil))
    · go_simp
      refine hK.out _ _ ?_ (fun hHeld => ?_)
      · exact ⟨HX.out.cell, HY.out.cell⟩
      clear hK K
      try simp only [Act.put, List.setIfInBounds_toArray, List.set_cons_zero, List.set_cons_succ]
      refine wpAnyH_ready (rs := [5]) (by kernel_rfl) (by simp) ?_
      refine (AllReadyH.cons (o := ⟨some 93, _, _, _, _, _⟩) rfl (fun K hK => ?_) AllReadyH.nil)
      go_simp
      refine (HBYY.out B1 b1 d1 w11x HY.out.at_ (by omega)).mono ?_
      rintro e w12x ⟨gb, rfl, hg, hBb, hb⟩
      have hcv2 := run_string_of_own w12x gb my my (bytesOf y) (Bw.of_bg hBb) HMEY.out
      rw [HSBY.out] at hcv2
      have hcv1b := run_string_of_own w12x ga mx mx (bytesOf x) (Bw.of_bg (HBA.out.below hb hlta)) HME.out
      rw [HSBX.out] at hcv1b
      clear hg hBb HBA hlta
      have HX' := Lib.hid (HX.out.below hb)
      have HY' := Lib.hid (HY.out.below hb)
      have HB' := Lib.hid (aft_call HB.out hb)
      clear HX HY HB hb
      have HX := HX'
      clear HX'
      have HY := HY'
      clear HY'
      have HB := HB'
      clear HB'
      go_wp2_with fail
      refine hK.out _ _ ?_ (fun hHeld => ?_)
      · exact ⟨HX.out.cell, HY.out.cell⟩
      clear hK K
      try simp only [Act.put, List.setIfInBounds_toArray, List.set_cons_zero, List.set_cons_succ]
      refine wpAnyH_ready (rs := [6]) (by kernel_rfl) (by simp) ?_
      refine (AllReadyH.cons (o := ⟨some 94, _, _, _, _, _⟩) rfl (fun K hK => ?_) AllReadyH.nil)
      go_simp
      refine hK.out _ _ ?_ (fun hHeld => ?_)
      · exact ⟨HX.out.cell, HY.out.cell⟩
      clear hK K
      try simp only [Act.put, List.setIfInBounds_toArray, List.set_cons_zero, List.set_cons_succ]
      clear hcv1 hcv1b hcv2
      refine wpAnyH_take (i := 7) (oi := ⟨some 95, _, _, _, _, _⟩) (v := ?v7) rfl (by kernel_rfl) (by kernel_rfl) (by kernel_rfl) (fun _ _ _ h => h) (Or.inl ⟨by rfl, ?hy7⟩) (by assumption) ?_
      case hy7 => (intro w hSw; (try dsimp only at hSw); go_simp; try with_reducible rfl)
      try simp only [Act.put, List.setIfInBounds_toArray, List.set_cons_zero, List.set_cons_succ]
      refine wpAnyH_take (i := 8) (oi := ⟨some 96, _, _, _, _, _⟩) (v := ?v8) rfl (by kernel_rfl) (by kernel_rfl) (by kernel_rfl) (fun _ _ _ h => h) (Or.inl ⟨by rfl, ?hy8⟩) (by assumption) ?_
      case hy8 => (intro w hSw; (try dsimp only at hSw); go_simp; try with_reducible rfl)
      try simp only [Act.put, List.setIfInBounds_toArray, List.set_cons_zero, List.set_cons_succ]
      refine wpAnyH_take (i := 9) (oi := ⟨some 97, _, _, _, _, _⟩) (v := ?v9) rfl (by kernel_rfl) (by kernel_rfl) (by kernel_rfl) (fun _ _ _ h => h) (Or.inl ⟨by rfl, ?hy9⟩) (by assumption) ?_
      case hy9 => (intro w hSw; (try dsimp only at hSw); go_simp; try with_reducible rfl)
      try simp only [Act.put, List.setIfInBounds_toArray, List.set_cons_zero, List.set_cons_succ]
      refine wpAnyH_take (i := 10) (oi := ⟨some 98, _, _, _, _, _⟩) (v := ?v10) rfl (by kernel_rfl) (by kernel_rfl) (by kernel_rfl) (fun _ _ _ h => h) (Or.inl ⟨by rfl, ?hy10⟩) (by assumption) ?_
      case hy10 => (intro w hSw; (try dsimp only at hSw); go_simp; try with_reducible rfl)
      try simp only [Act.put, List.setIfInBounds_toArray, List.set_cons_zero, List.set_cons_succ]
      refine wpAnyH_take (i := 11) (oi := ⟨some 99, _, _, _, _, _⟩) (v := ?v11) rfl (by kernel_rfl) (by kernel_rfl) (by kernel_rfl) (fun _ _ _ h => h) (Or.inl ⟨by rfl, ?hy11⟩) (by assumption) ?_
      case hy11 => (intro w hSw; (try dsimp only at hSw); go_simp; try with_reducible rfl)
      try simp only [Act.put, List.setIfInBounds_toArray, List.set_cons_zero, List.set_cons_succ]
      refine wpAnyH_take (i := 12) (oi := ⟨some 100, _, _, _, _, _⟩) (v := ?v12) rfl (by kernel_rfl) (by kernel_rfl) (by kernel_rfl) (fun _ _ _ h => h) (Or.inl ⟨by rfl, ?hy12⟩) (by assumption) ?_
      case hy12 => (intro w hSw; (try dsimp only at hSw); go_simp; try with_reducible rfl)
      try simp only [Act.put, List.setIfInBounds_toArray, List.set_cons_zero, List.set_cons_succ]
      refine wpAnyH_ready (rs := [13]) (by kernel_rfl) (by simp) ?_
      refine (AllReadyH.cons (o := ⟨some 101, _, _, _, _, _⟩) rfl (fun K hK => ?_) AllReadyH.nil)
      go_simp
      refine (HTY.out B1 b1 d1 w12x HY.out.at_ (by omega)).mono ?_
      rintro e w13x ⟨rfl, hb⟩
      have HX' := Lib.hid (HX.out.below hb)
      have HY' := Lib.hid (HY.out.below hb)
      have HB' := Lib.hid (aft_call HB.out hb)
      clear HX HY HB hb
      have HX := HX'
      clear HX'
      have HY := HY'
      clear HY'
      have HB := HB'
      clear HB'
      go_wp2_with fail
      refine hK.out _ _ ?_ (fun hHeld => ?_)
      · exact ⟨HX.out.cell, HY.out.cell⟩
      clear hK K
      try simp only [Act.put, List.setIfInBounds_toArray, List.set_cons_zero, List.set_cons_succ]
      refine wpAnyH_take (i := 14) (oi := ⟨some 102, _, _, _, _, _⟩) (v := ?v14) rfl (by kernel_rfl) (by kernel_rfl) (by kernel_rfl) (fun _ _ _ h => h) (Or.inl ⟨by rfl, ?hy14⟩) (by assumption) ?_
      case hy14 => (intro w hSw; (try dsimp only at hSw); go_simp; try with_reducible rfl)
      try simp only [Act.put, List.setIfInBounds_toArray, List.set_cons_zero, List.set_cons_succ]
      refine wpAnyH_take (i := 15) (oi := ⟨some 103, _, _, _, _, _⟩) (v := ?v15) rfl (by kernel_rfl) (by kernel_rfl) (by kernel_rfl) (fun _ _ _ h => h) (Or.inl ⟨by rfl, ?hy15⟩) (by assumption) ?_
      case hy15 => (intro w hSw; (try dsimp only at hSw); go_simp; try with_reducible rfl)
      try simp only [Act.put, List.setIfInBounds_toArray, List.set_cons_zero, List.set_cons_succ]
      refine wpAnyH_take (i := 16) (oi := ⟨some 104, _, _, _, _, _⟩) (v := ?v16) rfl (by kernel_rfl) (by kernel_rfl) (by kernel_rfl) (fun _ _ _ h => h) (Or.inl ⟨by rfl, ?hy16⟩) (by assumption) ?_
      case hy16 => (intro w hSw; (try dsimp only at hSw); go_simp; try with_reducible rfl)
      try simp only [Act.put, List.setIfInBounds_toArray, List.set_cons_zero, List.set_cons_succ]
      refine wpAnyH_take (i := 17) (oi := ⟨some 105, _, _, _, _, _⟩) (v := ?v17) rfl (by kernel_rfl) (by kernel_rfl) (by kernel_rfl) (fun _ _ _ h => h) (Or.inl ⟨by rfl, ?hy17⟩) (by assumption) ?_
      case hy17 => (intro w hSw; (try dsimp only at hSw); go_simp; try with_reducible rfl)
      try simp only [Act.put, List.setIfInBounds_toArray, List.set_cons_zero, List.set_cons_succ]
      refine wpAnyH_take (i := 18) (oi := ⟨some 106, _, _, _, _, _⟩) (v := ?v18) rfl (by kernel_rfl) (by kernel_rfl) (by kernel_rfl) (fun _ _ _ h => h) (Or.inl ⟨by rfl, ?hy18⟩) (by assumption) ?_
      case hy18 => (intro w hSw; (try dsimp only at hSw); go_simp; try with_reducible rfl)
      try simp only [Act.put, List.setIfInBounds_toArray, List.set_cons_zero, List.set_cons_succ]
      refine wpAnyH_take (i := 19) (oi := ⟨some 107, _, _, _, _, _⟩) (v := ?v19) rfl (by kernel_rfl) (by kernel_rfl) (by kernel_rfl) (fun _ _ _ h => h) (Or.inl ⟨by rfl, ?hy19⟩) (by assumption) ?_
      case hy19 => (intro w hSw; (try dsimp only at hSw); go_simp; try with_reducible rfl)
      try simp only [Act.put, List.setIfInBounds_toArray, List.set_cons_zero, List.set_cons_succ]
      refine wpAnyH_take (i := 21) (oi := ⟨some 109, _, _, _, _, _⟩) (v := ?v21) rfl (by kernel_rfl) (by kernel_rfl) (by kernel_rfl) (fun _ _ _ h => h) (Or.inl ⟨by rfl, ?hy21⟩) (by assumption) ?_
      case hy21 => (intro w hSw; (try dsimp only at hSw); go_simp; try with_reducible rfl)
      try simp only [Act.put, List.setIfInBounds_toArray, List.set_cons_zero, List.set_cons_succ]
      refine wpAnyH_take (i := 22) (oi := ⟨some 110, _, _, _, _, _⟩) (v := ?v22) rfl (by kernel_rfl) (by kernel_rfl) (by kernel_rfl) (fun _ _ _ h => h) (Or.inl ⟨by rfl, ?hy22⟩) (by assumption) ?_
      case hy22 => (intro w hSw; (try dsimp only at hSw); go_simp; try with_reducible rfl)
      try simp only [Act.put, List.setIfInBounds_toArray, List.set_cons_zero, List.set_cons_succ]
      refine wpAnyH_ready (rs := [20]) (by kernel_rfl) (by simp) ?_
      refine (AllReadyH.cons (o := ⟨some 108, _, _, _, _, _⟩) rfl (fun K hK => ?_) AllReadyH.nil)
      go_simp
      refine (HC1.out B0 b0 d0 B1 b1 d1 w13x HX.out.at_ HY.out.at_ (by omega) (by omega)).mono ?_
      rintro e w14x ⟨rfl, hb⟩
      have HX' := Lib.hid (HX.out.below hb)
      have HY' := Lib.hid (HY.out.below hb)
      have HB' := Lib.hid (aft_call HB.out hb)
      clear HX HY HB hb
      have HX := HX'
      clear HX'
      have HY := HY'
      clear HY'
      have HB := HB'
      clear HB'
      go_wp2_with fail
      refine hK.out _ _ ?_ (fun hHeld => ?_)
      · exact ⟨HX.out.cell, HY.out.cell⟩
      clear hK K
      try simp only [Act.put, List.setIfInBounds_toArray, List.set_cons_zero, List.set_cons_succ]
      refine wpAnyH_ready (rs := [23]) (by kernel_rfl) (by simp) ?_
      refine (AllReadyH.cons (o := ⟨some 111, _, _, _, _, _⟩) rfl (fun K hK => ?_) AllReadyH.nil)
      go_simp
      refine (HC2.out B1 b1 d1 B0 b0 d0 w14x HY.out.at_ HX.out.at_ (by omega) (by omega)).mono ?_
      rintro e w15x ⟨rfl, hb⟩
      have HX' := Lib.hid (HX.out.below hb)
      have HY' := Lib.hid (HY.out.below hb)
      have HB' := Lib.hid (aft_call HB.out hb)
      clear HX HY HB hb
      have HX := HX'
      clear HX'
      have HY := HY'
      clear HY'
      have HB := HB'
      clear HB'
      go_wp2_with fail
      refine hK.out _ _ ?_ (fun hHeld => ?_)
      · exact ⟨HX.out.cell, HY.out.cell⟩
      clear hK K
      try simp only [Act.put, List.setIfInBounds_toArray, List.set_cons_zero, List.set_cons_succ]
      refine wpAnyH_take (i := 24) (oi := ⟨some 112, _, _, _, _, _⟩) (v := ?v24) rfl (by kernel_rfl) (by kernel_rfl) (by kernel_rfl) (fun _ _ _ h => h) (Or.inl ⟨by rfl, ?hy24⟩) (by assumption) ?_
      case hy24 => (intro w hSw; (try dsimp only at hSw); go_simp; try with_reducible rfl)
      try simp only [Act.put, List.setIfInBounds_toArray, List.set_cons_zero, List.set_cons_succ]
      refine wpAnyH_take (i := 25) (oi := ⟨some 113, _, _, _, _, _⟩) (v := ?v25) rfl (by kernel_rfl) (by kernel_rfl) (by kernel_rfl) (fun _ _ _ h => h) (Or.inl ⟨by rfl, ?hy25⟩) (by assumption) ?_
      case hy25 => (intro w hSw; (try dsimp only at hSw); go_simp; try with_reducible rfl)
      try simp only [Act.put, List.setIfInBounds_toArray, List.set_cons_zero, List.set_cons_succ]
      refine wpAnyH_take (i := 26) (oi := ⟨some 114, _, _, _, _, _⟩) (v := ?v26) rfl (by kernel_rfl) (by kernel_rfl) (by kernel_rfl) (fun _ _ _ h => h) (Or.inl ⟨by rfl, ?hy26⟩) (by assumption) ?_
      case hy26 => (intro w hSw; (try dsimp only at hSw); go_simp; try with_reducible rfl)
      try simp only [Act.put, List.setIfInBounds_toArray, List.set_cons_zero, List.set_cons_succ]
      refine wpAnyH_take (i := 27) (oi := ⟨some 115, _, _, _, _, _⟩) (v := ?v27) rfl (by kernel_rfl) (by kernel_rfl) (by kernel_rfl) (fun _ _ _ h => h) (Or.inl ⟨by rfl, ?hy27⟩) (by assumption) ?_
      case hy27 => (intro w hSw; (try dsimp only at hSw); go_simp; try with_reducible rfl)
      try simp only [Act.put, List.setIfInBounds_toArray, List.set_cons_zero, List.set_cons_succ]
      refine wpAnyH_ready (rs := [28]) (by kernel_rfl) (by simp) ?_
      refine (AllReadyH.cons (o := ⟨some 116, _, _, _, _, _⟩) rfl (fun K hK => ?_) AllReadyH.nil)
      go_simp
      refine (started_any w15x).mono ?_
      rintro e w16x ⟨rfl, hb⟩
      have HX' := Lib.hid (HX.out.below hb)
      have HY' := Lib.hid (HY.out.below hb)
      have HB' := Lib.hid (aft_call HB.out hb)
      clear HX HY HB hb
      have HX := HX'
      clear HX'
      have HY := HY'
      clear HY'
      have HB := HB'
      clear HB'
      go_wp2_with fail
      refine hK.out _ _ ?_ (fun hHeld => ?_)
      · exact ⟨HX.out.cell, HY.out.cell⟩
      clear hK K
      try simp only [Act.put, List.setIfInBounds_toArray, List.set_cons_zero, List.set_cons_succ]
      refine wpAnyH_take (i := 29) (oi := ⟨some 117, _, _, _, _, _⟩) (v := ?v29) rfl (by kernel_rfl) (by kernel_rfl) (by kernel_rfl) (fun _ _ _ h => h) (Or.inl ⟨by rfl, ?hy29⟩) (by assumption) ?_
      case hy29 => (intro w hSw; (try dsimp only at hSw); go_simp; try with_reducible rfl)
      try simp only [Act.put, List.setIfInBounds_toArray, List.set_cons_zero, List.set_cons_succ]
      refine wpAnyH_take (i := 30) (oi := ⟨some 4, _, _, _, _, _⟩) (v := ?v30) rfl (by kernel_rfl) (by kernel_rfl) (by kernel_rfl) (fun _ _ _ h => h) (Or.inl ⟨by rfl, ?hy30⟩) (by assumption) ?_
      case hy30 => (intro w hSw; (try dsimp only at hSw); go_simp; try with_reducible rfl)
      try simp only [Act.put, List.setIfInBounds_toArray, List.set_cons_zero, List.set_cons_succ]
      refine wpAnyH_done (by kernel_rfl) ?_ _
      go_wp2_with fail
      exact bodyPost_ret (v := .bool true) (by simp [results, Try.results4, go_sem]) rfl ⟨rfl, HB.out⟩
    · go_simp
      refine (HBYY.out B1 b1 d1 w11x HY.out.at_ (by omega)).mono ?_
      rintro e w12x ⟨gb, rfl, hg, hBb, hb⟩
      have hcv2 := run_string_of_own w12x gb my my (bytesOf y) (Bw.of_bg hBb) HMEY.out
      rw [HSBY.out] at hcv2
      have hcv1b := run_string_of_own w12x ga mx mx (bytesOf x) (Bw.of_bg (HBA.out.below hb hlta)) HME.out
      rw [HSBX.out] at hcv1b
      clear hg hBb HBA hlta
      have HX' := Lib.hid (HX.out.below hb)
      have HY' := Lib.hid (HY.out.below hb)
      have HB' := Lib.hid (aft_call HB.out hb)
      clear HX HY HB hb
      have HX := HX'
      clear HX'
      have HY := HY'
      clear HY'
      have HB := HB'
      clear HB'
      go_wp2_with fail
      refine hK.out _ _ ?_ (fun hHeld => ?_)
      · exact ⟨HX.out.cell, HY.out.cell⟩
      clear hK K
      try simp only [Act.put, List.setIfInBounds_toArray, List.set_cons_zero, List.set_cons_succ]
      refine wpAnyH_ready (rs := [3, 6]) (by kernel_rfl) (by simp) ?_
      refine (AllReadyH.cons (o := ⟨some 91, _, _, _, _, _⟩) rfl (fun K hK => ?_) (AllReadyH.cons (o := ⟨some 94, _, _, _, _, _⟩) rfl (fun K hK => ?_) AllReadyH.nil))
      · go_simp
        refine hK.out _ _ ?_ (fun hHeld => ?_)
        · exact ⟨HX.out.cell, HY.out.cell⟩
        clear hK K
        try simp only [Act.put, List.setIfInBounds_toArray, List.set_cons_zero, List.set_cons_succ]
        refine wpAnyH_ready (rs := [6]) (by kernel_rfl) (by simp) ?_
        refine (AllReadyH.cons (o := ⟨some 94, _, _, _, _, _⟩) rfl (fun K hK => ?_) AllReadyH.nil)
        go_simp
        refine hK.out _ _ ?_ (fun hHeld => ?_)
        · exact ⟨HX.out.cell, HY.out.cell⟩
        clear hK K
        try simp only [Act.put, List.setIfInBounds_toArray, List.set_cons_zero, List.set_cons_succ]
        clear hcv1 hcv1b hcv2
        refine wpAnyH_take (i := 7) (oi := ⟨some 95, _, _, _, _, _⟩) (v := ?v7) rfl (by kernel_rfl) (by kernel_rfl) (by kernel_rfl) (fun _ _ _ h => h) (Or.inl ⟨by rfl, ?hy7⟩) (by assumption) ?_
        case hy7 => (intro w hSw; (try dsimp only at hSw); go_simp; try with_reducible rfl)
        try simp only [Act.put, List.setIfInBounds_toArray, List.set_cons_zero, List.set_cons_succ]
        refine wpAnyH_take (i := 8) (oi := ⟨some 96, _, _, _, _, _⟩) (v := ?v8) rfl (by kernel_rfl) (by kernel_rfl) (by kernel_rfl) (fun _ _ _ h => h) (Or.inl ⟨by rfl, ?hy8⟩) (by assumption) ?_
        case hy8 => (intro w hSw; (try dsimp only at hSw); go_simp; try with_reducible rfl)
        try simp only [Act.put, List.setIfInBounds_toArray, List.set_cons_zero, List.set_cons_succ]
        refine wpAnyH_take (i := 9) (oi := ⟨some 97, _, _, _, _, _⟩) (v := ?v9) rfl (by kernel_rfl) (by kernel_rfl) (by kernel_rfl) (fun _ _ _ h => h) (Or.inl ⟨by rfl, ?hy9⟩) (by assumption) ?_
        case hy9 => (intro w hSw; (try dsimp only at hSw); go_simp; try with_reducible rfl)
        try simp only [Act.put, List.setIfInBounds_toArray, List.set_cons_zero, List.set_cons_succ]
        refine wpAnyH_take (i := 10) (oi := ⟨some 98, _, _, _, _, _⟩) (v := ?v10) rfl (by kernel_rfl) (by kernel_rfl) (by kernel_rfl) (fun _ _ _ h => h) (Or.inl ⟨by rfl, ?hy10⟩) (by assumption) ?_
        case hy10 => (intro w hSw; (try dsimp only at hSw); go_simp; try with_reducible rfl)
        try simp only [Act.put, List.setIfInBounds_toArray, List.set_cons_zero, List.set_cons_succ]
        refine wpAnyH_take (i := 11) (oi := ⟨some 99, _, _, _, _, _⟩) (v := ?v11) rfl (by kernel_rfl) (by kernel_rfl) (by kernel_rfl) (fun _ _ _ h => h) (Or.inl ⟨by rfl, ?hy11⟩) (by assumption) ?_
        case hy11 => (intro w hSw; (try dsimp only at hSw); go_simp; try with_reducible rfl)
        try simp only [Act.put, List.setIfInBounds_toArray, List.set_cons_zero, List.set_cons_succ]
        refine wpAnyH_take (i := 12) (oi := ⟨some 100, _, _, _, _, _⟩) (v := ?v12) rfl (by kernel_rfl) (by kernel_rfl) (by kernel_rfl) (fun _ _ _ h => h) (Or.inl ⟨by rfl, ?hy12⟩) (by assumption) ?_
        case hy12 => (intro w hSw; (try dsimp only at hSw); go_simp; try with_reducible rfl)
        try simp only [Act.put, List.setIfInBounds_toArray, List.set_cons_zero, List.set_cons_succ]
        refine wpAnyH_ready (rs := [13]) (by kernel_rfl) (by simp) ?_
        refine (AllReadyH.cons (o := ⟨some 101, _, _, _, _, _⟩) rfl (fun K hK => ?_) AllReadyH.nil)
        go_simp
        refine (HTY.out B1 b1 d1 w12x HY.out.at_ (by omega)).mono ?_
        rintro e w13x ⟨rfl, hb⟩
        have HX' := Lib.hid (HX.out.below hb)
        have HY' := Lib.hid (HY.out.below hb)
        have HB' := Lib.hid (aft_call HB.out hb)
        clear HX HY HB hb
        have HX := HX'
        clear HX'
        have HY := HY'
        clear HY'
        have HB := HB'
        clear HB'
        go_wp2_with fail
        refine hK.out _ _ ?_ (fun hHeld => ?_)
        · exact ⟨HX.out.cell, HY.out.cell⟩
        clear hK K
        try simp only [Act.put, List.setIfInBounds_toArray, List.set_cons_zero, List.set_cons_succ]
        refine wpAnyH_take (i := 14) (oi := ⟨some 102, _, _, _, _, _⟩) (v := ?v14) rfl (by kernel_rfl) (by kernel_rfl) (by kernel_rfl) (fun _ _ _ h => h) (Or.inl ⟨by rfl, ?hy14⟩) (by assumption) ?_
        case hy14 => (intro w hSw; (try dsimp only at hSw); go_simp; try with_reducible rfl)
        try simp only [Act.put, List.setIfInBounds_toArray, List.set_cons_zero, List.set_cons_succ]
        refine wpAnyH_take (i := 15) (oi := ⟨some 103, _, _, _, _, _⟩) (v := ?v15) rfl (by kernel_rfl) (by kernel_rfl) (by kernel_rfl) (fun _ _ _ h => h) (Or.inl ⟨by rfl, ?hy15⟩) (by assumption) ?_
        case hy15 => (intro w hSw; (try dsimp only at hSw); go_simp; try with_reducible rfl)
        try simp only [Act.put, List.setIfInBounds_toArray, List.set_cons_zero, List.set_cons_succ]
        refine wpAnyH_take (i := 16) (oi := ⟨some 104, _, _, _, _, _⟩) (v := ?v16) rfl (by kernel_rfl) (by kernel_rfl) (by kernel_rfl) (fun _ _ _ h => h) (Or.inl ⟨by rfl, ?hy16⟩) (by assumption) ?_
        case hy16 => (intro w hSw; (try dsimp only at hSw); go_simp; try with_reducible rfl)
        try simp only [Act.put, List.setIfInBounds_toArray, List.set_cons_zero, List.set_cons_succ]
        refine wpAnyH_take (i := 17) (oi := ⟨some 105, _, _, _, _, _⟩) (v := ?v17) rfl (by kernel_rfl) (by kernel_rfl) (by kernel_rfl) (fun _ _ _ h => h) (Or.inl ⟨by rfl, ?hy17⟩) (by assumption) ?_
        case hy17 => (intro w hSw; (try dsimp only at hSw); go_simp; try with_reducible rfl)
        try simp only [Act.put, List.setIfInBounds_toArray, List.set_cons_zero, List.set_cons_succ]
        refine wpAnyH_take (i := 18) (oi := ⟨some 106, _, _, _, _, _⟩) (v := ?v18) rfl (by kernel_rfl) (by kernel_rfl) (by kernel_rfl) (fun _ _ _ h => h) (Or.inl ⟨by rfl, ?hy18⟩) (by assumption) ?_
        case hy18 => (intro w hSw; (try dsimp only at hSw); go_simp; try with_reducible rfl)
        try simp only [Act.put, List.setIfInBounds_toArray, List.set_cons_zero, List.set_cons_succ]
        refine wpAnyH_take (i := 19) (oi := ⟨some 107, _, _, _, _, _⟩) (v := ?v19) rfl (by kernel_rfl) (by kernel_rfl) (by kernel_rfl) (fun _ _ _ h => h) (Or.inl ⟨by rfl, ?hy19⟩) (by assumption) ?_
        case hy19 => (intro w hSw; (try dsimp only at hSw); go_simp; try with_reducible rfl)
        try simp only [Act.put, List.setIfInBounds_toArray, List.set_cons_zero, List.set_cons_succ]
        refine wpAnyH_take (i := 21) (oi := ⟨some 109, _, _, _, _, _⟩) (v := ?v21) rfl (by kernel_rfl) (by kernel_rfl) (by kernel_rfl) (fun _ _ _ h => h) (Or.inl ⟨by rfl, ?hy21⟩) (by assumption) ?_
        case hy21 => (intro w hSw; (try dsimp only at hSw); go_simp; try with_reducible rfl)
        try simp only [Act.put, List.setIfInBounds_toArray, List.set_cons_zero, List.set_cons_succ]
        refine wpAnyH_take (i := 22) (oi := ⟨some 110, _, _, _, _, _⟩) (v := ?v22) rfl (by kernel_rfl) (by kernel_rfl) (by kernel_rfl) (fun _ _ _ h => h) (Or.inl ⟨by rfl, ?hy22⟩) (by assumption) ?_
        case hy22 => (intro w hSw; (try dsimp only at hSw); go_simp; try with_reducible rfl)
        try simp only [Act.put, List.setIfInBounds_toArray, List.set_cons_zero, List.set_cons_succ]
        refine wpAnyH_ready (rs := [20]) (by kernel_rfl) (by simp) ?_
        refine (AllReadyH.cons (o := ⟨some 108, _, _, _, _, _⟩) rfl (fun K hK => ?_) AllReadyH.nil)
        go_simp
        refine (HC1.out B0 b0 d0 B1 b1 d1 w13x HX.out.at_ HY.out.at_ (by omega) (by omega)).mono ?_
        rintro e w14x ⟨rfl, hb⟩
        have HX' := Lib.hid (HX.out.below hb)
        have HY' := Lib.hid (HY.out.below hb)
        have HB' := Lib.hid (aft_call HB.out hb)
        clear HX HY HB hb
        have HX := HX'
        clear HX'
        have HY := HY'
        clear HY'
        have HB := HB'
        clear HB'
        go_wp2_with fail
        refine hK.out _ _ ?_ (fun hHeld => ?_)
        · exact ⟨HX.out.cell, HY.out.cell⟩
        clear hK K
        try simp only [Act.put, List.setIfInBounds_toArray, List.set_cons_zero, List.set_cons_succ]
        refine wpAnyH_ready (rs := [23]) (by kernel_rfl) (by simp) ?_
        refine (AllReadyH.cons (o := ⟨some 111, _, _, _, _, _⟩) rfl (fun K hK => ?_) AllReadyH.nil)
        go_simp
        refine (HC2.out B1 b1 d1 B0 b0 d0 w14x HY.out.at_ HX.out.at_ (by omega) (by omega)).mono ?_
        rintro e w15x ⟨rfl, hb⟩
        have HX' := Lib.hid (HX.out.below hb)
        have HY' := Lib.hid (HY.out.below hb)
        have HB' := Lib.hid (aft_call HB.out hb)
        clear HX HY HB hb
        have HX := HX'
        clear HX'
        have HY := HY'
        clear HY'
        have HB := HB'
        clear HB'
        go_wp2_with fail
        refine hK.out _ _ ?_ (fun hHeld => ?_)
        · exact ⟨HX.out.cell, HY.out.cell⟩
        clear hK K
        try simp only [Act.put, List.setIfInBounds_toArray, List.set_cons_zero, List.set_cons_succ]
        refine wpAnyH_take (i := 24) (oi := ⟨some 112, _, _, _, _, _⟩) (v := ?v24) rfl (by kernel_rfl) (by kernel_rfl) (by kernel_rfl) (fun _ _ _ h => h) (Or.inl ⟨by rfl, ?hy24⟩) (by assumption) ?_
        case hy24 => (intro w hSw; (try dsimp only at hSw); go_simp; try with_reducible rfl)
        try simp only [Act.put, List.setIfInBounds_toArray, List.set_cons_zero, List.set_cons_succ]
        refine wpAnyH_take (i := 25) (oi := ⟨some 113, _, _, _, _, _⟩) (v := ?v25) rfl (by kernel_rfl) (by kernel_rfl) (by kernel_rfl) (fun _ _ _ h => h) (Or.inl ⟨by rfl, ?hy25⟩) (by assumption) ?_
        case hy25 => (intro w hSw; (try dsimp only at hSw); go_simp; try with_reducible rfl)
        try simp only [Act.put, List.setIfInBounds_toArray, List.set_cons_zero, List.set_cons_succ]
        refine wpAnyH_take (i := 26) (oi := ⟨some 114, _, _, _, _, _⟩) (v := ?v26) rfl (by kernel_rfl) (by kernel_rfl) (by kernel_rfl) (fun _ _ _ h => h) (Or.inl ⟨by rfl, ?hy26⟩) (by assumption) ?_
        case hy26 => (intro w hSw; (try dsimp only at hSw); go_simp; try with_reducible rfl)
        try simp only [Act.put, List.setIfInBounds_toArray, List.set_cons_zero, List.set_cons_succ]
        refine wpAnyH_take (i := 27) (oi := ⟨some 115, _, _, _, _, _⟩) (v := ?v27) rfl (by kernel_rfl) (by kernel_rfl) (by kernel_rfl) (fun _ _ _ h => h) (Or.inl ⟨by rfl, ?hy27⟩) (by assumption) ?_
        case hy27 => (intro w hSw; (try dsimp only at hSw); go_simp; try with_reducible rfl)
        try simp only [Act.put, List.setIfInBounds_toArray, List.set_cons_zero, List.set_cons_succ]
        refine wpAnyH_ready (rs := [28]) (by kernel_rfl) (by simp) ?_
        refine (AllReadyH.cons (o := ⟨some 116, _, _, _, _, _⟩) rfl (fun K hK => ?_) AllReadyH.nil)
        go_simp
        refine (started_any w15x).mono ?_
        rintro e w16x ⟨rfl, hb⟩
        have HX' := Lib.hid (HX.out.below hb)
        have HY' := Lib.hid (HY.out.below hb)
        have HB' := Lib.hid (aft_call HB.out hb)
        clear HX HY HB hb
        have HX := HX'
        clear HX'
        have HY := HY'
        clear HY'
        have HB := HB'
        clear HB'
        go_wp2_with fail
        refine hK.out _ _ ?_ (fun hHeld => ?_)
        · exact ⟨HX.out.cell, HY.out.cell⟩
        clear hK K
        try simp only [Act.put, List.setIfInBounds_toArray, List.set_cons_zero, List.set_cons_succ]
        refine wpAnyH_take (i := 29) (oi := ⟨some 117, _, _, _, _, _⟩) (v := ?v29) rfl (by kernel_rfl) (by kernel_rfl) (by kernel_rfl) (fun _ _ _ h => h) (Or.inl ⟨by rfl, ?hy29⟩) (by assumption) ?_
        case hy29 => (intro w hSw; (try dsimp only at hSw); go_simp; try with_reducible rfl)
        try simp only [Act.put, List.setIfInBounds_toArray, List.set_cons_zero, List.set_cons_succ]
        refine wpAnyH_take (i := 30) (oi := ⟨some 4, _, _, _, _, _⟩) (v := ?v30) rfl (by kernel_rfl) (by kernel_rfl) (by kernel_rfl) (fun _ _ _ h => h) (Or.inl ⟨by rfl, ?hy30⟩) (by assumption) ?_
        case hy30 => (intro w hSw; (try dsimp only at hSw); go_simp; try with_reducible rfl)
        try simp only [Act.put, List.setIfInBounds_toArray, List.set_cons_zero, List.set_cons_succ]
        refine wpAnyH_done (by kernel_rfl) ?_ _
        go_wp2_with fail
        exact bodyPost_ret (v := .bool true) (by simp [results, Try.results4, go_sem]) rfl ⟨rfl, HB.out⟩
      · go_simp
        refine hK.out _ _ ?_ (fun hHeld => ?_)
        · exact ⟨HX.out.cell, HY.out.cell⟩
        clear hK K
        try simp only [Act.put, List.setIfInBounds_toArray, List.set_cons_zero, List.set_cons_succ]
        refine wpAnyH_ready (rs := [3]) (by kernel_rfl) (by simp) ?_
        refine (AllReadyH.cons (o := ⟨some 91, _, _, _, _, _⟩) rfl (fun K hK => ?_) AllReadyH.nil)
        go_simp
        refine hK.out _ _ ?_ (fun hHeld => ?_)
        · exact ⟨HX.out.cell, HY.out.cell⟩
        clear hK K
        try simp only [Act.put, List.setIfInBounds_toArray, List.set_cons_zero, List.set_cons_succ]
        clear hcv1 hcv1b hcv2
        refine wpAnyH_take (i := 7) (oi := ⟨some 95, _, _, _, _, _⟩) (v := ?v7) rfl (by kernel_rfl) (by kernel_rfl) (by kernel_rfl) (fun _ _ _ h => h) (Or.inl ⟨by rfl, ?hy7⟩) (by assumption) ?_
        case hy7 => (intro w hSw; (try dsimp only at hSw); go_simp; try with_reducible rfl)
        try simp only [Act.put, List.setIfInBounds_toArray, List.set_cons_zero, List.set_cons_succ]
        refine wpAnyH_take (i := 8) (oi := ⟨some 96, _, _, _, _, _⟩) (v := ?v8) rfl (by kernel_rfl) (by kernel_rfl) (by kernel_rfl) (fun _ _ _ h => h) (Or.inl ⟨by rfl, ?hy8⟩) (by assumption) ?_
        case hy8 => (intro w hSw; (try dsimp only at hSw); go_simp; try with_reducible rfl)
        try simp only [Act.put, List.setIfInBounds_toArray, List.set_cons_zero, List.set_cons_succ]
        refine wpAnyH_take (i := 9) (oi := ⟨some 97, _, _, _, _, _⟩) (v := ?v9) rfl (by kernel_rfl) (by kernel_rfl) (by kernel_rfl) (fun _ _ _ h => h) (Or.inl ⟨by rfl, ?hy9⟩) (by assumption) ?_
        case hy9 => (intro w hSw; (try dsimp only at hSw); go_simp; try with_reducible rfl)
        try simp only [Act.put, List.setIfInBounds_toArray, List.set_cons_zero, List.set_cons_succ]
        refine wpAnyH_take (i := 10) (oi := ⟨some 98, _, _, _, _, _⟩) (v := ?v10) rfl (by kernel_rfl) (by kernel_rfl) (by kernel_rfl) (fun _ _ _ h => h) (Or.inl ⟨by rfl, ?hy10⟩) (by assumption) ?_
        case hy10 => (intro w hSw; (try dsimp only at hSw); go_simp; try with_reducible rfl)
        try simp only [Act.put, List.setIfInBounds_toArray, List.set_cons_zero, List.set_cons_succ]
        refine wpAnyH_take (i := 11) (oi := ⟨some 99, _, _, _, _, _⟩) (v := ?v11) rfl (by kernel_rfl) (by kernel_rfl) (by kernel_rfl) (fun _ _ _ h => h) (Or.inl ⟨by rfl, ?hy11⟩) (by assumption) ?_
        case hy11 => (intro w hSw; (try dsimp only at hSw); go_simp; try with_reducible rfl)
        try simp only [Act.put, List.setIfInBounds_toArray, List.set_cons_zero, List.set_cons_succ]
        refine wpAnyH_take (i := 12) (oi := ⟨some 100, _, _, _, _, _⟩) (v := ?v12) rfl (by kernel_rfl) (by kernel_rfl) (by kernel_rfl) (fun _ _ _ h => h) (Or.inl ⟨by rfl, ?hy12⟩) (by assumption) ?_
        case hy12 => (intro w hSw; (try dsimp only at hSw); go_simp; try with_reducible rfl)
        try simp only [Act.put, List.setIfInBounds_toArray, List.set_cons_zero, List.set_cons_succ]
        refine wpAnyH_ready (rs := [13]) (by kernel_rfl) (by simp) ?_
        refine (AllReadyH.cons (o := ⟨some 101, _, _, _, _, _⟩) rfl (fun K hK => ?_) AllReadyH.nil)
        go_simp
        refine (HTY.out B1 b1 d1 w12x HY.out.at_ (by omega)).mono ?_
        rintro e w13x ⟨rfl, hb⟩
        have HX' := Lib.hid (HX.out.below hb)
        have HY' := Lib.hid (HY.out.below hb)
        have HB' := Lib.hid (aft_call HB.out hb)
        clear HX HY HB hb
        have HX := HX'
        clear HX'
        have HY := HY'
        clear HY'
        have HB := HB'
        clear HB'
        go_wp2_with fail
        refine hK.out _ _ ?_ (fun hHeld => ?_)
        · exact ⟨HX.out.cell, HY.out.cell⟩
        clear hK K
        try simp only [Act.put, List.setIfInBounds_toArray, List.set_cons_zero, List.set_cons_succ]
        refine wpAnyH_take (i := 14) (oi := ⟨some 102, _, _, _, _, _⟩) (v := ?v14) rfl (by kernel_rfl) (by kernel_rfl) (by kernel_rfl) (fun _ _ _ h => h) (Or.inl ⟨by rfl, ?hy14⟩) (by assumption) ?_
        case hy14 => (intro w hSw; (try dsimp only at hSw); go_simp; try with_reducible rfl)
        try simp only [Act.put, List.setIfInBounds_toArray, List.set_cons_zero, List.set_cons_succ]
        refine wpAnyH_take (i := 15) (oi := ⟨some 103, _, _, _, _, _⟩) (v := ?v15) rfl (by kernel_rfl) (by kernel_rfl) (by kernel_rfl) (fun _ _ _ h => h) (Or.inl ⟨by rfl, ?hy15⟩) (by assumption) ?_
        case hy15 => (intro w hSw; (try dsimp only at hSw); go_simp; try with_reducible rfl)
        try simp only [Act.put, List.setIfInBounds_toArray, List.set_cons_zero, List.set_cons_succ]
        refine wpAnyH_take (i := 16) (oi := ⟨some 104, _, _, _, _, _⟩) (v := ?v16) rfl (by kernel_rfl) (by kernel_rfl) (by kernel_rfl) (fun _ _ _ h => h) (Or.inl ⟨by rfl, ?hy16⟩) (by assumption) ?_
        case hy16 => (intro w hSw; (try dsimp only at hSw); go_simp; try with_reducible rfl)
        try simp only [Act.put, List.setIfInBounds_toArray, List.set_cons_zero, List.set_cons_succ]
        refine wpAnyH_take (i := 17) (oi := ⟨some 105, _, _, _, _, _⟩) (v := ?v17) rfl (by kernel_rfl) (by kernel_rfl) (by kernel_rfl) (fun _ _ _ h => h) (Or.inl ⟨by rfl, ?hy17⟩) (by assumption) ?_
        case hy17 => (intro w hSw; (try dsimp only at hSw); go_simp; try with_reducible rfl)
        try simp only [Act.put, List.setIfInBounds_toArray, List.set_cons_zero, List.set_cons_succ]
        refine wpAnyH_take (i := 18) (oi := ⟨some 106, _, _, _, _, _⟩) (v := ?v18) rfl (by kernel_rfl) (by kernel_rfl) (by kernel_rfl) (fun _ _ _ h => h) (Or.inl ⟨by rfl, ?hy18⟩) (by assumption) ?_
        case hy18 => (intro w hSw; (try dsimp only at hSw); go_simp; try with_reducible rfl)
        try simp only [Act.put, List.setIfInBounds_toArray, List.set_cons_zero, List.set_cons_succ]
        refine wpAnyH_take (i := 19) (oi := ⟨some 107, _, _, _, _, _⟩) (v := ?v19) rfl (by kernel_rfl) (by kernel_rfl) (by kernel_rfl) (fun _ _ _ h => h) (Or.inl ⟨by rfl, ?hy19⟩) (by assumption) ?_
        case hy19 => (intro w hSw; (try dsimp only at hSw); go_simp; try with_reducible rfl)
        try simp only [Act.put, List.setIfInBounds_toArray, List.set_cons_zero, List.set_cons_succ]
        refine wpAnyH_take (i := 21) (oi := ⟨some 109, _, _, _, _, _⟩) (v := ?v21) rfl (by kernel_rfl) (by kernel_rfl) (by kernel_rfl) (fun _ _ _ h => h) (Or.inl ⟨by rfl, ?hy21⟩) (by assumption) ?_
        case hy21 => (intro w hSw; (try dsimp only at hSw); go_simp; try with_reducible rfl)
        try simp only [Act.put, List.setIfInBounds_toArray, List.set_cons_zero, List.set_cons_succ]
        refine wpAnyH_take (i := 22) (oi := ⟨some 110, _, _, _, _, _⟩) (v := ?v22) rfl (by kernel_rfl) (by kernel_rfl) (by kernel_rfl) (fun _ _ _ h => h) (Or.inl ⟨by rfl, ?hy22⟩) (by assumption) ?_
        case hy22 => (intro w hSw; (try dsimp only at hSw); go_simp; try with_reducible rfl)
        try simp only [Act.put, List.setIfInBounds_toArray, List.set_cons_zero, List.set_cons_succ]
        refine wpAnyH_ready (rs := [20]) (by kernel_rfl) (by simp) ?_
        refine (AllReadyH.cons (o := ⟨some 108, _, _, _, _, _⟩) rfl (fun K hK => ?_) AllReadyH.nil)
        go_simp
        refine (HC1.out B0 b0 d0 B1 b1 d1 w13x HX.out.at_ HY.out.at_ (by omega) (by omega)).mono ?_
        rintro e w14x ⟨rfl, hb⟩
        have HX' := Lib.hid (HX.out.below hb)
        have HY' := Lib.hid (HY.out.below hb)
        have HB' := Lib.hid (aft_call HB.out hb)
        clear HX HY HB hb
        have HX := HX'
        clear HX'
        have HY := HY'
        clear HY'
        have HB := HB'
        clear HB'
        go_wp2_with fail
        refine hK.out _ _ ?_ (fun hHeld => ?_)
        · exact ⟨HX.out.cell, HY.out.cell⟩
        clear hK K
        try simp only [Act.put, List.setIfInBounds_toArray, List.set_cons_zero, List.set_cons_succ]
        refine wpAnyH_ready (rs := [23]) (by kernel_rfl) (by simp) ?_
        refine (AllReadyH.cons (o := ⟨some 111, _, _, _, _, _⟩) rfl (fun K hK => ?_) AllReadyH.nil)
        go_simp
        refine (HC2.out B1 b1 d1 B0 b0 d0 w14x HY.out.at_ HX.out.at_ (by omega) (by omega)).mono ?_
        rintro e w15x ⟨rfl, hb⟩
        have HX' := Lib.hid (HX.out.below hb)
        have HY' := Lib.hid (HY.out.below hb)
        have HB' := Lib.hid (aft_call HB.out hb)
        clear HX HY HB hb
        have HX := HX'
        clear HX'
        have HY := HY'
        clear HY'
        have HB := HB'
        clear HB'
        go_wp2_with fail
        refine hK.out _ _ ?_ (fun hHeld => ?_)
        · exact ⟨HX.out.cell, HY.out.cell⟩
        clear hK K
        try simp only [Act.put, List.setIfInBounds_toArray, List.set_cons_zero, List.set_cons_succ]
        refine wpAnyH_take (i := 24) (oi := ⟨some 112, _, _, _, _, _⟩) (v := ?v24) rfl (by kernel_rfl) (by kernel_rfl) (by kernel_rfl) (fun _ _ _ h => h) (Or.inl ⟨by rfl, ?hy24⟩) (by assumption) ?_
        case hy24 => (intro w hSw; (try dsimp only at hSw); go_simp; try with_reducible rfl)
        try simp only [Act.put, List.setIfInBounds_toArray, List.set_cons_zero, List.set_cons_succ]
        refine wpAnyH_take (i := 25) (oi := ⟨some 113, _, _, _, _, _⟩) (v := ?v25) rfl (by kernel_rfl) (by kernel_rfl) (by kernel_rfl) (fun _ _ _ h => h) (Or.inl ⟨by rfl, ?hy25⟩) (by assumption) ?_
        case hy25 => (intro w hSw; (try dsimp only at hSw); go_simp; try with_reducible rfl)
        try simp only [Act.put, List.setIfInBounds_toArray, List.set_cons_zero, List.set_cons_succ]
        refine wpAnyH_take (i := 26) (oi := ⟨some 114, _, _, _, _, _⟩) (v := ?v26) rfl (by kernel_rfl) (by kernel_rfl) (by kernel_rfl) (fun _ _ _ h => h) (Or.inl ⟨by rfl, ?hy26⟩) (by assumption) ?_
        case hy26 => (intro w hSw; (try dsimp only at hSw); go_simp; try with_reducible rfl)
        try simp only [Act.put, List.setIfInBounds_toArray, List.set_cons_zero, List.set_cons_succ]
        refine wpAnyH_take (i := 27) (oi := ⟨some 115, _, _, _, _, _⟩) (v := ?v27) rfl (by kernel_rfl) (by kernel_rfl) (by kernel_rfl) (fun _ _ _ h => h) (Or.inl ⟨by rfl, ?hy27⟩) (by assumption) ?_
        case hy27 => (intro w hSw; (try dsimp only at hSw); go_simp; try with_reducible rfl)
        try simp only [Act.put, List.setIfInBounds_toArray, List.set_cons_zero, List.set_cons_succ]
        refine wpAnyH_ready (rs := [28]) (by kernel_rfl) (by simp) ?_
        refine (AllReadyH.cons (o := ⟨some 116, _, _, _, _, _⟩) rfl (fun K hK => ?_) AllReadyH.nil)
        go_simp
        refine (started_any w15x).mono ?_
        rintro e w16x ⟨rfl, hb⟩
        have HX' := Lib.hid (HX.out.below hb)
        have HY' := Lib.hid (HY.out.below hb)
        have HB' := Lib.hid (aft_call HB.out hb)
        clear HX HY HB hb
        have HX := HX'
        clear HX'
        have HY := HY'
        clear HY'
        have HB := HB'
        clear HB'
        go_wp2_with fail
        refine hK.out _ _ ?_ (fun hHeld => ?_)
        · exact ⟨HX.out.cell, HY.out.cell⟩
        clear hK K
        try simp only [Act.put, List.setIfInBounds_toArray, List.set_cons_zero, List.set_cons_succ]
        refine wpAnyH_take (i := 29) (oi := ⟨some 117, _, _, _, _, _⟩) (v := ?v29) rfl (by kernel_rfl) (by kernel_rfl) (by kernel_rfl) (fun _ _ _ h => h) (Or.inl ⟨by rfl, ?hy29⟩) (by assumption) ?_
        case hy29 => (intro w hSw; (try dsimp only at hSw); go_simp; try with_reducible rfl)
        try simp only [Act.put, List.setIfInBounds_toArray, List.set_cons_zero, List.set_cons_succ]
        refine wpAnyH_take (i := 30) (oi := ⟨some 4, _, _, _, _, _⟩) (v := ?v30) rfl (by kernel_rfl) (by kernel_rfl) (by kernel_rfl) (fun _ _ _ h => h) (Or.inl ⟨by rfl, ?hy30⟩) (by assumption) ?_
        case hy30 => (intro w hSw; (try dsimp only at hSw); go_simp; try with_reducible rfl)
        try simp only [Act.put, List.setIfInBounds_toArray, List.set_cons_zero, List.set_cons_succ]
        refine wpAnyH_done (by kernel_rfl) ?_ _
        go_wp2_with fail
        exact bodyPost_ret (v := .bool true) (by simp [results, Try.results4, go_sem]) rfl ⟨rfl, HB.out⟩
  · skip
    have t1 : decide ((k0 : Int) < (mx : Int)) = false := decide_eq_false (by omega)
    have t1n : decide (k0 < mx) = false := decide_eq_false (by omega)
    have t1p : ¬ k0 < mx := by omega
    have t2 : decide ((0 : Int) < (mx : Int)) = true := decide_eq_true (by omega)
    have t2n : decide (0 < mx) = true := decide_eq_true (by omega)
    have t2p : 0 < mx := by omega
    have v1 : decide ((Lt : Int) ≤ (400 : Int)) = true := decide_eq_true (by omega)
    have v1n : decide (Lt ≤ 400) = true := decide_eq_true (by omega)
    have v1p : Lt ≤ 400 := by omega
    have v3 : decide ((1 : Int) < (Lt : Int)) = true := decide_eq_true (by omega)
    have v3n : decide (1 < Lt) = true := decide_eq_true (by omega)
    have v3p : 1 < Lt := by omega
    have v2 : ((Lt : Int) == 0) = false := by simp; omega
    have v2n : (Lt == 0) = false := by simp; omega
    have hi0 := HIX.out (by omega)
    rw [show (((0 : Nat)) : Int) = 0 from rfl] at hi0
    have v4 : ((ch : Int) == 48) = false := by have := HHD.out (by omega); simp; omega
    have v4n : (ch == 48) = false := by have := HHD.out (by omega); simp; omega
    clear u1 u2 u3
    have cX := HX.out.cell
    go_wp2_with fail
    clear cX
    refine (HBY.out B0 b0 d0 w3x HX.out.at_ (by omega)).mono ?_
    rintro e w4x ⟨g2, rfl, hg, hBg, hb⟩
    have HX' := Lib.hid (HX.out.below hb)
    have HY' := Lib.hid (HY.out.below hb)
    have HB' := Lib.hid (aft_call HB.out hb)
    clear HX HY HB hb
    have HX := HX'
    clear HX'
    have HY := HY'
    clear HY'
    have HB := HB'
    clear HB'
    have HBG := Lib.hid hBg
    clear hg hBg
    clear HBG
    have cX := HX.out.cell
    go_wp2_with fail
    clear cX
    refine (HBY.out B0 b0 d0 w4x HX.out.at_ (by omega)).mono ?_
    rintro e w5x ⟨g3, rfl, hg, hBg, hb⟩
    have HX' := Lib.hid (HX.out.below hb)
    have HY' := Lib.hid (HY.out.below hb)
    have HB' := Lib.hid (aft_call HB.out hb)
    clear HX HY HB hb
    have HX := HX'
    clear HX'
    have HY := HY'
    clear HY'
    have HB := HB'
    clear HB'
    have HBG := Lib.hid hBg
    clear hg hBg
    clear HBG
    have cX := HX.out.cell
    go_wp2_with fail
    clear cX
    refine (HBY.out B0 b0 d0 w5x HX.out.at_ (by omega)).mono ?_
    rintro e w6x ⟨g4, rfl, hg, hBg, hb⟩
    have HX' := Lib.hid (HX.out.below hb)
    have HY' := Lib.hid (HY.out.below hb)
    have HB' := Lib.hid (aft_call HB.out hb)
    clear HX HY HB hb
    have HX := HX'
    clear HX'
    have HY := HY'
    clear HY'
    have HB := HB'
    clear HB'
    have HBG := Lib.hid hBg
    clear hg hBg
    have hb0 := HBG.out.cell (i := 0) (by rw [HME.out]; exact t2p)
    have hne := bytesOf_head (x := x) (by rw [HME.out]; exact t2p)
    generalize (bytesOf x).getD 0 0 = dg0 at hb0 hne
    have t3 : (((dg0 : Nat) : Int) == 0) = false := by simp; omega
    have t4 : (0 : Int) < (mx : Int) := by omega
    clear HBG
    have cX := HX.out.cell
    go_wp2_with fail
    clear cX
    clear hb0 t3 t4 hne
    refine (HTX.out B0 b0 d0 w6x HX.out.at_ (by omega)).mono ?_
    rintro e w7x ⟨rfl, hb⟩
    have HX' := Lib.hid (HX.out.below hb)
    have HY' := Lib.hid (HY.out.below hb)
    have HB' := Lib.hid (aft_call HB.out hb)
    clear HX HY HB hb
    have HX := HX'
    clear HX'
    have HY := HY'
    clear HY'
    have HB := HB'
    clear HB'
    go_wp2_with fail
    refine (HP1.out w7x (by omega)).mono ?_
    rintro e w8x ⟨A2x, n2x, c2x, rfl, hd, hnn2x, hb⟩
    have HX' := Lib.hid (HX.out.below hb)
    have HY' := Lib.hid (HY.out.below hb)
    have HB' := Lib.hid (aft_call HB.out hb)
    have Hq1' := Lib.hid hd
    clear HX HY HB hd hb
    have HX := HX'
    clear HX'
    have HY := HY'
    clear HY'
    have HB := HB'
    clear HB'
    have Hq1 := Hq1'
    clear Hq1'
    have HX' := Lib.hid (HX.out.al (.cells #[.slice A2x n2x c2x] 25))
    have HY' := Lib.hid (HY.out.al (.cells #[.slice A2x n2x c2x] 25))
    have HB' := Lib.hid (aft_al HB.out (.cells #[.slice A2x n2x c2x] 25))
    have hQ' : Bx (w8x.alloc (.cells #[.slice A2x n2x c2x] 25)) (w8x.heap.size) A2x n2x c2x (x) := by have := (Bx.new Hq1.out); simpa only [World.size_alloc] using this
    have HQ' := Lib.hid hQ'
    clear HX HY HB Hq1 hQ'
    have HX := HX'
    clear HX'
    have HY := HY'
    clear HY'
    have HQ := HQ'
    clear HQ'
    have HB := HB'
    clear HB'
    have cX := HX.out.cell
    go_wp2_with fail
    generalize (w8x.alloc (.cells #[.slice A2x n2x c2x] 25)) = V8x at *
    skip
    generalize w8x.heap.size = q8_0 at *
    clear cX
    refine (eq_same A2x n2x c2x B0 b0 d0 (x) V8x HQ.out.at_ HX.out.at_ (by omega) (by omega)).mono ?_
    rintro e w9x ⟨rfl, hb⟩
    have HX' := Lib.hid (HX.out.below hb)
    have HY' := Lib.hid (HY.out.below hb)
    have HQ' := Lib.hid (HQ.out.below hb)
    have HB' := Lib.hid (aft_call HB.out hb)
    clear HX HY HQ HB hb
    have HX := HX'
    clear HX'
    have HY := HY'
    clear HY'
    have HQ := HQ'
    clear HQ'
    have HB := HB'
    clear HB'
    have cX := HX.out.cell; have cY := HY.out.cell
    go_wp2_with fail
    clear cX cY
    clear HQ hi0 v1 v1n v1p v2 v2n v3 v3n v3p t1 t1n t1p t2 t2n t2p v4 v4n
    refine (HC1.out B0 b0 d0 B1 b1 d1 w9x HX.out.at_ HY.out.at_ (by omega) (by omega)).mono ?_
    rintro e w10x ⟨rfl, hb⟩
    have HX' := Lib.hid (HX.out.below hb)
    have HY' := Lib.hid (HY.out.below hb)
    have HB' := Lib.hid (aft_call HB.out hb)
    clear HX HY HB hb
    have HX := HX'
    clear HX'
    have HY := HY'
    clear HY'
    have HB := HB'
    clear HB'
    go_wp2_with fail
    have htq := HTQ.out; have hbq := HBQ.out; have hcn := HCN.out
    refine wp_region_held_drew (S := fun w' => w'.cell? ⟨p0, 0, none⟩ = some (.slice B0 b0 d0) ∧ w'.cell? ⟨p1, 0, none⟩ = some (.slice B1 b1 d1)) (by kernel_rfl) ?_ (fun hHeld => ?_)
    · exact ⟨HX.out.cell, HY.out.cell⟩
    refine wpAnyH_take (i := 0) (oi := ⟨some 88, _, _, _, _, _⟩) (v := ?v0) rfl (by kernel_rfl) (by kernel_rfl) (by kernel_rfl) (fun _ _ _ h => h) (Or.inl ⟨by rfl, ?hy0⟩) (by assumption) ?_
    case hy0 => (intro w hSw; (try dsimp only at hSw); go_simp; try with_reducible rfl)
    try simp only [Act.put, List.setIfInBounds_toArray, List.set_cons_zero, List.set_cons_succ]
    refine wpAnyH_take (i := 1) (oi := ⟨some 89, _, _, _, _, _⟩) (v := ?v1) rfl (by kernel_rfl) (by kernel_rfl) (by kernel_rfl) (fun _ _ _ h => h) (Or.inl ⟨by rfl, ?hy1⟩) (by assumption) ?_
    case hy1 => (intro w hSw; (try dsimp only at hSw); go_simp; try with_reducible rfl)
    try simp only [Act.put, List.setIfInBounds_toArray, List.set_cons_zero, List.set_cons_succ]
    refine wpAnyH_take (i := 4) (oi := ⟨some 92, _, _, _, _, _⟩) (v := ?v4) rfl (by kernel_rfl) (by kernel_rfl) (by kernel_rfl) (fun _ _ _ h => h) (Or.inl ⟨by rfl, ?hy4⟩) (by assumption) ?_
    case hy4 => (intro w hSw; (try dsimp only at hSw); go_simp; try with_reducible rfl)
    try simp only [Act.put, List.setIfInBounds_toArray, List.set_cons_zero, List.set_cons_succ]
    refine wpAnyH_ready (rs := [2]) (by kernel_rfl) (by simp) ?_
    refine (AllReadyH.cons (o := ⟨some 90, _, _, _, _, _⟩) rfl (fun K hK => ?_) AllReadyH.nil)
    go_simp
    refine (HBY.out B0 b0 d0 w10x.drew HX.out.drew.at_ (by omega)).mono ?_
    rintro e w11x ⟨ga, rfl, hg, hBa, hb⟩
    have hcv1 := run_string_of_own w11x ga mx mx (bytesOf x) (Bw.of_bg hBa) HME.out
    rw [HSBX.out] at hcv1
    have HBA := Lib.hid hBa; have hlta := hBa.lt
    clear hg hBa
    have HX' := Lib.hid (HX.out.drew.below hb)
    have HY' := Lib.hid (HY.out.drew.below hb)
    have HB' := Lib.hid (aft_call HB.out.drew hb)
    clear HX HY HB hb
    have HX := HX'
    clear HX'
    have HY := HY'
    clear HY'
    have HB := HB'
    clear HB'
    go_wp2_with fail
    refine hK.out _ _ ?_ (fun hHeld => ?_)
    · exact ⟨HX.out.cell, HY.out.cell⟩
    clear hK K
    try simp only [Act.put, List.setIfInBounds_toArray, List.set_cons_zero, List.set_cons_succ]
    refine wpAnyH_ready (rs := [3, 5]) (by kernel_rfl) (by simp) ?_
    refine (AllReadyH.cons (o := ⟨some 91, _, _, _, _, _⟩) rfl (fun K hK => ?_) (AllReadyH.cons (o := ⟨some 93, _, _, _, _, _⟩) rfl (fun K hK => ?_) AllReadyH.nil))
    · go_simp
      refine hK.out _ _ ?_ (fun hHeld => ?_)
      · exact ⟨HX.out.cell, HY.out.cell⟩
      clear hK K
      try simp only [Act.put, List.setIfInBounds_toArray, List.set_cons_zero, List.set_cons_succ]
      refine wpAnyH_ready (rs := [5]) (by kernel_rfl) (by simp) ?_
      refine (AllReadyH.cons (o := ⟨some 93, _, _, _, _, _⟩) rfl (fun K hK => ?_) AllReadyH.nil)
      go_simp
      refine (HBYY.out B1 b1 d1 w11x HY.out.at_ (by omega)).mono ?_
      rintro e w12x ⟨gb, rfl, hg, hBb, hb⟩
      have hcv2 := run_string_of_own w12x gb my my (bytesOf y) (Bw.of_bg hBb) HMEY.out
      rw [HSBY.out] at hcv2
      have hcv1b := run_string_of_own w12x ga mx mx (bytesOf x) (Bw.of_bg (HBA.out.below hb hlta)) HME.out
      rw [HSBX.out] at hcv1b
      clear hg hBb HBA hlta
      have HX' := Lib.hid (HX.out.below hb)
      have HY' := Lib.hid (HY.out.below hb)
      have HB' := Lib.hid (aft_call HB.out hb)
      clear HX HY HB hb
      have HX := HX'
      clear HX'
      have HY := HY'
      clear HY'
      have HB := HB'
      clear HB'
      go_wp2_with fail
      refine hK.out _ _ ?_ (fun hHeld => ?_)
      · exact ⟨HX.out.cell, HY.out.cell⟩
      clear hK K
      try simp only [Act.put, List.setIfInBounds_toArray, List.set_cons_zero, List.set_cons_succ]
      refine wpAnyH_ready (rs := [6]) (by kernel_rfl) (by simp) ?_
      refine (AllReadyH.cons (o := ⟨some 94, _, _, _, _, _⟩) rfl (fun K hK => ?_) AllReadyH.nil)
      go_simp
      refine hK.out _ _ ?_ (fun hHeld => ?_)
      · exact ⟨HX.out.cell, HY.out.cell⟩
      clear hK K
      try simp only [Act.put, List.setIfInBounds_toArray, List.set_cons_zero, List.set_cons_succ]
      clear hcv1 hcv1b hcv2
      refine wpAnyH_take (i := 7) (oi := ⟨some 95, _, _, _, _, _⟩) (v := ?v7) rfl (by kernel_rfl) (by kernel_rfl) (by kernel_rfl) (fun _ _ _ h => h) (Or.inl ⟨by rfl, ?hy7⟩) (by assumption) ?_
      case hy7 => (intro w hSw; (try dsimp only at hSw); go_simp; try with_reducible rfl)
      try simp only [Act.put, List.setIfInBounds_toArray, List.set_cons_zero, List.set_cons_succ]
      refine wpAnyH_take (i := 8) (oi := ⟨some 96, _, _, _, _, _⟩) (v := ?v8) rfl (by kernel_rfl) (by kernel_rfl) (by kernel_rfl) (fun _ _ _ h => h) (Or.inl ⟨by rfl, ?hy8⟩) (by assumption) ?_
      case hy8 => (intro w hSw; (try dsimp only at hSw); go_simp; try with_reducible rfl)
      try simp only [Act.put, List.setIfInBounds_toArray, List.set_cons_zero, List.set_cons_succ]
      refine wpAnyH_take (i := 9) (oi := ⟨some 97, _, _, _, _, _⟩) (v := ?v9) rfl (by kernel_rfl) (by kernel_rfl) (by kernel_rfl) (fun _ _ _ h => h) (Or.inl ⟨by rfl, ?hy9⟩) (by assumption) ?_
      case hy9 => (intro w hSw; (try dsimp only at hSw); go_simp; try with_reducible rfl)
      try simp only [Act.put, List.setIfInBounds_toArray, List.set_cons_zero, List.set_cons_succ]
      refine wpAnyH_take (i := 10) (oi := ⟨some 98, _, _, _, _, _⟩) (v := ?v10) rfl (by kernel_rfl) (by kernel_rfl) (by kernel_rfl) (fun _ _ _ h => h) (Or.inl ⟨by rfl, ?hy10⟩) (by assumption) ?_
      case hy10 => (intro w hSw; (try dsimp only at hSw); go_simp; try with_reducible rfl)
      try simp only [Act.put, List.setIfInBounds_toArray, List.set_cons_zero, List.set_cons_succ]
      refine wpAnyH_take (i := 11) (oi := ⟨some 99, _, _, _, _, _⟩) (v := ?v11) rfl (by kernel_rfl) (by kernel_rfl) (by kernel_rfl) (fun _ _ _ h => h) (Or.inl ⟨by rfl, ?hy11⟩) (by assumption) ?_
      case hy11 => (intro w hSw; (try dsimp only at hSw); go_simp; try with_reducible rfl)
      try simp only [Act.put, List.setIfInBounds_toArray, List.set_cons_zero, List.set_cons_succ]
      refine wpAnyH_take (i := 12) (oi := ⟨some 100, _, _, _, _, _⟩) (v := ?v12) rfl (by kernel_rfl) (by kernel_rfl) (by kernel_rfl) (fun _ _ _ h => h) (Or.inl ⟨by rfl, ?hy12⟩) (by assumption) ?_
      case hy12 => (intro w hSw; (try dsimp only at hSw); go_simp; try with_reducible rfl)
      try simp only [Act.put, List.setIfInBounds_toArray, List.set_cons_zero, List.set_cons_succ]
      refine wpAnyH_ready (rs := [13]) (by kernel_rfl) (by simp) ?_
      refine (AllReadyH.cons (o := ⟨some 101, _, _, _, _, _⟩) rfl (fun K hK => ?_) AllReadyH.nil)
      go_simp
      refine (HTY.out B1 b1 d1 w12x HY.out.at_ (by omega)).mono ?_
      rintro e w13x ⟨rfl, hb⟩
      have HX' := Lib.hid (HX.out.below hb)
      have HY' := Lib.hid (HY.out.below hb)
      have HB' := Lib.hid (aft_call HB.out hb)
      clear HX HY HB hb
      have HX := HX'
      clear HX'
      have HY := HY'
      clear HY'
      have HB := HB'
      clear HB'
      go_wp2_with fail
      refine hK.out _ _ ?_ (fun hHeld => ?_)
      · exact ⟨HX.out.cell, HY.out.cell⟩
      clear hK K
      try simp only [Act.put, List.setIfInBounds_toArray, List.set_cons_zero, List.set_cons_succ]
      refine wpAnyH_take (i := 14) (oi := ⟨some 102, _, _, _, _, _⟩) (v := ?v14) rfl (by kernel_rfl) (by kernel_rfl) (by kernel_rfl) (fun _ _ _ h => h) (Or.inl ⟨by rfl, ?hy14⟩) (by assumption) ?_
      case hy14 => (intro w hSw; (try dsimp only at hSw); go_simp; try with_reducible rfl)
      try simp only [Act.put, List.setIfInBounds_toArray, List.set_cons_zero, List.set_cons_succ]
      refine wpAnyH_take (i := 15) (oi := ⟨some 103, _, _, _, _, _⟩) (v := ?v15) rfl (by kernel_rfl) (by kernel_rfl) (by kernel_rfl) (fun _ _ _ h => h) (Or.inl ⟨by rfl, ?hy15⟩) (by assumption) ?_
      case hy15 => (intro w hSw; (try dsimp only at hSw); go_simp; try with_reducible rfl)
      try simp only [Act.put, List.setIfInBounds_toArray, List.set_cons_zero, List.set_cons_succ]
      refine wpAnyH_take (i := 16) (oi := ⟨some 104, _, _, _, _, _⟩) (v := ?v16) rfl (by kernel_rfl) (by kernel_rfl) (by kernel_rfl) (fun _ _ _ h => h) (Or.inl ⟨by rfl, ?hy16⟩) (by assumption) ?_
      case hy16 => (intro w hSw; (try dsimp only at hSw); go_simp; try with_reducible rfl)
      try simp only [Act.put, List.setIfInBounds_toArray, List.set_cons_zero, List.set_cons_succ]
      refine wpAnyH_take (i := 17) (oi := ⟨some 105, _, _, _, _, _⟩) (v := ?v17) rfl (by kernel_rfl) (by kernel_rfl) (by kernel_rfl) (fun _ _ _ h => h) (Or.inl ⟨by rfl, ?hy17⟩) (by assumption) ?_
      case hy17 => (intro w hSw; (try dsimp only at hSw); go_simp; try with_reducible rfl)
      try simp only [Act.put, List.setIfInBounds_toArray, List.set_cons_zero, List.set_cons_succ]
      refine wpAnyH_take (i := 18) (oi := ⟨some 106, _, _, _, _, _⟩) (v := ?v18) rfl (by kernel_rfl) (by kernel_rfl) (by kernel_rfl) (fun _ _ _ h => h) (Or.inl ⟨by rfl, ?hy18⟩) (by assumption) ?_
      case hy18 => (intro w hSw; (try dsimp only at hSw); go_simp; try with_reducible rfl)
      try simp only [Act.put, List.setIfInBounds_toArray, List.set_cons_zero, List.set_cons_succ]
      refine wpAnyH_take (i := 19) (oi := ⟨some 107, _, _, _, _, _⟩) (v := ?v19) rfl (by kernel_rfl) (by kernel_rfl) (by kernel_rfl) (fun _ _ _ h => h) (Or.inl ⟨by rfl, ?hy19⟩) (by assumption) ?_
      case hy19 => (intro w hSw; (try dsimp only at hSw); go_simp; try with_reducible rfl)
      try simp only [Act.put, List.setIfInBounds_toArray, List.set_cons_zero, List.set_cons_succ]
      refine wpAnyH_take (i := 21) (oi := ⟨some 109, _, _, _, _, _⟩) (v := ?v21) rfl (by kernel_rfl) (by kernel_rfl) (by kernel_rfl) (fun _ _ _ h => h) (Or.inl ⟨by rfl, ?hy21⟩) (by assumption) ?_
      case hy21 => (intro w hSw; (try dsimp only at hSw); go_simp; try with_reducible rfl)
      try simp only [Act.put, List.setIfInBounds_toArray, List.set_cons_zero, List.set_cons_succ]
      refine wpAnyH_take (i := 22) (oi := ⟨some 110, _, _, _, _, _⟩) (v := ?v22) rfl (by kernel_rfl) (by kernel_rfl) (by kernel_rfl) (fun _ _ _ h => h) (Or.inl ⟨by rfl, ?hy22⟩) (by assumption) ?_
      case hy22 => (intro w hSw; (try dsimp only at hSw); go_simp; try with_reducible rfl)
      try simp only [Act.put, List.setIfInBounds_toArray, List.set_cons_zero, List.set_cons_succ]
      refine wpAnyH_ready (rs := [20]) (by kernel_rfl) (by simp) ?_
      refine (AllReadyH.cons (o := ⟨some 108, _, _, _, _, _⟩) rfl (fun K hK => ?_) AllReadyH.nil)
      go_simp
      refine (HC1.out B0 b0 d0 B1 b1 d1 w13x HX.out.at_ HY.out.at_ (by omega) (by omega)).mono ?_
      rintro e w14x ⟨rfl, hb⟩
      have HX' := Lib.hid (HX.out.below hb)
      have HY' := Lib.hid (HY.out.below hb)
      have HB' := Lib.hid (aft_call HB.out hb)
      clear HX HY HB hb
      have HX := HX'
      clear HX'
      have HY := HY'
      clear HY'
      have HB := HB'
      clear HB'
      go_wp2_with fail
      refine hK.out _ _ ?_ (fun hHeld => ?_)
      · exact ⟨HX.out.cell, HY.out.cell⟩
      clear hK K
      try simp only [Act.put, List.setIfInBounds_toArray, List.set_cons_zero, List.set_cons_succ]
      refine wpAnyH_ready (rs := [23]) (by kernel_rfl) (by simp) ?_
      refine (AllReadyH.cons (o := ⟨some 111, _, _, _, _, _⟩) rfl (fun K hK => ?_) AllReadyH.nil)
      go_simp
      refine (HC2.out B1 b1 d1 B0 b0 d0 w14x HY.out.at_ HX.out.at_ (by omega) (by omega)).mono ?_
      rintro e w15x ⟨rfl, hb⟩
      have HX' := Lib.hid (HX.out.below hb)
      have HY' := Lib.hid (HY.out.below hb)
      have HB' := Lib.hid (aft_call HB.out hb)
      clear HX HY HB hb
      have HX := HX'
      clear HX'
      have HY := HY'
      clear HY'
      have HB := HB'
      clear HB'
      go_wp2_with fail
      refine hK.out _ _ ?_ (fun hHeld => ?_)
      · exact ⟨HX.out.cell, HY.out.cell⟩
      clear hK K
      try simp only [Act.put, List.setIfInBounds_toArray, List.set_cons_zero, List.set_cons_succ]
      refine wpAnyH_take (i := 24) (oi := ⟨some 112, _, _, _, _, _⟩) (v := ?v24) rfl (by kernel_rfl) (by kernel_rfl) (by kernel_rfl) (fun _ _ _ h => h) (Or.inl ⟨by rfl, ?hy24⟩) (by assumption) ?_
      case hy24 => (intro w hSw; (try dsimp only at hSw); go_simp; try with_reducible rfl)
      try simp only [Act.put, List.setIfInBounds_toArray, List.set_cons_zero, List.set_cons_succ]
      refine wpAnyH_take (i := 25) (oi := ⟨some 113, _, _, _, _, _⟩) (v := ?v25) rfl (by kernel_rfl) (by kernel_rfl) (by kernel_rfl) (fun _ _ _ h => h) (Or.inl ⟨by rfl, ?hy25⟩) (by assumption) ?_
      case hy25 => (intro w hSw; (try dsimp only at hSw); go_simp; try with_reducible rfl)
      try simp only [Act.put, List.setIfInBounds_toArray, List.set_cons_zero, List.set_cons_succ]
      refine wpAnyH_take (i := 26) (oi := ⟨some 114, _, _, _, _, _⟩) (v := ?v26) rfl (by kernel_rfl) (by kernel_rfl) (by kernel_rfl) (fun _ _ _ h => h) (Or.inl ⟨by rfl, ?hy26⟩) (by assumption) ?_
      case hy26 => (intro w hSw; (try dsimp only at hSw); go_simp; try with_reducible rfl)
      try simp only [Act.put, List.setIfInBounds_toArray, List.set_cons_zero, List.set_cons_succ]
      refine wpAnyH_take (i := 27) (oi := ⟨some 115, _, _, _, _, _⟩) (v := ?v27) rfl (by kernel_rfl) (by kernel_rfl) (by kernel_rfl) (fun _ _ _ h => h) (Or.inl ⟨by rfl, ?hy27⟩) (by assumption) ?_
      case hy27 => (intro w hSw; (try dsimp only at hSw); go_simp; try with_reducible rfl)
      try simp only [Act.put, List.setIfInBounds_toArray, List.set_cons_zero, List.set_cons_succ]
      refine wpAnyH_ready (rs := [28]) (by kernel_rfl) (by simp) ?_
      refine (AllReadyH.cons (o := ⟨some 116, _, _, _, _, _⟩) rfl (fun K hK => ?_) AllReadyH.nil)
      go_simp
      refine (started_any w15x).mono ?_
      rintro e w16x ⟨rfl, hb⟩
      have HX' := Lib.hid (HX.out.below hb)
      have HY' := Lib.hid (HY.out.below hb)
      have HB' := Lib.hid (aft_call HB.out hb)
      clear HX HY HB hb
      have HX := HX'
      clear HX'
      have HY := HY'
      clear HY'
      have HB := HB'
      clear HB'
      go_wp2_with fail
      refine hK.out _ _ ?_ (fun hHeld => ?_)
      · exact ⟨HX.out.cell, HY.out.cell⟩
      clear hK K
      try simp only [Act.put, List.setIfInBounds_toArray, List.set_cons_zero, List.set_cons_succ]
      refine wpAnyH_take (i := 29) (oi := ⟨some 117, _, _, _, _, _⟩) (v := ?v29) rfl (by kernel_rfl) (by kernel_rfl) (by kernel_rfl) (fun _ _ _ h => h) (Or.inl ⟨by rfl, ?hy29⟩) (by assumption) ?_
      case hy29 => (intro w hSw; (try dsimp only at hSw); go_simp; try with_reducible rfl)
      try simp only [Act.put, List.setIfInBounds_toArray, List.set_cons_zero, List.set_cons_succ]
      refine wpAnyH_take (i := 30) (oi := ⟨some 4, _, _, _, _, _⟩) (v := ?v30) rfl (by kernel_rfl) (by kernel_rfl) (by kernel_rfl) (fun _ _ _ h => h) (Or.inl ⟨by rfl, ?hy30⟩) (by assumption) ?_
      case hy30 => (intro w hSw; (try dsimp only at hSw); go_simp; try with_reducible rfl)
      try simp only [Act.put, List.setIfInBounds_toArray, List.set_cons_zero, List.set_cons_succ]
      refine wpAnyH_done (by kernel_rfl) ?_ _
      go_wp2_with fail
      exact bodyPost_ret (v := .bool true) (by simp [results, Try.results4, go_sem]) rfl ⟨rfl, HB.out⟩
    · go_simp
      refine (HBYY.out B1 b1 d1 w11x HY.out.at_ (by omega)).mono ?_
      rintro e w12x ⟨gb, rfl, hg, hBb, hb⟩
      have hcv2 := run_string_of_own w12x gb my my (bytesOf y) (Bw.of_bg hBb) HMEY.out
      rw [HSBY.out] at hcv2
      have hcv1b := run_string_of_own w12x ga mx mx (bytesOf x) (Bw.of_bg (HBA.out.below hb hlta)) HME.out
      rw [HSBX.out] at hcv1b
      clear hg hBb HBA hlta
      have HX' := Lib.hid (HX.out.below hb)
      have HY' := Lib.hid (HY.out.below hb)
      have HB' := Lib.hid (aft_call HB.out hb)
      clear HX HY HB hb
      have HX := HX'
      clear HX'
      have HY := HY'
      clear HY'
      have HB := HB'
      clear HB'
      go_wp2_with fail
      refine hK.out _ _ ?_ (fun hHeld => ?_)
      · exact ⟨HX.out.cell, HY.out.cell⟩
      clear hK K
      try simp only [Act.put, List.setIfInBounds_toArray, List.set_cons_zero, List.set_cons_succ]
      refine wpAnyH_ready (rs := [3, 6]) (by kernel_rfl) (by simp) ?_
      refine (AllReadyH.cons (o := ⟨some 91, _, _, _, _, _⟩) rfl (fun K hK => ?_) (AllReadyH.cons (o := ⟨some 94, _, _, _, _, _⟩) rfl (fun K hK => ?_) AllReadyH.nil))
      · go_simp
        refine hK.out _ _ ?_ (fun hHeld => ?_)
        · exact ⟨HX.out.cell, HY.out.cell⟩
        clear hK K
        try simp only [Act.put, List.setIfInBounds_toArray, List.set_cons_zero, List.set_cons_succ]
        refine wpAnyH_ready (rs := [6]) (by kernel_rfl) (by simp) ?_
        refine (AllReadyH.cons (o := ⟨some 94, _, _, _, _, _⟩) rfl (fun K hK => ?_) AllReadyH.nil)
        go_simp
        refine hK.out _ _ ?_ (fun hHeld => ?_)
        · exact ⟨HX.out.cell, HY.out.cell⟩
        clear hK K
        try simp only [Act.put, List.setIfInBounds_toArray, List.set_cons_zero, List.set_cons_succ]
        clear hcv1 hcv1b hcv2
        refine wpAnyH_take (i := 7) (oi := ⟨some 95, _, _, _, _, _⟩) (v := ?v7) rfl (by kernel_rfl) (by kernel_rfl) (by kernel_rfl) (fun _ _ _ h => h) (Or.inl ⟨by rfl, ?hy7⟩) (by assumption) ?_
        case hy7 => (intro w hSw; (try dsimp only at hSw); go_simp; try with_reducible rfl)
        try simp only [Act.put, List.setIfInBounds_toArray, List.set_cons_zero, List.set_cons_succ]
        refine wpAnyH_take (i := 8) (oi := ⟨some 96, _, _, _, _, _⟩) (v := ?v8) rfl (by kernel_rfl) (by kernel_rfl) (by kernel_rfl) (fun _ _ _ h => h) (Or.inl ⟨by rfl, ?hy8⟩) (by assumption) ?_
        case hy8 => (intro w hSw; (try dsimp only at hSw); go_simp; try with_reducible rfl)
        try simp only [Act.put, List.setIfInBounds_toArray, List.set_cons_zero, List.set_cons_succ]
        refine wpAnyH_take (i := 9) (oi := ⟨some 97, _, _, _, _, _⟩) (v := ?v9) rfl (by kernel_rfl) (by kernel_rfl) (by kernel_rfl) (fun _ _ _ h => h) (Or.inl ⟨by rfl, ?hy9⟩) (by assumption) ?_
        case hy9 => (intro w hSw; (try dsimp only at hSw); go_simp; try with_reducible rfl)
        try simp only [Act.put, List.setIfInBounds_toArray, List.set_cons_zero, List.set_cons_succ]
        refine wpAnyH_take (i := 10) (oi := ⟨some 98, _, _, _, _, _⟩) (v := ?v10) rfl (by kernel_rfl) (by kernel_rfl) (by kernel_rfl) (fun _ _ _ h => h) (Or.inl ⟨by rfl, ?hy10⟩) (by assumption) ?_
        case hy10 => (intro w hSw; (try dsimp only at hSw); go_simp; try with_reducible rfl)
        try simp only [Act.put, List.setIfInBounds_toArray, List.set_cons_zero, List.set_cons_succ]
        refine wpAnyH_take (i := 11) (oi := ⟨some 99, _, _, _, _, _⟩) (v := ?v11) rfl (by kernel_rfl) (by kernel_rfl) (by kernel_rfl) (fun _ _ _ h => h) (Or.inl ⟨by rfl, ?hy11⟩) (by assumption) ?_
        case hy11 => (intro w hSw; (try dsimp only at hSw); go_simp; try with_reducible rfl)
        try simp only [Act.put, List.setIfInBounds_toArray, List.set_cons_zero, List.set_cons_succ]
        refine wpAnyH_take (i := 12) (oi := ⟨some 100, _, _, _, _, _⟩) (v := ?v12) rfl (by kernel_rfl) (by kernel_rfl) (by kernel_rfl) (fun _ _ _ h => h) (Or.inl ⟨by rfl, ?hy12⟩) (by assumption) ?_
        case hy12 => (intro w hSw; (try dsimp only at hSw); go_simp; try with_reducible rfl)
        try simp only [Act.put, List.setIfInBounds_toArray, List.set_cons_zero, List.set_cons_succ]
        refine wpAnyH_ready (rs := [13]) (by kernel_rfl) (by simp) ?_
        refine (AllReadyH.cons (o := ⟨some 101, _, _, _, _, _⟩) rfl (fun K hK => ?_) AllReadyH.nil)
        go_simp
        refine (HTY.out B1 b1 d1 w12x HY.out.at_ (by omega)).mono ?_
        rintro e w13x ⟨rfl, hb⟩
        have HX' := Lib.hid (HX.out.below hb)
        have HY' := Lib.hid (HY.out.below hb)
        have HB' := Lib.hid (aft_call HB.out hb)
        clear HX HY HB hb
        have HX := HX'
        clear HX'
        have HY := HY'
        clear HY'
        have HB := HB'
        clear HB'
        go_wp2_with fail
        refine hK.out _ _ ?_ (fun hHeld => ?_)
        · exact ⟨HX.out.cell, HY.out.cell⟩
        clear hK K
        try simp only [Act.put, List.setIfInBounds_toArray, List.set_cons_zero, List.set_cons_succ]
        refine wpAnyH_take (i := 14) (oi := ⟨some 102, _, _, _, _, _⟩) (v := ?v14) rfl (by kernel_rfl) (by kernel_rfl) (by kernel_rfl) (fun _ _ _ h => h) (Or.inl ⟨by rfl, ?hy14⟩) (by assumption) ?_
        case hy14 => (intro w hSw; (try dsimp only at hSw); go_simp; try with_reducible rfl)
        try simp only [Act.put, List.setIfInBounds_toArray, List.set_cons_zero, List.set_cons_succ]
        refine wpAnyH_take (i := 15) (oi := ⟨some 103, _, _, _, _, _⟩) (v := ?v15) rfl (by kernel_rfl) (by kernel_rfl) (by kernel_rfl) (fun _ _ _ h => h) (Or.inl ⟨by rfl, ?hy15⟩) (by assumption) ?_
        case hy15 => (intro w hSw; (try dsimp only at hSw); go_simp; try with_reducible rfl)
        try simp only [Act.put, List.setIfInBounds_toArray, List.set_cons_zero, List.set_cons_succ]
        refine wpAnyH_take (i := 16) (oi := ⟨some 104, _, _, _, _, _⟩) (v := ?v16) rfl (by kernel_rfl) (by kernel_rfl) (by kernel_rfl) (fun _ _ _ h => h) (Or.inl ⟨by rfl, ?hy16⟩) (by assumption) ?_
        case hy16 => (intro w hSw; (try dsimp only at hSw); go_simp; try with_reducible rfl)
        try simp only [Act.put, List.setIfInBounds_toArray, List.set_cons_zero, List.set_cons_succ]
        refine wpAnyH_take (i := 17) (oi := ⟨some 105, _, _, _, _, _⟩) (v := ?v17) rfl (by kernel_rfl) (by kernel_rfl) (by kernel_rfl) (fun _ _ _ h => h) (Or.inl ⟨by rfl, ?hy17⟩) (by assumption) ?_
        case hy17 => (intro w hSw; (try dsimp only at hSw); go_simp; try with_reducible rfl)
        try simp only [Act.put, List.setIfInBounds_toArray, List.set_cons_zero, List.set_cons_succ]
        refine wpAnyH_take (i := 18) (oi := ⟨some 106, _, _, _, _, _⟩) (v := ?v18) rfl (by kernel_rfl) (by kernel_rfl) (by kernel_rfl) (fun _ _ _ h => h) (Or.inl ⟨by rfl, ?hy18⟩) (by assumption) ?_
        case hy18 => (intro w hSw; (try dsimp only at hSw); go_simp; try with_reducible rfl)
        try simp only [Act.put, List.setIfInBounds_toArray, List.set_cons_zero, List.set_cons_succ]
        refine wpAnyH_take (i := 19) (oi := ⟨some 107, _, _, _, _, _⟩) (v := ?v19) rfl (by kernel_rfl) (by kernel_rfl) (by kernel_rfl) (fun _ _ _ h => h) (Or.inl ⟨by rfl, ?hy19⟩) (by assumption) ?_
        case hy19 => (intro w hSw; (try dsimp only at hSw); go_simp; try with_reducible rfl)
        try simp only [Act.put, List.setIfInBounds_toArray, List.set_cons_zero, List.set_cons_succ]
        refine wpAnyH_take (i := 21) (oi := ⟨some 109, _, _, _, _, _⟩) (v := ?v21) rfl (by kernel_rfl) (by kernel_rfl) (by kernel_rfl) (fun _ _ _ h => h) (Or.inl ⟨by rfl, ?hy21⟩) (by assumption) ?_
        case hy21 => (intro w hSw; (try dsimp only at hSw); go_simp; try with_reducible rfl)
        try simp only [Act.put, List.setIfInBounds_toArray, List.set_cons_zero, List.set_cons_succ]
        refine wpAnyH_take (i := 22) (oi := ⟨some 110, _, _, _, _, _⟩) (v := ?v22) rfl (by kernel_rfl) (by kernel_rfl) (by kernel_rfl) (fun _ _ _ h => h) (Or.inl ⟨by rfl, ?hy22⟩) (by assumption) ?_
        case hy22 => (intro w hSw; (try dsimp only at hSw); go_simp; try with_reducible rfl)
        try simp only [Act.put, List.setIfInBounds_toArray, List.set_cons_zero, List.set_cons_succ]
        refine wpAnyH_ready (rs := [20]) (by kernel_rfl) (by simp) ?_
        refine (AllReadyH.cons (o := ⟨some 108, _, _, _, _, _⟩) rfl (fun K hK => ?_) AllReadyH.nil)
        go_simp
        refine (HC1.out B0 b0 d0 B1 b1 d1 w13x HX.out.at_ HY.out.at_ (by omega) (by omega)).mono ?_
        rintro e w14x ⟨rfl, hb⟩
        have HX' := Lib.hid (HX.out.below hb)
        have HY' := Lib.hid (HY.out.below hb)
        have HB' := Lib.hid (aft_call HB.out hb)
        clear HX HY HB hb
        have HX := HX'
        clear HX'
        have HY := HY'
        clear HY'
        have HB := HB'
        clear HB'
        go_wp2_with fail
        refine hK.out _ _ ?_ (fun hHeld => ?_)
        · exact ⟨HX.out.cell, HY.out.cell⟩
        clear hK K
        try simp only [Act.put, List.setIfInBounds_toArray, List.set_cons_zero, List.set_cons_succ]
        refine wpAnyH_ready (rs := [23]) (by kernel_rfl) (by simp) ?_
        refine (AllReadyH.cons (o := ⟨some 111, _, _, _, _, _⟩) rfl (fun K hK => ?_) AllReadyH.nil)
        go_simp
        refine (HC2.out B1 b1 d1 B0 b0 d0 w14x HY.out.at_ HX.out.at_ (by omega) (by omega)).mono ?_
        rintro e w15x ⟨rfl, hb⟩
        have HX' := Lib.hid (HX.out.below hb)
        have HY' := Lib.hid (HY.out.below hb)
        have HB' := Lib.hid (aft_call HB.out hb)
        clear HX HY HB hb
        have HX := HX'
        clear HX'
        have HY := HY'
        clear HY'
        have HB := HB'
        clear HB'
        go_wp2_with fail
        refine hK.out _ _ ?_ (fun hHeld => ?_)
        · exact ⟨HX.out.cell, HY.out.cell⟩
        clear hK K
        try simp only [Act.put, List.setIfInBounds_toArray, List.set_cons_zero, List.set_cons_succ]
        refine wpAnyH_take (i := 24) (oi := ⟨some 112, _, _, _, _, _⟩) (v := ?v24) rfl (by kernel_rfl) (by kernel_rfl) (by kernel_rfl) (fun _ _ _ h => h) (Or.inl ⟨by rfl, ?hy24⟩) (by assumption) ?_
        case hy24 => (intro w hSw; (try dsimp only at hSw); go_simp; try with_reducible rfl)
        try simp only [Act.put, List.setIfInBounds_toArray, List.set_cons_zero, List.set_cons_succ]
        refine wpAnyH_take (i := 25) (oi := ⟨some 113, _, _, _, _, _⟩) (v := ?v25) rfl (by kernel_rfl) (by kernel_rfl) (by kernel_rfl) (fun _ _ _ h => h) (Or.inl ⟨by rfl, ?hy25⟩) (by assumption) ?_
        case hy25 => (intro w hSw; (try dsimp only at hSw); go_simp; try with_reducible rfl)
        try simp only [Act.put, List.setIfInBounds_toArray, List.set_cons_zero, List.set_cons_succ]
        refine wpAnyH_take (i := 26) (oi := ⟨some 114, _, _, _, _, _⟩) (v := ?v26) rfl (by kernel_rfl) (by kernel_rfl) (by kernel_rfl) (fun _ _ _ h => h) (Or.inl ⟨by rfl, ?hy26⟩) (by assumption) ?_
        case hy26 => (intro w hSw; (try dsimp only at hSw); go_simp; try with_reducible rfl)
        try simp only [Act.put, List.setIfInBounds_toArray, List.set_cons_zero, List.set_cons_succ]
        refine wpAnyH_take (i := 27) (oi := ⟨some 115, _, _, _, _, _⟩) (v := ?v27) rfl (by kernel_rfl) (by kernel_rfl) (by kernel_rfl) (fun _ _ _ h => h) (Or.inl ⟨by rfl, ?hy27⟩) (by assumption) ?_
        case hy27 => (intro w hSw; (try dsimp only at hSw); go_simp; try with_reducible rfl)
        try simp only [Act.put, List.setIfInBounds_toArray, List.set_cons_zero, List.set_cons_succ]
        refine wpAnyH_ready (rs := [28]) (by kernel_rfl) (by simp) ?_
        refine (AllReadyH.cons (o := ⟨some 116, _, _, _, _, _⟩) rfl (fun K hK => ?_) AllReadyH.nil)
        go_simp
        refine (started_any w15x).mono ?_
        rintro e w16x ⟨rfl, hb⟩
        have HX' := Lib.hid (HX.out.below hb)
        have HY' := Lib.hid (HY.out.below hb)
        have HB' := Lib.hid (aft_call HB.out hb)
        clear HX HY HB hb
        have HX := HX'
        clear HX'
        have HY := HY'
        clear HY'
        have HB := HB'
        clear HB'
        go_wp2_with fail
        refine hK.out _ _ ?_ (fun hHeld => ?_)
        · exact ⟨HX.out.cell, HY.out.cell⟩
        clear hK K
        try simp only [Act.put, List.setIfInBounds_toArray, List.set_cons_zero, List.set_cons_succ]
        refine wpAnyH_take (i := 29) (oi := ⟨some 117, _, _, _, _, _⟩) (v := ?v29) rfl (by kernel_rfl) (by kernel_rfl) (by kernel_rfl) (fun _ _ _ h => h) (Or.inl ⟨by rfl, ?hy29⟩) (by assumption) ?_
        case hy29 => (intro w hSw; (try dsimp only at hSw); go_simp; try with_reducible rfl)
        try simp only [Act.put, List.setIfInBounds_toArray, List.set_cons_zero, List.set_cons_succ]
        refine wpAnyH_take (i := 30) (oi := ⟨some 4, _, _, _, _, _⟩) (v := ?v30) rfl (by kernel_rfl) (by kernel_rfl) (by kernel_rfl) (fun _ _ _ h => h) (Or.inl ⟨by rfl, ?hy30⟩) (by assumption) ?_
        case hy30 => (intro w hSw; (try dsimp only at hSw); go_simp; try with_reducible rfl)
        try simp only [Act.put, List.setIfInBounds_toArray, List.set_cons_zero, List.set_cons_succ]
        refine wpAnyH_done (by kernel_rfl) ?_ _
        go_wp2_with fail
        exact bodyPost_ret (v := .bool true) (by simp [results, Try.results4, go_sem]) rfl ⟨rfl, HB.out⟩
      · go_simp
        refine hK.out _ _ ?_ (fun hHeld => ?_)
        · exact ⟨HX.out.cell, HY.out.cell⟩
        clear hK K
        try simp only [Act.put, List.setIfInBounds_toArray, List.set_cons_zero, List.set_cons_succ]
        refine wpAnyH_ready (rs := [3]) (by kernel_rfl) (by simp) ?_
        refine (AllReadyH.cons (o := ⟨some 91, _, _, _, _, _⟩) rfl (fun K hK => ?_) AllReadyH.nil)
        go_simp
        refine hK.out _ _ ?_ (fun hHeld => ?_)
        · exact ⟨HX.out.cell, HY.out.cell⟩
        clear hK K
        try simp only [Act.put, List.setIfInBounds_toArray, List.set_cons_zero, List.set_cons_succ]
        clear hcv1 hcv1b hcv2
        refine wpAnyH_take (i := 7) (oi := ⟨some 95, _, _, _, _, _⟩) (v := ?v7) rfl (by kernel_rfl) (by kernel_rfl) (by kernel_rfl) (fun _ _ _ h => h) (Or.inl ⟨by rfl, ?hy7⟩) (by assumption) ?_
        case hy7 => (intro w hSw; (try dsimp only at hSw); go_simp; try with_reducible rfl)
        try simp only [Act.put, List.setIfInBounds_toArray, List.set_cons_zero, List.set_cons_succ]
        refine wpAnyH_take (i := 8) (oi := ⟨some 96, _, _, _, _, _⟩) (v := ?v8) rfl (by kernel_rfl) (by kernel_rfl) (by kernel_rfl) (fun _ _ _ h => h) (Or.inl ⟨by rfl, ?hy8⟩) (by assumption) ?_
        case hy8 => (intro w hSw; (try dsimp only at hSw); go_simp; try with_reducible rfl)
        try simp only [Act.put, List.setIfInBounds_toArray, List.set_cons_zero, List.set_cons_succ]
        refine wpAnyH_take (i := 9) (oi := ⟨some 97, _, _, _, _, _⟩) (v := ?v9) rfl (by kernel_rfl) (by kernel_rfl) (by kernel_rfl) (fun _ _ _ h => h) (Or.inl ⟨by rfl, ?hy9⟩) (by assumption) ?_
        case hy9 => (intro w hSw; (try dsimp only at hSw); go_simp; try with_reducible rfl)
        try simp only [Act.put, List.setIfInBounds_toArray, List.set_cons_zero, List.set_cons_succ]
        refine wpAnyH_take (i := 10) (oi := ⟨some 98, _, _, _, _, _⟩) (v := ?v10) rfl (by kernel_rfl) (by kernel_rfl) (by kernel_rfl) (fun _ _ _ h => h) (Or.inl ⟨by rfl, ?hy10⟩) (by assumption) ?_
        case hy10 => (intro w hSw; (try dsimp only at hSw); go_simp; try with_reducible rfl)
        try simp only [Act.put, List.setIfInBounds_toArray, List.set_cons_zero, List.set_cons_succ]
        refine wpAnyH_take (i := 11) (oi := ⟨some 99, _, _, _, _, _⟩) (v := ?v11) rfl (by kernel_rfl) (by kernel_rfl) (by kernel_rfl) (fun _ _ _ h => h) (Or.inl ⟨by rfl, ?hy11⟩) (by assumption) ?_
        case hy11 => (intro w hSw; (try dsimp only at hSw); go_simp; try with_reducible rfl)
        try simp only [Act.put, List.setIfInBounds_toArray, List.set_cons_zero, List.set_cons_succ]
        refine wpAnyH_take (i := 12) (oi := ⟨some 100, _, _, _, _, _⟩) (v := ?v12) rfl (by kernel_rfl) (by kernel_rfl) (by kernel_rfl) (fun _ _ _ h => h) (Or.inl ⟨by rfl, ?hy12⟩) (by assumption) ?_
        case hy12 => (intro w hSw; (try dsimp only at hSw); go_simp; try with_reducible rfl)
        try simp only [Act.put, List.setIfInBounds_toArray, List.set_cons_zero, List.set_cons_succ]
        refine wpAnyH_ready (rs := [13]) (by kernel_rfl) (by simp) ?_
        refine (AllReadyH.cons (o := ⟨some 101, _, _, _, _, _⟩) rfl (fun K hK => ?_) AllReadyH.nil)
        go_simp
        refine (HTY.out B1 b1 d1 w12x HY.out.at_ (by omega)).mono ?_
        rintro e w13x ⟨rfl, hb⟩
        have HX' := Lib.hid (HX.out.below hb)
        have HY' := Lib.hid (HY.out.below hb)
        have HB' := Lib.hid (aft_call HB.out hb)
        clear HX HY HB hb
        have HX := HX'
        clear HX'
        have HY := HY'
        clear HY'
        have HB := HB'
        clear HB'
        go_wp2_with fail
        refine hK.out _ _ ?_ (fun hHeld => ?_)
        · exact ⟨HX.out.cell, HY.out.cell⟩
        clear hK K
        try simp only [Act.put, List.setIfInBounds_toArray, List.set_cons_zero, List.set_cons_succ]
        refine wpAnyH_take (i := 14) (oi := ⟨some 102, _, _, _, _, _⟩) (v := ?v14) rfl (by kernel_rfl) (by kernel_rfl) (by kernel_rfl) (fun _ _ _ h => h) (Or.inl ⟨by rfl, ?hy14⟩) (by assumption) ?_
        case hy14 => (intro w hSw; (try dsimp only at hSw); go_simp; try with_reducible rfl)
        try simp only [Act.put, List.setIfInBounds_toArray, List.set_cons_zero, List.set_cons_succ]
        refine wpAnyH_take (i := 15) (oi := ⟨some 103, _, _, _, _, _⟩) (v := ?v15) rfl (by kernel_rfl) (by kernel_rfl) (by kernel_rfl) (fun _ _ _ h => h) (Or.inl ⟨by rfl, ?hy15⟩) (by assumption) ?_
        case hy15 => (intro w hSw; (try dsimp only at hSw); go_simp; try with_reducible rfl)
        try simp only [Act.put, List.setIfInBounds_toArray, List.set_cons_zero, List.set_cons_succ]
        refine wpAnyH_take (i := 16) (oi := ⟨some 104, _, _, _, _, _⟩) (v := ?v16) rfl (by kernel_rfl) (by kernel_rfl) (by kernel_rfl) (fun _ _ _ h => h) (Or.inl ⟨by rfl, ?hy16⟩) (by assumption) ?_
        case hy16 => (intro w hSw; (try dsimp only at hSw); go_simp; try with_reducible rfl)
        try simp only [Act.put, List.setIfInBounds_toArray, List.set_cons_zero, List.set_cons_succ]
        refine wpAnyH_take (i := 17) (oi := ⟨some 105, _, _, _, _, _⟩) (v := ?v17) rfl (by kernel_rfl) (by kernel_rfl) (by kernel_rfl) (fun _ _ _ h => h) (Or.inl ⟨by rfl, ?hy17⟩) (by assumption) ?_
        case hy17 => (intro w hSw; (try dsimp only at hSw); go_simp; try with_reducible rfl)
        try simp only [Act.put, List.setIfInBounds_toArray, List.set_cons_zero, List.set_cons_succ]
        refine wpAnyH_take (i := 18) (oi := ⟨some 106, _, _, _, _, _⟩) (v := ?v18) rfl (by kernel_rfl) (by kernel_rfl) (by kernel_rfl) (fun _ _ _ h => h) (Or.inl ⟨by rfl, ?hy18⟩) (by assumption) ?_
        case hy18 => (intro w hSw; (try dsimp only at hSw); go_simp; try with_reducible rfl)
        try simp only [Act.put, List.setIfInBounds_toArray, List.set_cons_zero, List.set_cons_succ]
        refine wpAnyH_take (i := 19) (oi := ⟨some 107, _, _, _, _, _⟩) (v := ?v19) rfl (by kernel_rfl) (by kernel_rfl) (by kernel_rfl) (fun _ _ _ h => h) (Or.inl ⟨by rfl, ?hy19⟩) (by assumption) ?_
        case hy19 => (intro w hSw; (try dsimp only at hSw); go_simp; try with_reducible rfl)
        try simp only [Act.put, List.setIfInBounds_toArray, List.set_cons_zero, List.set_cons_succ]
        refine wpAnyH_take (i := 21) (oi := ⟨some 109, _, _, _, _, _⟩) (v := ?v21) rfl (by kernel_rfl) (by kernel_rfl) (by kernel_rfl) (fun _ _ _ h => h) (Or.inl ⟨by rfl, ?hy21⟩) (by assumption) ?_
        case hy21 => (intro w hSw; (try dsimp only at hSw); go_simp; try with_reducible rfl)
        try simp only [Act.put, List.setIfInBounds_toArray, List.set_cons_zero, List.set_cons_succ]
        refine wpAnyH_take (i := 22) (oi := ⟨some 110, _, _, _, _, _⟩) (v := ?v22) rfl (by kernel_rfl) (by kernel_rfl) (by kernel_rfl) (fun _ _ _ h => h) (Or.inl ⟨by rfl, ?hy22⟩) (by assumption) ?_
        case hy22 => (intro w hSw; (try dsimp only at hSw); go_simp; try with_reducible rfl)
        try simp only [Act.put, List.setIfInBounds_toArray, List.set_cons_zero, List.set_cons_succ]
        refine wpAnyH_ready (rs := [20]) (by kernel_rfl) (by simp) ?_
        refine (AllReadyH.cons (o := ⟨some 108, _, _, _, _, _⟩) rfl (fun K hK => ?_) AllReadyH.nil)
        go_simp
        refine (HC1.out B0 b0 d0 B1 b1 d1 w13x HX.out.at_ HY.out.at_ (by omega) (by omega)).mono ?_
        rintro e w14x ⟨rfl, hb⟩
        have HX' := Lib.hid (HX.out.below hb)
        have HY' := Lib.hid (HY.out.below hb)
        have HB' := Lib.hid (aft_call HB.out hb)
        clear HX HY HB hb
        have HX := HX'
        clear HX'
        have HY := HY'
        clear HY'
        have HB := HB'
        clear HB'
        go_wp2_with fail
        refine hK.out _ _ ?_ (fun hHeld => ?_)
        · exact ⟨HX.out.cell, HY.out.cell⟩
        clear hK K
        try simp only [Act.put, List.setIfInBounds_toArray, List.set_cons_zero, List.set_cons_succ]
        refine wpAnyH_ready (rs := [23]) (by kernel_rfl) (by simp) ?_
        refine (AllReadyH.cons (o := ⟨some 111, _, _, _, _, _⟩) rfl (fun K hK => ?_) AllReadyH.nil)
        go_simp
        refine (HC2.out B1 b1 d1 B0 b0 d0 w14x HY.out.at_ HX.out.at_ (by omega) (by omega)).mono ?_
        rintro e w15x ⟨rfl, hb⟩
        have HX' := Lib.hid (HX.out.below hb)
        have HY' := Lib.hid (HY.out.below hb)
        have HB' := Lib.hid (aft_call HB.out hb)
        clear HX HY HB hb
        have HX := HX'
        clear HX'
        have HY := HY'
        clear HY'
        have HB := HB'
        clear HB'
        go_wp2_with fail
        refine hK.out _ _ ?_ (fun hHeld => ?_)
        · exact ⟨HX.out.cell, HY.out.cell⟩
        clear hK K
        try simp only [Act.put, List.setIfInBounds_toArray, List.set_cons_zero, List.set_cons_succ]
        refine wpAnyH_take (i := 24) (oi := ⟨some 112, _, _, _, _, _⟩) (v := ?v24) rfl (by kernel_rfl) (by kernel_rfl) (by kernel_rfl) (fun _ _ _ h => h) (Or.inl ⟨by rfl, ?hy24⟩) (by assumption) ?_
        case hy24 => (intro w hSw; (try dsimp only at hSw); go_simp; try with_reducible rfl)
        try simp only [Act.put, List.setIfInBounds_toArray, List.set_cons_zero, List.set_cons_succ]
        refine wpAnyH_take (i := 25) (oi := ⟨some 113, _, _, _, _, _⟩) (v := ?v25) rfl (by kernel_rfl) (by kernel_rfl) (by kernel_rfl) (fun _ _ _ h => h) (Or.inl ⟨by rfl, ?hy25⟩) (by assumption) ?_
        case hy25 => (intro w hSw; (try dsimp only at hSw); go_simp; try with_reducible rfl)
        try simp only [Act.put, List.setIfInBounds_toArray, List.set_cons_zero, List.set_cons_succ]
        refine wpAnyH_take (i := 26) (oi := ⟨some 114, _, _, _, _, _⟩) (v := ?v26) rfl (by kernel_rfl) (by kernel_rfl) (by kernel_rfl) (fun _ _ _ h => h) (Or.inl ⟨by rfl, ?hy26⟩) (by assumption) ?_
        case hy26 => (intro w hSw; (try dsimp only at hSw); go_simp; try with_reducible rfl)
        try simp only [Act.put, List.setIfInBounds_toArray, List.set_cons_zero, List.set_cons_succ]
        refine wpAnyH_take (i := 27) (oi := ⟨some 115, _, _, _, _, _⟩) (v := ?v27) rfl (by kernel_rfl) (by kernel_rfl) (by kernel_rfl) (fun _ _ _ h => h) (Or.inl ⟨by rfl, ?hy27⟩) (by assumption) ?_
        case hy27 => (intro w hSw; (try dsimp only at hSw); go_simp; try with_reducible rfl)
        try simp only [Act.put, List.setIfInBounds_toArray, List.set_cons_zero, List.set_cons_succ]
        refine wpAnyH_ready (rs := [28]) (by kernel_rfl) (by simp) ?_
        refine (AllReadyH.cons (o := ⟨some 116, _, _, _, _, _⟩) rfl (fun K hK => ?_) AllReadyH.nil)
        go_simp
        refine (started_any w15x).mono ?_
        rintro e w16x ⟨rfl, hb⟩
        have HX' := Lib.hid (HX.out.below hb)
        have HY' := Lib.hid (HY.out.below hb)
        have HB' := Lib.hid (aft_call HB.out hb)
        clear HX HY HB hb
        have HX := HX'
        clear HX'
        have HY := HY'
        clear HY'
        have HB := HB'
        clear HB'
        go_wp2_with fail
        refine hK.out _ _ ?_ (fun hHeld => ?_)
        · exact ⟨HX.out.cell, HY.out.cell⟩
        clear hK K
        try simp only [Act.put, List.setIfInBounds_toArray, List.set_cons_zero, List.set_cons_succ]
        refine wpAnyH_take (i := 29) (oi := ⟨some 117, _, _, _, _, _⟩) (v := ?v29) rfl (by kernel_rfl) (by kernel_rfl) (by kernel_rfl) (fun _ _ _ h => h) (Or.inl ⟨by rfl, ?hy29⟩) (by assumption) ?_
        case hy29 => (intro w hSw; (try dsimp only at hSw); go_simp; try with_reducible rfl)
        try simp only [Act.put, List.setIfInBounds_toArray, List.set_cons_zero, List.set_cons_succ]
        refine wpAnyH_take (i := 30) (oi := ⟨some 4, _, _, _, _, _⟩) (v := ?v30) rfl (by kernel_rfl) (by kernel_rfl) (by kernel_rfl) (fun _ _ _ h => h) (Or.inl ⟨by rfl, ?hy30⟩) (by assumption) ?_
        case hy30 => (intro w hSw; (try dsimp only at hSw); go_simp; try with_reducible rfl)
        try simp only [Act.put, List.setIfInBounds_toArray, List.set_cons_zero, List.set_cons_succ]
        refine wpAnyH_done (by kernel_rfl) ?_ _
        go_wp2_with fail
        exact bodyPost_ret (v := .bool true) (by simp [results, Try.results4, go_sem]) rfl ⟨rfl, HB.out⟩
  · skip
    have t1 : decide ((k0 : Int) < (mx : Int)) = false := decide_eq_false (by omega)
    have t1n : decide (k0 < mx) = false := decide_eq_false (by omega)
    have t1p : ¬ k0 < mx := by omega
    have t2 : decide ((0 : Int) < (mx : Int)) = true := decide_eq_true (by omega)
    have t2n : decide (0 < mx) = true := decide_eq_true (by omega)
    have t2p : 0 < mx := by omega
    have v1 : decide ((Lt : Int) ≤ (400 : Int)) = false := decide_eq_false (by omega)
    have v1n : decide (Lt ≤ 400) = false := decide_eq_false (by omega)
    have v1p : ¬ Lt ≤ 400 := by omega
    have v3 : decide ((1 : Int) < (Lt : Int)) = true := decide_eq_true (by omega)
    have v3n : decide (1 < Lt) = true := decide_eq_true (by omega)
    have v3p : 1 < Lt := by omega
    have v2 : ((Lt : Int) == 0) = false := by simp; omega
    have v2n : (Lt == 0) = false := by simp; omega
    have hi0 := HIX.out (by omega)
    rw [show (((0 : Nat)) : Int) = 0 from rfl] at hi0
    have v4 : ((ch : Int) == 48) = false := by have := HHD.out (by omega); simp; omega
    have v4n : (ch == 48) = false := by have := HHD.out (by omega); simp; omega
    clear u1 u2 u3
    have cX := HX.out.cell
    go_wp2_with fail
    clear cX
    refine (HBY.out B0 b0 d0 w3x HX.out.at_ (by omega)).mono ?_
    rintro e w4x ⟨g2, rfl, hg, hBg, hb⟩
    have HX' := Lib.hid (HX.out.below hb)
    have HY' := Lib.hid (HY.out.below hb)
    have HB' := Lib.hid (aft_call HB.out hb)
    clear HX HY HB hb
    have HX := HX'
    clear HX'
    have HY := HY'
    clear HY'
    have HB := HB'
    clear HB'
    have HBG := Lib.hid hBg
    clear hg hBg
    clear HBG
    have cX := HX.out.cell
    go_wp2_with fail
    clear cX
    refine (HBY.out B0 b0 d0 w4x HX.out.at_ (by omega)).mono ?_
    rintro e w5x ⟨g3, rfl, hg, hBg, hb⟩
    have HX' := Lib.hid (HX.out.below hb)
    have HY' := Lib.hid (HY.out.below hb)
    have HB' := Lib.hid (aft_call HB.out hb)
    clear HX HY HB hb
    have HX := HX'
    clear HX'
    have HY := HY'
    clear HY'
    have HB := HB'
    clear HB'
    have HBG := Lib.hid hBg
    clear hg hBg
    clear HBG
    have cX := HX.out.cell
    go_wp2_with fail
    clear cX
    refine (HBY.out B0 b0 d0 w5x HX.out.at_ (by omega)).mono ?_
    rintro e w6x ⟨g4, rfl, hg, hBg, hb⟩
    have HX' := Lib.hid (HX.out.below hb)
    have HY' := Lib.hid (HY.out.below hb)
    have HB' := Lib.hid (aft_call HB.out hb)
    clear HX HY HB hb
    have HX := HX'
    clear HX'
    have HY := HY'
    clear HY'
    have HB := HB'
    clear HB'
    have HBG := Lib.hid hBg
    clear hg hBg
    have hb0 := HBG.out.cell (i := 0) (by rw [HME.out]; exact t2p)
    have hne := bytesOf_head (x := x) (by rw [HME.out]; exact t2p)
    generalize (bytesOf x).getD 0 0 = dg0 at hb0 hne
    have t3 : (((dg0 : Nat) : Int) == 0) = false := by simp; omega
    have t4 : (0 : Int) < (mx : Int) := by omega
    clear HBG
    have cX := HX.out.cell
    go_wp2_with fail
    clear cX
    clear hb0 t3 t4 hne
    refine (HTX.out B0 b0 d0 w6x HX.out.at_ (by omega)).mono ?_
    rintro e w7x ⟨rfl, hb⟩
    have HX' := Lib.hid (HX.out.below hb)
    have HY' := Lib.hid (HY.out.below hb)
    have HB' := Lib.hid (aft_call HB.out hb)
    clear HX HY HB hb
    have HX := HX'
    clear HX'
    have HY := HY'
    clear HY'
    have HB := HB'
    clear HB'
    go_wp2_with fail
    refine (HP2.out w7x (by omega)).mono ?_
    rintro e w8x ⟨A2x, n2x, c2x, rfl, hd, hnn2x, hb⟩
    have HX' := Lib.hid (HX.out.below hb)
    have HY' := Lib.hid (HY.out.below hb)
    have HB' := Lib.hid (aft_call HB.out hb)
    have Hq1' := Lib.hid hd
    clear HX HY HB hd hb
    have HX := HX'
    clear HX'
    have HY := HY'
    clear HY'
    have HB := HB'
    clear HB'
    have Hq1 := Hq1'
    clear Hq1'
    have HX' := Lib.hid (HX.out.al (.cells #[.slice A2x n2x c2x] 25))
    have HY' := Lib.hid (HY.out.al (.cells #[.slice A2x n2x c2x] 25))
    have HB' := Lib.hid (aft_al HB.out (.cells #[.slice A2x n2x c2x] 25))
    have hQ' : Bx (w8x.alloc (.cells #[.slice A2x n2x c2x] 25)) (w8x.heap.size) A2x n2x c2x (0) := by have := (Bx.new Hq1.out); simpa only [World.size_alloc] using this
    have HQ' := Lib.hid hQ'
    clear HX HY HB Hq1 hQ'
    have HX := HX'
    clear HX'
    have HY := HY'
    clear HY'
    have HQ := HQ'
    clear HQ'
    have HB := HB'
    clear HB'
    have cX := HX.out.cell; have cY := HY.out.cell
    go_wp2_with fail
    generalize (w8x.alloc (.cells #[.slice A2x n2x c2x] 25)) = V8x at *
    skip
    generalize w8x.heap.size = q8_0 at *
    clear cX cY
    clear HQ hi0 v1 v1n v1p v2 v2n v3 v3n v3p t1 t1n t1p t2 t2n t2p v4 v4n
    refine (HC1.out B0 b0 d0 B1 b1 d1 V8x HX.out.at_ HY.out.at_ (by omega) (by omega)).mono ?_
    rintro e w9x ⟨rfl, hb⟩
    have HX' := Lib.hid (HX.out.below hb)
    have HY' := Lib.hid (HY.out.below hb)
    have HB' := Lib.hid (aft_call HB.out hb)
    clear HX HY HB hb
    have HX := HX'
    clear HX'
    have HY := HY'
    clear HY'
    have HB := HB'
    clear HB'
    go_wp2_with fail
    have htq := HTQ.out; have hbq := HBQ.out; have hcn := HCN.out
    refine wp_region_held_drew (S := fun w' => w'.cell? ⟨p0, 0, none⟩ = some (.slice B0 b0 d0) ∧ w'.cell? ⟨p1, 0, none⟩ = some (.slice B1 b1 d1)) (by kernel_rfl) ?_ (fun hHeld => ?_)
    · exact ⟨HX.out.cell, HY.out.cell⟩
    refine wpAnyH_take (i := 0) (oi := ⟨some 88, _, _, _, _, _⟩) (v := ?v0) rfl (by kernel_rfl) (by kernel_rfl) (by kernel_rfl) (fun _ _ _ h => h) (Or.inl ⟨by rfl, ?hy0⟩) (by assumption) ?_
    case hy0 => (intro w hSw; (try dsimp only at hSw); go_simp; try with_reducible rfl)
    try simp only [Act.put, List.setIfInBounds_toArray, List.set_cons_zero, List.set_cons_succ]
    refine wpAnyH_take (i := 1) (oi := ⟨some 89, _, _, _, _, _⟩) (v := ?v1) rfl (by kernel_rfl) (by kernel_rfl) (by kernel_rfl) (fun _ _ _ h => h) (Or.inl ⟨by rfl, ?hy1⟩) (by assumption) ?_
    case hy1 => (intro w hSw; (try dsimp only at hSw); go_simp; try with_reducible rfl)
    try simp only [Act.put, List.setIfInBounds_toArray, List.set_cons_zero, List.set_cons_succ]
    refine wpAnyH_take (i := 4) (oi := ⟨some 92, _, _, _, _, _⟩) (v := ?v4) rfl (by kernel_rfl) (by kernel_rfl) (by kernel_rfl) (fun _ _ _ h => h) (Or.inl ⟨by rfl, ?hy4⟩) (by assumption) ?_
    case hy4 => (intro w hSw; (try dsimp only at hSw); go_simp; try with_reducible rfl)
    try simp only [Act.put, List.setIfInBounds_toArray, List.set_cons_zero, List.set_cons_succ]
    refine wpAnyH_ready (rs := [2]) (by kernel_rfl) (by simp) ?_
    refine (AllReadyH.cons (o := ⟨some 90, _, _, _, _, _⟩) rfl (fun K hK => ?_) AllReadyH.nil)
    go_simp
    refine (HBY.out B0 b0 d0 w9x.drew HX.out.drew.at_ (by omega)).mono ?_
    rintro e w10x ⟨ga, rfl, hg, hBa, hb⟩
    have hcv1 := run_string_of_own w10x ga mx mx (bytesOf x) (Bw.of_bg hBa) HME.out
    rw [HSBX.out] at hcv1
    have HBA := Lib.hid hBa; have hlta := hBa.lt
    clear hg hBa
    have HX' := Lib.hid (HX.out.drew.below hb)
    have HY' := Lib.hid (HY.out.drew.below hb)
    have HB' := Lib.hid (aft_call HB.out.drew hb)
    clear HX HY HB hb
    have HX := HX'
    clear HX'
    have HY := HY'
    clear HY'
    have HB := HB'
    clear HB'
    go_wp2_with fail
    refine hK.out _ _ ?_ (fun hHeld => ?_)
    · exact ⟨HX.out.cell, HY.out.cell⟩
    clear hK K
    try simp only [Act.put, List.setIfInBounds_toArray, List.set_cons_zero, List.set_cons_succ]
    refine wpAnyH_ready (rs := [3, 5]) (by kernel_rfl) (by simp) ?_
    refine (AllReadyH.cons (o := ⟨some 91, _, _, _, _, _⟩) rfl (fun K hK => ?_) (AllReadyH.cons (o := ⟨some 93, _, _, _, _, _⟩) rfl (fun K hK => ?_) AllReadyH.nil))
    · go_simp
      refine hK.out _ _ ?_ (fun hHeld => ?_)
      · exact ⟨HX.out.cell, HY.out.cell⟩
      clear hK K
      try simp only [Act.put, List.setIfInBounds_toArray, List.set_cons_zero, List.set_cons_succ]
      refine wpAnyH_ready (rs := [5]) (by kernel_rfl) (by simp) ?_
      refine (AllReadyH.cons (o := ⟨some 93, _, _, _, _, _⟩) rfl (fun K hK => ?_) AllReadyH.nil)
      go_simp
      refine (HBYY.out B1 b1 d1 w10x HY.out.at_ (by omega)).mono ?_
      rintro e w11x ⟨gb, rfl, hg, hBb, hb⟩
      have hcv2 := run_string_of_own w11x gb my my (bytesOf y) (Bw.of_bg hBb) HMEY.out
      rw [HSBY.out] at hcv2
      have hcv1b := run_string_of_own w11x ga mx mx (bytesOf x) (Bw.of_bg (HBA.out.below hb hlta)) HME.out
      rw [HSBX.out] at hcv1b
      clear hg hBb HBA hlta
      have HX' := Lib.hid (HX.out.below hb)
      have HY' := Lib.hid (HY.out.below hb)
      have HB' := Lib.hid (aft_call HB.out hb)
      clear HX HY HB hb
      have HX := HX'
      clear HX'
      have HY := HY'
      clear HY'
      have HB := HB'
      clear HB'
      go_wp2_with fail
      refine hK.out _ _ ?_ (fun hHeld => ?_)
      · exact ⟨HX.out.cell, HY.out.cell⟩
      clear hK K
      try simp only [Act.put, List.setIfInBounds_toArray, List.set_cons_zero, List.set_cons_succ]
      refine wpAnyH_ready (rs := [6]) (by kernel_rfl) (by simp) ?_
      refine (AllReadyH.cons (o := ⟨some 94, _, _, _, _, _⟩) rfl (fun K hK => ?_) AllReadyH.nil)
      go_simp
      refine hK.out _ _ ?_ (fun hHeld => ?_)
      · exact ⟨HX.out.cell, HY.out.cell⟩
      clear hK K
      try simp only [Act.put, List.setIfInBounds_toArray, List.set_cons_zero, List.set_cons_succ]
      clear hcv1 hcv1b hcv2
      refine wpAnyH_take (i := 7) (oi := ⟨some 95, _, _, _, _, _⟩) (v := ?v7) rfl (by kernel_rfl) (by kernel_rfl) (by kernel_rfl) (fun _ _ _ h => h) (Or.inl ⟨by rfl, ?hy7⟩) (by assumption) ?_
      case hy7 => (intro w hSw; (try dsimp only at hSw); go_simp; try with_reducible rfl)
      try simp only [Act.put, List.setIfInBounds_toArray, List.set_cons_zero, List.set_cons_succ]
      refine wpAnyH_take (i := 8) (oi := ⟨some 96, _, _, _, _, _⟩) (v := ?v8) rfl (by kernel_rfl) (by kernel_rfl) (by kernel_rfl) (fun _ _ _ h => h) (Or.inl ⟨by rfl, ?hy8⟩) (by assumption) ?_
      case hy8 => (intro w hSw; (try dsimp only at hSw); go_simp; try with_reducible rfl)
      try simp only [Act.put, List.setIfInBounds_toArray, List.set_cons_zero, List.set_cons_succ]
      refine wpAnyH_take (i := 9) (oi := ⟨some 97, _, _, _, _, _⟩) (v := ?v9) rfl (by kernel_rfl) (by kernel_rfl) (by kernel_rfl) (fun _ _ _ h => h) (Or.inl ⟨by rfl, ?hy9⟩) (by assumption) ?_
      case hy9 => (intro w hSw; (try dsimp only at hSw); go_simp; try with_reducible rfl)
      try simp only [Act.put, List.setIfInBounds_toArray, List.set_cons_zero, List.set_cons_succ]
      refine wpAnyH_take (i := 10) (oi := ⟨some 98, _, _, _, _, _⟩) (v := ?v10) rfl (by kernel_rfl) (by kernel_rfl) (by kernel_rfl) (fun _ _ _ h => h) (Or.inl ⟨by rfl, ?hy10⟩) (by assumption) ?_
      case hy10 => (intro w hSw; (try dsimp only at hSw); go_simp; try with_reducible rfl)
      try simp only [Act.put, List.setIfInBounds_toArray, List.set_cons_zero, List.set_cons_succ]
      refine wpAnyH_take (i := 11) (oi := ⟨some 99, _, _, _, _, _⟩) (v := ?v11) rfl (by kernel_rfl) (by kernel_rfl) (by kernel_rfl) (fun _ _ _ h => h) (Or.inl ⟨by rfl, ?hy11⟩) (by assumption) ?_
      case hy11 => (intro w hSw; (try dsimp only at hSw); go_simp; try with_reducible rfl)
      try simp only [Act.put, List.setIfInBounds_toArray, List.set_cons_zero, List.set_cons_succ]
      refine wpAnyH_take (i := 12) (oi := ⟨some 100, _, _, _, _, _⟩) (v := ?v12) rfl (by kernel_rfl) (by kernel_rfl) (by kernel_rfl) (fun _ _ _ h => h) (Or.inl ⟨by rfl, ?hy12⟩) (by assumption) ?_
      case hy12 => (intro w hSw; (try dsimp only at hSw); go_simp; try with_reducible rfl)
      try simp only [Act.put, List.setIfInBounds_toArray, List.set_cons_zero, List.set_cons_succ]
      refine wpAnyH_ready (rs := [13]) (by kernel_rfl) (by simp) ?_
      refine (AllReadyH.cons (o := ⟨some 101, _, _, _, _, _⟩) rfl (fun K hK => ?_) AllReadyH.nil)
      go_simp
      refine (HTY.out B1 b1 d1 w11x HY.out.at_ (by omega)).mono ?_
      rintro e w12x ⟨rfl, hb⟩
      have HX' := Lib.hid (HX.out.below hb)
      have HY' := Lib.hid (HY.out.below hb)
      have HB' := Lib.hid (aft_call HB.out hb)
      clear HX HY HB hb
      have HX := HX'
      clear HX'
      have HY := HY'
      clear HY'
      have HB := HB'
      clear HB'
      go_wp2_with fail
      refine hK.out _ _ ?_ (fun hHeld => ?_)
      · exact ⟨HX.out.cell, HY.out.cell⟩
      clear hK K
      try simp only [Act.put, List.setIfInBounds_toArray, List.set_cons_zero, List.set_cons_succ]
      refine wpAnyH_take (i := 14) (oi := ⟨some 102, _, _, _, _, _⟩) (v := ?v14) rfl (by kernel_rfl) (by kernel_rfl) (by kernel_rfl) (fun _ _ _ h => h) (Or.inl ⟨by rfl, ?hy14⟩) (by assumption) ?_
      case hy14 => (intro w hSw; (try dsimp only at hSw); go_simp; try with_reducible rfl)
      try simp only [Act.put, List.setIfInBounds_toArray, List.set_cons_zero, List.set_cons_succ]
      refine wpAnyH_take (i := 15) (oi := ⟨some 103, _, _, _, _, _⟩) (v := ?v15) rfl (by kernel_rfl) (by kernel_rfl) (by kernel_rfl) (fun _ _ _ h => h) (Or.inl ⟨by rfl, ?hy15⟩) (by assumption) ?_
      case hy15 => (intro w hSw; (try dsimp only at hSw); go_simp; try with_reducible rfl)
      try simp only [Act.put, List.setIfInBounds_toArray, List.set_cons_zero, List.set_cons_succ]
      refine wpAnyH_take (i := 16) (oi := ⟨some 104, _, _, _, _, _⟩) (v := ?v16) rfl (by kernel_rfl) (by kernel_rfl) (by kernel_rfl) (fun _ _ _ h => h) (Or.inl ⟨by rfl, ?hy16⟩) (by assumption) ?_
      case hy16 => (intro w hSw; (try dsimp only at hSw); go_simp; try with_reducible rfl)
      try simp only [Act.put, List.setIfInBounds_toArray, List.set_cons_zero, List.set_cons_succ]
      refine wpAnyH_take (i := 17) (oi := ⟨some 105, _, _, _, _, _⟩) (v := ?v17) rfl (by kernel_rfl) (by kernel_rfl) (by kernel_rfl) (fun _ _ _ h => h) (Or.inl ⟨by rfl, ?hy17⟩) (by assumption) ?_
      case hy17 => (intro w hSw; (try dsimp only at hSw); go_simp; try with_reducible rfl)
      try simp only [Act.put, List.setIfInBounds_toArray, List.set_cons_zero, List.set_cons_succ]
      refine wpAnyH_take (i := 18) (oi := ⟨some 106, _, _, _, _, _⟩) (v := ?v18) rfl (by kernel_rfl) (by kernel_rfl) (by kernel_rfl) (fun _ _ _ h => h) (Or.inl ⟨by rfl, ?hy18⟩) (by assumption) ?_
      case hy18 => (intro w hSw; (try dsimp only at hSw); go_simp; try with_reducible rfl)
      try simp only [Act.put, List.setIfInBounds_toArray, List.set_cons_zero, List.set_cons_succ]
      refine wpAnyH_take (i := 19) (oi := ⟨some 107, _, _, _, _, _⟩) (v := ?v19) rfl (by kernel_rfl) (by kernel_rfl) (by kernel_rfl) (fun _ _ _ h => h) (Or.inl ⟨by rfl, ?hy19⟩) (by assumption) ?_
      case hy19 => (intro w hSw; (try dsimp only at hSw); go_simp; try with_reducible rfl)
      try simp only [Act.put, List.setIfInBounds_toArray, List.set_cons_zero, List.set_cons_succ]
      refine wpAnyH_take (i := 21) (oi := ⟨some 109, _, _, _, _, _⟩) (v := ?v21) rfl (by kernel_rfl) (by kernel_rfl) (by kernel_rfl) (fun _ _ _ h => h) (Or.inl ⟨by rfl, ?hy21⟩) (by assumption) ?_
      case hy21 => (intro w hSw; (try dsimp only at hSw); go_simp; try with_reducible rfl)
      try simp only [Act.put, List.setIfInBounds_toArray, List.set_cons_zero, List.set_cons_succ]
      refine wpAnyH_take (i := 22) (oi := ⟨some 110, _, _, _, _, _⟩) (v := ?v22) rfl (by kernel_rfl) (by kernel_rfl) (by kernel_rfl) (fun _ _ _ h => h) (Or.inl ⟨by rfl, ?hy22⟩) (by assumption) ?_
      case hy22 => (intro w hSw; (try dsimp only at hSw); go_simp; try with_reducible rfl)
      try simp only [Act.put, List.setIfInBounds_toArray, List.set_cons_zero, List.set_cons_succ]
      refine wpAnyH_ready (rs := [20]) (by kernel_rfl) (by simp) ?_
      refine (AllReadyH.cons (o := ⟨some 108, _, _, _, _, _⟩) rfl (fun K hK => ?_) AllReadyH.nil)
      go_simp
      refine (HC1.out B0 b0 d0 B1 b1 d1 w12x HX.out.at_ HY.out.at_ (by omega) (by omega)).mono ?_
      rintro e w13x ⟨rfl, hb⟩
      have HX' := Lib.hid (HX.out.below hb)
      have HY' := Lib.hid (HY.out.below hb)
      have HB' := Lib.hid (aft_call HB.out hb)
      clear HX HY HB hb
      have HX := HX'
      clear HX'
      have HY := HY'
      clear HY'
      have HB := HB'
      clear HB'
      go_wp2_with fail
      refine hK.out _ _ ?_ (fun hHeld => ?_)
      · exact ⟨HX.out.cell, HY.out.cell⟩
      clear hK K
      try simp only [Act.put, List.setIfInBounds_toArray, List.set_cons_zero, List.set_cons_succ]
      refine wpAnyH_ready (rs := [23]) (by kernel_rfl) (by simp) ?_
      refine (AllReadyH.cons (o := ⟨some 111, _, _, _, _, _⟩) rfl (fun K hK => ?_) AllReadyH.nil)
      go_simp
      refine (HC2.out B1 b1 d1 B0 b0 d0 w13x HY.out.at_ HX.out.at_ (by omega) (by omega)).mono ?_
      rintro e w14x ⟨rfl, hb⟩
      have HX' := Lib.hid (HX.out.below hb)
      have HY' := Lib.hid (HY.out.below hb)
      have HB' := Lib.hid (aft_call HB.out hb)
      clear HX HY HB hb
      have HX := HX'
      clear HX'
      have HY := HY'
      clear HY'
      have HB := HB'
      clear HB'
      go_wp2_with fail
      refine hK.out _ _ ?_ (fun hHeld => ?_)
      · exact ⟨HX.out.cell, HY.out.cell⟩
      clear hK K
      try simp only [Act.put, List.setIfInBounds_toArray, List.set_cons_zero, List.set_cons_succ]
      refine wpAnyH_take (i := 24) (oi := ⟨some 112, _, _, _, _, _⟩) (v := ?v24) rfl (by kernel_rfl) (by kernel_rfl) (by kernel_rfl) (fun _ _ _ h => h) (Or.inl ⟨by rfl, ?hy24⟩) (by assumption) ?_
      case hy24 => (intro w hSw; (try dsimp only at hSw); go_simp; try with_reducible rfl)
      try simp only [Act.put, List.setIfInBounds_toArray, List.set_cons_zero, List.set_cons_succ]
      refine wpAnyH_take (i := 25) (oi := ⟨some 113, _, _, _, _, _⟩) (v := ?v25) rfl (by kernel_rfl) (by kernel_rfl) (by kernel_rfl) (fun _ _ _ h => h) (Or.inl ⟨by rfl, ?hy25⟩) (by assumption) ?_
      case hy25 => (intro w hSw; (try dsimp only at hSw); go_simp; try with_reducible rfl)
      try simp only [Act.put, List.setIfInBounds_toArray, List.set_cons_zero, List.set_cons_succ]
      refine wpAnyH_take (i := 26) (oi := ⟨some 114, _, _, _, _, _⟩) (v := ?v26) rfl (by kernel_rfl) (by kernel_rfl) (by kernel_rfl) (fun _ _ _ h => h) (Or.inl ⟨by rfl, ?hy26⟩) (by assumption) ?_
      case hy26 => (intro w hSw; (try dsimp only at hSw); go_simp; try with_reducible rfl)
      try simp only [Act.put, List.setIfInBounds_toArray, List.set_cons_zero, List.set_cons_succ]
      refine wpAnyH_take (i := 27) (oi := ⟨some 115, _, _, _, _, _⟩) (v := ?v27) rfl (by kernel_rfl) (by kernel_rfl) (by kernel_rfl) (fun _ _ _ h => h) (Or.inl ⟨by rfl, ?hy27⟩) (by assumption) ?_
      case hy27 => (intro w hSw; (try dsimp only at hSw); go_simp; try with_reducible rfl)
      try simp only [Act.put, List.setIfInBounds_toArray, List.set_cons_zero, List.set_cons_succ]
      refine wpAnyH_ready (rs := [28]) (by kernel_rfl) (by simp) ?_
      refine (AllReadyH.cons (o := ⟨some 116, _, _, _, _, _⟩) rfl (fun K hK => ?_) AllReadyH.nil)
      go_simp
      refine (started_any w14x).mono ?_
      rintro e w15x ⟨rfl, hb⟩
      have HX' := Lib.hid (HX.out.below hb)
      have HY' := Lib.hid (HY.out.below hb)
      have HB' := Lib.hid (aft_call HB.out hb)
      clear HX HY HB hb
      have HX := HX'
      clear HX'
      have HY := HY'
      clear HY'
      have HB := HB'
      clear HB'
      go_wp2_with fail
      refine hK.out _ _ ?_ (fun hHeld => ?_)
      · exact ⟨HX.out.cell, HY.out.cell⟩
      clear hK K
      try simp only [Act.put, List.setIfInBounds_toArray, List.set_cons_zero, List.set_cons_succ]
      refine wpAnyH_take (i := 29) (oi := ⟨some 117, _, _, _, _, _⟩) (v := ?v29) rfl (by kernel_rfl) (by kernel_rfl) (by kernel_rfl) (fun _ _ _ h => h) (Or.inl ⟨by rfl, ?hy29⟩) (by assumption) ?_
      case hy29 => (intro w hSw; (try dsimp only at hSw); go_simp; try with_reducible rfl)
      try simp only [Act.put, List.setIfInBounds_toArray, List.set_cons_zero, List.set_cons_succ]
      refine wpAnyH_take (i := 30) (oi := ⟨some 4, _, _, _, _, _⟩) (v := ?v30) rfl (by kernel_rfl) (by kernel_rfl) (by kernel_rfl) (fun _ _ _ h => h) (Or.inl ⟨by rfl, ?hy30⟩) (by assumption) ?_
      case hy30 => (intro w hSw; (try dsimp only at hSw); go_simp; try with_reducible rfl)
      try simp only [Act.put, List.setIfInBounds_toArray, List.set_cons_zero, List.set_cons_succ]
      refine wpAnyH_done (by kernel_rfl) ?_ _
      go_wp2_with fail
      exact bodyPost_ret (v := .bool true) (by simp [results, Try.results4, go_sem]) rfl ⟨rfl, HB.out⟩
    · go_simp
      refine (HBYY.out B1 b1 d1 w10x HY.out.at_ (by omega)).mono ?_
      rintro e w11x ⟨gb, rfl, hg, hBb, hb⟩
      have hcv2 := run_string_of_own w11x gb my my (bytesOf y) (Bw.of_bg hBb) HMEY.out
      rw [HSBY.out] at hcv2
      have hcv1b := run_string_of_own w11x ga mx mx (bytesOf x) (Bw.of_bg (HBA.out.below hb hlta)) HME.out
      rw [HSBX.out] at hcv1b
      clear hg hBb HBA hlta
      have HX' := Lib.hid (HX.out.below hb)
      have HY' := Lib.hid (HY.out.below hb)
      have HB' := Lib.hid (aft_call HB.out hb)
      clear HX HY HB hb
      have HX := HX'
      clear HX'
      have HY := HY'
      clear HY'
      have HB := HB'
      clear HB'
      go_wp2_with fail
      refine hK.out _ _ ?_ (fun hHeld => ?_)
      · exact ⟨HX.out.cell, HY.out.cell⟩
      clear hK K
      try simp only [Act.put, List.setIfInBounds_toArray, List.set_cons_zero, List.set_cons_succ]
      refine wpAnyH_ready (rs := [3, 6]) (by kernel_rfl) (by simp) ?_
      refine (AllReadyH.cons (o := ⟨some 91, _, _, _, _, _⟩) rfl (fun K hK => ?_) (AllReadyH.cons (o := ⟨some 94, _, _, _, _, _⟩) rfl (fun K hK => ?_) AllReadyH.nil))
      · go_simp
        refine hK.out _ _ ?_ (fun hHeld => ?_)
        · exact ⟨HX.out.cell, HY.out.cell⟩
        clear hK K
        try simp only [Act.put, List.setIfInBounds_toArray, List.set_cons_zero, List.set_cons_succ]
        refine wpAnyH_ready (rs := [6]) (by kernel_rfl) (by simp) ?_
        refine (AllReadyH.cons (o := ⟨some 94, _, _, _, _, _⟩) rfl (fun K hK => ?_) AllReadyH.nil)
        go_simp
        refine hK.out _ _ ?_ (fun hHeld => ?_)
        · exact ⟨HX.out.cell, HY.out.cell⟩
        clear hK K
        try simp only [Act.put, List.setIfInBounds_toArray, List.set_cons_zero, List.set_cons_succ]
        clear hcv1 hcv1b hcv2
        refine wpAnyH_take (i := 7) (oi := ⟨some 95, _, _, _, _, _⟩) (v := ?v7) rfl (by kernel_rfl) (by kernel_rfl) (by kernel_rfl) (fun _ _ _ h => h) (Or.inl ⟨by rfl, ?hy7⟩) (by assumption) ?_
        case hy7 => (intro w hSw; (try dsimp only at hSw); go_simp; try with_reducible rfl)
        try simp only [Act.put, List.setIfInBounds_toArray, List.set_cons_zero, List.set_cons_succ]
        refine wpAnyH_take (i := 8) (oi := ⟨some 96, _, _, _, _, _⟩) (v := ?v8) rfl (by kernel_rfl) (by kernel_rfl) (by kernel_rfl) (fun _ _ _ h => h) (Or.inl ⟨by rfl, ?hy8⟩) (by assumption) ?_
        case hy8 => (intro w hSw; (try dsimp only at hSw); go_simp; try with_reducible rfl)
        try simp only [Act.put, List.setIfInBounds_toArray, List.set_cons_zero, List.set_cons_succ]
        refine wpAnyH_take (i := 9) (oi := ⟨some 97, _, _, _, _, _⟩) (v := ?v9) rfl (by kernel_rfl) (by kernel_rfl) (by kernel_rfl) (fun _ _ _ h => h) (Or.inl ⟨by rfl, ?hy9⟩) (by assumption) ?_
        case hy9 => (intro w hSw; (try dsimp only at hSw); go_simp; try with_reducible rfl)
        try simp only [Act.put, List.setIfInBounds_toArray, List.set_cons_zero, List.set_cons_succ]
        refine wpAnyH_take (i := 10) (oi := ⟨some 98, _, _, _, _, _⟩) (v := ?v10) rfl (by kernel_rfl) (by kernel_rfl) (by kernel_rfl) (fun _ _ _ h => h) (Or.inl ⟨by rfl, ?hy10⟩) (by assumption) ?_
        case hy10 => (intro w hSw; (try dsimp only at hSw); go_simp; try with_reducible rfl)
        try simp only [Act.put, List.setIfInBounds_toArray, List.set_cons_zero, List.set_cons_succ]
        refine wpAnyH_take (i := 11) (oi := ⟨some 99, _, _, _, _, _⟩) (v := ?v11) rfl (by kernel_rfl) (by kernel_rfl) (by kernel_rfl) (fun _ _ _ h => h) (Or.inl ⟨by rfl, ?hy11⟩) (by assumption) ?_
        case hy11 => (intro w hSw; (try dsimp only at hSw); go_simp; try with_reducible rfl)
        try simp only [Act.put, List.setIfInBounds_toArray, List.set_cons_zero, List.set_cons_succ]
        refine wpAnyH_take (i := 12) (oi := ⟨some 100, _, _, _, _, _⟩) (v := ?v12) rfl (by kernel_rfl) (by kernel_rfl) (by kernel_rfl) (fun _ _ _ h => h) (Or.inl ⟨by rfl, ?hy12⟩) (by assumption) ?_
        case hy12 => (intro w hSw; (try dsimp only at hSw); go_simp; try with_reducible rfl)
        try simp only [Act.put, List.setIfInBounds_toArray, List.set_cons_zero, List.set_cons_succ]
        refine wpAnyH_ready (rs := [13]) (by kernel_rfl) (by simp) ?_
        refine (AllReadyH.cons (o := ⟨some 101, _, _, _, _, _⟩) rfl (fun K hK => ?_) AllReadyH.nil)
        go_simp
        refine (HTY.out B1 b1 d1 w11x HY.out.at_ (by omega)).mono ?_
        rintro e w12x ⟨rfl, hb⟩
        have HX' := Lib.hid (HX.out.below hb)
        have HY' := Lib.hid (HY.out.below hb)
        have HB' := Lib.hid (aft_call HB.out hb)
        clear HX HY HB hb
        have HX := HX'
        clear HX'
        have HY := HY'
        clear HY'
        have HB := HB'
        clear HB'
        go_wp2_with fail
        refine hK.out _ _ ?_ (fun hHeld => ?_)
        · exact ⟨HX.out.cell, HY.out.cell⟩
        clear hK K
        try simp only [Act.put, List.setIfInBounds_toArray, List.set_cons_zero, List.set_cons_succ]
        refine wpAnyH_take (i := 14) (oi := ⟨some 102, _, _, _, _, _⟩) (v := ?v14) rfl (by kernel_rfl) (by kernel_rfl) (by kernel_rfl) (fun _ _ _ h => h) (Or.inl ⟨by rfl, ?hy14⟩) (by assumption) ?_
        case hy14 => (intro w hSw; (try dsimp only at hSw); go_simp; try with_reducible rfl)
        try simp only [Act.put, List.setIfInBounds_toArray, List.set_cons_zero, List.set_cons_succ]
        refine wpAnyH_take (i := 15) (oi := ⟨some 103, _, _, _, _, _⟩) (v := ?v15) rfl (by kernel_rfl) (by kernel_rfl) (by kernel_rfl) (fun _ _ _ h => h) (Or.inl ⟨by rfl, ?hy15⟩) (by assumption) ?_
        case hy15 => (intro w hSw; (try dsimp only at hSw); go_simp; try with_reducible rfl)
        try simp only [Act.put, List.setIfInBounds_toArray, List.set_cons_zero, List.set_cons_succ]
        refine wpAnyH_take (i := 16) (oi := ⟨some 104, _, _, _, _, _⟩) (v := ?v16) rfl (by kernel_rfl) (by kernel_rfl) (by kernel_rfl) (fun _ _ _ h => h) (Or.inl ⟨by rfl, ?hy16⟩) (by assumption) ?_
        case hy16 => (intro w hSw; (try dsimp only at hSw); go_simp; try with_reducible rfl)
        try simp only [Act.put, List.setIfInBounds_toArray, List.set_cons_zero, List.set_cons_succ]
        refine wpAnyH_take (i := 17) (oi := ⟨some 105, _, _, _, _, _⟩) (v := ?v17) rfl (by kernel_rfl) (by kernel_rfl) (by kernel_rfl) (fun _ _ _ h => h) (Or.inl ⟨by rfl, ?hy17⟩) (by assumption) ?_
        case hy17 => (intro w hSw; (try dsimp only at hSw); go_simp; try with_reducible rfl)
        try simp only [Act.put, List.setIfInBounds_toArray, List.set_cons_zero, List.set_cons_succ]
        refine wpAnyH_take (i := 18) (oi := ⟨some 106, _, _, _, _, _⟩) (v := ?v18) rfl (by kernel_rfl) (by kernel_rfl) (by kernel_rfl) (fun _ _ _ h => h) (Or.inl ⟨by rfl, ?hy18⟩) (by assumption) ?_
        case hy18 => (intro w hSw; (try dsimp only at hSw); go_simp; try with_reducible rfl)
        try simp only [Act.put, List.setIfInBounds_toArray, List.set_cons_zero, List.set_cons_succ]
        refine wpAnyH_take (i := 19) (oi := ⟨some 107, _, _, _, _, _⟩) (v := ?v19) rfl (by kernel_rfl) (by kernel_rfl) (by kernel_rfl) (fun _ _ _ h => h) (Or.inl ⟨by rfl, ?hy19⟩) (by assumption) ?_
        case hy19 => (intro w hSw; (try dsimp only at hSw); go_simp; try with_reducible rfl)
        try simp only [Act.put, List.setIfInBounds_toArray, List.set_cons_zero, List.set_cons_succ]
        refine wpAnyH_take (i := 21) (oi := ⟨some 109, _, _, _, _, _⟩) (v := ?v21) rfl (by kernel_rfl) (by kernel_rfl) (by kernel_rfl) (fun _ _ _ h => h) (Or.inl ⟨by rfl, ?hy21⟩) (by assumption) ?_
        case hy21 => (intro w hSw; (try dsimp only at hSw); go_simp; try with_reducible rfl)
        try simp only [Act.put, List.setIfInBounds_toArray, List.set_cons_zero, List.set_cons_succ]
        refine wpAnyH_take (i := 22) (oi := ⟨some 110, _, _, _, _, _⟩) (v := ?v22) rfl (by kernel_rfl) (by kernel_rfl) (by kernel_rfl) (fun _ _ _ h => h) (Or.inl ⟨by rfl, ?hy22⟩) (by assumption) ?_
        case hy22 => (intro w hSw; (try dsimp only at hSw); go_simp; try with_reducible rfl)
        try simp only [Act.put, List.setIfInBounds_toArray, List.set_cons_zero, List.set_cons_succ]
        refine wpAnyH_ready (rs := [20]) (by kernel_rfl) (by simp) ?_
        refine (AllReadyH.cons (o := ⟨some 108, _, _, _, _, _⟩) rfl (fun K hK => ?_) AllReadyH.nil)
        go_simp
        refine (HC1.out B0 b0 d0 B1 b1 d1 w12x HX.out.at_ HY.out.at_ (by omega) (by omega)).mono ?_
        rintro e w13x ⟨rfl, hb⟩
        have HX' := Lib.hid (HX.out.below hb)
        have HY' := Lib.hid (HY.out.below hb)
        have HB' := Lib.hid (aft_call HB.out hb)
        clear HX HY HB hb
        have HX := HX'
        clear HX'
        have HY := HY'
        clear HY'
        have HB := HB'
        clear HB'
        go_wp2_with fail
        refine hK.out _ _ ?_ (fun hHeld => ?_)
        · exact ⟨HX.out.cell, HY.out.cell⟩
        clear hK K
        try simp only [Act.put, List.setIfInBounds_toArray, List.set_cons_zero, List.set_cons_succ]
        refine wpAnyH_ready (rs := [23]) (by kernel_rfl) (by simp) ?_
        refine (AllReadyH.cons (o := ⟨some 111, _, _, _, _, _⟩) rfl (fun K hK => ?_) AllReadyH.nil)
        go_simp
        refine (HC2.out B1 b1 d1 B0 b0 d0 w13x HY.out.at_ HX.out.at_ (by omega) (by omega)).mono ?_
        rintro e w14x ⟨rfl, hb⟩
        have HX' := Lib.hid (HX.out.below hb)
        have HY' := Lib.hid (HY.out.below hb)
        have HB' := Lib.hid (aft_call HB.out hb)
        clear HX HY HB hb
        have HX := HX'
        clear HX'
        have HY := HY'
        clear HY'
        have HB := HB'
        clear HB'
        go_wp2_with fail
        refine hK.out _ _ ?_ (fun hHeld => ?_)
        · exact ⟨HX.out.cell, HY.out.cell⟩
        clear hK K
        try simp only [Act.put, List.setIfInBounds_toArray, List.set_cons_zero, List.set_cons_succ]
        refine wpAnyH_take (i := 24) (oi := ⟨some 112, _, _, _, _, _⟩) (v := ?v24) rfl (by kernel_rfl) (by kernel_rfl) (by kernel_rfl) (fun _ _ _ h => h) (Or.inl ⟨by rfl, ?hy24⟩) (by assumption) ?_
        case hy24 => (intro w hSw; (try dsimp only at hSw); go_simp; try with_reducible rfl)
        try simp only [Act.put, List.setIfInBounds_toArray, List.set_cons_zero, List.set_cons_succ]
        refine wpAnyH_take (i := 25) (oi := ⟨some 113, _, _, _, _, _⟩) (v := ?v25) rfl (by kernel_rfl) (by kernel_rfl) (by kernel_rfl) (fun _ _ _ h => h) (Or.inl ⟨by rfl, ?hy25⟩) (by assumption) ?_
        case hy25 => (intro w hSw; (try dsimp only at hSw); go_simp; try with_reducible rfl)
        try simp only [Act.put, List.setIfInBounds_toArray, List.set_cons_zero, List.set_cons_succ]
        refine wpAnyH_take (i := 26) (oi := ⟨some 114, _, _, _, _, _⟩) (v := ?v26) rfl (by kernel_rfl) (by kernel_rfl) (by kernel_rfl) (fun _ _ _ h => h) (Or.inl ⟨by rfl, ?hy26⟩) (by assumption) ?_
        case hy26 => (intro w hSw; (try dsimp only at hSw); go_simp; try with_reducible rfl)
        try simp only [Act.put, List.setIfInBounds_toArray, List.set_cons_zero, List.set_cons_succ]
        refine wpAnyH_take (i := 27) (oi := ⟨some 115, _, _, _, _, _⟩) (v := ?v27) rfl (by kernel_rfl) (by kernel_rfl) (by kernel_rfl) (fun _ _ _ h => h) (Or.inl ⟨by rfl, ?hy27⟩) (by assumption) ?_
        case hy27 => (intro w hSw; (try dsimp only at hSw); go_simp; try with_reducible rfl)
        try simp only [Act.put, List.setIfInBounds_toArray, List.set_cons_zero, List.set_cons_succ]
        refine wpAnyH_ready (rs := [28]) (by kernel_rfl) (by simp) ?_
        refine (AllReadyH.cons (o := ⟨some 116, _, _, _, _, _⟩) rfl (fun K hK => ?_) AllReadyH.nil)
        go_simp
        refine (started_any w14x).mono ?_
        rintro e w15x ⟨rfl, hb⟩
        have HX' := Lib.hid (HX.out.below hb)
        have HY' := Lib.hid (HY.out.below hb)
        have HB' := Lib.hid (aft_call HB.out hb)
        clear HX HY HB hb
        have HX := HX'
        clear HX'
        have HY := HY'
        clear HY'
        have HB := HB'
        clear HB'
        go_wp2_with fail
        refine hK.out _ _ ?_ (fun hHeld => ?_)
        · exact ⟨HX.out.cell, HY.out.cell⟩
        clear hK K
        try simp only [Act.put, List.setIfInBounds_toArray, List.set_cons_zero, List.set_cons_succ]
        refine wpAnyH_take (i := 29) (oi := ⟨some 117, _, _, _, _, _⟩) (v := ?v29) rfl (by kernel_rfl) (by kernel_rfl) (by kernel_rfl) (fun _ _ _ h => h) (Or.inl ⟨by rfl, ?hy29⟩) (by assumption) ?_
        case hy29 => (intro w hSw; (try dsimp only at hSw); go_simp; try with_reducible rfl)
        try simp only [Act.put, List.setIfInBounds_toArray, List.set_cons_zero, List.set_cons_succ]
        refine wpAnyH_take (i := 30) (oi := ⟨some 4, _, _, _, _, _⟩) (v := ?v30) rfl (by kernel_rfl) (by kernel_rfl) (by kernel_rfl) (fun _ _ _ h => h) (Or.inl ⟨by rfl, ?hy30⟩) (by assumption) ?_
        case hy30 => (intro w hSw; (try dsimp only at hSw); go_simp; try with_reducible rfl)
        try simp only [Act.put, List.setIfInBounds_toArray, List.set_cons_zero, List.set_cons_succ]
        refine wpAnyH_done (by kernel_rfl) ?_ _
        go_wp2_with fail
        exact bodyPost_ret (v := .bool true) (by simp [results, Try.results4, go_sem]) rfl ⟨rfl, HB.out⟩
      · go_simp
        refine hK.out _ _ ?_ (fun hHeld => ?_)
        · exact ⟨HX.out.cell, HY.out.cell⟩
        clear hK K
        try simp only [Act.put, List.setIfInBounds_toArray, List.set_cons_zero, List.set_cons_succ]
        refine wpAnyH_ready (rs := [3]) (by kernel_rfl) (by simp) ?_
        refine (AllReadyH.cons (o := ⟨some 91, _, _, _, _, _⟩) rfl (fun K hK => ?_) AllReadyH.nil)
        go_simp
        refine hK.out _ _ ?_ (fun hHeld => ?_)
        · exact ⟨HX.out.cell, HY.out.cell⟩
        clear hK K
        try simp only [Act.put, List.setIfInBounds_toArray, List.set_cons_zero, List.set_cons_succ]
        clear hcv1 hcv1b hcv2
        refine wpAnyH_take (i := 7) (oi := ⟨some 95, _, _, _, _, _⟩) (v := ?v7) rfl (by kernel_rfl) (by kernel_rfl) (by kernel_rfl) (fun _ _ _ h => h) (Or.inl ⟨by rfl, ?hy7⟩) (by assumption) ?_
        case hy7 => (intro w hSw; (try dsimp only at hSw); go_simp; try with_reducible rfl)
        try simp only [Act.put, List.setIfInBounds_toArray, List.set_cons_zero, List.set_cons_succ]
        refine wpAnyH_take (i := 8) (oi := ⟨some 96, _, _, _, _, _⟩) (v := ?v8) rfl (by kernel_rfl) (by kernel_rfl) (by kernel_rfl) (fun _ _ _ h => h) (Or.inl ⟨by rfl, ?hy8⟩) (by assumption) ?_
        case hy8 => (intro w hSw; (try dsimp only at hSw); go_simp; try with_reducible rfl)
        try simp only [Act.put, List.setIfInBounds_toArray, List.set_cons_zero, List.set_cons_succ]
        refine wpAnyH_take (i := 9) (oi := ⟨some 97, _, _, _, _, _⟩) (v := ?v9) rfl (by kernel_rfl) (by kernel_rfl) (by kernel_rfl) (fun _ _ _ h => h) (Or.inl ⟨by rfl, ?hy9⟩) (by assumption) ?_
        case hy9 => (intro w hSw; (try dsimp only at hSw); go_simp; try with_reducible rfl)
        try simp only [Act.put, List.setIfInBounds_toArray, List.set_cons_zero, List.set_cons_succ]
        refine wpAnyH_take (i := 10) (oi := ⟨some 98, _, _, _, _, _⟩) (v := ?v10) rfl (by kernel_rfl) (by kernel_rfl) (by kernel_rfl) (fun _ _ _ h => h) (Or.inl ⟨by rfl, ?hy10⟩) (by assumption) ?_
        case hy10 => (intro w hSw; (try dsimp only at hSw); go_simp; try with_reducible rfl)
        try simp only [Act.put, List.setIfInBounds_toArray, List.set_cons_zero, List.set_cons_succ]
        refine wpAnyH_take (i := 11) (oi := ⟨some 99, _, _, _, _, _⟩) (v := ?v11) rfl (by kernel_rfl) (by kernel_rfl) (by kernel_rfl) (fun _ _ _ h => h) (Or.inl ⟨by rfl, ?hy11⟩) (by assumption) ?_
        case hy11 => (intro w hSw; (try dsimp only at hSw); go_simp; try with_reducible rfl)
        try simp only [Act.put, List.setIfInBounds_toArray, List.set_cons_zero, List.set_cons_succ]
        refine wpAnyH_take (i := 12) (oi := ⟨some 100, _, _, _, _, _⟩) (v := ?v12) rfl (by kernel_rfl) (by kernel_rfl) (by kernel_rfl) (fun _ _ _ h => h) (Or.inl ⟨by rfl, ?hy12⟩) (by assumption) ?_
        case hy12 => (intro w hSw; (try dsimp only at hSw); go_simp; try with_reducible rfl)
        try simp only [Act.put, List.setIfInBounds_toArray, List.set_cons_zero, List.set_cons_succ]
        refine wpAnyH_ready (rs := [13]) (by kernel_rfl) (by simp) ?_
        refine (AllReadyH.cons (o := ⟨some 101, _, _, _, _, _⟩) rfl (fun K hK => ?_) AllReadyH.nil)
        go_simp
        refine (HTY.out B1 b1 d1 w11x HY.out.at_ (by omega)).mono ?_
        rintro e w12x ⟨rfl, hb⟩
        have HX' := Lib.hid (HX.out.below hb)
        have HY' := Lib.hid (HY.out.below hb)
        have HB' := Lib.hid (aft_call HB.out hb)
        clear HX HY HB hb
        have HX := HX'
        clear HX'
        have HY := HY'
        clear HY'
        have HB := HB'
        clear HB'
        go_wp2_with fail
        refine hK.out _ _ ?_ (fun hHeld => ?_)
        · exact ⟨HX.out.cell, HY.out.cell⟩
        clear hK K
        try simp only [Act.put, List.setIfInBounds_toArray, List.set_cons_zero, List.set_cons_succ]
        refine wpAnyH_take (i := 14) (oi := ⟨some 102, _, _, _, _, _⟩) (v := ?v14) rfl (by kernel_rfl) (by kernel_rfl) (by kernel_rfl) (fun _ _ _ h => h) (Or.inl ⟨by rfl, ?hy14⟩) (by assumption) ?_
        case hy14 => (intro w hSw; (try dsimp only at hSw); go_simp; try with_reducible rfl)
        try simp only [Act.put, List.setIfInBounds_toArray, List.set_cons_zero, List.set_cons_succ]
        refine wpAnyH_take (i := 15) (oi := ⟨some 103, _, _, _, _, _⟩) (v := ?v15) rfl (by kernel_rfl) (by kernel_rfl) (by kernel_rfl) (fun _ _ _ h => h) (Or.inl ⟨by rfl, ?hy15⟩) (by assumption) ?_
        case hy15 => (intro w hSw; (try dsimp only at hSw); go_simp; try with_reducible rfl)
        try simp only [Act.put, List.setIfInBounds_toArray, List.set_cons_zero, List.set_cons_succ]
        refine wpAnyH_take (i := 16) (oi := ⟨some 104, _, _, _, _, _⟩) (v := ?v16) rfl (by kernel_rfl) (by kernel_rfl) (by kernel_rfl) (fun _ _ _ h => h) (Or.inl ⟨by rfl, ?hy16⟩) (by assumption) ?_
        case hy16 => (intro w hSw; (try dsimp only at hSw); go_simp; try with_reducible rfl)
        try simp only [Act.put, List.setIfInBounds_toArray, List.set_cons_zero, List.set_cons_succ]
        refine wpAnyH_take (i := 17) (oi := ⟨some 105, _, _, _, _, _⟩) (v := ?v17) rfl (by kernel_rfl) (by kernel_rfl) (by kernel_rfl) (fun _ _ _ h => h) (Or.inl ⟨by rfl, ?hy17⟩) (by assumption) ?_
        case hy17 => (intro w hSw; (try dsimp only at hSw); go_simp; try with_reducible rfl)
        try simp only [Act.put, List.setIfInBounds_toArray, List.set_cons_zero, List.set_cons_succ]
        refine wpAnyH_take (i := 18) (oi := ⟨some 106, _, _, _, _, _⟩) (v := ?v18) rfl (by kernel_rfl) (by kernel_rfl) (by kernel_rfl) (fun _ _ _ h => h) (Or.inl ⟨by rfl, ?hy18⟩) (by assumption) ?_
        case hy18 => (intro w hSw; (try dsimp only at hSw); go_simp; try with_reducible rfl)
        try simp only [Act.put, List.setIfInBounds_toArray, List.set_cons_zero, List.set_cons_succ]
        refine wpAnyH_take (i := 19) (oi := ⟨some 107, _, _, _, _, _⟩) (v := ?v19) rfl (by kernel_rfl) (by kernel_rfl) (by kernel_rfl) (fun _ _ _ h => h) (Or.inl ⟨by rfl, ?hy19⟩) (by assumption) ?_
        case hy19 => (intro w hSw; (try dsimp only at hSw); go_simp; try with_reducible rfl)
        try simp only [Act.put, List.setIfInBounds_toArray, List.set_cons_zero, List.set_cons_succ]
        refine wpAnyH_take (i := 21) (oi := ⟨some 109, _, _, _, _, _⟩) (v := ?v21) rfl (by kernel_rfl) (by kernel_rfl) (by kernel_rfl) (fun _ _ _ h => h) (Or.inl ⟨by rfl, ?hy21⟩) (by assumption) ?_
        case hy21 => (intro w hSw; (try dsimp only at hSw); go_simp; try with_reducible rfl)
        try simp only [Act.put, List.setIfInBounds_toArray, List.set_cons_zero, List.set_cons_succ]
        refine wpAnyH_take (i := 22) (oi := ⟨some 110, _, _, _, _, _⟩) (v := ?v22) rfl (by kernel_rfl) (by kernel_rfl) (by kernel_rfl) (fun _ _ _ h => h) (Or.inl ⟨by rfl, ?hy22⟩) (by assumption) ?_
        case hy22 => (intro w hSw; (try dsimp only at hSw); go_simp; try with_reducible rfl)
        try simp only [Act.put, List.setIfInBounds_toArray, List.set_cons_zero, List.set_cons_succ]
        refine wpAnyH_ready (rs := [20]) (by kernel_rfl) (by simp) ?_
        refine (AllReadyH.cons (o := ⟨some 108, _, _, _, _, _⟩) rfl (fun K hK => ?_) AllReadyH.nil)
        go_simp
        refine (HC1.out B0 b0 d0 B1 b1 d1 w12x HX.out.at_ HY.out.at_ (by omega) (by omega)).mono ?_
        rintro e w13x ⟨rfl, hb⟩
        have HX' := Lib.hid (HX.out.below hb)
        have HY' := Lib.hid (HY.out.below hb)
        have HB' := Lib.hid (aft_call HB.out hb)
        clear HX HY HB hb
        have HX := HX'
        clear HX'
        have HY := HY'
        clear HY'
        have HB := HB'
        clear HB'
        go_wp2_with fail
        refine hK.out _ _ ?_ (fun hHeld => ?_)
        · exact ⟨HX.out.cell, HY.out.cell⟩
        clear hK K
        try simp only [Act.put, List.setIfInBounds_toArray, List.set_cons_zero, List.set_cons_succ]
        refine wpAnyH_ready (rs := [23]) (by kernel_rfl) (by simp) ?_
        refine (AllReadyH.cons (o := ⟨some 111, _, _, _, _, _⟩) rfl (fun K hK => ?_) AllReadyH.nil)
        go_simp
        refine (HC2.out B1 b1 d1 B0 b0 d0 w13x HY.out.at_ HX.out.at_ (by omega) (by omega)).mono ?_
        rintro e w14x ⟨rfl, hb⟩
        have HX' := Lib.hid (HX.out.below hb)
        have HY' := Lib.hid (HY.out.below hb)
        have HB' := Lib.hid (aft_call HB.out hb)
        clear HX HY HB hb
        have HX := HX'
        clear HX'
        have HY := HY'
        clear HY'
        have HB := HB'
        clear HB'
        go_wp2_with fail
        refine hK.out _ _ ?_ (fun hHeld => ?_)
        · exact ⟨HX.out.cell, HY.out.cell⟩
        clear hK K
        try simp only [Act.put, List.setIfInBounds_toArray, List.set_cons_zero, List.set_cons_succ]
        refine wpAnyH_take (i := 24) (oi := ⟨some 112, _, _, _, _, _⟩) (v := ?v24) rfl (by kernel_rfl) (by kernel_rfl) (by kernel_rfl) (fun _ _ _ h => h) (Or.inl ⟨by rfl, ?hy24⟩) (by assumption) ?_
        case hy24 => (intro w hSw; (try dsimp only at hSw); go_simp; try with_reducible rfl)
        try simp only [Act.put, List.setIfInBounds_toArray, List.set_cons_zero, List.set_cons_succ]
        refine wpAnyH_take (i := 25) (oi := ⟨some 113, _, _, _, _, _⟩) (v := ?v25) rfl (by kernel_rfl) (by kernel_rfl) (by kernel_rfl) (fun _ _ _ h => h) (Or.inl ⟨by rfl, ?hy25⟩) (by assumption) ?_
        case hy25 => (intro w hSw; (try dsimp only at hSw); go_simp; try with_reducible rfl)
        try simp only [Act.put, List.setIfInBounds_toArray, List.set_cons_zero, List.set_cons_succ]
        refine wpAnyH_take (i := 26) (oi := ⟨some 114, _, _, _, _, _⟩) (v := ?v26) rfl (by kernel_rfl) (by kernel_rfl) (by kernel_rfl) (fun _ _ _ h => h) (Or.inl ⟨by rfl, ?hy26⟩) (by assumption) ?_
        case hy26 => (intro w hSw; (try dsimp only at hSw); go_simp; try with_reducible rfl)
        try simp only [Act.put, List.setIfInBounds_toArray, List.set_cons_zero, List.set_cons_succ]
        refine wpAnyH_take (i := 27) (oi := ⟨some 115, _, _, _, _, _⟩) (v := ?v27) rfl (by kernel_rfl) (by kernel_rfl) (by kernel_rfl) (fun _ _ _ h => h) (Or.inl ⟨by rfl, ?hy27⟩) (by assumption) ?_
        case hy27 => (intro w hSw; (try dsimp only at hSw); go_simp; try with_reducible rfl)
        try simp only [Act.put, List.setIfInBounds_toArray, List.set_cons_zero, List.set_cons_succ]
        refine wpAnyH_ready (rs := [28]) (by kernel_rfl) (by simp) ?_
        refine (AllReadyH.cons (o := ⟨some 116, _, _, _, _, _⟩) rfl (fun K hK => ?_) AllReadyH.nil)
        go_simp
        refine (started_any w14x).mono ?_
        rintro e w15x ⟨rfl, hb⟩
        have HX' := Lib.hid (HX.out.below hb)
        have HY' := Lib.hid (HY.out.below hb)
        have HB' := Lib.hid (aft_call HB.out hb)
        clear HX HY HB hb
        have HX := HX'
        clear HX'
        have HY := HY'
        clear HY'
        have HB := HB'
        clear HB'
        go_wp2_with fail
        refine hK.out _ _ ?_ (fun hHeld => ?_)
        · exact ⟨HX.out.cell, HY.out.cell⟩
        clear hK K
        try simp only [Act.put, List.setIfInBounds_toArray, List.set_cons_zero, List.set_cons_succ]
        refine wpAnyH_take (i := 29) (oi := ⟨some 117, _, _, _, _, _⟩) (v := ?v29) rfl (by kernel_rfl) (by kernel_rfl) (by kernel_rfl) (fun _ _ _ h => h) (Or.inl ⟨by rfl, ?hy29⟩) (by assumption) ?_
        case hy29 => (intro w hSw; (try dsimp only at hSw); go_simp; try with_reducible rfl)
        try simp only [Act.put, List.setIfInBounds_toArray, List.set_cons_zero, List.set_cons_succ]
        refine wpAnyH_take (i := 30) (oi := ⟨some 4, _, _, _, _, _⟩) (v := ?v30) rfl (by kernel_rfl) (by kernel_rfl) (by kernel_rfl) (fun _ _ _ h => h) (Or.inl ⟨by rfl, ?hy30⟩) (by assumption) ?_
        case hy30 => (intro w hSw; (try dsimp only at hSw); go_simp; try with_reducible rfl)
        try simp only [Act.put, List.setIfInBounds_toArray, List.set_cons_zero, List.set_cons_succ]
        refine wpAnyH_done (by kernel_rfl) ?_ _
        go_wp2_with fail
        exact bodyPost_ret (v := .bool true) (by simp [results, Try.results4, go_sem]) rfl ⟨rfl, HB.out⟩

theorem natBack_walk (A0 : Option Addr) (n0 c0 : Nat) (l0 : List Int) (A1 : Option Addr) (n1 c1 : Nat) (l1 : List Int) (w : World) (h0 : InI .u8 1 1 w A0 n0 c0 l0) (h1 : InI .u8 1 1 w A1 n1 c1 l1) :
    Calls Try.prog 4 #[.slice A0 n0 c0, .slice A1 n1 c1] w fun e w' => e = .returned (.bool true) ∧ Below w.heap.size w w' :=
  natBack_walk0 A0 n0 c0 _ A1 n1 c1 _ w (bat_in h0) h0.le (bat_in h1) h1.le
end Go.Proofs.Ytijbhbjenddiaaa
