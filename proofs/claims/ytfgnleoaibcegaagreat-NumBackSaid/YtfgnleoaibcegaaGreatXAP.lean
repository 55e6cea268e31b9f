/-
  Walks and plain laws.
-/
import Derived.Test.YtfgnleoaibcegaaGreatXAO
set_option linter.unusedVariables false
set_option linter.unusedSimpArgs false
namespace Go.Proofs.YtfgnleoaibcegaaGreat

open Go.RowKit

theorem left_top (A : Option Addr) (n c y s V : Nat) (hV : y * 2 ^ s = V) (hVl : V < B64 ^ n) (hVg : B64 ^ (n - 1) ≤ V) (hs : s < 64) (hn2 : 2 ≤ n) (hn : n ≤ 1099511627776) (w : World) (h : DAt B64 w A n c y) :
    Calls Tryz.prog 87 #[.agg #[.slice A n c], .int .i64 (s : Int)] w fun e w' => ∃ gv ov cv, e = .returned (.tuple #[.agg #[.slice (some ⟨gv, ov, none⟩) n cv], .bool true]) ∧ VIs w' gv ov n V ∧ Below w.heap.size w w' := by
  refine (left_any A n c y (s : Int) w h hn (by omega) (by omega)).mono ?_
  rintro e w' ⟨Av, nv, cv, rfl, hdv, hb⟩
  rw [leftV_pos (by omega), hV] at hdv
  rw [leftOk_near (by omega)]
  have h1 := hdv.le two_le_B64 hVl
  have hnv : nv = n := by
    rcases Nat.lt_or_ge nv n with h | h
    · exfalso
      have h2 := hdv.lt two_le_B64
      have h3 : B64 ^ nv ≤ B64 ^ (n - 1) := Nat.pow_le_pow_right (by decide) (by omega)
      omega
    · omega
  subst hnv
  obtain ⟨gv, ov, rfl, hgv, hvc⟩ := hdv.flat two_le_B64 (by omega)
  exact ⟨gv, ov, cv, rfl, ⟨hvc, hgv, hVl⟩, hb⟩
theorem left_up (A : Option Addr) (n c x s U : Nat) (hU : x * 2 ^ s = U) (hUl : U < B64 ^ (n + 1)) (hU0 : 0 < U) (hs : s < 64) (hn : n ≤ 1099511627776) (w : World) (h : DAt B64 w A n c x) :
    Calls Tryz.prog 87 #[.agg #[.slice A n c], .int .i64 (s : Int)] w fun e w' => ∃ Au m cu, e = .returned (.tuple #[.agg #[.slice Au m cu], .bool true]) ∧ DAt B64 w' Au m cu U ∧ 0 < m ∧ m ≤ n + 1 ∧ Below w.heap.size w w' := by
  refine (left_any A n c x (s : Int) w h hn (by omega) (by omega)).mono ?_
  rintro e w' ⟨Av, nv, cv, rfl, hdv, hb⟩
  rw [leftV_pos (by omega), hU] at hdv
  rw [leftOk_near (by omega)]
  have h1 := hdv.le two_le_B64 hUl
  have h2 := (hdv.zero_len two_le_B64)
  exact ⟨Av, nv, cv, rfl, hdv, by omega, h1, hb⟩

structure DvA (w0 : World) (A : Option Addr) (n c x : Nat) (A' : Option Addr) (n' c' y p gv ov cv V : Nat) (wr : World) : Prop where
  dm : DmRel w0 A n c x A' n' c' y wr
  bv : wr.cell? ⟨p, 0, none⟩ = some (.slice (some ⟨gv, ov, none⟩) n' cv)
  vi : VIs wr gv ov n' V
  h1 : w0.heap.size + 1 + 1 + 1 < p
  hp : p < wr.heap.size
section

variable {w0 wr w1 : World} {A A' : Option Addr} {n c x n' c' y p gv ov cv V : Nat}
theorem DvA.start (h : DmRel w0 A n c x A' n' c' y wr) (hv : VIs wr gv ov n' V) : DvA w0 A n c x A' n' c' y wr.heap.size gv ov cv V (wr.alloc (.cells #[.slice (some ⟨gv, ov, none⟩) n' cv] 26)) := by
  have hb : Below wr.heap.size wr (wr.alloc (.cells #[.slice (some ⟨gv, ov, none⟩) n' cv] 26)) := (Below.refl _ _).alloc (Nat.le_refl _) _
  have := h.sz
  exact ⟨h.below hb, (Blk.new wr 26 #[.slice (some ⟨gv, ov, none⟩) n' cv]).cell 0, ⟨fun i hi => (hb.cell (by simpa using hv.lt)).trans (hv.cells i hi), Nat.lt_of_lt_of_le hv.lt hb.size, hv.small⟩, by omega, by simp⟩
theorem DvA.below (h : DvA w0 A n c x A' n' c' y p gv ov cv V wr) (hb : Below wr.heap.size wr w1) : DvA w0 A n c x A' n' c' y p gv ov cv V w1 := by
  have := h.hp
  have := hb.size
  exact ⟨h.dm.below hb, (hb.cell (by simpa using h.hp)).trans h.bv, ⟨fun i hi => (hb.cell (by simpa using h.vi.lt)).trans (h.vi.cells i hi), Nat.lt_of_lt_of_le h.vi.lt hb.size, h.vi.small⟩, h.h1, by omega⟩
theorem DvA.copied (h : DvA w0 A n c x A' n' c' y p gv ov cv V wr) {Au : Option Addr} {m cu N : Nat} {R D : List Nat} {w4 : World}
    (hg : ((wr.alloc (.cells #[.slice Au m cu] 26)).alloc (.cells (dva (List.replicate N 0)) 23)).grownBy w4 (some (wr.heap.size + 1))) (hr : Dg w4 (wr.heap.size + 1) R) :
    w4.cell? ⟨p, 0, none⟩ = some (.slice (some ⟨gv, ov, none⟩) n' cv) ∧ DvRel w0 A n c x A' n' c' y p gv ov cv V (wr.heap.size + 1) w4.heap.size R D (w4.alloc (.cells (dva D) 23)) := by
  have hb1 : Below wr.heap.size wr ((wr.alloc (.cells #[.slice Au m cu] 26)).alloc (.cells (dva (List.replicate N 0)) 23)) := ((Below.refl _ _).alloc (Nat.le_refl _) _).alloc (by simp) _
  have hs := hg.size
  simp at hs
  have hb2 : Below wr.heap.size ((wr.alloc (.cells #[.slice Au m cu] 26)).alloc (.cells (dva (List.replicate N 0)) 23)) w4 := ⟨hg.os, hg.tape, hg.output, hg.size, fun k hk => hg.block k (by simp; omega) (by intro e; injection e; omega)⟩
  have h4 := h.below (hb1.trans hb2)
  have hb3 : Below w4.heap.size w4 (w4.alloc (.cells (dva D) 23)) := (Below.refl _ _).alloc (Nat.le_refl _) _
  have h5 := h4.below hb3
  have hp := h.hp
  have hl := h.vi.lt
  exact ⟨h4.bv, h5.dm, h5.bv, h5.vi, hr.below hb3 (by omega), Dg.new _ _, h.h1, by omega, by omega, by omega⟩
end

set_option maxRecDepth 100000 in
set_option maxHeartbeats 2000000 in
theorem divmod_walk (A : Option Addr) (n c x : Nat) (gy oy n' c' y d s V U : Nat) (ci : Int) (w : World) (hx : DAt B64 w A n c x) (hy : DAt B64 w (some ⟨gy, oy, none⟩) n' c' y) (hn : n ≤ 1099511627776) (hn' : n' ≤ 1099511627776) (hn2 : 2 ≤ n') (hnn : n' ≤ n) (hs64 : s < 64) (hVg : B64 ^ (n' - 1) ≤ V) (hUV : U < V * B64 ^ (n + 1 - n'))
    (hcmp : ∀ wq, DAt B64 wq A n c x → DAt B64 wq (some ⟨gy, oy, none⟩) n' c' y → Calls Tryz.prog 48 #[.agg #[.slice A n c], .agg #[.slice (some ⟨gy, oy, none⟩) n' c']] wq fun e w' => e = .returned (.int .i64 ci) ∧ Below wq.heap.size wq w') (hci : ¬ ci < 0)
    (hgy : gy < w.heap.size) (hyc0 : w.cell? ⟨gy, oy + (n' - 1), none⟩ = some (.int .u64 (d : Int)))
    (hlz : ∀ wq, Calls Tryz.prog 96 #[.int .u64 (d : Int)] wq fun e w' => e = .returned (.int .i64 (s : Int)) ∧ wq = w')
    (hly : ∀ wq, DAt B64 wq (some ⟨gy, oy, none⟩) n' c' y → Calls Tryz.prog 87 #[.agg #[.slice (some ⟨gy, oy, none⟩) n' c'], .int .i64 (s : Int)] wq fun e w' => ∃ gv ov cv, e = .returned (.tuple #[.agg #[.slice (some ⟨gv, ov, none⟩) n' cv], .bool true]) ∧ VIs w' gv ov n' V ∧ Below wq.heap.size wq w')
    (hlx : ∀ wq, DAt B64 wq A n c x → Calls Tryz.prog 87 #[.agg #[.slice A n c], .int .i64 (s : Int)] wq fun e w' => ∃ Au m cu, e = .returned (.tuple #[.agg #[.slice Au m cu], .bool true]) ∧ DAt B64 w' Au m cu U ∧ 0 < m ∧ m ≤ n + 1 ∧ Below wq.heap.size wq w') :
    Calls Tryz.prog 45 #[.agg #[.slice A n c], .agg #[.slice (some ⟨gy, oy, none⟩) n' c']] w fun e w' => ∃ A3 n3 c3 A4 n4 c4, e = .returned (.tuple #[.agg #[.slice A3 n3 c3], .agg #[.slice A4 n4 c4], .bool true]) ∧ DAt B64 w' A3 n3 c3 (U / V) ∧ DAt B64 w' A4 n4 c4 (U % V / 2 ^ s) ∧ Below w.heap.size w w' := by
  have HR0 := Lib.hid (DmRel.start hx hy)
  have hz0 : ((n' : Int) == 0) = false := by simp; omega
  have hz1 : ((n' : Int) == 1) = false := by simp; omega
  have e1 : ((n' : Int) - 1).toNat = n' - 1 := by omega
  have e2 : (0 : Int) ≤ (n' : Int) - 1 := by omega
  have e3 : (n' : Int) - 1 < (n' : Int) := by omega
  have HCMP := Lib.hid hcmp; have HLZ := Lib.hid hlz; have HLY := Lib.hid hly; have HLX := Lib.hid hlx
  have HYC := Lib.hid hyc0
  clear hx hy hcmp hlz hly hlx hyc0
  go_enter Tryz.func45, Tryz.ntmps45
  go_wp2_with fail
  refine (HCMP.out _ HR0.out.dx HR0.out.dy).mono ?_
  rintro e w1 ⟨rfl, hb1⟩
  have hr := HR0.out.below hb1
  have bby := hr.by_
  have hyc1 := (hr.bel.cell (p := ⟨gy, oy + (n' - 1), none⟩) hgy).trans HYC.out
  have HR1 := Lib.hid hr
  clear HR0 HCMP HYC hb1 hr
  go_wp2_with fail
  refine (HLZ.out _).mono ?_
  rintro e w2 ⟨rfl, rfl⟩
  clear hyc1 HLZ hz0 hz1 e1 e2 e3
  go_wp2_with fail
  refine (HLY.out _ HR1.out.dy).mono ?_
  rintro e w2 ⟨gv, ov, cv, rfl, hvi, hb2⟩
  have hr2 := DvA.start (cv := cv) (HR1.out.below hb2) hvi
  have bx := hr2.dm.bx
  have HR2 := Lib.hid hr2
  clear bby HR1 hb2 hr2 HLY hvi
  go_wp2_with fail
  refine (HLX.out _ HR2.out.dm.dx).mono ?_
  rintro e w3 ⟨Au, m, cu, rfl, hdu, hm0, hmn, hb3⟩
  have hr3 := HR2.out.below hb3
  have hW : Below w3.heap.size w3 ((w3.alloc (.cells #[.slice Au m cu] 26)).alloc (.cells (dva (List.replicate (n + 1) 0)) 23)) := ((Below.refl _ _).alloc (Nat.le_refl _) _).alloc (by simp) _
  have bu := ((Blk.new w3 26 #[.slice Au m cu]).alloc (.cells (dva (List.replicate (n + 1) 0)) 23)).cell 0
  have bx : (w3.alloc (.cells #[.slice Au m cu] 26)).cell? ⟨w.heap.size, 0, none⟩ = some (.slice A n c) := (hr3.below ((Below.refl _ _).alloc (Nat.le_refl _) _)).dm.bx
  have hmk1 := run_make_digits (n + 1) (by omega)
  rw [show ((n + 1 : Nat) : Int) = (n : Int) + 1 by omega] at hmk1
  have hgn := Dg.new (w3.alloc (.cells #[.slice Au m cu] 26)) (List.replicate (n + 1) 0)
  rw [World.size_alloc] at hgn
  obtain ⟨w4, hcp, hdg, hgr⟩ := run_copy_digits _ (w3.heap.size + 1) (n + 1) Au m cu U (hdu.below hW) hm0 hmn hgn
  obtain ⟨K, hK⟩ : ∃ K, K = n + 1 - n' := ⟨_, rfl⟩
  obtain ⟨bv4, hr4⟩ := hr3.copied (D := List.replicate K 0) hgr hdg
  have hmk2 := run_make_digits K (by omega) w4
  rw [show ((K : Nat) : Int) = (n : Int) + 1 - (n' : Int) by omega] at hmk2
  rw [← hK] at hUV
  have hV0 : 0 < V := Nat.lt_of_lt_of_le (Nat.pow_pos (by decide)) hVg
  have hq0 : QrIs U V (n + 1) K K (List.replicate K 0) (digs B64 U ++ List.replicate (n + 1 - m) 0) := QrIs.start hUV (by have := hdu.len; simp; omega) (fun d hd => by
    rcases List.mem_append.1 hd with h | h
    · exact digs_lt two_le_B64 U d h
    · rw [List.eq_of_mem_replicate h]; decide) (by rw [val_append, val_replicate, val_digs two_le_B64]; rfl)
  have HQ0 := Lib.hid hq0
  have HV0 := Lib.hid hV0
  have HVG := Lib.hid hVg
  have HR4 := Lib.hid hr4
  have HK := Lib.hid hK
  have hKn : K + n' = n + 1 := by omega
  clear HR2 hb3 hr3 hW hgn hdg hgr hdu HLX hr4 hUV hV0 hVg hq0 hK
  go_wp2_with fail
  clear bu bx bv4 hcp hmk1 hmk2
  generalize digs B64 U ++ List.replicate (n + 1 - m) 0 = R0 at *
  generalize List.replicate K 0 = D0 at *
  generalize w4.alloc (.cells (dva D0) 23) = W at HR4 ⊢
  generalize w4.heap.size = g2 at *
  generalize w3.heap.size + 1 = g at *
  generalize w2.heap.size = p at *
  go_loopw [16] (fun jv wr => ∃ (i : Nat) (R D : List Nat), i ≤ K ∧ jv = .int .i64 ((i : Int) - 1) ∧ QrIs U V (n + 1) K i D R ∧ DvRel w A n c x (some ⟨gy, oy, none⟩) n' c' y p gv ov cv V g g2 R D wr) (fun jv _ => (intOf jv + 1).toNat)
  case atStart => exact ⟨K, R0, D0, by omega, by go_num, HQ0.out, HR4.out⟩
  case round =>
    clear HQ0 HR4
    rename_i wr
    obtain ⟨i, R, D, hi, rfl, hq, hr⟩ := hrel
    by_cases hi0 : 0 < i
    · obtain ⟨j, rfl⟩ : ∃ j, i = j + 1 := ⟨i - 1, by omega⟩
      have e1 : (((j + 1 : Nat) : Int) - 1) = (j : Int) := by omega
      rw [e1]
      have hst := step_any g j (n + 1 - j) gv ov n' cv V (val B64 R) R wr.drew hr.drew.dr hr.drew.vi (by have := hr.h3; omega) (by rw [hq.lenR]; omega) hq.digR (fun k hk => hq.top HV0.out hr.vi.small k (by omega)) rfl (hq.lt HV0.out) HVG.out hn2 hn'
      have hN := fun (R' : List Nat) => hq.next (j := j) (R' := R') HV0.out (by omega)
      have bv := hr.bv
      generalize val B64 R / (V * B64 ^ j) = qd at *
      generalize val B64 R % (V * B64 ^ j) = rm at *
      have hrd := hr.drew
      have HST := Lib.hid hst; have HN := Lib.hid hN; have HRD := Lib.hid hrd; have HLN := Lib.hid hq.lenR; have HLD := Lib.hid hq.lenD
      clear hst hN hrd hr hq
      have g1 : (0 : Int) ≤ (j : Int) + (n' : Int) + 1 := by omega
      have g2' : (j : Int) + (n' : Int) + 1 ≤ (n : Int) + 1 := by omega
      have g3 : (j : Int) ≤ (j : Int) + (n' : Int) + 1 := by omega
      have g4 : ((j : Int) + (n' : Int) + 1).toNat = j + n' + 1 := by omega
      have g5 : (j : Int) < (K : Int) := by omega
      have g6 : j + n' + 1 - j = n' + 1 := by omega
      have g7 : ¬ (n + 1 = j) := by omega
      have g8 : IntKind.i64.wrap ((j : Int) + (n' : Int)) = (j : Int) + (n' : Int) := IntWalk.i64_in _ (by omega)
      have g9 : IntKind.i64.wrap ((j : Int) + (n' : Int) + 1) = (j : Int) + (n' : Int) + 1 := IntWalk.i64_in _ (by omega)
      go_wp2_with fail
      go_region_held3 (fun w' => w'.cell? ⟨p, 0, none⟩ = some (.slice (some ⟨gv, ov, none⟩) n' cv)) (first | exact HR5.out.bv | exact (HR5.out.set_ j qd).bv | go_keep)
        (first | (go_at_call 97; refine (HST.out).mono ?_; rintro e w5 ⟨rfl, hgr5, R', hdg5, hdl5, hlen5, htop5, hval5⟩; have HR5 := Lib.hid (HRD.out.stepped hgr5 hdg5); have HQ5 := Lib.hid (HN.out R' (hlen5.trans HLN.out) hdl5 hval5); have hcq := HR5.out.dq.cell (i := j) (by rw [HLD.out]; omega); have hfq := HR5.out.dq.frozen j))
      go_wp2_with fail
      go_roundw
      case rel => exact ⟨j, R', _, by omega, by go_num, HQ5.out, HR5.out.set_ j qd⟩
      case measure => simp [intOf]
    · obtain rfl : i = 0 := by omega
      obtain ⟨v1, v2⟩ := hq.done
      have hdD := hq.digD; have hdR := hq.digR; have hlD := hq.lenD; have hlR := hq.lenR
      have HV1 := Lib.hid v1; have HV2 := Lib.hid v2; have HDD := Lib.hid hdD; have HDR := Lib.hid hdR; have HLD := Lib.hid hlD; have HLR := Lib.hid hlR
      have HR := Lib.hid hr
      clear v1 v2 hdD hdR hlD hlR hq hr
      go_wp2_with fail
      refine (trim_at g2 D K K _ HR.out.dq HDD.out HLD.out (Nat.le_refl _) (by unfold maxLen; omega)).mono ?_
      rintro e w5 ⟨A3, n3, c3, rfl, hd3, hb5⟩
      rw [HV1.out] at hd3
      have hr5 := HR.out.below hb5
      have HR5 := Lib.hid hr5
      clear HR hb5 hr5
      go_wp2_with fail
      refine (trim_at g R (n + 1) (n + 1) _ HR5.out.dr HDR.out HLR.out (Nat.le_refl _) (by unfold maxLen; omega)).mono ?_
      rintro e w6 ⟨A5, n5, c5, rfl, hd5, hb6⟩
      rw [HV2.out] at hd5
      have hr6 := HR5.out.below hb6
      have HR6 := Lib.hid hr6
      have hd3' := hd3.below hb6
      have hn5 : n5 ≤ n' := hd5.le two_le_B64 (Nat.lt_of_lt_of_le (Nat.mod_lt _ HV0.out) (Nat.le_of_lt HR6.out.vi.small))
      clear HR5 hb6 hr6 hd3
      go_wp2_with fail
      refine (right_any A5 n5 c5 (U % V) (s : Int) _ hd5 (by omega) (by omega)).mono ?_
      rintro e w7 ⟨A4, n4, c4, rfl, hd4, hb7⟩
      have hr7 := HR6.out.below hb7
      have HF := Lib.hid (hr7.dm.fin (hd3'.below hb7) hd4)
      have b4 := hr7.dm.b4
      have f4 := hr7.dm.f4
      have b5 := hr7.dm.b5
      have f5 := hr7.dm.f5
      clear HR6 hb7 hr7 hd3' hd4 hd5
      go_wp2_with fail
      have o1 := HF.out
      have s4 : ∀ v, ((w7.setCell ⟨w.heap.size + 1 + 1, 0, none⟩ v)).cell? ⟨w.heap.size + 1 + 1 + 1, 0, none⟩ = some (.slice none 0 0) := fun v => by
        rw [World.cell?_setCell_other _ _ _ _ (by intro e; injection e; omega)]; exact b5
      exact bodyPost_ret (v := .tuple #[.agg #[.slice A3 n3 c3], .agg #[.slice A4 n4 c4], .bool true]) (by simp [results, Tryz.results45, go_sem, b4, b5, s4]) rfl ⟨_, _, _, _, _, _, rfl, o1.1, by have := o1.2.1; simpa using this, o1.2.2⟩
end Go.Proofs.YtfgnleoaibcegaaGreat
