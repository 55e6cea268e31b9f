/-
  Walks and plain laws.
-/
import Derived.Test.YtfgnleoaibcegaaGreatXAT
set_option linter.unusedVariables false
set_option linter.unusedSimpArgs false
namespace Go.Proofs.YtfgnleoaibcegaaGreat

open Go.RowKit

structure CkIs (x X k L r : Nat) (D : List Nat) : Prop where
  k18 : k ≤ 18
  kL : k ≤ L
  rlt : r < 10 ^ (18 - k)
  tx : TxIs x L (r + 10 ^ (18 - k) * X) D
theorem CkIs.start {x X L r Y : Nat} {D : List Nat} (h : TxIs x L Y D) (hY : r + 1000000000000000000 * X = Y) (hr : r < 1000000000000000000) : CkIs x X 0 L r D :=
  ⟨by omega, by omega, hr, by show TxIs x L (r + 1000000000000000000 * X) D; rw [hY]; exact h⟩
theorem CkIs.next {x X k L r : Nat} {D : List Nat} (h : CkIs x X k L r D) (hk : k < 18) (hg : 0 < r ∨ 0 < X ∨ L = 0) : CkIs x X (k + 1) (L + 1) (r / 10) (D ++ [r % 10 + 48]) := by
  obtain ⟨e1, e2⟩ := chunk_step (r := r) (X := X) hk
  have h1 := h.tx.next (by
    rcases hg with h1 | h1 | h1
    · exact .inl (by omega)
    · exact .inl (Nat.lt_of_lt_of_le (Nat.mul_pos (Nat.pow_pos (by omega)) h1) (Nat.le_add_left _ _))
    · exact .inr h1)
  rw [e1, e2] at h1
  refine ⟨by omega, by have := h.kL; omega, ?_, h1⟩
  have h2 := h.rlt
  rw [show 18 - k = (18 - (k + 1)) + 1 by omega, Nat.pow_succ] at h2
  exact (Nat.div_lt_iff_lt_mul (by omega)).2 h2
theorem CkIs.stop {x X k L r : Nat} {D : List Nat} (h : CkIs x X k L r D) (hs : k = 18 ∨ (r = 0 ∧ X = 0 ∧ 0 < L)) : 0 < L ∧ TxIs x L X D := by
  have ht := h.tx
  have hr := h.rlt
  have hk := h.kL
  rcases hs with rfl | ⟨rfl, rfl, hL⟩
  · have hr0 : r = 0 := by simp at hr; exact hr
    subst hr0
    simp at ht
    exact ⟨by omega, ht⟩
  · simp at ht
    exact ⟨hL, ht⟩

def maxBits : Nat := 70368744177664
theorem maxBits_eq : maxBits = 70368744177664 := rfl
structure TlRel (w0 : World) (x X L : Nat) (D : List Nat) (v : Value) (A : Option Addr) (n c : Nat) (wr : World) : Prop where
  own : wr.ownsRow w0.heap.size 5 1 v L (bv D)
  td : Td w0.heap.size wr A n c (digs B64 X)
  bel : Below w0.heap.size w0 wr
  nn : n ≤ 1099511627776
  xl : x < 2 ^ maxBits
theorem TlRel.append {w0 wr w1 : World} {x X L d n c : Nat} {D : List Nat} {v v1 u : Value} {A : Option Addr} {t : TypeId} (h : TlRel w0 x X L D v A n c wr) (ho : w1.ownsRow w0.heap.size 5 1 v1 (L + 1) (bv D ++ [.int .u8 (d : Int)])) (hg : (wr.alloc (.cells #[u] t)).grownBy w1 v.ownBlock) :
    TlRel w0 x X (L + 1) (D ++ [d]) v1 A n c w1 := by
  have hb1 : Below wr.heap.size wr (wr.alloc (.cells #[u] t)) := (Below.refl _ _).alloc (Nat.le_refl _) _
  have hbs := h.bel.size
  refine ⟨by rw [bv_append]; exact ho, (h.td.below hb1).grown (h.own.alloc _) hg, (h.bel.alloc hbs _).grown hg (by simp; omega) (fun k hk => (h.own.lt k hk).1), h.nn, h.xl⟩

set_option maxRecDepth 100000 in
set_option maxHeartbeats 2000000 in
theorem text_any (A : Option Addr) (n c x : Nat) (w : World) (hx : DAt B64 w A n c x) (hn : n ≤ 1099511627776) :
    Calls Tryz.prog 78 #[.agg #[.slice A n c]] w fun e w' => e = .returned (.string (strB (txt x))) ∧ Below w.heap.size w w' := by
  have hx1 := hx.below ((Below.refl _ _).alloc (Nat.le_refl _) (.cells #[.slice A n c] 26))
  have hxl : x < 2 ^ maxBits := by
    have h1 := hx.lt two_le_B64
    rw [B64_pow_two] at h1
    exact Nat.lt_of_lt_of_le h1 (Nat.pow_le_pow_right (by omega) (by rw [maxBits_eq]; omega))
  obtain ⟨i0, hi0, hz0, hz1, hz2⟩ := byte_parts
  have hfd : ∀ (w : World) (A : Option Addr) (m c : Nat), (Instr.field 26 (.agg #[.slice A m c]) 0).run Tryz.prog w = .ok (.slice A m c) w := fun _ _ _ _ => by kernel_rfl
  have HXL := Lib.hid hxl
  clear hx hxl
  go_enter Tryz.func78, Tryz.ntmps78
  go_wp2_with fail
  refine (clone_td A n c x _ hx1 hn).mono ?_
  rintro e w1 ⟨A1, c1, rfl, htd, hb1⟩
  have hb0 : Below w.heap.size w (w.alloc (.cells #[.slice A n c] 26)) := (Below.refl _ _).alloc (Nat.le_refl _) _
  have hr0 : TlRel w x x 0 [] (.slice none 0 0) A1 n c1 w1 := ⟨w1.ownsRow_nil _ _ _, ⟨htd.len, htd.cap, htd.room, by
    rcases htd.at_ with h | ⟨g, h1, h2, h3⟩
    · exact .inl h
    · exact .inr ⟨g, h1, by simp at h2; omega, h3⟩⟩, hb0.trans (hb1.mono (by simp)), hn, HXL.out⟩
  have HR0 := Lib.hid hr0
  clear htd hb0 hb1 hx1 hr0
  go_wp2_with fail
  go_loopg [3, 4] x (fun X bq dq wr => ∃ (Av : Option Addr) (cv L : Nat) (D : List Nat) (A : Option Addr) (n c : Nat), bq = .slice Av L cv ∧ dq = .slice A n c ∧ TxIs x L X D ∧ (L = 0 ∨ 0 < X) ∧ TlRel w x X L D (.slice Av L cv) A n c wr)
  case atStart => exact ⟨_, _, 0, [], _, _, _, rfl, rfl, TxIs.start x, .inl rfl, HR0.out⟩
  case round =>
    clear HR0
    obtain ⟨Av, cv, L, D, A, n, c, rfl, rfl, hT, hL, hr⟩ := hrel
    have hsm := small_td w A (digs B64 gk) n c gk 1000000000000000000 wr hr.td hr.bel (digs_lt two_le_B64 gk) (val_digs two_le_B64 gk) (by rw [B64_eq]; omega) (by omega) hr.nn
    rw [show ((1000000000000000000 : Nat) : Int) = 1000000000000000000 from rfl] at hsm
    have hY : gk % 1000000000000000000 + 1000000000000000000 * (gk / 1000000000000000000) = gk := Nat.mod_add_div _ _
    have hrl : gk % 1000000000000000000 < 1000000000000000000 := Nat.mod_lt _ (by omega)
    generalize gk % 1000000000000000000 = r at *
    generalize gk / 1000000000000000000 = X at *
    have HSM := Lib.hid hsm
    have HT := Lib.hid hT
    have HR := Lib.hid hr
    clear hsm hT hr
    go_wp2_with fail
    refine HSM.out.mono ?_
    rintro e w2 ⟨rfl, hb2, hkp, L', htd2, hd2, hv2⟩
    have ho2 := hkp _ _ _ _ HR.out.own
    go_wp2_with fail
    refine (trim_td _ A L' n c X w2 htd2 hd2 hv2).mono ?_
    rintro e w3 ⟨m, rfl, hm, htd3, hb3⟩
    have hr3 : TlRel w x X L D (.slice Av L cv) A m c w3 := ⟨(KeepsRows.below hb3) _ _ _ _ ho2, htd3, hb2.trans (hb3.mono (by have := hb2.size; omega)), Nat.le_trans hm HR.out.nn, HXL.out⟩
    have HR3 := Lib.hid hr3
    have HM := Lib.hid (show m = 0 ↔ X = 0 by rw [← htd3.len]; exact digs_length_zero two_le_B64 X)
    have hmn : m ≤ 1099511627776 := hr3.nn
    have HC0 := Lib.hid (CkIs.start HT.out hY hrl)
    clear ho2 hb2 hkp htd2 hd2 hv2 htd3 hb3 hr3 HSM HR hrl
    go_wp2_with fail
    go_loopw [3, 5, 6] (fun bq rq kq wr => ∃ (Av : Option Addr) (cv L : Nat) (D : List Nat) (r k : Nat), bq = .slice Av L cv ∧ rq = .int .u64 (r : Int) ∧ kq = .int .i64 k ∧ CkIs x X k L r D ∧ TlRel w x X L D (.slice Av L cv) A m c wr) (fun _ _ kq _ => 18 - (intOf kq).toNat)
    case atStart => exact ⟨Av, cv, L, D, r, 0, rfl, rfl, rfl, HC0.out, HR3.out⟩
    case round =>
      clear HC0 HR3
      obtain ⟨Av, cv, L, D, r, k, rfl, rfl, rfl, hC, hr⟩ := hrel
      have hsm := hC.tx.small HXL.out
      rw [maxBits_eq] at hsm
      by_cases hgo : k < 18 ∧ (0 < r ∨ 0 < m ∨ L = 0)
      · obtain ⟨hk18, hor⟩ := hgo
        have hN := hC.next hk18 (by
          rcases hor with h | h | h
          · exact .inl h
          · exact .inr (.inl (Nat.pos_of_ne_zero fun hX => by have := HM.out.2 hX; omega))
          · exact .inr (.inr h))
        have HN := Lib.hid hN
        have HR := Lib.hid hr
        have f1 : (r : Int).tmod 10 = (r : Int) % 10 := Int.tmod_eq_emod_of_nonneg (by omega)
        have f2 : (r : Int).tdiv 10 = (r : Int) / 10 := Int.tdiv_eq_ediv_of_nonneg (by omega)
        have hrB := hC.rlt
        have hrB2 : r < 1000000000000000000 := Nat.lt_of_lt_of_le hrB (show 10 ^ (18 - k) ≤ 1000000000000000000 from (Nat.pow_le_pow_right (by omega) (by omega) : 10 ^ (18 - k) ≤ 10 ^ 18))
        have f3 : IntKind.u64.wrap (48 + (r : Int) % 10) = 48 + (r : Int) % 10 := by rw [IntKind.wrap_u64]; omega
        have f4 : IntKind.u8.wrap (48 + (r : Int) % 10) = 48 + (r : Int) % 10 := by rw [IntKind.wrap_u8]; omega
        have f5 : IntKind.u64.wrap ((r : Int) / 10) = (r : Int) / 10 := by rw [IntKind.wrap_u64]; omega
        have e1 : (48 + (r : Int) % 10) = (((r % 10 + 48) : Nat) : Int) := by omega
        have HE := Lib.hid e1
        have hcase : 0 < r ∨ (r = 0 ∧ 0 < m) ∨ (r = 0 ∧ m = 0 ∧ L = 0) := by omega
        have b1 : decide ((k : Int) < 18) = true := decide_eq_true (by omega)
        clear hN hr hC hor hrB hrB2 hY e1
        rcases hcase with h1 | ⟨h1, h2⟩ | ⟨h1, h2, h3⟩
        · have b2 : decide ((0 : Int) < (r : Int)) = true := decide_eq_true (by omega)
          go_wp2_with (at_builtin; refine wpList_append_any _ rfl (.tmp 33) (.tmp 38) _ rfl w.heap.size 5 i0 _ 1 1 Tryz.underlying22 hi0 hz0 hz1 hz2 rfl (by omega) (.slice Av L cv) L (bv D) rfl (HR.out.own.alloc _) (wr.heap.size + 1) (some ⟨wr.heap.size, 0, none⟩) 1 1 [.int .u8 (48 + (r : Int) % 10)] rfl (one_read _ _ _) (by simp [Value.oneCell']) (by unfold maxLen; omega) (by omega) (by have := HR.out.bel.size; simp; omega) ?_; intro v1 w4 hown4 hg4 hat4; have hr4 := Lib.hid (HR.out.append (by rw [← HE.out]; exact hown4) hg4); obtain ⟨Av1, cv1, rfl⟩ := own_slice hown4)
          refine ⟨⟨Av1, cv1, L + 1, _, r / 10, k + 1, rfl, by go_num, by go_num, HN.out, hr4.out⟩, ?_⟩
          simp [intOf]; omega
        · have b2 : decide ((0 : Int) < (r : Int)) = false := decide_eq_false (by omega)
          have c2 : decide (0 < r) = false := decide_eq_false (by omega)
          have d2 : ¬ 0 < r := by omega
          have b3 : decide ((0 : Int) < (m : Int)) = true := decide_eq_true (by omega)
          have c3 : decide (0 < m) = true := decide_eq_true (by omega)
          clear h1
          go_wp2_with (at_builtin; refine wpList_append_any _ rfl (.tmp 33) (.tmp 38) _ rfl w.heap.size 5 i0 _ 1 1 Tryz.underlying22 hi0 hz0 hz1 hz2 rfl (by omega) (.slice Av L cv) L (bv D) rfl (HR.out.own.alloc _) (wr.heap.size + 1) (some ⟨wr.heap.size, 0, none⟩) 1 1 [.int .u8 (48 + (r : Int) % 10)] rfl (one_read _ _ _) (by simp [Value.oneCell']) (by unfold maxLen; omega) (by omega) (by have := HR.out.bel.size; simp; omega) ?_; intro v1 w4 hown4 hg4 hat4; have hr4 := Lib.hid (HR.out.append (by rw [← HE.out]; exact hown4) hg4); obtain ⟨Av1, cv1, rfl⟩ := own_slice hown4)
          refine ⟨⟨Av1, cv1, L + 1, _, r / 10, k + 1, rfl, by go_num, by go_num, HN.out, hr4.out⟩, ?_⟩
          simp [intOf]; omega
        · have b2 : decide ((0 : Int) < (r : Int)) = false := decide_eq_false (by omega)
          have c2 : decide (0 < r) = false := decide_eq_false (by omega)
          have d2 : ¬ 0 < r := by omega
          have b3 : decide ((0 : Int) < (m : Int)) = false := decide_eq_false (by omega)
          have c3 : decide (0 < m) = false := decide_eq_false (by omega)
          have b4 : ((L : Int) == 0) = true := by simp; omega
          clear h1 h2 h3
          go_wp2_with (at_builtin; refine wpList_append_any _ rfl (.tmp 33) (.tmp 38) _ rfl w.heap.size 5 i0 _ 1 1 Tryz.underlying22 hi0 hz0 hz1 hz2 rfl (by omega) (.slice Av L cv) L (bv D) rfl (HR.out.own.alloc _) (wr.heap.size + 1) (some ⟨wr.heap.size, 0, none⟩) 1 1 [.int .u8 (48 + (r : Int) % 10)] rfl (one_read _ _ _) (by simp [Value.oneCell']) (by unfold maxLen; omega) (by omega) (by have := HR.out.bel.size; simp; omega) ?_; intro v1 w4 hown4 hg4 hat4; have hr4 := Lib.hid (HR.out.append (by rw [← HE.out]; exact hown4) hg4); obtain ⟨Av1, cv1, rfl⟩ := own_slice hown4)
          refine ⟨⟨Av1, cv1, L + 1, _, r / 10, k + 1, rfl, by go_num, by go_num, HN.out, hr4.out⟩, ?_⟩
          simp [intOf]; omega
      · have hstop : k = 18 ∨ (r = 0 ∧ m = 0 ∧ 0 < L) := by have := hC.k18; omega
        obtain ⟨hL0, hT⟩ := hC.stop (by
          rcases hstop with h | ⟨h1, h2, h3⟩
          · exact .inl h
          · exact .inr ⟨h1, HM.out.1 h2, h3⟩)
        have HT := Lib.hid hT
        have HR := Lib.hid hr
        have hkk := hC.k18
        have hlr : 0 < X → X < gk ∧ 0 < m := fun h => ⟨by omega, Nat.pos_of_ne_zero fun hm => by have := HM.out.1 hm; omega⟩
        clear hT hr hC hgo hY
        by_cases hX : 0 < X
        · have bm : ((m : Int) == 0) = false := by have := (hlr hX).2; simp; omega
          rcases hstop with h | ⟨h1, h2, h3⟩
          · have b1 : decide ((k : Int) < 18) = false := decide_eq_false (by omega)
            clear h
            go_wp2_with fail
            go_roundg X
            case measure => exact (hlr hX).1
            case rel => exact ⟨Av, cv, L, D, A, m, c, rfl, rfl, HT.out, .inr hX, HR.out⟩
          · exact absurd (hlr hX).2 (by omega)
        · have hX0 : X = 0 := by omega
          have hm0 : m = 0 := HM.out.2 hX0
          have hTx := HT.out
          rw [hX0] at hTx
          have hD := hTx.done hL0
          obtain ⟨g, cg, ev, hg, hB, hDl, hLc, hcm⟩ := Bw.of_own HR.out.own hL0
          injection ev with ev1 ev2 ev3
          subst ev1 ev3
          have bm : ((m : Int) == 0) = true := by simp; omega
          have HB := Lib.hid hB
          have HD := Lib.hid hD
          have HDL := Lib.hid hDl
          have b1 : decide ((k : Int) < 18) = false ∨ (decide ((k : Int) < 18) = true ∧ decide ((0 : Int) < (r : Int)) = false ∧ decide ((0 : Int) < (m : Int)) = false ∧ ((L : Int) == 0) = false ∧ decide (0 < r) = false ∧ decide (0 < m) = false ∧ ¬ 0 < r ∧ ¬ 0 < m) := by
            rcases hstop with h | ⟨h1, h2, h3⟩
            · exact .inl (decide_eq_false (by omega))
            · by_cases hk : k < 18
              · exact .inr ⟨decide_eq_true (by omega), decide_eq_false (by omega), decide_eq_false (by omega), by simp; omega, decide_eq_false (by omega), decide_eq_false (by omega), by omega, by omega⟩
              · exact .inl (decide_eq_false (by omega))
          clear hstop hX0 hm0 hTx hD hB hlr hkk hX
          rcases b1 with b1 | ⟨b1, b2, b3, b4, c2, c3, d2, d3⟩
          all_goals
            go_wp2_with fail
            refine (reverse_any g L cv D _ HB.out HDL.out hL0 (by omega)).mono ?_
            rintro e w5 ⟨rfl, hB5, hg5⟩
            have hcv := run_string_of_own w5 g L cv D.reverse hB5 (by rw [List.length_reverse]; exact HDL.out)
            have hb5 := HR.out.bel.grown hg5 HR.out.bel.size (fun k hk => by injection hk with hk; subst hk; exact hg)
            clear hB5 hg5
            go_wp2_with fail
            refine bodyPost_ret (v := .string (strB D.reverse)) (by simp [results, Tryz.results78, go_sem]) rfl ⟨?_, hb5⟩
            rw [HD.out]
            unfold txt
            rw [List.map_reverse]
end Go.Proofs.YtfgnleoaibcegaaGreat
