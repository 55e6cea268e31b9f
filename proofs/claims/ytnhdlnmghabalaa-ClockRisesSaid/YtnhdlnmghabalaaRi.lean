/-
  The walk of ClockRises.
-/
import Derived.Test.YtnhdlnmghabalaaC5
import Derived.Test.YtnhdlnmghabalaaFr
set_option linter.unusedVariables false
set_option linter.unusedSimpArgs false
namespace Go.Proofs.Ytnhdlnmghabalaa
open Go.RowKit

structure RiRel (w0 : World) (s a b : Nat) (c : Value) (l : List Int) (k : Nat) (M ta tb last : Int) (over : Bool) (wr : World) : Prop where
  cl : ClampIs wr a (.iface 23 (.pointer (some ⟨s, 0, none⟩))) ta over
  cb : ClampIs wr b c tb over
  st : StepsAt wr w0.heap.size s l (min k (l.length - 1))
  bel : Below w0.heap.size w0 wr
  ba : w0.heap.size ≤ a
  bb : w0.heap.size ≤ b
  ne : a ≠ b
  m0 : 0 ≤ M
  om : over = decide (4611686018427387904 < M)
  ok : over = false → ta = M ∧ tb = M ∧ last = M

theorem late_max {M x : Int} {over : Bool} (om : over = decide (4611686018427387904 < M)) : late over x = decide (4611686018427387904 < max M x) ∧ late over (max M x) = late over x := by
  have h1 : late over x = decide (4611686018427387904 < max M x) := by
    rw [Bool.eq_iff_iff]; simp [late, om]; omega
  refine ⟨h1, ?_⟩
  rw [h1, Bool.eq_iff_iff]; simp [late, om]; omega

theorem RiRel.next {w0 wr w1 w2 : World} {s a b : Nat} {l : List Int} {k : Nat} {M ta tb last last' x : Int} {over : Bool} {c : Value}
    (h : RiRel w0 s a b c l k M ta tb last over wr) (hk : k < l.length)
    (h1 : ClampIs w1 a (.iface 23 (.pointer (some ⟨s, 0, none⟩))) (risen ta over x) (late over x)) (h2 : StepsAt w1 w0.heap.size s l (nextAt l (min k (l.length - 1)))) (h3 : Below w0.heap.size wr w1) (h4 : ClampIs w1 b c tb over)
    (h5 : ClampIs w2 b c (risen tb over (max M x)) (late over (max M x))) (h6 : w1.grownBy w2 (some b)) (hl : late over x = false → last' = max M x) :
    RiRel w0 s a b c l (k + 1) (max M x) (risen ta over x) (risen tb over (max M x)) last' (late over x) w2 := by
  obtain ⟨e1, e2⟩ := late_max (x := x) h.om
  have hM := h.m0
  have hb := h.bel.size
  have hb3 := h3.size
  refine ⟨h1.grown h6 (by simpa using h.ne), by rw [← e2]; exact h5, ?_, (h.bel.trans h3).trans (below_of_grown h6 h.bb (by omega)), h.ba, h.bb, h.ne, by omega, e1, fun hf => ?_⟩
  · have := h2.other h4 (by decide) (by decide) h6
    have e : nextAt l (min k (l.length - 1)) = min (k + 1) (l.length - 1) := by
      unfold nextAt
      rw [if_neg (by rintro rfl; simp at hk)]
      omega
    rwa [e] at this
  · have ho : over = false := by
      cases over
      · rfl
      · simp [late] at hf
    obtain ⟨q1, q2, q3⟩ := h.ok ho
    refine ⟨?_, ?_, hl hf⟩
    · rw [risen, hf, q1]; rfl
    · rw [risen, e2, hf, q2]; simp only [Bool.false_eq_true, if_false]; omega

theorem ri_true {w0 wr : World} {s a b : Nat} {l : List Int} {k : Nat} {M ta tb last x : Int} {over : Bool} {c : Value} (h : RiRel w0 s a b c l k M ta tb last over wr) (hL : late over x = true) :
    ansT (risen ta over x) (late over x) = 0 ∧ ansE (late over x) = 70 ∧ ansT (risen tb over (max M x)) (late over (max M x)) = 0 ∧ ansE (late over (max M x)) = 70 ∧ 4611686018427387904 < max M x := by
  obtain ⟨e1, e2⟩ := late_max (x := x) h.om
  rw [e2, hL]
  rw [hL] at e1
  exact ⟨rfl, rfl, rfl, rfl, of_decide_eq_true e1.symm⟩
theorem ri_false {w0 wr : World} {s a b : Nat} {l : List Int} {k : Nat} {M ta tb last x : Int} {over : Bool} {c : Value} (h : RiRel w0 s a b c l k M ta tb last over wr) (hL : late over x = false) :
    over = false ∧ ansT (risen ta over x) (late over x) = max M x ∧ ansE (late over x) = 0 ∧ ansT (risen tb over (max M x)) (late over (max M x)) = max M x ∧ ansE (late over (max M x)) = 0 ∧ max M x ≤ 4611686018427387904 ∧ last = M := by
  obtain ⟨e1, e2⟩ := late_max (x := x) h.om
  have ho : over = false := by
    cases over
    · rfl
    · simp [late] at hL
  obtain ⟨q1, q2, q3⟩ := h.ok ho
  rw [risen, risen, e2, hL]
  rw [hL] at e1
  have := of_decide_eq_false e1.symm
  refine ⟨ho, ?_, rfl, ?_, rfl, by omega, q3⟩
  · simp only [Bool.false_eq_true, if_false, ansT]; rw [q1]
  · simp only [Bool.false_eq_true, if_false, ansT]; rw [q2]; omega

theorem told_at {l : List Int} {k : Nat} (hk : k < l.length) : toldAt l (min k (l.length - 1)) = l.getD k 0 := by
  unfold toldAt
  rw [show min k (l.length - 1) = k from by omega]

theorem ri_start {w w1 w2 w3 w4 : World} {s n : Nat} {v : Value} {l : List Int} (hl : l.length = n) (hs0 : w.heap.size ≤ s) (hs1 : Blk w1 s 62 #[v, .int .i64 0]) (hs2 : w1.ownsRow w.heap.size 3 1 v n (ints l)) (hb1 : Below w.heap.size w w1)
    (hw2 : w1.alloc (.cells #[.iface 23 (.pointer (some ⟨s, 0, none⟩)), .int .i64 0, .bool false] 66) = w2) (hw3 : w2.alloc (.cells #[.int .i64 0] 68) = w3) (hw4 : w3.alloc (.cells #[.iface 51 (.pointer (some ⟨w2.heap.size, 0, none⟩)), .int .i64 0, .bool false] 66) = w4) :
    RiRel w s w1.heap.size w3.heap.size (.iface 51 (.pointer (some ⟨w2.heap.size, 0, none⟩))) l 0 0 0 0 0 false w4 := by
  have hsz := hb1.size
  have h2 : w2.heap.size = w1.heap.size + 1 := by rw [← hw2]; simp
  have h3 : w3.heap.size = w2.heap.size + 1 := by rw [← hw3]; simp
  have hst : StepsAt w1 w.heap.size s l 0 := ⟨⟨v, hs0, hs1, by rw [hl]; exact hs2, by
    rcases Nat.eq_zero_or_pos l.length with h | h
    · exact .inl (List.eq_nil_of_length_eq_zero h)
    · exact .inr h⟩⟩
  have b2 : Below w1.heap.size w1 w2 := by rw [← hw2]; exact (Below.refl _ _).alloc (Nat.le_refl _) _
  have b3 : Below w2.heap.size w2 w3 := by rw [← hw3]; exact (Below.refl _ _).alloc (Nat.le_refl _) _
  have b4 : Below w3.heap.size w3 w4 := by rw [← hw4]; exact (Below.refl _ _).alloc (Nat.le_refl _) _
  have c2 : ClampIs w2 w1.heap.size (.iface 23 (.pointer (some ⟨s, 0, none⟩))) 0 false := by rw [← hw2]; exact Blk.new _ _ _
  have c4 : ClampIs w4 w3.heap.size (.iface 51 (.pointer (some ⟨w2.heap.size, 0, none⟩))) 0 false := by rw [← hw4]; exact Blk.new _ _ _
  have c3 : ClampIs w3 w1.heap.size (.iface 23 (.pointer (some ⟨s, 0, none⟩))) 0 false := Blk.below c2 b3 (by omega)
  refine ⟨Blk.below c3 b4 (by omega), c4, ?_, ?_, hsz, by omega, by omega, by omega, by decide, fun _ => ⟨rfl, rfl, rfl⟩⟩
  · rw [show min 0 (l.length - 1) = 0 from by omega]
    exact ((hst.below b2).below b3).below b4
  · exact ((hb1.trans (b2.mono hsz)).trans (b3.mono (by omega))).trans (b4.mono (by omega))

set_option maxRecDepth 100000 in
set_option maxHeartbeats 1000000 in
theorem clockRises_walk (A : Option Addr) (n c : Nat) (l : List Int) (w : World) (hin : InI .i64 8 1 w A n c l) :
    Calls Try.prog 5 #[.slice A n c] w fun e w' => e = .returned (.bool true) ∧ Below w.heap.size w w' := by
  have hn : n ≤ 17592186043904 := by have := hin.reach; have := hin.le; omega
  have hl : l.length = n := by have := hin.reads.1; simpa using this
  have hr := hin.reads
  have hwf := hin.wf
  have HL := Lib.hid hl
  clear hin hl
  go_enter Try.func5, Try.ntmps5
  go_wp2_with fail
  refine (newsteps_any _ _ _ (ints l) _ hr (ints_one _) hn).mono ?_
  rintro e w1 ⟨s, v, rfl, hs0, hs1, hs2, hb1⟩
  go_wp2_with fail
  refine (newclamp_any 23 _ _).mono ?_
  rintro e w2 ⟨rfl, hw2⟩
  go_wp2_with fail
  refine (newfake_any _ _).mono ?_
  rintro e w3 ⟨rfl, hw3⟩
  go_wp2_with fail
  refine (newclamp_any 51 _ _).mono ?_
  rintro e w4 ⟨rfl, hw4⟩
  have hx0 := ri_start HL.out hs0 hs1 hs2 hb1 hw2 hw3 hw4
  clear hw2 hw3 hw4 hb1 hs0 hs1 hs2
  generalize w1.heap.size = a at *
  generalize w3.heap.size = b at *
  generalize w2.heap.size = fb at *
  go_wp2_with fail
  go_loopw [7, 8, 9, 10] (fun M last over i wr => ∃ (k : Nat) (m ta tb la : Int) (ov : Bool), k ≤ n ∧ k ≤ 300 ∧ i = .int .i64 k ∧ M = .int .i64 m ∧ last = .int .i64 la ∧ over = .bool ov ∧ RiRel w s a b (.iface 51 (.pointer (some ⟨fb, 0, none⟩))) l k m ta tb la ov wr) (fun _ _ _ i _ => 300 - (intOf i).toNat)
  case atStart => exact ⟨0, 0, 0, 0, 0, false, by omega, by omega, rfl, rfl, rfl, rfl, hx0⟩
  case round =>
    clear hx0
    obtain ⟨k, m, ta, tb, la, ov, hkn, hk3, rfl, rfl, rfl, rfl, hx⟩ := hrel
    by_cases hlt : k < n
    · by_cases hlt3 : k < 300
      · obtain ⟨g, off, rfl, hg, hcells⟩ := hr.flat (by omega) (by omega)
        obtain ⟨x, hxl⟩ : ∃ x, x = l.getD k 0 := ⟨_, rfl⟩
        have hcell : wr.cell? ⟨g, off + k, none⟩ = some (.int .i64 x) := by
          rw [hx.bel.cell hg]
          refine hcells k _ ?_
          rw [hxl, List.getElem?_map, List.getElem?_eq_getElem (by rw [HL.out]; exact hlt)]
          simp [List.getD_eq_getElem?_getD, HL.out, hlt]
        have hto : toldAt l (min k (l.length - 1)) = x := by rw [hxl]; exact told_at (by rw [HL.out]; exact hlt)
        have hm0 := hx.m0
        have HT := Lib.hid hto
        have HX := Lib.hid hxl
        have HC := Lib.hid hcells
        clear hto hxl hcells
        have hov := hx.om
        by_cases hmx : m < x
        · have hM : max m x = x := by omega
          cases hL : late ov x
          · obtain ⟨r0, r1, r2, r3, r4, r5, r6⟩ := ri_false hx hL
            rw [hM] at r3 r4 r5
            have HR1 := Lib.hid r1; have HR2 := Lib.hid r2; have HR3 := Lib.hid r3; have HR4 := Lib.hid r4; have HM := Lib.hid hM; have HV := Lib.hid hov; have HLa := Lib.hid hL
            clear r1 r2 r3 r4 hM hov hL
            subst r0 r6
            go_wp2_with (first
              | (go_at_call 15; refine (read_steps a s w.heap.size l _ ta _ _ hx.st (by rw [HL.out]; exact hn) hx.cl hx.ba).mono ?_; rw [HT.out, HR1.out, HR2.out]; rintro e w5 ⟨rfl, q1, q2, q3, q4⟩; have q5 := q4 b _ _ hx.cb hx.ne.symm (hx.st.ne_ hx.cb (by decide)); have hcell5 : w5.cell? ⟨g, off + k, none⟩ = some (.int .i64 x) := (q3.cell hg).trans hcell)
              | (go_at_call 17; refine (at_any b _ tb _ _ _ q5).mono ?_; rw [HR3.out, HR4.out]; rintro e w6 ⟨rfl, q6, q7⟩; have hcell6 : w6.cell? ⟨g, off + k, none⟩ = some (.int .i64 x) := q7.cell hcell5 (by simp; have := hx.bb; omega))
              | (go_at_call 14; refine (num_any _ _).mono ?_; rintro e w7 ⟨rfl, rfl⟩))
            go_roundw
            case rel =>
              refine ⟨k + 1, _, _, _, _, _, by omega, by omega, by go_num, ?_, rfl, ?_, RiRel.next hx (by rw [HL.out]; exact hlt) q1 q2 q3 q5 (by rw [HM.out]; exact q6) q7 (fun _ => HM.out.symm)⟩
              · rw [HM.out]
              · rw [HLa.out] <;> simp <;> omega
            case measure => simp [intOf]; omega
          · obtain ⟨r1, r2, r3, r4, r5⟩ := ri_true hx hL
            rw [hM] at r3 r4 r5
            have HR1 := Lib.hid r1; have HR2 := Lib.hid r2; have HR3 := Lib.hid r3; have HR4 := Lib.hid r4; have HM := Lib.hid hM; have HV := Lib.hid hov; have HLa := Lib.hid hL
            clear r1 r2 r3 r4 hM hov hL
            cases ov
            · have hgt : 4611686018427387904 < x := by
                have := HLa.out; simpa [late] using this
              have hgd : decide (4611686018427387904 < x) = true := by simpa using hgt
              go_wp2_with (first
                | (go_at_call 15; refine (read_steps a s w.heap.size l _ ta _ _ hx.st (by rw [HL.out]; exact hn) hx.cl hx.ba).mono ?_; rw [HT.out, HR1.out, HR2.out]; rintro e w5 ⟨rfl, q1, q2, q3, q4⟩; have q5 := q4 b _ _ hx.cb hx.ne.symm (hx.st.ne_ hx.cb (by decide)); have hcell5 : w5.cell? ⟨g, off + k, none⟩ = some (.int .i64 x) := (q3.cell hg).trans hcell)
                | (go_at_call 17; refine (at_any b _ tb _ _ _ q5).mono ?_; rw [HR3.out, HR4.out]; rintro e w6 ⟨rfl, q6, q7⟩; have hcell6 : w6.cell? ⟨g, off + k, none⟩ = some (.int .i64 x) := q7.cell hcell5 (by simp; have := hx.bb; omega))
                | (go_at_call 14; refine (num_any _ _).mono ?_; rintro e w7 ⟨rfl, rfl⟩))
              go_roundw
              case rel =>
                refine ⟨k + 1, _, _, _, _, _, by omega, by omega, by go_num, ?_, rfl, ?_, RiRel.next hx (by rw [HL.out]; exact hlt) q1 q2 q3 q5 (by rw [HM.out]; exact q6) q7 (fun h => by rw [HLa.out] at h; cases h)⟩
                · rw [HM.out]
                · rw [HLa.out] <;> simp <;> omega
              case measure => simp [intOf]; omega
            · go_wp2_with (first
                | (go_at_call 15; refine (read_steps a s w.heap.size l _ ta _ _ hx.st (by rw [HL.out]; exact hn) hx.cl hx.ba).mono ?_; rw [HT.out, HR1.out, HR2.out]; rintro e w5 ⟨rfl, q1, q2, q3, q4⟩; have q5 := q4 b _ _ hx.cb hx.ne.symm (hx.st.ne_ hx.cb (by decide)); have hcell5 : w5.cell? ⟨g, off + k, none⟩ = some (.int .i64 x) := (q3.cell hg).trans hcell)
                | (go_at_call 17; refine (at_any b _ tb _ _ _ q5).mono ?_; rw [HR3.out, HR4.out]; rintro e w6 ⟨rfl, q6, q7⟩; have hcell6 : w6.cell? ⟨g, off + k, none⟩ = some (.int .i64 x) := q7.cell hcell5 (by simp; have := hx.bb; omega))
                | (go_at_call 14; refine (num_any _ _).mono ?_; rintro e w7 ⟨rfl, rfl⟩))
              go_roundw
              case rel =>
                refine ⟨k + 1, _, _, _, _, _, by omega, by omega, by go_num, ?_, rfl, ?_, RiRel.next hx (by rw [HL.out]; exact hlt) q1 q2 q3 q5 (by rw [HM.out]; exact q6) q7 (fun h => by rw [HLa.out] at h; cases h)⟩
                · rw [HM.out]
                · rw [HLa.out] <;> simp <;> omega
              case measure => simp [intOf]; omega
        · have hM : max m x = m := by omega
          cases hL : late ov x
          · obtain ⟨r0, r1, r2, r3, r4, r5, r6⟩ := ri_false hx hL
            rw [hM] at r1 r3 r4 r5
            have HR1 := Lib.hid r1; have HR2 := Lib.hid r2; have HR3 := Lib.hid r3; have HR4 := Lib.hid r4; have HM := Lib.hid hM; have HV := Lib.hid hov; have HLa := Lib.hid hL
            clear r1 r2 r3 r4 hM hov hL
            subst r0 r6
            go_wp2_with (first
              | (go_at_call 15; refine (read_steps a s w.heap.size l _ ta _ _ hx.st (by rw [HL.out]; exact hn) hx.cl hx.ba).mono ?_; rw [HT.out, HR1.out, HR2.out]; rintro e w5 ⟨rfl, q1, q2, q3, q4⟩; have q5 := q4 b _ _ hx.cb hx.ne.symm (hx.st.ne_ hx.cb (by decide)); have hcell5 : w5.cell? ⟨g, off + k, none⟩ = some (.int .i64 x) := (q3.cell hg).trans hcell)
              | (go_at_call 17; refine (at_any b _ tb _ _ _ q5).mono ?_; rw [HR3.out, HR4.out]; rintro e w6 ⟨rfl, q6, q7⟩; have hcell6 : w6.cell? ⟨g, off + k, none⟩ = some (.int .i64 x) := q7.cell hcell5 (by simp; have := hx.bb; omega))
              | (go_at_call 14; refine (num_any _ _).mono ?_; rintro e w7 ⟨rfl, rfl⟩))
            go_roundw
            case rel =>
              refine ⟨k + 1, _, _, _, _, _, by omega, by omega, by go_num, ?_, rfl, ?_, RiRel.next hx (by rw [HL.out]; exact hlt) q1 q2 q3 q5 (by rw [HM.out]; exact q6) q7 (fun _ => HM.out.symm)⟩
              · rw [HM.out]
              · rw [HLa.out] <;> simp <;> omega
            case measure => simp [intOf]; omega
          · obtain ⟨r1, r2, r3, r4, r5⟩ := ri_true hx hL
            rw [hM] at r3 r4 r5
            have HR1 := Lib.hid r1; have HR2 := Lib.hid r2; have HR3 := Lib.hid r3; have HR4 := Lib.hid r4; have HM := Lib.hid hM; have HV := Lib.hid hov; have HLa := Lib.hid hL
            clear r1 r2 r3 r4 hM hov hL
            cases ov
            · have hgt : 4611686018427387904 < x := by
                have := HLa.out; simpa [late] using this
              have hgd : decide (4611686018427387904 < x) = true := by simpa using hgt
              go_wp2_with (first
                | (go_at_call 15; refine (read_steps a s w.heap.size l _ ta _ _ hx.st (by rw [HL.out]; exact hn) hx.cl hx.ba).mono ?_; rw [HT.out, HR1.out, HR2.out]; rintro e w5 ⟨rfl, q1, q2, q3, q4⟩; have q5 := q4 b _ _ hx.cb hx.ne.symm (hx.st.ne_ hx.cb (by decide)); have hcell5 : w5.cell? ⟨g, off + k, none⟩ = some (.int .i64 x) := (q3.cell hg).trans hcell)
                | (go_at_call 17; refine (at_any b _ tb _ _ _ q5).mono ?_; rw [HR3.out, HR4.out]; rintro e w6 ⟨rfl, q6, q7⟩; have hcell6 : w6.cell? ⟨g, off + k, none⟩ = some (.int .i64 x) := q7.cell hcell5 (by simp; have := hx.bb; omega))
                | (go_at_call 14; refine (num_any _ _).mono ?_; rintro e w7 ⟨rfl, rfl⟩))
              go_roundw
              case rel =>
                refine ⟨k + 1, _, _, _, _, _, by omega, by omega, by go_num, ?_, rfl, ?_, RiRel.next hx (by rw [HL.out]; exact hlt) q1 q2 q3 q5 (by rw [HM.out]; exact q6) q7 (fun h => by rw [HLa.out] at h; cases h)⟩
                · rw [HM.out]
                · rw [HLa.out] <;> simp <;> omega
              case measure => simp [intOf]; omega
            · go_wp2_with (first
                | (go_at_call 15; refine (read_steps a s w.heap.size l _ ta _ _ hx.st (by rw [HL.out]; exact hn) hx.cl hx.ba).mono ?_; rw [HT.out, HR1.out, HR2.out]; rintro e w5 ⟨rfl, q1, q2, q3, q4⟩; have q5 := q4 b _ _ hx.cb hx.ne.symm (hx.st.ne_ hx.cb (by decide)); have hcell5 : w5.cell? ⟨g, off + k, none⟩ = some (.int .i64 x) := (q3.cell hg).trans hcell)
                | (go_at_call 17; refine (at_any b _ tb _ _ _ q5).mono ?_; rw [HR3.out, HR4.out]; rintro e w6 ⟨rfl, q6, q7⟩; have hcell6 : w6.cell? ⟨g, off + k, none⟩ = some (.int .i64 x) := q7.cell hcell5 (by simp; have := hx.bb; omega))
                | (go_at_call 14; refine (num_any _ _).mono ?_; rintro e w7 ⟨rfl, rfl⟩))
              go_roundw
              case rel =>
                refine ⟨k + 1, _, _, _, _, _, by omega, by omega, by go_num, ?_, rfl, ?_, RiRel.next hx (by rw [HL.out]; exact hlt) q1 q2 q3 q5 (by rw [HM.out]; exact q6) q7 (fun h => by rw [HLa.out] at h; cases h)⟩
                · rw [HM.out]
                · rw [HLa.out] <;> simp <;> omega
              case measure => simp [intOf]; omega
      · clear HL hwf hr
        obtain rfl : k = 300 := by omega
        have hb := hx.bel
        have hd : decide (300 < n) = decide (300 < n) := rfl
        go_wp2_with (go_at_call 12; refine (started_any _).mono ?_; rintro e w9 ⟨rfl, hb9⟩)
        go_ret
        exact ⟨rfl, hb.trans (hb9.mono hb.size)⟩
    · obtain rfl : k = n := by omega
      have hb := hx.bel
      go_wp2_with (go_at_call 12; refine (started_any _).mono ?_; rintro e w9 ⟨rfl, hb9⟩)
      go_ret
      exact ⟨rfl, hb.trans (hb9.mono hb.size)⟩
end Go.Proofs.Ytnhdlnmghabalaa
