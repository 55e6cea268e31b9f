/-
  Walks and plain laws.
-/
import Derived.Test.YtfgnleoaibcegaaGreatXAM
import Derived.Laws.CopyOwn
set_option linter.unusedVariables false
set_option linter.unusedSimpArgs false
namespace Go.Proofs.YtfgnleoaibcegaaGreat

open Go.RowKit

def modOf (x y : Nat) : Nat := if y = 0 then 0 else x % y
def nz (y : Nat) : Bool := decide (0 < y)
theorem modOf_zero (x : Nat) : modOf x 0 = 0 := rfl
theorem modOf_pos {x y : Nat} (h : 0 < y) : modOf x y = x % y := if_neg (by omega)
theorem nz_zero : nz 0 = false := rfl
theorem nz_pos {y : Nat} (h : 0 < y) : nz y = true := decide_eq_true h

structure DmRel (w0 : World) (A : Option Addr) (n c x : Nat) (A' : Option Addr) (n' c' y : Nat) (wr : World) : Prop where
  dx0 : DAt B64 w0 A n c x
  dy0 : DAt B64 w0 A' n' c' y
  bx : wr.cell? ⟨w0.heap.size, 0, none⟩ = some (.slice A n c)
  by_ : wr.cell? ⟨w0.heap.size + 1, 0, none⟩ = some (.slice A' n' c')
  b4 : wr.cell? ⟨w0.heap.size + 1 + 1, 0, none⟩ = some (.slice none 0 0)
  f4 : wr.frozen? ⟨w0.heap.size + 1 + 1, 0, none⟩ = false
  b5 : wr.cell? ⟨w0.heap.size + 1 + 1 + 1, 0, none⟩ = some (.slice none 0 0)
  f5 : wr.frozen? ⟨w0.heap.size + 1 + 1 + 1, 0, none⟩ = false
  bel : Below w0.heap.size w0 wr
  sz : w0.heap.size + 1 + 1 + 1 + 1 ≤ wr.heap.size

section

variable {w0 wr w1 : World} {A A' : Option Addr} {n c x n' c' y : Nat}
theorem DmRel.dx (h : DmRel w0 A n c x A' n' c' y wr) : DAt B64 wr A n c x := h.dx0.below h.bel
theorem DmRel.dy (h : DmRel w0 A n c x A' n' c' y wr) : DAt B64 wr A' n' c' y := h.dy0.below h.bel
theorem DmRel.go {B : Nat} (h : DmRel w0 A n c x A' n' c' y wr) (hB : w0.heap.size + 1 + 1 + 1 + 1 ≤ B) (hb : Below B wr w1) : DmRel w0 A n c x A' n' c' y w1 := by
  have h4 := h.sz
  have h5 := hb.size
  exact ⟨h.dx0, h.dy0, (hb.cell (by simp; omega)).trans h.bx, (hb.cell (by simp; omega)).trans h.by_, (hb.cell (by simp; omega)).trans h.b4, (hb.frozen (by simp; omega)).trans h.f4, (hb.cell (by simp; omega)).trans h.b5, (hb.frozen (by simp; omega)).trans h.f5, h.bel.trans (hb.mono (by omega)), by omega⟩
theorem DmRel.below (h : DmRel w0 A n c x A' n' c' y wr) (hb : Below wr.heap.size wr w1) : DmRel w0 A n c x A' n' c' y w1 := h.go h.sz hb
theorem DmRel.start {w : World} (hx : DAt B64 w A n c x) (hy : DAt B64 w A' n' c' y) :
    DmRel w A n c x A' n' c' y ((((w.alloc (.cells #[.slice A n c] 26)).alloc (.cells #[.slice A' n' c'] 26)).alloc (.cells #[.slice none 0 0] 26)).alloc (.cells #[.slice none 0 0] 26)) := by
  have c0 := (((Blk.new w 26 #[.slice A n c]).alloc (.cells #[.slice A' n' c'] 26)).alloc (.cells #[.slice none 0 0] 26)).alloc (.cells #[.slice none 0 0] 26)
  have c1 := ((Blk.new (w.alloc (.cells #[.slice A n c] 26)) 26 #[.slice A' n' c']).alloc (.cells #[.slice none 0 0] 26)).alloc (.cells #[.slice none 0 0] 26)
  have c2 := (Blk.new ((w.alloc (.cells #[.slice A n c] 26)).alloc (.cells #[.slice A' n' c'] 26)) 26 #[.slice none 0 0]).alloc (.cells #[.slice none 0 0] 26)
  have c3 := (Blk.new (((w.alloc (.cells #[.slice A n c] 26)).alloc (.cells #[.slice A' n' c'] 26)).alloc (.cells #[.slice none 0 0] 26)) 26 #[.slice none 0 0])
  have hb : Below w.heap.size w ((((w.alloc (.cells #[.slice A n c] 26)).alloc (.cells #[.slice A' n' c'] 26)).alloc (.cells #[.slice none 0 0] 26)).alloc (.cells #[.slice none 0 0] 26)) :=
    ((((Below.refl _ _).alloc (Nat.le_refl _) _).alloc (by simp) _).alloc (by simp; omega) _).alloc (by simp; omega) _
  simp only [World.size_alloc] at c1 c2 c3
  exact ⟨hx, hy, c0.cell 0, c1.cell 0, c2.cell 0, c2.frozen 0, c3.cell 0, c3.frozen 0, hb, by simp⟩
theorem DmRel.fin (h : DmRel w0 A n c x A' n' c' y wr) {A3 A4 : Option Addr} {n3 c3 n4 c4 q r : Nat} (h3 : DAt B64 wr A3 n3 c3 q) (h4 : DAt B64 wr A4 n4 c4 r) :
    let w9 := (wr.setCell ⟨w0.heap.size + 1 + 1, 0, none⟩ (.slice A3 n3 c3)).setCell ⟨w0.heap.size + 1 + 1 + 1, 0, none⟩ (.slice A4 n4 c4)
    DAt B64 w9 A3 n3 c3 q ∧ DAt B64 w9 A4 n4 c4 r ∧ Below w0.heap.size w0 w9 := by
  have e : (wr.setCell ⟨w0.heap.size + 1 + 1, 0, none⟩ (.slice A3 n3 c3)).cell? ⟨w0.heap.size + 1 + 1 + 1, 0, none⟩ = some (.slice none 0 0) := by
    rw [World.cell?_setCell_other _ _ _ _ (by intro e; injection e; omega)]; exact h.b5
  exact ⟨(h3.put h.b4 _).put e _, (h4.put h.b4 _).put e _, (h.bel.setCell (by simp; omega) _).setCell (by simp; omega) _⟩
end

theorem clone_any (b off n c x : Nat) (w : World) (h : DAt B64 w (some ⟨b, off, none⟩) n c x) (hn : n ≤ 1099511627776) (hn0 : 0 < n) :
    Calls Tryz.prog 94 #[.slice (some ⟨b, off, none⟩) n c] w fun e w' => ∃ g c2, e = .returned (.slice (some ⟨g, 0, none⟩) n c2) ∧ w.heap.size ≤ g ∧ Dg w' g (digs B64 x) ∧ n ≤ c2 ∧ c2 ≤ maxLen ∧ Below w.heap.size w w' := by
  obtain ⟨ad, e, hb, hc⟩ := h.reads.2 hn0
  injection e with e
  subst e
  obtain ⟨i0, hi0⟩ : ∃ i0, Tryz.prog.info? 23 = some i0 := by
    have := info_digit
    cases hq : Tryz.prog.info? 23 with
    | none => rw [hq] at this; cases this
    | some i => exact ⟨i, rfl⟩
  have hi := info_digit
  rw [hi0] at hi
  simp at hi
  refine (Tryz.slices_Clone i0 (.int .u64 0) 1 8 hi0 hi.1 hi.2.1 hi.2.2 rfl (by omega) (fun w => by kernel_rfl) b off n c (dv (digs B64 x)) w (by have := h.reads.1; omega) (by unfold maxLen; omega) (by omega) (fun j u hu => by have := hc j u hu; rwa [Addr.add_lit] at this) (dv_one _)).mono ?_
  rintro e w' ⟨v', rfl, hown, hne, hbel⟩
  rcases hown.2 with ⟨rfl, _⟩ | ⟨g, c2, cur, rfl, hg, hh, h1, h2, h3, h4⟩
  · exact absurd rfl hne
  · refine ⟨g, c2, rfl, hg, ⟨cur.toList.drop (n * 1), ?_⟩, h1, h2, hbel⟩
    unfold Blk
    rw [← h4, List.take_append_drop]
    simpa using hh

set_option maxRecDepth 100000 in
set_option maxHeartbeats 2000000 in
theorem divmod_small (A : Option Addr) (n c x : Nat) (A' : Option Addr) (n' c' y : Nat) (w : World) (hx : DAt B64 w A n c x) (hy : DAt B64 w A' n' c' y) (hn : n ≤ 1099511627776) (hn' : n' ≤ 1099511627776) (hs : y = 0 ∨ x < y ∨ y < B64) :
    Calls Tryz.prog 45 #[.agg #[.slice A n c], .agg #[.slice A' n' c']] w fun e w' => ∃ A3 n3 c3 A4 n4 c4, e = .returned (.tuple #[.agg #[.slice A3 n3 c3], .agg #[.slice A4 n4 c4], .bool (nz y)]) ∧ DAt B64 w' A3 n3 c3 (x / y) ∧ DAt B64 w' A4 n4 c4 (modOf x y) ∧ Below w.heap.size w w' := by
  have hr0 := DmRel.start hx hy
  have HR0 := Lib.hid hr0
  rcases Nat.eq_zero_or_pos y with rfl | hy0
  · have hz : n' = 0 := (hy.zero_len two_le_B64).2 rfl
    subst hz
    rw [Nat.div_zero, modOf_zero, nz_zero]
    clear hx hy hr0 hs
    go_enter Tryz.func45, Tryz.ntmps45
    go_wp2_with fail
    exact bodyPost_ret (v := .tuple #[.agg #[.slice none 0 0], .agg #[.slice none 0 0], .bool false]) (by simp [results, Tryz.results45, go_sem]) rfl ⟨_, _, _, _, _, _, rfl, DAt.nil, DAt.nil, HR0.out.bel⟩
  · have hz : ((n' : Int) == 0) = false := by
      have := (hy.zero_len two_le_B64)
      simp; omega
    rw [modOf_pos hy0, nz_pos hy0]
    by_cases hlt : x < y
    · rw [Nat.div_eq_of_lt hlt, Nat.mod_eq_of_lt hlt]
      have hcmp : cmpI x y = -1 := by unfold cmpI; rw [if_pos hlt]
      clear hx hy hr0 hs
      go_enter Tryz.func45, Tryz.ntmps45
      go_wp2_with fail
      refine (cmp_any A n c x A' n' c' y _ HR0.out.dx HR0.out.dy hn hn').mono ?_
      rintro e w1 ⟨rfl, hb1⟩
      have hr := HR0.out.below hb1
      have bx := hr.bx
      have b4 := hr.b4
      have f4 := hr.f4
      have b5 := hr.b5
      have f5 := hr.f5
      rw [hcmp]
      have HR := Lib.hid hr
      have HF := Lib.hid (hr.fin (A3 := none) (n3 := 0) (c3 := 0) (A4 := A) (n4 := n) (c4 := c) DAt.nil hr.dx)
      clear HR0 hb1 hr
      go_wp2_with fail
      go_region
      go_wp2_with fail
      have o1 := HF.out
      have s4 : ∀ v, ((w1.setCell ⟨w.heap.size + 1 + 1, 0, none⟩ v)).cell? ⟨w.heap.size + 1 + 1 + 1, 0, none⟩ = some (.slice none 0 0) := fun v => by
        rw [World.cell?_setCell_other _ _ _ _ (by intro e; injection e; omega)]; exact b5
      exact bodyPost_ret (v := .tuple #[.agg #[.slice none 0 0], .agg #[.slice A n c], .bool true]) (by simp [results, Tryz.results45, go_sem, b4, b5, s4]) rfl ⟨_, _, _, _, _, _, rfl, DAt.drew o1.1, DAt.drew o1.2.1, o1.2.2.drew⟩
    · have hcmp : ¬ cmpI x y < 0 := by unfold cmpI; rw [if_neg hlt]; split <;> omega
      generalize hci : cmpI x y = ci at hcmp
      have hyB : y < B64 := by omega
      have hn1 : n' = 1 := by
        have h1 := hy.le two_le_B64 (k := 1) (by rw [Nat.pow_one]; exact hyB)
        have h2 := (hy.zero_len two_le_B64)
        omega
      subst hn1
      have hn0 : 0 < n := by have := (hx.zero_len two_le_B64); omega
      obtain ⟨gx, ox, rfl, -, -⟩ := hx.flat two_le_B64 hn0
      obtain ⟨gy, oy, rfl, hgy, hyc⟩ := hy.flat two_le_B64 (by omega)
      have hyc0 := hyc 0 (by omega)
      rw [Nat.pow_zero, Nat.div_one, Nat.mod_eq_of_lt hyB, Nat.add_zero] at hyc0
      clear hx hr0 hs hyc
      go_enter Tryz.func45, Tryz.ntmps45
      go_wp2_with fail
      refine (cmp_any _ n c x _ 1 c' y _ HR0.out.dx HR0.out.dy hn hn').mono ?_
      rintro e w1 ⟨rfl, hb1⟩
      have hr := HR0.out.below hb1
      have bx := hr.bx
      have bby := hr.by_
      rw [hci]
      clear HR0 hb1
      have HR := Lib.hid hr
      clear hr
      go_wp2_with fail
      refine (clone_any gx ox n c x _ HR.out.dx hn hn0).mono ?_
      rintro e w2 ⟨g, c2, rfl, hg, hdg, hc1, hc2, hb2⟩
      have hr2 := HR.out.below hb2
      have bby := hr2.by_
      have hyc2 : w2.cell? ⟨gy, oy, none⟩ = some (.int .u64 (y : Int)) := (hr2.bel.cell hgy).trans hyc0
      have HR2 := Lib.hid hr2
      clear bx hr2
      go_wp2_with fail
      refine (small_any w1 g (digs B64 x) n c2 x y w2 hdg hb2 hg HR.out.dx.len (digs_lt two_le_B64 x) (val_digs two_le_B64 x) hyB hy0 hn).mono ?_
      rintro e w3 ⟨rfl, hb3, L, hdg3, hl3, hd3, hv3⟩
      have hr3 := HR.out.below hb3
      have HR3 := Lib.hid hr3
      clear hr3 HR2 hdg bby hyc2 hb2
      generalize hrr : x % y = r at *
      have hrB : r < B64 := by rw [← hrr]; exact Nat.lt_trans (Nat.mod_lt _ hy0) hyB
      have HD3 := Lib.hid hd3; have HV3 := Lib.hid hv3
      have HRR := Lib.hid hrr
      clear hrr hd3 hv3
      go_wp2_with fail
      refine (trim_at g L n c2 w3 hdg3 HD3.out hl3 hc1 hc2).mono ?_
      rintro e w4 ⟨A3, n3, c3, rfl, hd4, hb4⟩
      rw [HV3.out] at hd4
      have hr4 := HR3.out.below hb4
      have HR4 := Lib.hid hr4
      clear hr4 hdg3
      go_wp2_with fail
      refine (of_any r hrB w4).mono ?_
      rintro e w5 ⟨A4, n4, c4, rfl, hd5, hb5⟩
      have hr5 := HR4.out.below hb5
      have b4 := hr5.b4
      have f4 := hr5.f4
      have b5 := hr5.b5
      have f5 := hr5.f5
      have HF := Lib.hid (hr5.fin (hd4.below hb5) hd5)
      clear hr5 hb5 hd5 hd4 hb4 hb3
      go_wp2_with fail
      have o1 := HF.out
      have s4 : ∀ v, ((w5.setCell ⟨w.heap.size + 1 + 1, 0, none⟩ v)).cell? ⟨w.heap.size + 1 + 1 + 1, 0, none⟩ = some (.slice none 0 0) := fun v => by
        rw [World.cell?_setCell_other _ _ _ _ (by intro e; injection e; omega)]; exact b5
      exact bodyPost_ret (v := .tuple #[.agg #[.slice A3 n3 c3], .agg #[.slice A4 n4 c4], .bool true]) (by simp [results, Tryz.results45, go_sem, b4, b5, s4]) rfl ⟨_, _, _, _, _, _, rfl, o1.1, by rw [HRR.out]; exact o1.2.1, o1.2.2⟩
end Go.Proofs.YtfgnleoaibcegaaGreat
