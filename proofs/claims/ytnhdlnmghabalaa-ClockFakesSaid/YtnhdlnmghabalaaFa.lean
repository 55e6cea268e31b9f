/-
  The walk of ClockFakes.
-/
import Derived.Test.YtnhdlnmghabalaaC5
import Derived.Test.YtnhdlnmghabalaaFr
set_option linter.unusedVariables false
set_option linter.unusedSimpArgs false
namespace Go.Proofs.Ytnhdlnmghabalaa
open Go.RowKit

structure FaRel (w0 : World) (f g : Nat) (now other : Int) (wr : World) : Prop where
  cf : Blk wr f 68 #[.int .i64 now]
  cg : Blk wr g 68 #[.int .i64 other]
  bel : Below w0.heap.size w0 wr
  bf : w0.heap.size ≤ f
  ne : f ≠ g
  rng : -9223372036854775808 ≤ now ∧ now ≤ 9223372036854775807

theorem FaRel.set_ {w0 wr : World} {f g : Nat} {now other x : Int} (h : FaRel w0 f g now other wr) (hx : -9223372036854775808 ≤ x ∧ x ≤ 9223372036854775807) : FaRel w0 f g x other (wr.setCell ⟨f, 0, none⟩ (.int .i64 x)) :=
  ⟨h.cf.set_ 0 _, h.cg.far (p := ⟨f, 0, none⟩) h.ne.symm _, h.bel.setCell h.bf _, h.bf, h.ne, hx⟩

theorem row_cell {w wr : World} {B g off n nf : Nat} {l : List Int} {k j : Nat} (hcells : ∀ i u, (l.map (Value.int .i64))[i]? = some u → w.cell? ⟨g, off + i, none⟩ = some u) (hg : g < B) (hb : Below B w wr) (hl : l.length = n * nf) (hk : k < n) (hj : j < nf) :
    wr.cell? ⟨g, off + (k * nf + j), none⟩ = some (.int .i64 (l.getD (k * nf + j) 0)) := by
  have h : k * nf + j < l.length := by
    rw [hl]
    have := Nat.mul_le_mul_right nf (show k + 1 ≤ n from hk)
    rw [Nat.add_mul] at this
    omega
  rw [hb.cell hg]
  refine hcells _ _ ?_
  rw [List.getElem?_map, List.getElem?_eq_getElem h]
  simp [List.getD_eq_getElem?_getD, h]

set_option maxRecDepth 100000 in
set_option maxHeartbeats 1000000 in
theorem clockFakes_walk (t other : Int) (A : Option Addr) (n c : Nat) (l : List Int) (w : World) (ht : (Lit.int .i64 t).wf = true) (ho : (Lit.int .i64 other).wf = true) (hin : InI .i64 16 2 w A n c l) :
    Calls Try.prog 6 #[.int .i64 t, .int .i64 other, .slice A n c] w fun e w' => e = .returned (.bool true) ∧ Below w.heap.size w w' := by
  have hn : n ≤ 17592186043904 := by have := hin.reach; have := hin.le; omega
  have hl : l.length = n * 2 := by have := hin.reads.1; simpa using this
  have hr := hin.reads
  have hwf := hin.wf
  have HL := Lib.hid hl
  have ht' := bounds_i64 ht
  have HW := Lib.hid hwf
  clear hin hl hwf
  go_enter Try.func6, Try.ntmps6
  go_wp2_with fail
  refine (newfake_any t _).mono ?_
  rintro e w1 ⟨rfl, hw1⟩
  go_wp2_with fail
  refine (newfake_any other _).mono ?_
  rintro e w2 ⟨rfl, hw2⟩
  have hx0 : FaRel w w.heap.size w1.heap.size t other w2 := by
    subst hw2; subst hw1
    exact ⟨(Blk.new _ _ _).alloc _, Blk.new _ _ _, ((Below.refl _ _).alloc (Nat.le_refl _) _).alloc (by simp) _, Nat.le_refl _, by simp, ht'⟩
  clear hw1 hw2
  generalize w1.heap.size = g at *
  generalize hf : w.heap.size = f at hx0 ⊢
  go_wp2_with fail
  go_loopw [9, 10] (fun M i wr => ∃ (k : Nat) (m : Int), k ≤ n ∧ k ≤ 200 ∧ i = .int .i64 k ∧ M = .int .i64 m ∧ FaRel w f g m other wr) (fun _ i _ => 200 - (intOf i).toNat)
  case atStart => exact ⟨0, t, by omega, by omega, rfl, rfl, hx0⟩
  case round =>
    clear hx0
    obtain ⟨k, m, hkn, hk3, rfl, rfl, hx⟩ := hrel
    have hf0 : wr.cell? ⟨f, 0, none⟩ = some (.int .i64 m) := hx.cf.cell 0
    have hg0 : wr.cell? ⟨g, 0, none⟩ = some (.int .i64 other) := hx.cg.cell 0
    have hff : wr.frozen? ⟨f, 0, none⟩ = false := hx.cf.frozen 0
    have hb := hx.bel
    by_cases hlt : k < n
    · by_cases hlt3 : k < 200
      · obtain ⟨ga, off, rfl, hg, hcells⟩ := hr.flat (by omega) (by omega)
        have hk0 : wr.cell? ⟨ga, off + k * 2, none⟩ = some (.int .i64 (l.getD (k * 2 + 0) 0)) := row_cell (j := 0) hcells hg hb HL.out hlt (by omega)
        have hk1 : wr.cell? ⟨ga, off + k * 2 + 1, none⟩ = some (.int .i64 (l.getD (k * 2 + 1) 0)) := row_cell (j := 1) hcells hg hb HL.out hlt (by omega)
        have hwx : (Lit.int .i64 (l.getD (k * 2 + 1) 0)).wf = true := HW.out _ (by
          have : k * 2 + 1 < l.length := by rw [HL.out]; omega
          rw [List.getD_eq_getElem?_getD, List.getElem?_eq_getElem this]; exact List.getElem_mem _)
        have hx1 := bounds_i64 hwx
        generalize l.getD (k * 2 + 1) 0 = x at *
        generalize l.getD (k * 2 + 0) 0 = y at *
        have HB := Lib.hid hb
        have HCE := Lib.hid hcells
        have HX := Lib.hid hx
        clear hb hcells
        have hmr := hx.rng
        go_wp2_with (first
          | (go_at_call 21; refine (fset_any f m x _ hf0 hff).mono ?_; rintro e w5 ⟨rfl, hw5⟩; have hxn := HX.out.set_ hx1; rw [hw5] at hxn; have hk1 : w5.cell? ⟨ga, off + k * 2 + 1, none⟩ = some (.int .i64 x) := by { rw [← hw5, World.cell?_setCell_other _ _ _ _ (by intro e; injection e; have := hx.bf; omega)]; exact hk1 }; clear hw5; have hf0 := hxn.cf.cell 0; simp at hf0; have hg0 := hxn.cg.cell 0; simp at hg0; clear HX hx; have HX := Lib.hid hxn; clear hxn)
          | (go_at_call 22; refine (fstep_any f m x _ hf0 hff hmr hx1).mono ?_; rintro e w5 ⟨rfl, hw5⟩; have hxn := HX.out.set_ (stepped_in m x hmr hx1); rw [hw5] at hxn; have hk1 : w5.cell? ⟨ga, off + k * 2 + 1, none⟩ = some (.int .i64 x) := by { rw [← hw5, World.cell?_setCell_other _ _ _ _ (by intro e; injection e; have := hx.bf; omega)]; exact hk1 }; clear hw5; have hf0 := hxn.cf.cell 0; simp at hf0; have hg0 := hxn.cg.cell 0; simp at hg0; clear HX hx; have HX := Lib.hid hxn; clear hxn)
          | (go_at_call 23; refine (rstep_any m x _ hmr hx1).mono ?_; rintro e w6 ⟨rfl, rfl⟩)
          | (go_at_call 24; with_reducible refine (fnow_any f _ _ hf0).mono ?_; rintro e w6 ⟨rfl, rfl⟩)
          | (go_at_call 24; with_reducible refine (fnow_any g _ _ hg0).mono ?_; rintro e w6 ⟨rfl, rfl⟩))
        all_goals
          go_roundw
          case rel => exact ⟨k + 1, _, by omega, by omega, by go_num, rfl, HX.out⟩
          case measure => simp [intOf]; omega
      · obtain rfl : k = 200 := by omega
        clear hr
        go_wp2_with (first
          | (go_at_call 24; with_reducible refine (fnow_any f _ _ hf0).mono ?_; rintro e w6 ⟨rfl, rfl⟩)
          | (go_at_call 12; refine (started_any _).mono ?_; rintro e w9 ⟨rfl, hb9⟩))
        go_ret
        exact ⟨rfl, hb.trans (hb9.mono hb.size)⟩
    · obtain rfl : k = n := by omega
      clear hr
      go_wp2_with (first
        | (go_at_call 24; with_reducible refine (fnow_any f _ _ hf0).mono ?_; rintro e w6 ⟨rfl, rfl⟩)
        | (go_at_call 12; refine (started_any _).mono ?_; rintro e w9 ⟨rfl, hb9⟩))
      go_ret
      exact ⟨rfl, hb.trans (hb9.mono hb.size)⟩
end Go.Proofs.Ytnhdlnmghabalaa
