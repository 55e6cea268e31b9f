/-
  The walk of ClockClamps.
-/
import Derived.Test.YtnhdlnmghabalaaC6
import Derived.Test.YtnhdlnmghabalaaFa
set_option linter.unusedVariables false
set_option linter.unusedSimpArgs false
namespace Go.Proofs.Ytnhdlnmghabalaa
open Go.RowKit

structure ClRel (w0 : World) (k c x : Nat) (u n t : Int) (over : Bool) (wr : World) : Prop where
  ck : Blk wr k 29 #[.int .i64 u, .int .i64 n]
  cc : ClampIs wr c (.iface 27 (.pointer (some ⟨k, 0, none⟩))) t over
  cx : Blk wr x 40 #[.int .i64 t, .bool over]
  bel : Below w0.heap.size w0 wr
  bk : w0.heap.size ≤ k
  bc : w0.heap.size ≤ c
  bx : w0.heap.size ≤ x

/-- The same in a round, beside the look that was copied. -/
structure ClAt (w0 : World) (k c x o : Nat) (u n t : Int) (over : Bool) (tx : Int) (ox : Bool) (ly lx : Int) (wr : World) : Prop where
  ck : Blk wr k 29 #[.int .i64 u, .int .i64 n]
  cc : ClampIs wr c (.iface 27 (.pointer (some ⟨k, 0, none⟩))) t over
  cx : Blk wr x 40 #[.int .i64 tx, .bool ox]
  co : Blk wr o 42 #[.int .i64 ly, .int .i64 lx]
  bel : Below w0.heap.size w0 wr
  bk : w0.heap.size ≤ k
  bc : w0.heap.size ≤ c
  bx : w0.heap.size ≤ x

theorem ClRel.look {w0 wr : World} {k c x : Nat} {u n t : Int} {over : Bool} (h : ClRel w0 k c x u n t over wr) (ly lx : Int) :
    ClAt w0 k c x wr.heap.size u n t over t over ly lx (wr.alloc (.cells #[.int .i64 ly, .int .i64 lx] 42)) :=
  ⟨h.ck.alloc _, Blk.alloc h.cc _, h.cx.alloc _, Blk.new _ _ _, h.bel.alloc h.bel.size _, h.bk, h.bc, h.bx⟩
theorem ClRel.tick {w0 wr : World} {k c x : Nat} {u n t : Int} {over : Bool} (h : ClRel w0 k c x u n t over wr) (u' : Int) :
    ClRel w0 k c x u' n t over (wr.setCell ⟨k, 0, none⟩ (.int .i64 u')) :=
  ⟨h.ck.set_ 0 _, Blk.far h.cc (p := ⟨k, 0, none⟩) (Blk.ne_ h.cc h.ck (by decide)) _, h.cx.far (p := ⟨k, 0, none⟩) (h.cx.ne_ h.ck (by decide)) _, h.bel.setCell h.bk _, h.bk, h.bc, h.bx⟩
theorem ClAt.below {w0 wr w1 : World} {k c x o : Nat} {u n t tx ly lx : Int} {over ox : Bool} (h : ClAt w0 k c x o u n t over tx ox ly lx wr) (hb : Below wr.heap.size wr w1) : ClAt w0 k c x o u n t over tx ox ly lx w1 :=
  ⟨h.ck.below hb h.ck.lt, Blk.below h.cc hb h.cc.lt, h.cx.below hb h.cx.lt, h.co.below hb h.co.lt, h.bel.trans (hb.mono h.bel.size), h.bk, h.bc, h.bx⟩
theorem ClAt.read {w0 wr w1 : World} {k c x o : Nat} {u n t tx ly lx t' n' : Int} {over ox over' : Bool} (h : ClAt w0 k c x o u n t over tx ox ly lx wr)
    (h1 : ClampIs w1 c (.iface 27 (.pointer (some ⟨k, 0, none⟩))) t' over') (h2 : Blk w1 k 29 #[.int .i64 u, .int .i64 n']) (h3 : ∀ base, base ≤ c → base ≤ k → Below base wr w1) (h4 : ∀ g t cs, Blk wr g t cs → g ≠ c → g ≠ k → Blk w1 g t cs) :
    ClAt w0 k c x o u n' t' over' tx ox ly lx w1 :=
  ⟨h2, h1, h4 _ _ _ h.cx (h.cx.ne_ h.cc (by decide)) (h.cx.ne_ h.ck (by decide)), h4 _ _ _ h.co (h.co.ne_ h.cc (by decide)) (h.co.ne_ h.ck (by decide)), h.bel.trans (h3 _ h.bc h.bk), h.bk, h.bc, h.bx⟩
theorem ClAt.at_ {w0 wr w1 : World} {k c x o : Nat} {u n t tx ly lx t' : Int} {over ox over' : Bool} (h : ClAt w0 k c x o u n t over tx ox ly lx wr)
    (h1 : ClampIs w1 c (.iface 27 (.pointer (some ⟨k, 0, none⟩))) t' over') (h2 : wr.grownBy w1 (some c)) : ClAt w0 k c x o u n t' over' tx ox ly lx w1 :=
  ⟨h.ck.grown h2 (fun e => h.ck.ne_ h.cc (by decide) (by injection e)), h1, h.cx.grown h2 (fun e => h.cx.ne_ h.cc (by decide) (by injection e)), h.co.grown h2 (fun e => h.co.ne_ h.cc (by decide) (by injection e)), h.bel.trans (below_of_grown h2 h.bc h.bel.size), h.bk, h.bc, h.bx⟩
theorem ClAt.stored {w0 wr : World} {k c x o : Nat} {u n t tx ly lx : Int} {over ox : Bool} (h : ClAt w0 k c x o u n t over tx ox ly lx wr) :
    ClRel w0 k c x u n t over ((wr.setCell ⟨x, 0, none⟩ (.int .i64 t)).setCell ⟨x, 1, none⟩ (.bool over)) :=
  ⟨(h.ck.far (p := ⟨x, 0, none⟩) (h.ck.ne_ h.cx (by decide)) _).far (p := ⟨x, 1, none⟩) (h.ck.ne_ h.cx (by decide)) _, Blk.far (Blk.far h.cc (p := ⟨x, 0, none⟩) (Blk.ne_ h.cc h.cx (by decide)) _) (p := ⟨x, 1, none⟩) (Blk.ne_ h.cc h.cx (by decide)) _,
    (h.cx.set_ 0 _).set_ 1 _, (h.bel.setCell h.bx _).setCell h.bx _, h.bk, h.bc, h.bx⟩
theorem ClAt.back {w0 wr : World} {k c x o : Nat} {u n t ly lx : Int} {over : Bool} (h : ClAt w0 k c x o u n t over t over ly lx wr) : ClRel w0 k c x u n t over wr := ⟨h.ck, h.cc, h.cx, h.bel, h.bk, h.bc, h.bx⟩

set_option maxRecDepth 100000 in
set_option maxHeartbeats 1000000 in
theorem clockClamps_walk (A : Option Addr) (n c : Nat) (l : List Int) (w : World) (hin : InI .i64 16 2 w A n c l) :
    Calls Try.prog 4 #[.slice A n c] w fun e w' => e = .returned (.bool true) ∧ Below w.heap.size w w' := by
  have hn : n ≤ 17592186043904 := by have := hin.reach; have := hin.le; omega
  have hl : l.length = n * 2 := by have := hin.reads.1; simpa using this
  have hr := hin.reads
  have hwf := hin.wf
  have HL := Lib.hid hl
  have HW := Lib.hid hwf
  clear hin hl hwf
  go_enter Try.func4, Try.ntmps4
  go_wp2_with fail
  refine (newclamp_any 27 _ _).mono ?_
  rintro e w1 ⟨rfl, hw1⟩
  go_wp2_with fail
  refine (newclamp_nil _).mono ?_
  rintro e w2 ⟨rfl, rfl⟩
  have hk0 : w1.cell? ⟨w.heap.size, 1, none⟩ = some (.int .i64 0) := by rw [← hw1]; exact ((Blk.new w 29 _).alloc _).cell 1
  go_wp2_with (go_at_call 14; refine (num_any _ _).mono ?_; rintro e w3 ⟨rfl, rfl⟩)
  have hx0 : ClRel w w.heap.size (w.heap.size + 1) w1.heap.size 0 0 0 false (w1.alloc (.cells #[.int .i64 0, .bool false] 40)) := by
    subst hw1
    exact ⟨((Blk.new w 29 _).alloc _).alloc _, (by have := (Blk.new (w.alloc (.cells #[.int .i64 0, .int .i64 0] 29)) 66 #[.iface 27 (.pointer (some ⟨w.heap.size, 0, none⟩)), .int .i64 0, .bool false]).alloc (.cells #[.int .i64 0, .bool false] 40); simpa [ClampIs] using this), Blk.new _ _ _, (((Below.refl _ _).alloc (Nat.le_refl _) _).alloc (by simp) _).alloc (by simp; omega) _, Nat.le_refl _, by omega, by simp; omega⟩
  clear hk0 hw1
  generalize w1.alloc (.cells #[.int .i64 0, .bool false] 40) = W at hx0 ⊢
  generalize w1.heap.size = bx at *
  generalize hbc : w.heap.size + 1 = bc at *
  generalize hbk : w.heap.size = bk at hx0 ⊢
  clear hbk hbc
  go_loopw [9, 10] (fun M i wr => ∃ (k m : Nat) (u t : Int) (ov : Bool), k ≤ n ∧ k ≤ 300 ∧ m ≤ k ∧ i = .int .i64 k ∧ M = .int .i64 m ∧ ClRel w bk bc bx u m t ov wr) (fun _ i _ => 300 - (intOf i).toNat)
  case atStart => exact ⟨0, 0, 0, 0, false, by omega, by omega, by omega, rfl, rfl, hx0⟩
  case round =>
    clear hx0
    obtain ⟨k, m, u, t, ov, hkn, hk3, hmk, rfl, rfl, hx⟩ := hrel
    have hb := hx.bel
    by_cases hlt : k < n
    · by_cases hlt3 : k < 300
      · obtain ⟨ga, off, rfl, hg, hcells⟩ := hr.flat (by omega) (by omega)
        have hk0 : wr.cell? ⟨ga, off + k * 2, none⟩ = some (.int .i64 (l.getD (k * 2 + 0) 0)) := row_cell (j := 0) hcells hg hb HL.out hlt (by omega)
        have hk1 : wr.cell? ⟨ga, off + k * 2 + 1, none⟩ = some (.int .i64 (l.getD (k * 2 + 1) 0)) := row_cell (j := 1) hcells hg hb HL.out hlt (by omega)
        generalize l.getD (k * 2 + 1) 0 = x at *
        generalize l.getD (k * 2 + 0) 0 = y at *
        have HB := Lib.hid hb
        clear hcells hb
        have hkf : wr.frozen? ⟨bk, 0, none⟩ = false := hx.ck.frozen 0
        have hk00 : wr.cell? ⟨bk, 0, none⟩ = some (.int .i64 u) := hx.ck.cell 0
        have hklt := hx.ck.lt
        go_wp2_with fail
        · have hx1 := (hx.tick x).look y x
          refine (read_ticker bc bk x m t ov _ hx1.ck (by omega) (by omega) hx1.cc).mono ?_
          rintro e w5 ⟨rfl, q1, q2, q3, q4⟩
          have hx5 := hx1.read q1 q2 q3 q4
          clear q1 q2 q3 q4 hk0 hk1 hkf hk00
          rw [show (wr.setCell ⟨bk, 0, none⟩ (.int .i64 x)).heap.size = wr.heap.size from by simp [World.setCell]] at hx5
          have c1 : w5.cell? ⟨bx, 0, none⟩ = some (.int .i64 t) := hx5.cx.cell 0
          have c2 : w5.cell? ⟨bx, 1, none⟩ = some (.bool ov) := hx5.cx.cell 1
          have c3 : w5.cell? ⟨wr.heap.size, 1, none⟩ = some (.int .i64 x) := hx5.co.cell 1
          go_wp2_with fail
          refine (rat_any t x ov _).mono ?_
          rintro e w6 ⟨rfl, hb6⟩
          have hx6 := hx5.below hb6
          clear c1 c2 c3 hx5 hb6 hx1
          have d0 : w6.cell? ⟨bk, 1, none⟩ = some (.int .i64 ((m : Int) + 1)) := hx6.ck.cell 1
          have d1 : w6.cell? ⟨bx, 0, none⟩ = some (.int .i64 t) := hx6.cx.cell 0
          have d2 : w6.cell? ⟨bx, 1, none⟩ = some (.bool ov) := hx6.cx.cell 1
          have d3 : w6.frozen? ⟨bx, 0, none⟩ = false := hx6.cx.frozen 0
          have d4 : w6.frozen? ⟨bx, 1, none⟩ = false := hx6.cx.frozen 1
          have d5 : bk ≠ bx := hx6.ck.ne_ hx6.cx (by decide)
          have HX := Lib.hid hx6
          clear hx6 hx
          go_wp2_with (go_at_call 14; refine (num_any _ _).mono ?_; rintro e w7 ⟨rfl, rfl⟩)
          go_roundw
          case rel => exact ⟨k + 1, m + 1, x, _, _, by omega, by omega, by omega, by go_num, by go_num, by have := HX.out.stored; simpa using this⟩
          case measure => simp [intOf]; omega
        · have hx1 := hx.look y x
          refine (at_any bc _ t x ov _ hx1.cc).mono ?_
          rintro e w5 ⟨rfl, q1, q2⟩
          have hx5 := hx1.at_ q1 q2
          clear q1 q2 hk0 hk1 hkf hk00
          have c1 : w5.cell? ⟨bx, 0, none⟩ = some (.int .i64 t) := hx5.cx.cell 0
          have c2 : w5.cell? ⟨bx, 1, none⟩ = some (.bool ov) := hx5.cx.cell 1
          have c3 : w5.cell? ⟨wr.heap.size, 1, none⟩ = some (.int .i64 x) := hx5.co.cell 1
          go_wp2_with fail
          refine (rat_any t x ov _).mono ?_
          rintro e w6 ⟨rfl, hb6⟩
          have hx6 := hx5.below hb6
          clear c1 c2 c3 hx5 hb6 hx1
          have d0 : w6.cell? ⟨bk, 1, none⟩ = some (.int .i64 (m : Int)) := hx6.ck.cell 1
          have d1 : w6.cell? ⟨bx, 0, none⟩ = some (.int .i64 t) := hx6.cx.cell 0
          have d2 : w6.cell? ⟨bx, 1, none⟩ = some (.bool ov) := hx6.cx.cell 1
          have d3 : w6.frozen? ⟨bx, 0, none⟩ = false := hx6.cx.frozen 0
          have d4 : w6.frozen? ⟨bx, 1, none⟩ = false := hx6.cx.frozen 1
          have d5 : bk ≠ bx := hx6.ck.ne_ hx6.cx (by decide)
          have HX := Lib.hid hx6
          clear hx6 hx
          go_wp2_with (go_at_call 14; refine (num_any _ _).mono ?_; rintro e w7 ⟨rfl, rfl⟩)
          go_roundw
          case rel => exact ⟨k + 1, m, u, _, _, by omega, by omega, by omega, by go_num, by go_num, by have := HX.out.stored; simpa using this⟩
          case measure => simp [intOf]; omega
        · have hx1 := hx.look y x
          refine (last_any bc _ t ov _ hx1.cc).mono ?_
          rintro e w5 ⟨rfl, rfl⟩
          have c1 : wr.cell? ⟨bx, 0, none⟩ = some (.int .i64 t) := hx.cx.cell 0
          have c2 : wr.cell? ⟨bx, 1, none⟩ = some (.bool ov) := hx.cx.cell 1
          have c4 := hx.cx.lt
          go_wp2_with fail
          refine (rlast_any t ov _).mono ?_
          rintro e w6 ⟨rfl, hb6⟩
          have hx6 := hx1.below hb6
          clear c1 c2 c4 hb6 hx1
          have d0 : w6.cell? ⟨bk, 1, none⟩ = some (.int .i64 (m : Int)) := hx6.ck.cell 1
          have HX := Lib.hid hx6
          clear hx6 hx
          go_wp2_with (go_at_call 14; refine (num_any _ _).mono ?_; rintro e w7 ⟨rfl, rfl⟩)
          go_roundw
          case rel => exact ⟨k + 1, m, u, _, _, by omega, by omega, by omega, by go_num, by go_num, HX.out.back⟩
          case measure => simp [intOf]; omega
      · obtain rfl : k = 300 := by omega
        clear hr
        go_wp2_with (go_at_call 12; refine (started_any _).mono ?_; rintro e w9 ⟨rfl, hb9⟩)
        go_ret
        exact ⟨rfl, hb.trans (hb9.mono hb.size)⟩
    · obtain rfl : k = n := by omega
      clear hr
      go_wp2_with (go_at_call 12; refine (started_any _).mono ?_; rintro e w9 ⟨rfl, hb9⟩)
      go_ret
      exact ⟨rfl, hb.trans (hb9.mono hb.size)⟩
end Go.Proofs.Ytnhdlnmghabalaa
