import Derived.Test.YtnhdlnmghabalaaC3
set_option linter.unusedVariables false
set_option linter.unusedSimpArgs false
namespace Go.Proofs.Ytnhdlnmghabalaa
open Go.RowKit

set_option maxHeartbeats 400000 in
theorem told_nil (A : Option Addr) (c : Nat) (i : Int) (w : World) : Calls Try.prog 9 #[.slice A 0 c, .int .i64 i] w fun e w' => e = .returned (.int .i64 0) ∧ w = w' := by
  go_enter Try.func9, Try.ntmps9
  go_wp2
  go_ret
  exact ⟨rfl, rfl⟩

set_option maxHeartbeats 400000 in
theorem told_some (g off n c i : Nat) (x : Int) (w : World) (hn : n ≤ 17592186043904) (hi : i ≤ 17592186043904) (h0 : 0 < n) (hx : w.cell? ⟨g, off + min i (n - 1), none⟩ = some (.int .i64 x)) :
    Calls Try.prog 9 #[.slice (some ⟨g, off, none⟩) n c, .int .i64 i] w fun e w' => e = .returned (.int .i64 x) ∧ w = w' := by
  have hz : ((n : Int) == 0) = false := by simp; omega
  by_cases h : (n : Int) - 1 < i
  · have hm : min i (n - 1) = n - 1 := by omega
    rw [hm] at hx; clear hm
    go_enter Try.func9, Try.ntmps9
    go_wp2
    go_ret
    exact ⟨rfl, rfl⟩
  · have hm : min i (n - 1) = i := by omega
    rw [hm] at hx; clear hm
    go_enter Try.func9, Try.ntmps9
    go_wp2
    go_ret
    exact ⟨rfl, rfl⟩

theorem run_eql_func_nil {P : Program} (w : World) (t : TypeId) (ps rs : Array TypeId) (v : Bool) (f : Fn) (a c : Array Value) (h : P.underlying t = some (.func ps rs v)) :
    (binOp .eql t (.func f a c) .nilFunc).run P w = .ok (.bool false) w := by
  have h1 : ∀ d : Nat, (Op.equalIn (d + 1) t (.func f a c) .nilFunc).run P w = .ok false w := fun d => by
    simp [Op.equalIn, run_underlying h]
  simp only [binOp]
  simp [Op.equal, Op.maxDepth, h1 9999]
theorem run_eql_nilfunc_nil {P : Program} (w : World) (t : TypeId) (ps rs : Array TypeId) (v : Bool) (h : P.underlying t = some (.func ps rs v)) :
    (binOp .eql t .nilFunc .nilFunc).run P w = .ok (.bool true) w := by
  have h1 : ∀ d : Nat, (Op.equalIn (d + 1) t .nilFunc .nilFunc).run P w = .ok true w := fun d => by
    simp [Op.equalIn, run_underlying h]
  simp only [binOp]
  simp [Op.equal, Op.maxDepth, h1 9999]

set_option maxHeartbeats 400000 in
theorem funcnow_nil (w : World) : Calls Try.prog 11 #[.nilFunc] w fun e w' => e = .returned (.int .i64 0) ∧ w = w' := by
  have he := fun w => run_eql_nilfunc_nil (P := Try.prog) w 30 _ _ _ Try.underlying30
  go_enter Try.func11, Try.ntmps11
  go_wp2
  go_ret
  exact ⟨rfl, rfl⟩

set_option maxHeartbeats 400000 in
theorem funcnow_any (b : Nat) (t n : Int) (w : World) (hc : w.cell? ⟨b, 0, none⟩ = some (.int .i64 t)) (hn : w.cell? ⟨b, 1, none⟩ = some (.int .i64 n)) (hf : w.frozen? ⟨b, 1, none⟩ = false) (h0 : 0 ≤ n) (h1 : n ≤ 1000) :
    Calls Try.prog 11 #[.func (.func 10) #[.pointer (some ⟨b, 0, none⟩)] #[]] w fun e w' => e = .returned (.int .i64 t) ∧ w.setCell ⟨b, 1, none⟩ (.int .i64 (n + 1)) = w' := by
  have he := fun w f a c => run_eql_func_nil (P := Try.prog) w 30 _ _ _ f a c Try.underlying30
  go_enter Try.func11, Try.ntmps11
  go_wp2_with (go_at_call 10; refine (ticker_any b t n _ hc hn hf h0 h1).mono ?_; rintro e w' ⟨rfl, rfl⟩)
  go_ret
  exact ⟨rfl, rfl⟩

/-- A clamp at a block: its clock, its time, whether it is over. -/
def ClampIs (w : World) (b : Nat) (c : Value) (t : Int) (over : Bool) : Prop := Blk w b 66 #[c, .int .i64 t, .bool over]
def late (over : Bool) (t : Int) : Bool := over || decide (4611686018427387904 < t)
def risen (t0 : Int) (over : Bool) (t : Int) : Int := if late over t then t0 else max t0 t
def ansT (t : Int) (over : Bool) : Int := if over then 0 else t
def ansE (over : Bool) : Int := if over then 70 else 0

theorem grownBy_set (w : World) (b i : Nat) (u : Value) : w.grownBy (w.setCell ⟨b, i, none⟩ u) (some b) :=
  ⟨rfl, rfl, rfl, by simp [World.setCell], fun k _ hk => Below.heap_setCell _ _ _ _ (fun e => hk (by rw [e]))⟩
theorem grownBy_trans {a b c : World} {row : Option Nat} (h : a.grownBy b row) (k : b.grownBy c row) : a.grownBy c row :=
  ⟨k.os.trans h.os, k.tape.trans h.tape, k.output.trans h.output, Nat.le_trans h.size k.size, fun i hi hne => (k.block i (Nat.lt_of_lt_of_le hi h.size) hne).trans (h.block i hi hne)⟩

theorem last_any (b : Nat) (c : Value) (t : Int) (over : Bool) (w : World) (h : ClampIs w b c t over) :
    Calls Try.prog 18 #[.pointer (some ⟨b, 0, none⟩)] w fun e w' => e = .returned (.tuple #[.int .i64 (ansT t over), .int .i64 (ansE over)]) ∧ w = w' := by
  cases over
  · exact last_ok b t w (h.cell 1) (h.cell 2)
  · exact last_over b t w (h.cell 1) (h.cell 2)

theorem at_any (b : Nat) (c : Value) (t0 t : Int) (over : Bool) (w : World) (h : ClampIs w b c t0 over) :
    Calls Try.prog 17 #[.pointer (some ⟨b, 0, none⟩), .int .i64 t] w fun e w' => e = .returned (.tuple #[.int .i64 (ansT (risen t0 over t) (late over t)), .int .i64 (ansE (late over t))]) ∧ ClampIs w' b c (risen t0 over t) (late over t) ∧ w.grownBy w' (some b) := by
  cases over
  · by_cases ht : 4611686018427387904 < t
    · have hl : late false t = true := by simpa [late] using ht
      refine (at_late b t0 t w (h.cell 1) (h.cell 2) (h.frozen 2) ht).mono ?_
      rintro e w' ⟨rfl, rfl⟩
      rw [risen, hl]
      exact ⟨rfl, Blk.set_ h 2 _, grownBy_set _ _ _ _⟩
    · have hl : late false t = false := by simpa [late] using ht
      refine (at_ok b t0 t w (h.cell 1) (h.cell 2) (h.frozen 2) (h.frozen 1) (by omega)).mono ?_
      rintro e w' ⟨rfl, rfl⟩
      rw [risen, hl]
      exact ⟨rfl, Blk.set_ (Blk.set_ h 2 _) 1 _, grownBy_trans (grownBy_set _ _ _ _) (grownBy_set _ _ _ _)⟩
  · have hl : late true t = true := rfl
    refine (at_over b t0 t w (h.cell 1) (h.cell 2) (h.frozen 2)).mono ?_
    rintro e w' ⟨rfl, rfl⟩
    rw [risen, hl]
    exact ⟨rfl, Blk.set_ h 2 _, grownBy_set _ _ _ _⟩

theorem method_steps (a : Addr) (w : World) : (method 185 23 (.pointer (some a)) "Now").run Try.prog w = .ok (8, .pointer (some a)) w := by kernel_rfl
theorem method_ticker (a : Addr) (w : World) : (method 185 27 (.pointer (some a)) "Now").run Try.prog w = .ok (10, .pointer (some a)) w := by kernel_rfl

theorem StepsAt.other {w w' : World} {base s b : Nat} {l : List Int} {i : Nat} {t : TypeId} {cs : Array Value} (h : StepsAt w base s l i) (hb : Blk w b t cs) (h62 : 62 ≠ t) (h3 : 3 ≠ t) (hg : w.grownBy w' (some b)) : StepsAt w' base s l i := by
  obtain ⟨v, h1, h2, h4, h5⟩ := h.out
  exact ⟨⟨v, h1, h2.grown hg (fun e => h2.ne_ hb h62 (by injection e)), h4.kept hg (.inr (own_blk_ne h4 hb h3)), h5⟩⟩
theorem StepsAt.below {w w' : World} {base s : Nat} {l : List Int} {i : Nat} (h : StepsAt w base s l i) (hb : Below w.heap.size w w') : StepsAt w' base s l i := by
  obtain ⟨v, h1, h2, h4, h5⟩ := h.out
  exact ⟨⟨v, h1, h2.below hb h2.lt, h4.kept (row := none) ⟨hb.os, hb.tape, hb.output, hb.size, fun k hk _ => hb.block k hk⟩ (by cases v.ownBlock <;> simp), h5⟩⟩
theorem StepsAt.ne_ {w : World} {base s b : Nat} {l : List Int} {i : Nat} {t : TypeId} {cs : Array Value} (h : StepsAt w base s l i) (hb : Blk w b t cs) (h62 : t ≠ 62) : b ≠ s := by
  obtain ⟨v, h1, h2, h4, h5⟩ := h.out
  exact hb.ne_ h2 h62
theorem StepsAt.base_ {w : World} {base s : Nat} {l : List Int} {i : Nat} (h : StepsAt w base s l i) : base ≤ s ∧ s < w.heap.size := by
  obtain ⟨v, h1, h2, h4, h5⟩ := h.out
  exact ⟨h1, h2.lt⟩
theorem below_of_grown {w w' : World} {base b : Nat} (h : w.grownBy w' (some b)) (hb : base ≤ b) (hs : base ≤ w.heap.size) : Below base w w' :=
  (Below.refl _ _).grown h hs (fun k hk => by injection hk with hk; omega)

set_option maxHeartbeats 400000 in
theorem read_steps (b s base : Nat) (l : List Int) (i : Nat) (t : Int) (over : Bool) (w : World) (hs : StepsAt w base s l i) (hn : l.length ≤ 17592186043904)
    (h : ClampIs w b (.iface 23 (.pointer (some ⟨s, 0, none⟩))) t over) (hb : base ≤ b) :
    Calls Try.prog 15 #[.pointer (some ⟨b, 0, none⟩)] w fun e w' => e = .returned (.tuple #[.int .i64 (ansT (risen t over (toldAt l i)) (late over (toldAt l i))), .int .i64 (ansE (late over (toldAt l i)))]) ∧
      ClampIs w' b (.iface 23 (.pointer (some ⟨s, 0, none⟩))) (risen t over (toldAt l i)) (late over (toldAt l i)) ∧ StepsAt w' base s l (nextAt l i) ∧ Below base w w' ∧ (∀ g t cs, Blk w g t cs → g ≠ b → g ≠ s → Blk w' g t cs) := by
  have hm := method_steps ⟨s, 0, none⟩
  have hc : w.cell? ⟨b, 0, none⟩ = some (.iface 23 (.pointer (some ⟨s, 0, none⟩))) := Blk.cell h 0
  have hne := hs.ne_ h (by decide)
  have hsb := hs.base_
  go_enter Try.func15, Try.ntmps15
  go_wp2_with (first
    | (go_at_call 8; refine (stepsnow_any s base l i _ hs hn).mono ?_; rintro e w1 ⟨rfl, hs1, hg1⟩; have h1 : ClampIs w1 b (.iface 23 (.pointer (some ⟨s, 0, none⟩))) t over := Blk.grown h hg1 (by simpa using hne))
    | (go_at_call 17; refine (at_any b (.iface 23 (.pointer (some ⟨s, 0, none⟩))) t (toldAt l i) over _ h1).mono ?_; rintro e w2 ⟨rfl, hc2, hg2⟩))
  go_ret2
  refine ⟨rfl, hc2, hs1.other h1 (by decide) (by decide) hg2, ?_⟩
  exact ⟨(below_of_grown hg1 hsb.1 (by omega)).trans (below_of_grown hg2 hb (by have := hg1.size; omega)), fun g t cs h hgb hgs => (h.grown hg1 (by simpa using hgs)).grown hg2 (by simpa using hgb)⟩

set_option maxHeartbeats 400000 in
theorem read_ticker (b k : Nat) (u n : Int) (t : Int) (over : Bool) (w : World) (hk : Blk w k 29 #[.int .i64 u, .int .i64 n]) (h0 : 0 ≤ n) (hn : n ≤ 1000)
    (h : ClampIs w b (.iface 27 (.pointer (some ⟨k, 0, none⟩))) t over) :
    Calls Try.prog 15 #[.pointer (some ⟨b, 0, none⟩)] w fun e w' => e = .returned (.tuple #[.int .i64 (ansT (risen t over u) (late over u)), .int .i64 (ansE (late over u))]) ∧
      ClampIs w' b (.iface 27 (.pointer (some ⟨k, 0, none⟩))) (risen t over u) (late over u) ∧ Blk w' k 29 #[.int .i64 u, .int .i64 (n + 1)] ∧ (∀ base, base ≤ b → base ≤ k → Below base w w') ∧ (∀ g t cs, Blk w g t cs → g ≠ b → g ≠ k → Blk w' g t cs) := by
  have hm := method_ticker ⟨k, 0, none⟩
  have hc : w.cell? ⟨b, 0, none⟩ = some (.iface 27 (.pointer (some ⟨k, 0, none⟩))) := Blk.cell h 0
  have hne : b ≠ k := Blk.ne_ h hk (by decide)
  have hklt := hk.lt
  go_enter Try.func15, Try.ntmps15
  go_wp2_with (first
    | (go_at_call 10; refine (ticker_any k u n _ (hk.cell 0) (hk.cell 1) (hk.frozen 1) h0 hn).mono ?_; rintro e w1 ⟨rfl, hw1⟩; have h1 : ClampIs w1 b (.iface 27 (.pointer (some ⟨k, 0, none⟩))) t over := by { rw [← hw1]; exact Blk.far h hne _ }; have hk1 : Blk w1 k 29 #[.int .i64 u, .int .i64 (n + 1)] := by { rw [← hw1]; exact hk.set_ 1 _ }; have hg1 : w.grownBy w1 (some k) := by { rw [← hw1]; exact grownBy_set _ _ _ _ }; clear hw1)
    | (go_at_call 17; refine (at_any b (.iface 27 (.pointer (some ⟨k, 0, none⟩))) t u over _ h1).mono ?_; rintro e w2 ⟨rfl, hc2, hg2⟩))
  go_ret2
  refine ⟨rfl, hc2, hk1.grown hg2 (fun e => hne (by injection e with e; exact e.symm)), fun base hb hk => ?_, fun g t cs h hgb hgs => (h.grown hg1 (by simpa using hgs)).grown hg2 (by simpa using hgb)⟩
  have := hg1.size
  exact (below_of_grown hg1 hk (by omega)).trans (below_of_grown hg2 hb (by omega))
end Go.Proofs.Ytnhdlnmghabalaa
