import Derived.Test.YtnhdlnmghabalaaC4
set_option linter.unusedVariables false
set_option linter.unusedSimpArgs false
namespace Go.Proofs.Ytnhdlnmghabalaa
open Go.RowKit

theorem ansE_true : ansE true = 70 := rfl
theorem ansE_false : ansE false = 0 := rfl
def exL : List Int := [-4, 5, 3, 4611686018427387904]
def exT : Nat → Int | 0 => 0 | 1 => 0 | 2 => 5 | 3 => 5 | _ => 4611686018427387904
def exN (k : Nat) : Nat := min k 3
theorem ex_rises (k : Nat) (h : k < 4) : risen (exT k) false (toldAt exL (exN k)) = exT (k + 1) ∧ late false (toldAt exL (exN k)) = false ∧ nextAt exL (exN k) = exN (k + 1) ∧ ([0, 5, 5, 4611686018427387904] : List Int).getD k 0 = exT (k + 1) := by
  match k, h with
  | 0, _ => decide
  | 1, _ => decide
  | 2, _ => decide
  | 3, _ => decide

structure ExRel (w0 : World) (b s g : Nat) (k : Nat) (wr : World) : Prop where
  clamp : ClampIs wr b (.iface 23 (.pointer (some ⟨s, 0, none⟩))) (exT k) false
  steps : StepsAt wr w0.heap.size s exL (exN k)
  want : Blk wr g 3 #[.int .i64 0, .int .i64 5, .int .i64 5, .int .i64 4611686018427387904]
  bel : Below w0.heap.size w0 wr
  base : w0.heap.size ≤ b

theorem ex_keeps {w0 wr w3 : World} {b s g k : Nat} (hx : ExRel w0 b s g k wr) (h : ([0, 5, 5, 4611686018427387904] : List Int).getD k 0 = exT (k + 1)) (hk : k < 4)
    (hkeep : ∀ g t cs, Blk wr g t cs → g ≠ b → g ≠ s → Blk w3 g t cs) : Blk w3 g 3 #[.int .i64 0, .int .i64 5, .int .i64 5, .int .i64 4611686018427387904] ∧ w3.cell? ⟨g, k, none⟩ = some (.int .i64 (exT (k + 1))) := by
  have hg := hkeep g _ _ hx.want (hx.want.ne_ hx.clamp (by decide)) (hx.steps.ne_ hx.want (by decide))
  refine ⟨hg, ?_⟩
  rw [hg.cell, ← h]
  match k, hk with
  | 0, _ => rfl
  | 1, _ => rfl
  | 2, _ => rfl
  | 3, _ => rfl

theorem ex_reads (w : World) : Reads (w.alloc (.cells #[.int .i64 (-4), .int .i64 5, .int .i64 3, .int .i64 4611686018427387904] 3)) (w.alloc (.cells #[.int .i64 (-4), .int .i64 5, .int .i64 3, .int .i64 4611686018427387904] 3)).heap.size 1 (some ⟨w.heap.size, 0, none⟩) 4 (ints exL) := by
  refine ⟨rfl, fun _ => ⟨_, rfl, by simp, fun j u hu => ?_⟩⟩
  have := (Blk.new w 3 #[.int .i64 (-4), .int .i64 5, .int .i64 3, .int .i64 4611686018427387904]).cell j
  rw [Addr.add_lit, Nat.zero_add, this, ← hu]
  match j with
  | 0 => rfl
  | 1 => rfl
  | 2 => rfl
  | 3 => rfl
  | j + 4 => rfl

set_option maxHeartbeats 1000000 in
theorem started_any (w : World) : Calls Try.prog 12 #[] w fun e w' => e = .returned (.bool true) ∧ Below w.heap.size w w' := by
  go_enter Try.func12, Try.ntmps12
  go_wp2_with (first
    | (go_at_call 7; refine (newsteps_any _ _ _ (ints exL) _ (ex_reads w) (ints_one _) (by decide)).mono ?_; rintro e w1 ⟨s, v, rfl, hs0, hs1, hs2, hb1⟩)
    | (go_at_call 13; refine (newclamp_any _ _ _).mono ?_; rintro e w2 ⟨rfl, hw2⟩)
    | (go_at_call 14; refine (num_any _ _).mono ?_; rintro e w3 ⟨rfl, rfl⟩))
  have hx0 : ExRel w w1.heap.size s w2.heap.size 0 (w2.alloc (.cells #[.int .i64 0, .int .i64 5, .int .i64 5, .int .i64 4611686018427387904] 3)) := by
    subst hw2
    have hsz : w.heap.size ≤ w1.heap.size := by have := hb1.size; simp at this; omega
    have hst : StepsAt w1 w.heap.size s exL (exN 0) := ⟨⟨v, by simp at hs0; omega, hs1, ⟨hs2.1, by
      rcases hs2.2 with h | ⟨g, cap, cur, h1, h2, h3⟩
      · exact .inl h
      · exact .inr ⟨g, cap, cur, h1, by simp at h2; omega, h3⟩⟩, .inr (by decide)⟩⟩
    have hb : Below w.heap.size w w1 := ((Below.refl _ _).alloc (Nat.le_refl _) _).trans (hb1.mono (by simp))
    refine ⟨(Blk.new w1 66 _).alloc _, ?_, Blk.new _ _ _, (hb.alloc hsz _).alloc (by simp; omega) _, hsz⟩
    exact (hst.below ((Below.refl _ _).alloc (Nat.le_refl _) _)).below ((Below.refl _ _).alloc (Nat.le_refl _) _)
  have hbs : w1.heap.size = w1.heap.size := rfl
  generalize hW : w2.alloc (.cells #[.int .i64 0, .int .i64 5, .int .i64 5, .int .i64 4611686018427387904] 3) = W at hx0 ⊢
  clear hW hb1 hs0 hs1 hs2 hbs
  generalize w1.heap.size = b at *
  generalize w2.heap.size = g at *
  clear hw2
  go_loopw [4] (fun i wr => ∃ k : Nat, k ≤ 4 ∧ i = .int .i64 k ∧ ExRel w b s g k wr) (fun i _ => 4 - (intOf i).toNat)
  case atStart => exact ⟨0, by omega, rfl, hx0⟩
  case round =>
    obtain ⟨k, hk, rfl, hx⟩ := hrel
    by_cases hlt : k < 4
    · obtain ⟨r1, r2, r3, r4⟩ := ex_rises k hlt
      have H1 := Lib.hid r1; have H2 := Lib.hid r2; have H3 := Lib.hid r3; have H4 := Lib.hid r4
      clear r1 r2 r3 r4 hx0
      go_wp2_with (first
        | (go_at_call 15; refine (read_steps b s w.heap.size exL (exN k) (exT k) false _ hx.steps (by decide) hx.clamp hx.base).mono ?_; rw [H1.out, H2.out, H3.out]; rintro e w3 ⟨rfl, h1, h2, h3, h4⟩; obtain ⟨hg, hg1⟩ := ex_keeps hx H4.out hlt h4; have hg0 := Lib.hid hg; clear hg h4)
        | (go_at_call 14; refine (num_any _ _).mono ?_; rintro e w4 ⟨rfl, rfl⟩))
      go_roundw
      case rel => exact ⟨k + 1, by omega, by go_num, h1, h2, hg0.out, hx.bel.trans h3, hx.base⟩
      case measure => simp [intOf]; omega
    · obtain rfl : k = 4 := by omega
      have e1 : risen 4611686018427387904 false 4611686018427387905 = 4611686018427387904 := by decide
      have e2 : late false 4611686018427387905 = true := by decide
      have e3 : risen 4611686018427387904 true 3 = 4611686018427387904 := by decide
      have e4 : late true 3 = true := by decide
      have E1 := Lib.hid e1; have E2 := Lib.hid e2; have E3 := Lib.hid e3; have E4 := Lib.hid e4
      clear e1 e2 e3 e4 hx0 hlt
      have hc0 : ClampIs wr b (.iface 23 (.pointer (some ⟨s, 0, none⟩))) 4611686018427387904 false := hx.clamp
      have hbase := hx.base
      have hlt := hc0.lt
      have hb0 := hx.bel
      go_wp2_with (first
        | (go_at_call 17; with_reducible refine (at_any b (.iface 23 (.pointer (some ⟨s, 0, none⟩))) 4611686018427387904 4611686018427387905 false _ hc0).mono ?_; rw [E1.out, E2.out, ansE_true]; rintro e w3 ⟨rfl, hc1, hg1⟩)
        | (go_at_call 17; with_reducible refine (at_any b (.iface 23 (.pointer (some ⟨s, 0, none⟩))) 4611686018427387904 3 true _ hc1).mono ?_; rw [E3.out, E4.out, ansE_true]; rintro e w4 ⟨rfl, hc2, hg2⟩)
        | (go_at_call 18; refine (last_any b _ _ _ _ hc2).mono ?_; rw [ansE_true]; rintro e w5 ⟨rfl, rfl⟩)
        | (go_at_call 14; refine (num_any _ _).mono ?_; rintro e w6 ⟨rfl, rfl⟩))
      go_ret
      have := hg1.size
      have := hb0.size
      exact ⟨rfl, (hb0.trans (below_of_grown hg1 hbase (by omega))).trans (below_of_grown hg2 hbase (by omega))⟩
#print axioms started_any
end Go.Proofs.Ytnhdlnmghabalaa
