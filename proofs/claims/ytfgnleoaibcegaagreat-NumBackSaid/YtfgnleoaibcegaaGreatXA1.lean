/-
  Walks and plain laws.
-/
import Derived.Test.YtfgnleoaibcegaaGreatXR
set_option linter.unusedVariables false
set_option linter.unusedSimpArgs false
namespace Go.Proofs.YtfgnleoaibcegaaGreat

open Go.RowKit

set_option maxHeartbeats 400000 in
theorem at_any (A : Option Addr) (n c x i : Nat) (w : World) (h : DAt B64 w A n c x) :
    Calls Tryz.prog 98 #[.agg #[.slice A n c], .int .i64 i] w fun e w' => e = .returned (.int .u64 ((x / B64 ^ i % B64 : Nat) : Int)) ∧ Below w.heap.size w w' := by
  by_cases hi : i < n
  · obtain ⟨g, off, rfl, hg, hc⟩ := h.flat two_le_B64 (by omega)
    have hc1 := hc i hi
    generalize x / B64 ^ i % B64 = d at *
    clear hc h
    go_enter Tryz.func98, Tryz.ntmps98
    go_wp2
    go_ret
    exact ⟨rfl, (Below.refl _ _).alloc (Nat.le_refl _) _⟩
  · have hz : x / B64 ^ i % B64 = 0 := by
      rw [Nat.div_eq_of_lt (Nat.lt_of_lt_of_le (h.lt two_le_B64) (Nat.pow_le_pow_right (by decide) (by omega)))]; rfl
    rw [hz]
    clear hz h
    go_enter Tryz.func98, Tryz.ntmps98
    go_wp2
    go_ret
    exact ⟨rfl, (Below.refl _ _).alloc (Nat.le_refl _) _⟩

set_option maxHeartbeats 400000 in
theorem longest_any (A A' : Option Addr) (n c n' c' : Nat) (g : Nat) (w : World) (h0 : w.cell? ⟨g, 0, none⟩ = some (.slice A n c)) (h1 : w.cell? ⟨g, 1, none⟩ = some (.slice A' n' c')) (hn : n ≤ 4611686018427387904) (hn' : n' ≤ 4611686018427387904) :
    Calls Tryz.prog 99 #[.slice (some ⟨g, 0, none⟩) 2 2] w fun e w' => e = .returned (.int .i64 ((max n n' : Nat) : Int)) ∧ w = w' := by
  have hm : ((max n n' : Nat) : Int) = max (n : Int) (n' : Int) := by omega
  have HM := Lib.hid hm
  clear hm
  go_enter Tryz.func99, Tryz.ntmps99
  go_wp2
  go_loop [3, 8] (fun m i => (i = .int .i64 0 ∧ m = .int .i64 0) ∨ (i = .int .i64 1 ∧ m = .int .i64 n) ∨ (i = .int .i64 2 ∧ m = .int .i64 ((max n n' : Nat) : Int))) (fun _ i => 2 - (intOf i).toNat)
  case atStart => exact .inl ⟨rfl, rfl⟩
  case round =>
    rcases hrel with ⟨rfl, rfl⟩ | ⟨rfl, rfl⟩ | ⟨rfl, rfl⟩
    · have hn0 : (0 : Int) ≤ n := by omega
      go_wp2
      all_goals
        go_round
        case rel => exact .inr (.inl ⟨rfl, by go_num⟩)
        case measure => simp [intOf]
    · go_wp2
      all_goals
        go_round
        case rel => exact .inr (.inr ⟨rfl, by rw [HM.out]; go_num⟩)
        case measure => simp [intOf]
    · go_wp2
      go_ret
      exact ⟨rfl, rfl⟩

set_option maxHeartbeats 400000 in
theorem trim_any (g : Nat) (l : List Nat) (c : Nat) (w : World) (h : Dg w g l) (hd : ∀ d ∈ l, d < B64) (hl : l.length ≤ c) (hc : c ≤ maxLen) :
    Calls Tryz.prog 69 #[.slice (some ⟨g, 0, none⟩) l.length c] w fun e w' => ∃ A n c', e = .returned (.agg #[.slice A n c']) ∧ DAt B64 w' A n c' (val B64 l) ∧ Below w.heap.size w w' := by
  have hc' := hc
  unfold maxLen at hc
  have hlt := h.lt
  go_enter Tryz.func69, Tryz.ntmps69
  go_wp2
  go_loop [0] (fun v => ∃ m : Nat, m ≤ l.length ∧ v = .slice (some ⟨g, 0, none⟩) m c ∧ val B64 (l.take m) = val B64 l) (fun v => match v with | .slice _ n _ => n | _ => 0)
  case atStart => exact ⟨l.length, Nat.le_refl _, rfl, by rw [List.take_length]⟩
  case round =>
    obtain ⟨m, hm, rfl, hz⟩ := hrel
    have HZ := Lib.hid hz
    have HD := Lib.hid hd
    clear hz hd
    by_cases hm0 : 0 < m
    · have hcell := h.cell (i := m - 1) (by omega)
      have H := Lib.hid h
      clear h
      by_cases hd0 : l.getD (m - 1) 0 = 0
      · have HD0 := Lib.hid hd0
        rw [hd0] at hcell
        clear hd0
        go_wp2
        refine ⟨⟨m - 1, by omega, rfl, ?_⟩, ?_⟩
        · exact take_drop_zero (by omega) HD0.out (by rw [Nat.sub_add_cancel (by omega)]; exact HZ.out)
        · show m - 1 < m; omega
      · have hne : (((l.getD (m - 1) 0 : Nat) : Int) == 0) = false := by rw [beq_eq_false_iff_ne]; omega
        have HD0 := Lib.hid hd0
        clear hd0
        generalize hx : l.getD (m - 1) 0 = x at hcell hne
        clear hx
        go_wp2
        refine bodyPost_ret (v := .agg #[.slice (some ⟨g, 0, none⟩) m c]) (by simp [results, Tryz.results69, go_sem]) rfl ⟨_, _, _, rfl, ?_, (Below.refl _ _).alloc (Nat.le_refl _) _⟩
        refine ⟨?_, by omega, hc'⟩
        rw [digs_take two_le_B64 HD.out hm HZ.out (.inr HD0.out)]
        exact (Dg.below H.out ((Below.refl _ _).alloc (Nat.le_refl _) _) hlt).reads m hm
    · obtain rfl : m = 0 := by omega
      go_wp2
      refine bodyPost_ret (v := .agg #[.slice (some ⟨g, 0, none⟩) 0 c]) (by simp [results, Tryz.results69, go_sem]) rfl ⟨_, _, _, rfl, ?_, (Below.refl _ _).alloc (Nat.le_refl _) _⟩
      refine ⟨?_, by omega, hc'⟩
      rw [digs_take two_le_B64 HD.out hm HZ.out (.inl rfl)]
      exact (Dg.below h ((Below.refl _ _).alloc (Nat.le_refl _) _) hlt).reads 0 hm

theorem trim_at (g : Nat) (l : List Nat) (n c : Nat) (w : World) (h : Dg w g l) (hd : ∀ d ∈ l, d < B64) (hn : l.length = n) (hl : n ≤ c) (hc : c ≤ maxLen) :
    Calls Tryz.prog 69 #[.slice (some ⟨g, 0, none⟩) n c] w fun e w' => ∃ A n c', e = .returned (.agg #[.slice A n c']) ∧ DAt B64 w' A n c' (val B64 l) ∧ Below w.heap.size w w' := by
  subst hn
  exact trim_any g l c w h hd hl hc

theorem val_one (b d : Nat) : val b [d] = d := by simp [val]
theorem Dg.one (w : World) (d : Nat) : Dg (w.alloc (.cells #[.int .u64 (d : Int)] 23)) w.heap.size [d] := Dg.new w [d]

set_option maxHeartbeats 400000 in
theorem of_any (d : Nat) (hd : d < B64) (w : World) :
    Calls Tryz.prog 40 #[.int .u64 (d : Int)] w fun e w' => ∃ A n c', e = .returned (.agg #[.slice A n c']) ∧ DAt B64 w' A n c' d ∧ Below w.heap.size w w' := by
  have hg : Dg ((w.alloc (.cells #[.slice none 0 0] 26)).alloc (.cells #[.int .u64 (d : Int)] 23)) (w.heap.size + 1) [d] := by have := Dg.one (w.alloc (.cells #[.slice none 0 0] 26)) d; simpa using this
  go_enter Tryz.func40, Tryz.ntmps40
  go_wp2_with fail
  refine (trim_any _ [d] 1 _ hg (by simpa using hd) (by simp) (by unfold maxLen; omega)).mono ?_
  rintro e w1 ⟨A, n, c', rfl, hd1, hb1⟩
  rw [val_one] at hd1
  have hb2 : Below (w.heap.size + 1) (w.alloc (.cells #[.slice none 0 0] 26)) w1 := ((Below.refl _ _).alloc (by simp) _).trans (hb1.mono (by simp))
  have r1 := res_cell hb2 (by omega)
  have r2 := res_free hb2 (by omega)
  have HF := Lib.hid (hd1.put r1 (.slice A n c'))
  clear hd1 hb1 hg
  go_wp2
  refine bodyPost_ret (v := .agg #[.slice A n c']) (by simp [results, Tryz.results40, go_sem, r1]) rfl ⟨_, _, _, rfl, HF.out, ?_⟩
  exact (((Below.refl _ _).alloc (Nat.le_refl _) _).trans (hb2.mono (by omega))).setCell (Nat.le_refl _) _
end Go.Proofs.YtfgnleoaibcegaaGreat
