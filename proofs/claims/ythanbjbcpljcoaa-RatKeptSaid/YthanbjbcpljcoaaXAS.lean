/-
  Walks and plain laws.
-/
import Derived.Test.YthanbjbcpljcoaaXAQ
import Derived.Test.YthanbjbcpljcoaaXAR
set_option linter.unusedVariables false
set_option linter.unusedSimpArgs false
namespace Go.Proofs.Ythanbjbcpljcoaa

open Go.RowKit

theorem Dg.take {w : World} {g : Nat} {l : List Nat} (h : Dg w g l) (m : Nat) : Dg w g (l.take m) := by
  obtain ⟨t, h⟩ := h
  refine ⟨dv (l.drop m) ++ t, ?_⟩
  rw [← List.append_assoc, ← dv_append, List.take_append_drop]
  exact h
theorem Dg.grown {w w' : World} {g : Nat} {l : List Nat} {row : Option Nat} (h : Dg w g l) (hb : w.grownBy w' row) (hg : some g ≠ row) : Dg w' g l := by
  obtain ⟨t, h⟩ := h
  exact ⟨t, Blk.grown h hb hg⟩
theorem own_slice {w : World} {base n : Nat} {e : TypeId} {size : Nat} {v : Value} {xs : List Value} (h : w.ownsRow base e size v n xs) : ∃ A c, v = .slice A n c := by
  rcases h.2 with ⟨rfl, rfl⟩ | ⟨g, cap, cur, rfl, _⟩
  · exact ⟨none, 0, rfl⟩
  · exact ⟨_, cap, rfl⟩

/-- Digits of one's own, in a block from base on; or no memory at all. -/
structure Td (base : Nat) (w : World) (A : Option Addr) (n c : Nat) (L : List Nat) : Prop where
  len : L.length = n
  cap : n ≤ c
  room : c ≤ maxLen
  at_ : (A = none ∧ n = 0) ∨ ∃ g, A = some ⟨g, 0, none⟩ ∧ base ≤ g ∧ Dg w g L
theorem Td.drew {base n c : Nat} {w : World} {A : Option Addr} {L : List Nat} (h : Td base w A n c L) : Td base w.drew A n c L := ⟨h.len, h.cap, h.room, h.at_⟩
theorem Td.below {base n c : Nat} {w w' : World} {A : Option Addr} {L : List Nat} (h : Td base w A n c L) (hb : Below w.heap.size w w') : Td base w' A n c L := by
  refine ⟨h.len, h.cap, h.room, ?_⟩
  rcases h.at_ with h1 | ⟨g, h1, h2, h3⟩
  · exact .inl h1
  · exact .inr ⟨g, h1, h2, h3.below hb h3.lt⟩
/-- A row of bytes grows: the digits stay. -/
theorem Td.grown {base n c k b : Nat} {w w' : World} {A : Option Addr} {L : List Nat} {v : Value} {xs : List Value} (h : Td base w A n c L) (ho : w.ownsRow b 5 1 v k xs) (hg : w.grownBy w' v.ownBlock) : Td base w' A n c L := by
  refine ⟨h.len, h.cap, h.room, ?_⟩
  rcases h.at_ with h1 | ⟨g, h1, h2, t, h3⟩
  · exact .inl h1
  · exact .inr ⟨g, h1, h2, t, Blk.grown h3 hg (Ne.symm (own_blk_ne ho h3 (by decide)))⟩

theorem digit_parts : ∃ i0, Try.prog.info? 41 = some i0 ∧ i0.zero = some (.int .u64 0) ∧ i0.size = 1 ∧ i0.bytes = 8 := by
  have h := info_digit
  cases hq : Try.prog.info? 41 with
  | none => rw [hq] at h; cases h
  | some i =>
    rw [hq] at h
    simp at h
    exact ⟨i, rfl, h.1, h.2.1, h.2.2⟩

/-- Rows of bytes stay. -/
def KeepsRows (w w' : World) : Prop := ∀ base v k xs, w.ownsRow base 5 1 v k xs → w'.ownsRow base 5 1 v k xs
theorem KeepsRows.refl (w : World) : KeepsRows w w := fun _ _ _ _ h => h
theorem KeepsRows.below {w w' : World} (h : Below w.heap.size w w') : KeepsRows w w' := fun base v k xs ho =>
  ho.kept (row := none) ⟨h.os, h.tape, h.output, h.size, fun j hj _ => h.block j hj⟩ (by
    rcases hb : v.ownBlock with _ | g
    · exact .inl rfl
    · exact .inr (by simp))

set_option maxHeartbeats 400000 in
theorem trim_none (A : Option Addr) (c : Nat) (w : World) : Calls Try.prog 49 #[.slice A 0 c] w fun e w' => e = .returned (.agg #[.slice A 0 c]) ∧ Below w.heap.size w w' := by
  go_enter Try.func49, Try.ntmps49
  go_wp2
  go_loop [0] (fun v => v = .slice A 0 c) (fun _ => 0)
  case atStart => rfl
  case round =>
    subst hrel
    go_wp2
    exact bodyPost_ret (v := .agg #[.slice A 0 c]) (by simp [results, Try.results49, go_sem]) rfl ⟨rfl, (Below.refl _ _).alloc (Nat.le_refl _) _⟩

set_option maxHeartbeats 400000 in
theorem trim_own (g : Nat) (l : List Nat) (c : Nat) (w : World) (h : Dg w g l) (hd : ∀ d ∈ l, d < B64) (hl : l.length ≤ c) (hc : c ≤ maxLen) :
    Calls Try.prog 49 #[.slice (some ⟨g, 0, none⟩) l.length c] w fun e w' => ∃ m : Nat, e = .returned (.agg #[.slice (some ⟨g, 0, none⟩) m c]) ∧ m ≤ l.length ∧ digs B64 (val B64 l) = l.take m ∧ Below w.heap.size w w' := by
  have hc' := hc
  unfold maxLen at hc
  have hlt := h.lt
  go_enter Try.func49, Try.ntmps49
  go_wp2
  go_loop [0] (fun v => ∃ m : Nat, m ≤ l.length ∧ v = .slice (some ⟨g, 0, none⟩) m c ∧ val B64 (l.take m) = val B64 l) (fun v => match v with | .slice _ n _ => n | _ => 0)
  case atStart => exact ⟨l.length, Nat.le_refl _, rfl, by rw [List.take_length]⟩
  case round =>
    obtain ⟨m, hm, rfl, hz⟩ := hrel
    have HZ := Lib.hid hz
    have HD := Lib.hid hd
    clear hz hd
    by_cases hm0 : 0 < m
    · have hcell := h.cell (i := m - 1) (by omega)
      have H := Lib.hid h
      clear h
      by_cases hd0 : l.getD (m - 1) 0 = 0
      · have HD0 := Lib.hid hd0
        rw [hd0] at hcell
        clear hd0
        go_wp2
        refine ⟨⟨m - 1, by omega, rfl, ?_⟩, ?_⟩
        · exact take_drop_zero (by omega) HD0.out (by rw [Nat.sub_add_cancel (by omega)]; exact HZ.out)
        · show m - 1 < m; omega
      · have hne : (((l.getD (m - 1) 0 : Nat) : Int) == 0) = false := by rw [beq_eq_false_iff_ne]; omega
        have HD0 := Lib.hid hd0
        clear hd0
        generalize hx : l.getD (m - 1) 0 = x at hcell hne
        clear hx
        go_wp2
        exact bodyPost_ret (v := .agg #[.slice (some ⟨g, 0, none⟩) m c]) (by simp [results, Try.results49, go_sem]) rfl ⟨_, rfl, hm, digs_take two_le_B64 HD.out hm HZ.out (.inr HD0.out), (Below.refl _ _).alloc (Nat.le_refl _) _⟩
    · obtain rfl : m = 0 := by omega
      go_wp2
      exact bodyPost_ret (v := .agg #[.slice (some ⟨g, 0, none⟩) 0 c]) (by simp [results, Try.results49, go_sem]) rfl ⟨_, rfl, hm, digs_take two_le_B64 HD.out hm HZ.out (.inl rfl), (Below.refl _ _).alloc (Nat.le_refl _) _⟩

theorem trim_td (base : Nat) (A : Option Addr) (L : List Nat) (n c x : Nat) (w : World) (h : Td base w A n c L) (hd : ∀ d ∈ L, d < B64) (hx : val B64 L = x) :
    Calls Try.prog 49 #[.slice A n c] w fun e w' => ∃ m : Nat, e = .returned (.agg #[.slice A m c]) ∧ m ≤ n ∧ Td base w' A m c (digs B64 x) ∧ Below w.heap.size w w' := by
  rcases h.at_ with ⟨rfl, h0⟩ | ⟨g, rfl, hg, hdg⟩
  · have hL : L = [] := List.eq_nil_of_length_eq_zero (by rw [h.len]; exact h0)
    subst h0
    subst hL
    subst hx
    refine (trim_none none c w).mono ?_
    rintro e w' ⟨rfl, hb⟩
    exact ⟨0, rfl, Nat.le_refl _, ⟨by simp [val, digs_zero], h.cap, h.room, .inl ⟨rfl, rfl⟩⟩, hb⟩
  · have hlen := h.len
    subst hlen
    refine (trim_own g L c w hdg hd h.cap h.room).mono ?_
    rintro e w' ⟨m, rfl, hm, hdig, hb⟩
    rw [hx] at hdig
    refine ⟨m, rfl, hm, ⟨by rw [hdig, List.length_take]; omega, Nat.le_trans hm h.cap, h.room, .inr ⟨g, rfl, hg, ?_⟩⟩, hb⟩
    rw [hdig]
    exact (hdg.take m).below hb hdg.lt
end Go.Proofs.Ythanbjbcpljcoaa
