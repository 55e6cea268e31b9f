/-
  Wide: bytes cut out of a longer array, in new memory.
-/
import Derived.Test.YtijbhbjenddiaaaBH
set_option linter.unusedVariables false
set_option linter.unusedSimpArgs false
namespace Go.Proofs.Ytijbhbjenddiaaa
open Go.RowKit

theorem Bw.take {w : World} {g : Nat} {l : List Nat} (h : Bw w g l) (m : Nat) : Bw w g (l.take m) := by
  obtain ⟨t, h⟩ := h
  refine ⟨bv (l.drop m) ++ t, ?_⟩
  rw [← List.append_assoc, ← bv_append, List.take_append_drop]
  exact h
/-- A literal of bytes. -/
theorem lit_read (w : World) (l : List Nat) (t : TypeId) : Reads (w.alloc (.cells (bv l).toArray t)) (w.heap.size + 1) 1 (some ⟨w.heap.size, 0, none⟩) l.length (bv l) :=
  ⟨by rw [bv_length]; omega, fun _ => ⟨_, rfl, Nat.lt_succ_self _, fun j v hv => by
    rw [Addr.add_lit, Nat.zero_add, (Blk.new w t (bv l).toArray).cell j, List.getElem?_toArray]; exact hv⟩⟩

set_option maxRecDepth 100000 in
set_option maxHeartbeats 4000000 in
theorem wide_any (A : Option Addr) (n c : Nat) (l : List Nat) (w : World) (h : BAt w A n c l) (hn : n ≤ 600) :
    Calls Try.prog 25 #[.slice A n c] w fun e w' => ∃ g c2, e = .returned (.slice (some ⟨g, 0, none⟩) n c2) ∧ w.heap.size ≤ g ∧ Bw w' g (l ++ [201, 202, 203, 204, 205]) ∧ n + 5 ≤ c2 ∧ c2 ≤ maxLen ∧ Below w.heap.size w w' := by
  obtain ⟨i0, hi0, hz0, hz1, hz2⟩ := byte_parts
  have hlen := h.len
  have H := Lib.hid h.reads
  clear h
  go_enter Try.func25, Try.ntmps25
  go_wp2_with (first
    | (at_builtin; refine wpList_append_any _ rfl (.tmp 4) (.tmp 5) _ rfl w.heap.size 5 i0 _ 1 1 Try.underlying22 hi0 hz0 hz1 hz2 rfl (by omega) (.slice none 0 0) 0 [] rfl ⟨by simp, .inl ⟨rfl, rfl⟩⟩ w.heap.size A n c (bv l) rfl H.out (bv_one _) (by unfold maxLen; omega) (by omega) (Nat.le_refl _) ?_; intro v1 w1 hown1 hg1 hat1; have hbw1 : Below w.heap.size w w1 := (Below.refl _ _).grown hg1 (Nat.le_refl _) (by simp [Value.ownBlock]); have HO1 := Lib.hid hown1; have HB1 := Lib.hid hbw1; clear hown1 hg1 hat1 hbw1)
    | (at_builtin; refine wpList_append_any _ rfl (.tmp 7) (.tmp 8) _ rfl w.heap.size 5 i0 _ 1 1 Try.underlying22 hi0 hz0 hz1 hz2 rfl (by omega) v1 (0 + n) ([] ++ bv l) rfl (HO1.out.alloc _) (w1.heap.size + 1) (some ⟨w1.heap.size, 0, none⟩) 5 5 (bv [201, 202, 203, 204, 205]) rfl (lit_read w1 [201, 202, 203, 204, 205] _) (bv_one _) (by unfold maxLen; omega) (by omega) (by have := HB1.out.size; simp; omega) ?_; intro v2 w2 hown2 hg2 hat2; have hbw2 : Below w.heap.size w w2 := (aft_al HB1.out _).grown hg2 (by have := HB1.out.size; simp; omega) (fun k hk => (HO1.out.lt k hk).1); obtain ⟨g, c2, ev, hge, hBw, hl2, hc2, hm2⟩ := Bw.of_own (l := l ++ [201, 202, 203, 204, 205]) (by rw [bv_append]; simpa using hown2) (by omega); subst ev; have HBW := Lib.hid hBw; have HB2 := Lib.hid hbw2; clear hown2 hg2 hat2 hBw hbw2))
  exact bodyPost_ret (v := .slice (some ⟨g, 0, none⟩) n c2) (by simp [results, Try.results25, go_sem]) rfl ⟨g, c2, rfl, hge, HBW.out, by omega, hm2, HB2.out⟩
end Go.Proofs.Ytijbhbjenddiaaa
