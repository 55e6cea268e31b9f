import Derived.Test.YtnhdlnmghabalaaC2
import Derived.Test.YtnhdlnmghabalaaWd
import Derived.OneCell
set_option linter.unusedVariables false
set_option linter.unusedSimpArgs false
namespace Go.Proofs.Ytnhdlnmghabalaa
open Go.RowKit

theorem int_info : (Try.prog.info? 3).map (fun i => (i.zero, i.size, i.bytes)) = some (some (.int .i64 0), 1, 8) := by kernel_rfl

def ints (l : List Int) : List Value := l.map (.int .i64)
theorem ints_one (l : List Int) : ∀ u ∈ ints l, u.oneCell' = true := by
  intro u hu
  obtain ⟨x, _, rfl⟩ := List.mem_map.1 hu
  rfl
theorem ints_length (l : List Int) : (ints l).length = l.length := by simp [ints]
theorem ints_get (l : List Int) (j : Nat) (h : j < l.length) : (ints l)[j]? = some (.int .i64 (l.getD j 0)) := by simp [ints, h]

/-- The shape of whatever is owned. -/
theorem own_slice {w : World} {base n : Nat} {e : TypeId} {size : Nat} {v : Value} {xs : List Value} (h : w.ownsRow base e size v n xs) : ∃ A c, v = .slice A n c := by
  rcases h.2 with ⟨rfl, rfl⟩ | ⟨g, cap, cur, rfl, _⟩
  · exact ⟨none, 0, rfl⟩
  · exact ⟨_, cap, rfl⟩

set_option maxHeartbeats 400000 in
theorem clone_any (A : Option Addr) (n c : Nat) (xs : List Value) (w : World) (ha : Reads w w.heap.size 1 A n xs) (h1 : ∀ u ∈ xs, u.oneCell' = true) (hn : n ≤ 17592186043904) :
    Calls Try.prog 25 #[.slice A n c] w fun e w' => ∃ A' c', e = .returned (.slice A' n c') ∧ w'.ownsRow w.heap.size 3 1 (.slice A' n c') n xs ∧ Below w.heap.size w w' := by
  obtain ⟨i0, hi0, hz0, hz1, hz2⟩ := info_parts int_info
  have he := fun w a n c => Lib.run_eql_slice_nil (P := Try.prog) w 22 3 a n c 0 0 Try.underlying22
  rcases A with _ | ad
  · have h0 : n = 0 := by
      rcases Nat.eq_zero_or_pos n with h | h
      · exact h
      · obtain ⟨ad, h, _⟩ := ha.2 h; cases h
    subst h0
    have hx : xs = [] := List.eq_nil_of_length_eq_zero (by simpa using ha.1)
    subst hx
    go_enter Try.func25, Try.ntmps25
    go_wp2
    go_ret
    exact ⟨_, _, rfl, ⟨rfl, .inl ⟨rfl, rfl⟩⟩, Below.refl _ _⟩
  · go_enter Try.func25, Try.ntmps25
    go_wp2_with (first
      | (at_builtin
         refine wpList_append_any _ rfl (.tmp 5) (.tmp 6) _ rfl w.heap.size 3 i0 _ 1 8 Try.underlying22 hi0 hz0 hz1 hz2 rfl (by omega) (.slice (some ⟨w.heap.size, 0, none⟩) 0 0) 0 [] rfl
           ⟨by simp, .inr ⟨w.heap.size, 0, #[], rfl, Nat.le_refl _, ?_, by omega, by simp [maxLen], by simp, by simp⟩⟩ w.heap.size (some ad) n c xs rfl ?_ h1 (by simp only [maxLen]; omega) (by omega) (by simp) ?_
         · exact heap_alloc_new w _
         · exact ha.alloc (Nat.le_refl _) _
         intro v1 w1 hown1 hg1 hat1))
    go_ret
    obtain ⟨A', c', rfl⟩ := own_slice hown1
    simp only [Nat.zero_add, List.nil_append] at hown1 ⊢
    refine ⟨A', c', rfl, hown1, ((Below.refl _ _).alloc (Nat.le_refl _) _).grown hg1 (by simp) (fun k hk => ?_)⟩
    simp [Value.ownBlock] at hk
    omega

set_option maxHeartbeats 400000 in
theorem newsteps_any (A : Option Addr) (n c : Nat) (xs : List Value) (w : World) (ha : Reads w w.heap.size 1 A n xs) (h1 : ∀ u ∈ xs, u.oneCell' = true) (hn : n ≤ 17592186043904) :
    Calls Try.prog 7 #[.slice A n c] w fun e w' => ∃ b v, e = .returned (.pointer (some ⟨b, 0, none⟩)) ∧ w.heap.size ≤ b ∧ Blk w' b 62 #[v, .int .i64 0] ∧ w'.ownsRow w.heap.size 3 1 v n xs ∧ Below w.heap.size w w' := by
  go_enter Try.func7, Try.ntmps7
  go_wp2_with (go_at_call 25; refine (clone_any _ _ _ xs _ ha h1 hn).mono ?_; rintro e w1 ⟨A', c', rfl, hown, hb⟩)
  go_ret
  exact ⟨_, _, rfl, hb.size, Blk.new _ _ _, hown.alloc _, hb.alloc hb.size _⟩

set_option maxHeartbeats 400000 in
theorem stepsnow_nil (b base : Nat) (v i : Value) (w : World) (hb : Blk w b 62 #[v, i]) (ho : w.ownsRow base 3 1 v 0 []) :
    Calls Try.prog 8 #[.pointer (some ⟨b, 0, none⟩)] w fun e w' => e = .returned (.int .i64 0) ∧ w = w' := by
  have hc : w.cell? ⟨b, 0, none⟩ = some v := hb.cell 0
  obtain ⟨A, c, rfl⟩ := own_slice ho
  clear ho hb
  go_enter Try.func8, Try.ntmps8
  go_wp2
  go_ret
  exact ⟨rfl, rfl⟩

set_option maxHeartbeats 400000 in
theorem stepsnow_some (b g n c : Nat) (i : Nat) (x : Int) (w : World) (hs : w.cell? ⟨b, 0, none⟩ = some (.slice (some ⟨g, 0, none⟩) n c)) (hi : w.cell? ⟨b, 1, none⟩ = some (.int .i64 i)) (hf : w.frozen? ⟨b, 1, none⟩ = false)
    (hx : w.cell? ⟨g, i, none⟩ = some (.int .i64 x)) (hin : i < n) (hn : n ≤ 17592186043904) :
    Calls Try.prog 8 #[.pointer (some ⟨b, 0, none⟩)] w fun e w' => e = .returned (.int .i64 x) ∧ w' = (w.setCell ⟨b, 1, none⟩ (.int .i64 (min (i + 1) (n - 1) : Nat))).drew.drew := by
  have h0 : ((n : Int) == 0) = false := by simp; omega
  have H1 : Hid (i + 1 ≤ n - 1 → ((min (i + 1) (n - 1) : Nat) : Int) = (i : Int) + 1) := Lib.hid (fun h => by omega)
  have H2 : Hid (n - 1 < i + 1 → ((min (i + 1) (n - 1) : Nat) : Int) = (n : Int) - 1) := Lib.hid (fun h => by omega)
  go_enter Try.func8, Try.ntmps8
  go_wp2
  go_region
  go_wp2
  go_region
  go_wp2
  all_goals first
    | (have e := H1.out (by omega); rw [e]; clear e; go_ret; exact ⟨rfl, rfl⟩)
    | (have e := H2.out (by omega); rw [e]; clear e; go_ret; exact ⟨rfl, rfl⟩)

/-- A list of readings at a block: which are left. -/
structure StepsAt (w : World) (base b : Nat) (l : List Int) (i : Nat) : Prop where
  mk :: (out : ∃ v, base ≤ b ∧ Blk w b 62 #[v, .int .i64 i] ∧ w.ownsRow base 3 1 v l.length (ints l) ∧ (l = [] ∨ i < l.length))

/-- What a list of readings tells, and where it stands then. -/
def toldAt (l : List Int) (i : Nat) : Int := l.getD i 0
def nextAt (l : List Int) (i : Nat) : Nat := if l = [] then i else min (i + 1) (l.length - 1)

theorem stepsnow_any (b base : Nat) (l : List Int) (i : Nat) (w : World) (h : StepsAt w base b l i) (hn : l.length ≤ 17592186043904) :
    Calls Try.prog 8 #[.pointer (some ⟨b, 0, none⟩)] w fun e w' => e = .returned (.int .i64 (toldAt l i)) ∧ StepsAt w' base b l (nextAt l i) ∧ w.grownBy w' (some b) := by
  obtain ⟨v, hbb, hb, ho, hl⟩ := h.out
  have hne := own_blk_ne ho hb (by decide)
  by_cases hnil : l = []
  · subst hnil
    refine (stepsnow_nil b base v _ w hb ho).mono ?_
    rintro e w' ⟨rfl, rfl⟩
    exact ⟨rfl, ⟨⟨v, hbb, hb, ho, .inl rfl⟩⟩, World.grownBy.refl _ _⟩
  · have hil : i < l.length := hl.resolve_left hnil
    obtain ⟨g, c, rfl, _, _⟩ := ho.form (by omega)
    refine (stepsnow_some b g l.length c i (toldAt l i) w (hb.cell 0) (hb.cell 1) (hb.frozen 1) ?_ hil hn).mono ?_
    · have := ho.cells (g := g) rfl i _ (ints_get l i hil)
      simpa [toldAt, Addr.add_lit] using this
    · rintro e w' ⟨rfl, rfl⟩
      refine ⟨rfl, ⟨⟨.slice (some ⟨g, 0, none⟩) l.length c, hbb, ?_, ?_, .inr ?_⟩⟩, ?_⟩
      · simp only [nextAt, if_neg hnil]
        exact (hb.set_ 1 _)
      · exact (ownsRow_setCell_other ho hne _)
      · simp only [nextAt, if_neg hnil]; omega
      · exact ⟨rfl, rfl, rfl, by simp [World.setCell, World.drew], fun k _ hk => Below.heap_setCell _ _ _ _ (fun e => hk (by rw [e]))⟩
end Go.Proofs.Ytnhdlnmghabalaa
