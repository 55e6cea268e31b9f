/-
  NamesNumbers: the walk.
-/
import Derived.Test.YtnhdlnmghabalaaDoorN1
import Derived.Deep.OwnRows
set_option linter.unusedVariables false
set_option linter.unusedSimpArgs false
namespace Go.Proofs.YtnhdlnmghabalaaDoor
open Go.RowKit

theorem info_pair : (Tryd.prog.info? 25).map (fun i => (i.zero, i.size, i.bytes)) = some (some (.agg #[.int .i64 0, .int .i64 0]), 2, 16) := by kernel_rfl
theorem parts_of {P : Program} {id : TypeId} {z : Option Value} {a b : Nat} (h : (P.info? id).map (fun i => (i.zero, i.size, i.bytes)) = some (z, a, b)) : ∃ i0, P.info? id = some i0 ∧ i0.zero = z ∧ i0.size = a ∧ i0.bytes = b := by
  cases hq : P.info? id with
  | none => rw [hq] at h; cases h
  | some i =>
    rw [hq] at h
    simp at h
    exact ⟨i, rfl, h.1, h.2.1, h.2.2⟩
theorem pairs_len {cs : List Value} {n : Nat} (h : pairsB cs n = true) : cs.length = n * 2 := by
  have := (Bool.and_eq_true_iff.1 h).1
  have : cs.length = 2 * n := by simpa using this
  omega
theorem pairs_one {cs : List Value} {n : Nat} (h : pairsB cs n = true) : ∀ u ∈ cs, u.oneCell' = true := by
  intro u hu
  obtain ⟨j, hj⟩ := List.getElem?_of_mem hu
  have hl := pairs_len h
  have hjl : j < cs.length := (List.getElem?_eq_some_iff.1 hj).1
  obtain ⟨z, h1, h2⟩ := pairs_at h (i := j / 2) (by omega)
  rcases Nat.mod_two_eq_zero_or_one j with e | e
  · rw [show 2 * (j / 2) = j by omega, hj] at h1; cases h1; rfl
  · rw [show 2 * (j / 2) + 1 = j by omega, hj] at h2; cases h2; rfl
theorem blk_reads {w : World} {g : Nat} {id : TypeId} {cs : List Value} (h : w.heap[g]? = some (.cells cs.toArray id (0, 0))) : ∀ j u, cs[j]? = some u → w.cell? ((⟨g, 0, none⟩ : Addr).add j) = some u := by
  intro j u hu
  have : (⟨g, 0, none⟩ : Addr).add j = ⟨g, j, none⟩ := by rw [Addr.add_lit, Nat.zero_add]
  rw [this, cell_of_row w g j cs.toArray id (0, 0) h]
  simpa using hu
theorem two_1 (w : World) (a b : Obj) : ((w.alloc a).alloc b).heap[w.heap.size]? = some a := by
  have h := heap_alloc_old (w.alloc a) b (r := w.heap.size) (by simp)
  rw [h]; exact heap_alloc_new w a
theorem two_2 (w : World) (a b : Obj) : ((w.alloc a).alloc b).heap[w.heap.size + 1]? = some b := by
  have := heap_alloc_new (w.alloc a) b
  simpa using this
theorem tab_below {n : String} {g : Nat} {k : IntKind} {zs : List Int} {w w' : World} {P : Program} (hg : P.globalNamed n = some g) (h : Lib.TabIs P w n k zs) (hb : Below w.heap.size w w') : Lib.TabIs P w' n k zs := by
  unfold Lib.TabIs World.var? at h ⊢
  rw [hg] at h ⊢
  simp only [Option.bind_some] at h ⊢
  have hlt : g < w.heap.size := by
    rcases Nat.lt_or_ge g w.heap.size with h' | h'
    · exact h'
    · rw [Array.getElem?_eq_none h'] at h; cases h
  rw [hb.block g hlt]
  exact h
/-- What the loop goes over. -/
structure Rows54 (w : World) (g : Nat) : Prop where
  at_ : ∀ i, i < 54 → ∃ z, w.cell? ⟨g, i * 2, none⟩ = some (.int .i64 z) ∧ w.cell? ⟨g, i * 2 + 1, none⟩ = some (.int .i64 z)
theorem rows54 {w : World} {B : Nat} {v : Value} {a b : List Value} (ha : pairsB a 28 = true) (hb : pairsB b 26 = true) (h : w.ownsRow B 25 2 v (28 + 26) (a ++ b)) : ∃ g c, v = .slice (some ⟨g, 0, none⟩) 54 c ∧ Rows54 w g := by
  obtain ⟨hl, hn | ⟨g, c, cur, rfl, hb1, hg, hnc, hcm, hcs, htk⟩⟩ := h
  · omega
  · refine ⟨g, c, rfl, ⟨fun i hi => ?_⟩⟩
    obtain ⟨z, h1, h2⟩ := pairs_app ha hb i hi
    refine ⟨z, ?_, ?_⟩
    · rw [cell_of_row w g _ cur _ (0, 0) hg]
      rw [Nat.mul_comm, ← htk, List.getElem?_take] at h1
      split at h1
      · simpa using h1
      · cases h1
    · rw [cell_of_row w g _ cur _ (0, 0) hg]
      rw [Nat.mul_comm, ← htk, List.getElem?_take] at h2
      split at h2
      · simpa using h2
      · cases h2
set_option maxHeartbeats 4000000 in
set_option maxRecDepth 100000 in
theorem names_walk (w : World) (htab : Lib.TabIs Tryd.prog w "internal/strconv.uint64pow10" .u64 Lib.pow10Tab) : Calls Tryd.prog 3 #[] w fun e w' => e = .returned (.bool true) ∧ Below w.heap.size w w' := by
  obtain ⟨i0, hi0, hz0, hz1, hz2⟩ := parts_of info_pair
  go_enter Tryd.func3, Tryd.ntmps3
  go_wp2_with (first
    | (go_at_call 4; refine (errs_any _).mono ?_; rintro e w1 ⟨rfl, cs1, rfl, hp1⟩)
    | (go_at_call 5; refine (limits_any _).mono ?_; rintro e w2 ⟨rfl, cs2, rfl, hp2⟩)
    | (at_builtin
       refine wpList_append_grows _ ?_ (.tmp 3) (.tmp 4) 22 ?_ 25 i0 (.agg #[.int .i64 0, .int .i64 0]) 2 16 ?_ hi0 hz0 hz1 hz2 ?_ ?_ (some ⟨w.heap.size, 0, none⟩) 28 28 cs1 ?_ ?_ ?_ ?_ ⟨w.heap.size + 1, 0, none⟩ 26 26 cs2 ?_ ?_ ?_ ?_ ?_ ?_ ?_ ?_
       · rfl
       · rfl
       · exact Tryd.underlying22
       · rfl
       · decide
       · rfl
       · intro h; cases h
       · exact pairs_len hp1
       · intro b hb; cases hb; exact blk_reads (two_1 _ _ _)
       · rfl
       · exact pairs_len hp2
       · exact blk_reads (two_2 _ _ _)
       · exact pairs_one hp2
       · decide
       · unfold maxLen; omega
       · decide
       intro v3 w3 hown hgr))
  have hbw : Below w.heap.size w w3 := (((Below.refl w.heap.size w).alloc (Nat.le_refl _) (.cells cs1.toArray 25)).alloc (by simp) (.cells cs2.toArray 25)).grown hgr (by simp; omega) (fun k hk => by cases hk)
  obtain ⟨g, c, rfl, hrows⟩ := rows54 hp1 hp2 hown
  have htab3 : Lib.TabIs Tryd.prog w3 "internal/strconv.uint64pow10" .u64 Lib.pow10Tab := tab_below (g := 1) (by kernel_rfl) htab hbw
  clear hown hgr hp1 hp2
  go_loopw [2] (fun i wr => ∃ k : Nat, k ≤ 54 ∧ i = .int .i64 k ∧ Below w.heap.size w wr ∧ Rows54 wr g ∧ Lib.TabIs Tryd.prog wr "internal/strconv.uint64pow10" .u64 Lib.pow10Tab) (fun i _ => 54 - (intOf i).toNat)
  case atStart => exact ⟨0, by omega, rfl, hbw, hrows, htab3⟩
  case round =>
    clear hbw hrows htab3
    obtain ⟨k, hk, rfl, hbw, hrows, htab3⟩ := hrel
    by_cases hlt : k < 54
    · obtain ⟨z, hz1, hz2⟩ := hrows.at_ k hlt
      go_wp2
      go_region
      go_wp2
      go_roundw
      case rel => exact ⟨k + 1, by omega, by go_num, hbw.drew, ⟨fun i hi => by simpa using hrows.at_ i hi⟩, htab3⟩
      case measure => simp [intOf]; omega
    · obtain rfl : k = 54 := by omega
      go_wp2_with (first
        | (go_at_call 6; refine (told_202 _ htab3).mono ?_; rintro e w4 ⟨rfl, hb4⟩)
        | (go_at_call 6; refine (told_0 _).mono ?_; rintro e w5 ⟨rfl, rfl⟩)
        | (go_at_call 7; refine (bits_any _ _).mono ?_; rintro e w6 ⟨rfl, rfl⟩)
        | (go_at_call 8; refine (float_any _ _).mono ?_; rintro e w7 ⟨rfl, rfl⟩))
      refine bodyPost_ret (v := .bool true) ?_ rfl ⟨rfl, hbw.trans (hb4.mono hbw.size)⟩
      simp [results, go_sem, show Tryd.f3.results = #[.tmp 0] from rfl]
end Go.Proofs.YtnhdlnmghabalaaDoor
