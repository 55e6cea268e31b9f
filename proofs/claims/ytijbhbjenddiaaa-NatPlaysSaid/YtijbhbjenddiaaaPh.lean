/-
  Walks and plain laws, put together: SJ.
-/
import Derived.Test.YtijbhbjenddiaaaPg
set_option linter.unusedVariables false
set_option linter.unusedSimpArgs false
namespace Go.Proofs.Ytijbhbjenddiaaa.Rg
open Go.RowKit

theorem ia64 {g n c k : Nat} (hk : k < n) : ∀ w : World, (Instr.indexAt 69 (.slice (some ⟨g, 0, none⟩) n c) (.int .i64 (k : Int))).run Try.prog w = .ok (.pointer (some ⟨g, k, none⟩)) w := by
  intro w; simp [go_sem, hk]
theorem ia32 {g n c k : Nat} (hk : k < n) : ∀ w : World, (Instr.indexAt 70 (.slice (some ⟨g, 0, none⟩) n c) (.int .i64 (k : Int))).run Try.prog w = .ok (.pointer (some ⟨g, k, none⟩)) w := by
  intro w; simp [go_sem, hk]
theorem ldr64 {g k : Nat} : ∀ A n c (w : World), w.cell? ⟨g, k, none⟩ = some (.slice A n c) → (Instr.loadAt 25 (.pointer (some ⟨g, k, none⟩))).run Try.prog w = .ok (.agg #[.slice A n c]) w := by
  intro A n c w h; simp [go_sem, h]
theorem ldr32 {g k : Nat} : ∀ A n c (w : World), w.cell? ⟨g, k, none⟩ = some (.slice A n c) → (Instr.loadAt 44 (.pointer (some ⟨g, k, none⟩))).run Try.prog w = .ok (.agg #[.slice A n c]) w := by
  intro A n c w h; simp [go_sem, h]
theorem len64 {n : Nat} : ∀ (w : World) A c, (Builtin.len_ #[69] 3 #[.slice A n c]).run Try.prog w = .ok (.int .i64 n) w := by
  intro w A c; simp [go_sem]
theorem box_op {a b c d : Int} : ∀ v w, (tV (.agg #[.int .i64 a, .int .i64 b, .int .i64 c, .int .i64 d])).p v w → (Instr.box 74 v).run Try.prog w = .ok (.pointer (some ⟨w.heap.size, 0, none⟩)) (w.alloc (.cells v.cells 74)) := by
  rintro v w h
  have h : v = .agg #[.int .i64 a, .int .i64 b, .int .i64 c, .int .i64 d] := h
  subst h
  simp [go_sem, Value.cells]

set_option maxRecDepth 10000 in
set_option maxHeartbeats 2000000 in
theorem after0 {gl gm n cl cm ia ja i j sn : Nat} {ok oi oj os : Int} {xs : List Nat} {w : World} (HL : Rw B64 25 1000000 gl xs w) (HM : Rw B32 44 1000000 gm xs w) (hn0 : ¬ n = 0) (hi : i < xs.length) (hj : j < xs.length) (hi2 : i < n) (hj2 : j < n)
    (ei : bits .and .i64 oi 255 = (ia : Int)) (ej : bits .and .i64 oj 255 = (ja : Int)) (es : bits .and .i64 os 127 = (sn : Int)) (ri : (ia : Int).tmod (n : Int) = (i : Int)) (rj : (ja : Int).tmod (n : Int) = (j : Int)) (ek : bits .and .i64 ok 7 = 0)  :
    Calls Try.prog 44 #[.slice (some ⟨gl, 0, none⟩) n cl, .slice (some ⟨gm, 0, none⟩) n cm, .agg #[.int .i64 ok, .int .i64 oi, .int .i64 oj, .int .i64 os]] w (Ret (tT [tN B64 1000001 ((xs.getD i 0) + (xs.getD j 0)), tN B32 1000001 ((xs.getD i 0) + (xs.getD j 0))]) w) := by
  refine enter Try.func44 rfl Try.ntmps44 (by simp) ?_
  intro a hz hd ha
  have S0 := ha 0 _ rfl
  have S1 := ha 1 _ rfl
  have S2 := ha 2 _ rfl
  clear ha
  have HB : Below w.heap.size w w := Below.refl _ _
  refine wp_seq ?_
  refine region_text (M := []) (
      rB 0 74 (tV (.agg #[.int .i64 ok, .int .i64 oi, .int .i64 oj, .int .i64 os])) none 0 ::
      rB 1 25 (tN B64 0 0) none 0 ::
      rB 2 44 (tN B32 0 0) none 0 ::
      []) hz hd (by kernel_rfl) ?_ ?_
  · refine ⟨?_, ?_, ?_, trivial⟩
    · exact sBox rfl rfl rfl hz rfl rfl rfl (Src.out (t := 2) (by kernel_rfl) S2 rfl) box_op
    · exact sNew rfl rfl rfl hz rfl rfl rfl (fun _ => tN_nil) al_n64
    · exact sNew rfl rfl rfl hz rfl rfl rfl (fun _ => tN_nil) al_n32
  intro a' γ' W' hz' hd' hC hk hh
  replace S0 := hk 0 _ (by kernel_rfl) S0
  replace S1 := hk 1 _ (by kernel_rfl) S1
  clear S2
  replace HL := Rw.aft HL hC rfl
  replace HM := Rw.aft HM hC rfl
  obtain ⟨p1, S5, Cp1, lp1, gp1⟩ := gotB hz' 0 hC hh rfl rfl rfl rfl rfl rfl
  obtain ⟨p2, S6, Cp2, lp2, gp2⟩ := gotB hz' 1 hC hh rfl rfl rfl rfl rfl rfl
  obtain ⟨p3, S7, Cp3, lp3, gp3⟩ := gotB hz' 2 hC hh rfl rfl rfl rfl rfl rfl
  have n_p1_p2 : p1 ≠ p2 := by intro e; rw [e, gp2] at gp1; omega
  have n_p1_p3 : p1 ≠ p3 := by intro e; rw [e, gp3] at gp1; omega
  have n_p2_p3 : p2 ≠ p3 := by intro e; rw [e, gp3] at gp2; omega
  have n_p3_p2 : p3 ≠ p2 := by intro e; rw [e, gp2] at gp3; omega
  have bp2 : w.heap.size ≤ p2 := Nat.le_trans HB.size lp2
  have bp3 : w.heap.size ≤ p3 := Nat.le_trans HB.size lp3
  clear lp1 gp1 lp2 gp2 lp3 gp3
  replace HB := aft_call HB (RelC.below_nil hC)
  clear hC hk hh; replace hz := hz'; replace hd := hd'; clear hz' hd'
  refine wp_seq ?_
  refine region_drawn (M := []) (
      rT (tV (.pointer (some ⟨p1, 1, none⟩))) ::
      rT (tV (.int .i64 oi)) ::
      rT (tV (.int .i64 (ia : Int))) ::
      rT (tV (.slice (some ⟨gl, 0, none⟩) n cl)) ::
      rT (tV (.int .i64 (n : Int))) ::
      rT (tV (.int .i64 (i : Int))) ::
      rT (tV (.pointer (some ⟨p1, 2, none⟩))) ::
      rT (tV (.int .i64 oj)) ::
      rT (tV (.int .i64 (ja : Int))) ::
      rT (tV (.slice (some ⟨gl, 0, none⟩) n cl)) ::
      rT (tV (.int .i64 (n : Int))) ::
      rT (tV (.int .i64 (j : Int))) ::
      rT (tV (.int .i64 (i : Int))) ::
      rT (tV (.int .i64 (j : Int))) ::
      []) hz hd (by kernel_rfl) (by kernel_rfl) ?_ ?_
  · refine ⟨?_, ?_, ?_, ?_, ?_, ?_, ?_, ?_, ?_, ?_, ?_, ?_, ?_, ?_, trivial⟩
    · exact sFA rfl rfl rfl hz rfl (Gd.none_ rfl) rfl (Src.out (t := 5) (by kernel_rfl) S5 rfl) (fun w => by simp [go_sem])
    · exact sLoadF rfl rfl rfl hz rfl (Gd.none_ rfl) rfl (Src.dep (j := 0) (t := 25) (by kernel_rfl) (by kernel_rfl) rfl) Cp1 rfl rfl (fun w h => by simp [go_sem, h])
    · exact sBin rfl rfl rfl hz rfl (Gd.none_ rfl) rfl (Src.dep (j := 1) (t := 26) (by kernel_rfl) (by kernel_rfl) rfl) (Src.const (.int .i64 255)) (fun w => by simp [go_sem, ei])
    · exact sMv rfl rfl rfl hz rfl (Gd.none_ rfl) rfl (Src.out (t := 0) (by kernel_rfl) S0 rfl)
    · exact sLen rfl rfl rfl hz rfl (Gd.none_ rfl) rfl (Src.dep (j := 3) (t := 28) (by kernel_rfl) (by kernel_rfl) rfl) (fun v w h => ⟨_, _, h⟩) len64
    · exact sBin rfl rfl rfl hz rfl (Gd.none_ rfl) rfl (Src.dep (j := 2) (t := 27) (by kernel_rfl) (by kernel_rfl) rfl) (Src.dep (j := 4) (t := 29) (by kernel_rfl) (by kernel_rfl) rfl) (fun w => by simp [go_sem, hn0, ri])
    · exact sFA rfl rfl rfl hz rfl (Gd.none_ rfl) rfl (Src.out (t := 5) (by kernel_rfl) S5 rfl) (fun w => by simp [go_sem])
    · exact sLoadF rfl rfl rfl hz rfl (Gd.none_ rfl) rfl (Src.dep (j := 6) (t := 31) (by kernel_rfl) (by kernel_rfl) rfl) Cp1 rfl rfl (fun w h => by simp [go_sem, h])
    · exact sBin rfl rfl rfl hz rfl (Gd.none_ rfl) rfl (Src.dep (j := 7) (t := 32) (by kernel_rfl) (by kernel_rfl) rfl) (Src.const (.int .i64 255)) (fun w => by simp [go_sem, ej])
    · exact sMv rfl rfl rfl hz rfl (Gd.none_ rfl) rfl (Src.out (t := 0) (by kernel_rfl) S0 rfl)
    · exact sLen rfl rfl rfl hz rfl (Gd.none_ rfl) rfl (Src.dep (j := 9) (t := 34) (by kernel_rfl) (by kernel_rfl) rfl) (fun v w h => ⟨_, _, h⟩) len64
    · exact sBin rfl rfl rfl hz rfl (Gd.none_ rfl) rfl (Src.dep (j := 8) (t := 33) (by kernel_rfl) (by kernel_rfl) rfl) (Src.dep (j := 10) (t := 35) (by kernel_rfl) (by kernel_rfl) rfl) (fun w => by simp [go_sem, hn0, rj])
    · exact sAs rfl rfl rfl hz rfl (Gd.none_ rfl) rfl (Src.dep (j := 5) (t := 30) (by kernel_rfl) (by kernel_rfl) rfl)
    · exact sAs rfl rfl rfl hz rfl (Gd.none_ rfl) rfl (Src.dep (j := 11) (t := 36) (by kernel_rfl) (by kernel_rfl) rfl)
  intro a' γ' W' hz' hd' hC hk hh
  replace Cp1 := Cell.aft Cp1 hC rfl
  have tp2 := Cp2.lt
  replace Cp2 := Cell.aft Cp2 hC rfl
  have tp3 := Cp3.lt
  replace Cp3 := Cell.aft Cp3 hC rfl
  replace S0 := hk 0 _ (by kernel_rfl) S0
  replace S1 := hk 1 _ (by kernel_rfl) S1
  replace S5 := hk 5 _ (by kernel_rfl) S5
  replace S6 := hk 6 _ (by kernel_rfl) S6
  replace S7 := hk 7 _ (by kernel_rfl) S7
  replace HL := Rw.aft HL hC rfl
  replace HM := Rw.aft HM hC rfl
  have S8 := gotV hz' 12 hh rfl rfl rfl rfl
  have S9 := gotV hz' 13 hh rfl rfl rfl rfl
  clear tp2 tp3
  replace HB := aft_call HB (RelC.below_nil hC)
  clear hC hk hh; replace hz := hz'; replace hd := hd'; clear hz' hd'
  refine wp_seq ?_
  refine region_drawn (M := []) (
      rT (tV (.slice (some ⟨gl, 0, none⟩) n cl)) ::
      rT (tV (.int .i64 (i : Int))) ::
      rT (tV (.pointer (some ⟨gl, i, none⟩))) ::
      rT (tN B64 1000000 (xs.getD i 0)) ::
      rT (tV (.slice (some ⟨gl, 0, none⟩) n cl)) ::
      rT (tV (.int .i64 (j : Int))) ::
      rT (tV (.pointer (some ⟨gl, j, none⟩))) ::
      rT (tN B64 1000000 (xs.getD j 0)) ::
      rT (tV (.slice (some ⟨gm, 0, none⟩) n cm)) ::
      rT (tV (.int .i64 (i : Int))) ::
      rT (tV (.pointer (some ⟨gm, i, none⟩))) ::
      rT (tN B32 1000000 (xs.getD i 0)) ::
      rT (tV (.slice (some ⟨gm, 0, none⟩) n cm)) ::
      rT (tV (.int .i64 (j : Int))) ::
      rT (tV (.pointer (some ⟨gm, j, none⟩))) ::
      rT (tN B32 1000000 (xs.getD j 0)) ::
      rVar 16 25 1 ::
      rVar 17 25 1 ::
      rVar 18 44 1 ::
      rVar 19 44 1 ::
      rB 16 25 (tN B64 1000000 (xs.getD i 0)) (some 16) 17 ::
      rB 17 25 (tN B64 1000000 (xs.getD j 0)) (some 17) 18 ::
      rB 18 44 (tN B32 1000000 (xs.getD i 0)) (some 18) 19 ::
      rB 19 44 (tN B32 1000000 (xs.getD j 0)) (some 19) 20 ::
      []) hz hd (by kernel_rfl) (by kernel_rfl) ?_ ?_
  · refine ⟨?_, ?_, ?_, ?_, ?_, ?_, ?_, ?_, ?_, ?_, ?_, ?_, ?_, ?_, ?_, ?_, ?_, ?_, ?_, ?_, ?_, ?_, ?_, ?_, trivial⟩
    · exact sMv rfl rfl rfl hz rfl (Gd.none_ rfl) rfl (Src.out (t := 0) (by kernel_rfl) S0 rfl)
    · exact sMv rfl rfl rfl hz rfl (Gd.none_ rfl) rfl (Src.out (t := 8) (by kernel_rfl) S8 rfl)
    · exact sIdx rfl rfl rfl hz rfl (Gd.none_ rfl) rfl (Src.dep (j := 0) (t := 37) (by kernel_rfl) (by kernel_rfl) rfl) (Src.dep (j := 1) (t := 38) (by kernel_rfl) (by kernel_rfl) rfl) (ia64 hi2)
    · exact sLoadRow rfl rfl rfl hz rfl (Gd.none_ rfl) rfl (Src.dep (j := 2) (t := 39) (by kernel_rfl) (by kernel_rfl) rfl) HL rfl hi ldr64
    · exact sMv rfl rfl rfl hz rfl (Gd.none_ rfl) rfl (Src.out (t := 0) (by kernel_rfl) S0 rfl)
    · exact sMv rfl rfl rfl hz rfl (Gd.none_ rfl) rfl (Src.out (t := 9) (by kernel_rfl) S9 rfl)
    · exact sIdx rfl rfl rfl hz rfl (Gd.none_ rfl) rfl (Src.dep (j := 4) (t := 41) (by kernel_rfl) (by kernel_rfl) rfl) (Src.dep (j := 5) (t := 42) (by kernel_rfl) (by kernel_rfl) rfl) (ia64 hj2)
    · exact sLoadRow rfl rfl rfl hz rfl (Gd.none_ rfl) rfl (Src.dep (j := 6) (t := 43) (by kernel_rfl) (by kernel_rfl) rfl) HL rfl hj ldr64
    · exact sMv rfl rfl rfl hz rfl (Gd.none_ rfl) rfl (Src.out (t := 1) (by kernel_rfl) S1 rfl)
    · exact sMv rfl rfl rfl hz rfl (Gd.none_ rfl) rfl (Src.out (t := 8) (by kernel_rfl) S8 rfl)
    · exact sIdx rfl rfl rfl hz rfl (Gd.none_ rfl) rfl (Src.dep (j := 8) (t := 45) (by kernel_rfl) (by kernel_rfl) rfl) (Src.dep (j := 9) (t := 46) (by kernel_rfl) (by kernel_rfl) rfl) (ia32 hi2)
    · exact sLoadRow rfl rfl rfl hz rfl (Gd.none_ rfl) rfl (Src.dep (j := 10) (t := 47) (by kernel_rfl) (by kernel_rfl) rfl) HM rfl hi ldr32
    · exact sMv rfl rfl rfl hz rfl (Gd.none_ rfl) rfl (Src.out (t := 1) (by kernel_rfl) S1 rfl)
    · exact sMv rfl rfl rfl hz rfl (Gd.none_ rfl) rfl (Src.out (t := 9) (by kernel_rfl) S9 rfl)
    · exact sIdx rfl rfl rfl hz rfl (Gd.none_ rfl) rfl (Src.dep (j := 12) (t := 49) (by kernel_rfl) (by kernel_rfl) rfl) (Src.dep (j := 13) (t := 50) (by kernel_rfl) (by kernel_rfl) rfl) (ia32 hj2)
    · exact sLoadRow rfl rfl rfl hz rfl (Gd.none_ rfl) rfl (Src.dep (j := 14) (t := 51) (by kernel_rfl) (by kernel_rfl) rfl) HM rfl hj ldr32
    · exact sAlloc rfl rfl rfl hz rfl rfl rfl rfl nd_slice al_n64
    · exact sAlloc rfl rfl rfl hz rfl rfl rfl rfl nd_slice al_n64
    · exact sAlloc rfl rfl rfl hz rfl rfl rfl rfl nd_slice al_n32
    · exact sAlloc rfl rfl rfl hz rfl rfl rfl rfl nd_slice al_n32
    · exact sStore rfl rfl rfl rfl rfl (by kernel_rfl) (by kernel_rfl) rfl (Src.dep (j := 3) (t := 40) (by kernel_rfl) (by kernel_rfl) rfl) st_n64
    · exact sStore rfl rfl rfl rfl rfl (by kernel_rfl) (by kernel_rfl) rfl (Src.dep (j := 7) (t := 44) (by kernel_rfl) (by kernel_rfl) rfl) st_n64
    · exact sStore rfl rfl rfl rfl rfl (by kernel_rfl) (by kernel_rfl) rfl (Src.dep (j := 11) (t := 48) (by kernel_rfl) (by kernel_rfl) rfl) st_n32
    · exact sStore rfl rfl rfl rfl rfl (by kernel_rfl) (by kernel_rfl) rfl (Src.dep (j := 15) (t := 52) (by kernel_rfl) (by kernel_rfl) rfl) st_n32
  intro a' γ' W' hz' hd' hC hk hh
  replace Cp1 := Cell.aft Cp1 hC rfl
  have tp2 := Cp2.lt
  replace Cp2 := Cell.aft Cp2 hC rfl
  have tp3 := Cp3.lt
  replace Cp3 := Cell.aft Cp3 hC rfl
  clear S0
  clear S1
  replace S5 := hk 5 _ (by kernel_rfl) S5
  replace S6 := hk 6 _ (by kernel_rfl) S6
  replace S7 := hk 7 _ (by kernel_rfl) S7
  clear S8
  clear S9
  clear HL
  clear HM
  obtain ⟨p4, S10, Cp4, lp4, gp4⟩ := gotB hz' 20 hC hh rfl rfl rfl rfl rfl rfl
  obtain ⟨p5, S11, Cp5, lp5, gp5⟩ := gotB hz' 21 hC hh rfl rfl rfl rfl rfl rfl
  obtain ⟨p6, S12, Cp6, lp6, gp6⟩ := gotB hz' 22 hC hh rfl rfl rfl rfl rfl rfl
  obtain ⟨p7, S13, Cp7, lp7, gp7⟩ := gotB hz' 23 hC hh rfl rfl rfl rfl rfl rfl
  have n_p4_p2 : p4 ≠ p2 := by omega
  have n_p4_p3 : p4 ≠ p3 := by omega
  have n_p5_p2 : p5 ≠ p2 := by omega
  have n_p5_p3 : p5 ≠ p3 := by omega
  have n_p6_p2 : p6 ≠ p2 := by omega
  have n_p6_p3 : p6 ≠ p3 := by omega
  have n_p7_p2 : p7 ≠ p2 := by omega
  have n_p7_p3 : p7 ≠ p3 := by omega
  clear lp4 gp4 lp5 gp5 lp6 gp6 lp7 gp7
  clear tp2 tp3
  replace HB := aft_call HB (RelC.below_nil hC)
  clear hC hk hh; replace hz := hz'; replace hd := hd'; clear hz' hd'
  refine wp_seq ?_
  refine wp_seq ?_
  refine region_text (M := []) (
      rT (tV (.pointer (some ⟨p1, 0, none⟩))) ::
      rT (tV (.int .i64 ok)) ::
      rT (tV (.int .i64 0)) ::
      []) hz hd (by kernel_rfl) ?_ ?_
  · refine ⟨?_, ?_, ?_, trivial⟩
    · exact sFA rfl rfl rfl hz rfl (Gd.none_ rfl) rfl (Src.out (t := 5) (by kernel_rfl) S5 rfl) (fun w => by simp [go_sem])
    · exact sLoadF rfl rfl rfl hz rfl (Gd.none_ rfl) rfl (Src.dep (j := 0) (t := 53) (by kernel_rfl) (by kernel_rfl) rfl) Cp1 rfl rfl (fun w h => by simp [go_sem, h])
    · exact sBin rfl rfl rfl hz rfl (Gd.none_ rfl) rfl (Src.dep (j := 1) (t := 54) (by kernel_rfl) (by kernel_rfl) rfl) (Src.const (.int .i64 7)) (fun w => by simp [go_sem, ek])
  intro a' γ' W' hz' hd' hC hk hh
  replace Cp1 := Cell.aft Cp1 hC rfl
  have tp2 := Cp2.lt
  replace Cp2 := Cell.aft Cp2 hC rfl
  have tp3 := Cp3.lt
  replace Cp3 := Cell.aft Cp3 hC rfl
  replace Cp4 := Cell.aft Cp4 hC rfl
  replace Cp5 := Cell.aft Cp5 hC rfl
  replace Cp6 := Cell.aft Cp6 hC rfl
  replace Cp7 := Cell.aft Cp7 hC rfl
  replace S5 := hk 5 _ (by kernel_rfl) S5
  replace S6 := hk 6 _ (by kernel_rfl) S6
  replace S7 := hk 7 _ (by kernel_rfl) S7
  replace S10 := hk 10 _ (by kernel_rfl) S10
  replace S11 := hk 11 _ (by kernel_rfl) S11
  replace S12 := hk 12 _ (by kernel_rfl) S12
  replace S13 := hk 13 _ (by kernel_rfl) S13
  have S55 := gotV hz' 2 hh rfl rfl rfl rfl
  clear tp2 tp3
  replace HB := aft_call HB (RelC.below_nil hC)
  clear hC hk hh; replace hz := hz'; replace hd := hd'; clear hz' hd'
  refine wp_block ?_
  refine wp_seq ?_
  refine region_text (M := []) (
      rT (tV (.bool true)) ::
      rT (tV (.bool true)) ::
      []) hz hd (by kernel_rfl) ?_ ?_
  · refine ⟨?_, ?_, trivial⟩
    · exact sBin rfl rfl rfl hz rfl (Gd.none_ rfl) rfl (Src.out (t := 55) (by kernel_rfl) S55 rfl) (Src.const (.int .i64 0)) (fun w => by simp [go_sem])
    · exact sAs rfl rfl rfl hz rfl (Gd.none_ rfl) rfl (Src.dep (j := 0) (t := 57) (by kernel_rfl) (by kernel_rfl) rfl)
  intro a' γ' W' hz' hd' hC hk hh
  replace Cp1 := Cell.aft Cp1 hC rfl
  have tp2 := Cp2.lt
  replace Cp2 := Cell.aft Cp2 hC rfl
  have tp3 := Cp3.lt
  replace Cp3 := Cell.aft Cp3 hC rfl
  replace Cp4 := Cell.aft Cp4 hC rfl
  replace Cp5 := Cell.aft Cp5 hC rfl
  replace Cp6 := Cell.aft Cp6 hC rfl
  replace Cp7 := Cell.aft Cp7 hC rfl
  replace S5 := hk 5 _ (by kernel_rfl) S5
  replace S6 := hk 6 _ (by kernel_rfl) S6
  replace S7 := hk 7 _ (by kernel_rfl) S7
  replace S10 := hk 10 _ (by kernel_rfl) S10
  replace S11 := hk 11 _ (by kernel_rfl) S11
  replace S12 := hk 12 _ (by kernel_rfl) S12
  replace S13 := hk 13 _ (by kernel_rfl) S13
  replace S55 := hk 55 _ (by kernel_rfl) S55
  have S56 := gotV hz' 1 hh rfl rfl rfl rfl
  clear tp2 tp3
  replace HB := aft_call HB (RelC.below_nil hC)
  clear hC hk hh; replace hz := hz'; replace hd := hd'; clear hz' hd'
  refine wp_cond_true S56.ev ?_
  refine wp_seq ?_
  refine region_drawn (M := [p2, p3]) (
      rT (tN B64 1000000 (xs.getD i 0)) ::
      rT (tN B64 1000000 (xs.getD j 0)) ::
      rT (tN B64 1000001 ((xs.getD i 0) + (xs.getD j 0))) ::
      rT (tN B32 1000000 (xs.getD i 0)) ::
      rT (tN B32 1000000 (xs.getD j 0)) ::
      rT (tN B32 1000001 ((xs.getD i 0) + (xs.getD j 0))) ::
      rE 0 25 (tN B64 1000001 ((xs.getD i 0) + (xs.getD j 0))) p2 ::
      rE 1 44 (tN B32 1000001 ((xs.getD i 0) + (xs.getD j 0))) p3 ::
      []) hz hd (by kernel_rfl) (by kernel_rfl) ?_ ?_
  · refine ⟨?_, ?_, ?_, ?_, ?_, ?_, ?_, ?_, trivial⟩
    · exact sLoad rfl rfl rfl hz rfl (Gd.none_ rfl) rfl (Src.out (t := 10) (by kernel_rfl) S10 rfl) Cp4 (by simp [tagOf, n_p4_p2, n_p4_p3]) ld_n64
    · exact sLoad rfl rfl rfl hz rfl (Gd.none_ rfl) rfl (Src.out (t := 11) (by kernel_rfl) S11 rfl) Cp5 (by simp [tagOf, n_p5_p2, n_p5_p3]) ld_n64
    · exact sCall rfl rfl rfl hz rfl (Gd.none_ rfl) rfl Try.func20 (by kernel_rfl) (by kernel_rfl) fun a γ w U => (by show Calls _ _ #[a.eval (.tmp 58), a.eval (.tmp 59)] _ _; exact c_add (Src.at_ (Src.dep (j := 0) (t := 58) (by kernel_rfl) (by kernel_rfl) rfl) U) (Src.at_ (Src.dep (j := 1) (t := 59) (by kernel_rfl) (by kernel_rfl) rfl) U) (by decide) (by decide))
    · exact sLoad rfl rfl rfl hz rfl (Gd.none_ rfl) rfl (Src.out (t := 12) (by kernel_rfl) S12 rfl) Cp6 (by simp [tagOf, n_p6_p2, n_p6_p3]) ld_n32
    · exact sLoad rfl rfl rfl hz rfl (Gd.none_ rfl) rfl (Src.out (t := 13) (by kernel_rfl) S13 rfl) Cp7 (by simp [tagOf, n_p7_p2, n_p7_p3]) ld_n32
    · exact sCall rfl rfl rfl hz rfl (Gd.none_ rfl) rfl Try.func58 (by kernel_rfl) (by kernel_rfl) fun a γ w U => (by show Calls _ _ #[a.eval (.tmp 61), a.eval (.tmp 62)] _ _; exact d_add (Src.at_ (Src.dep (j := 3) (t := 61) (by kernel_rfl) (by kernel_rfl) rfl) U) (Src.at_ (Src.dep (j := 4) (t := 62) (by kernel_rfl) (by kernel_rfl) rfl) U) (by decide) (by decide))
    · exact sStoreE rfl rfl rfl rfl rfl (Src.out (t := 6) (by kernel_rfl) S6 rfl) (by simp [tagOf]) (Cp2.var tN_nd) (Src.dep (j := 2) (t := 60) (by kernel_rfl) (by kernel_rfl) rfl) st_n64
    · exact sStoreE rfl rfl rfl rfl rfl (Src.out (t := 7) (by kernel_rfl) S7 rfl) (by simp [tagOf, n_p3_p2]) (Cp3.var tN_nd) (Src.dep (j := 5) (t := 63) (by kernel_rfl) (by kernel_rfl) rfl) st_n32
  intro a' γ' W' hz' hd' hC hk hh
  replace Cp1 := Cell.aft Cp1 hC (by simp [tagOf, n_p1_p2, n_p1_p3])
  replace Cp2 := gotE (T := tN B64 1000001 ((xs.getD i 0) + (xs.getD j 0))) (id := 25) (p := p2) 6 hh rfl rfl
  replace Cp3 := gotE (T := tN B32 1000001 ((xs.getD i 0) + (xs.getD j 0))) (id := 44) (p := p3) 7 hh rfl rfl
  replace Cp4 := Cell.aft Cp4 hC (by simp [tagOf, n_p4_p2, n_p4_p3])
  clear Cp5
  replace Cp6 := Cell.aft Cp6 hC (by simp [tagOf, n_p6_p2, n_p6_p3])
  clear Cp7
  replace S5 := hk 5 _ (by kernel_rfl) S5
  replace S6 := hk 6 _ (by kernel_rfl) S6
  replace S7 := hk 7 _ (by kernel_rfl) S7
  replace S10 := hk 10 _ (by kernel_rfl) S10
  clear S11
  replace S12 := hk 12 _ (by kernel_rfl) S12
  clear S13
  clear S55
  clear S56
  replace HB := RelC.aftM HB hC (by intro m hm; simp at hm; rcases hm with rfl | rfl <;> assumption)
  clear hC hk hh; replace hz := hz'; replace hd := hd'; clear hz' hd'
  refine wp_ret ?_
  exact ret2n (by kernel_rfl) S6 S7 hd Cp2 Cp3 HB

set_option maxRecDepth 10000 in
set_option maxHeartbeats 2000000 in
theorem after1l {gl gm n cl cm ia ja i j sn : Nat} {ok oi oj os : Int} {xs : List Nat} {w : World} (HL : Rw B64 25 1000000 gl xs w) (HM : Rw B32 44 1000000 gm xs w) (hn0 : ¬ n = 0) (hi : i < xs.length) (hj : j < xs.length) (hi2 : i < n) (hj2 : j < n)
    (ei : bits .and .i64 oi 255 = (ia : Int)) (ej : bits .and .i64 oj 255 = (ja : Int)) (es : bits .and .i64 os 127 = (sn : Int)) (ri : (ia : Int).tmod (n : Int) = (i : Int)) (rj : (ja : Int).tmod (n : Int) = (j : Int)) (ek : bits .and .i64 ok 7 = 1) (e2 : (xs.getD i 0) - (xs.getD j 0) = 0) (e3 : decide (cmpI (xs.getD i 0) (xs.getD j 0) < 0) = true) :
    Calls Try.prog 44 #[.slice (some ⟨gl, 0, none⟩) n cl, .slice (some ⟨gm, 0, none⟩) n cm, .agg #[.int .i64 ok, .int .i64 oi, .int .i64 oj, .int .i64 os]] w (Ret (tT [tN B64 1000000 0, tN B32 0 0]) w) := by
  refine enter Try.func44 rfl Try.ntmps44 (by simp) ?_
  intro a hz hd ha
  have S0 := ha 0 _ rfl
  have S1 := ha 1 _ rfl
  have S2 := ha 2 _ rfl
  clear ha
  have HB : Below w.heap.size w w := Below.refl _ _
  refine wp_seq ?_
  refine region_text (M := []) (
      rB 0 74 (tV (.agg #[.int .i64 ok, .int .i64 oi, .int .i64 oj, .int .i64 os])) none 0 ::
      rB 1 25 (tN B64 0 0) none 0 ::
      rB 2 44 (tN B32 0 0) none 0 ::
      []) hz hd (by kernel_rfl) ?_ ?_
  · refine ⟨?_, ?_, ?_, trivial⟩
    · exact sBox rfl rfl rfl hz rfl rfl rfl (Src.out (t := 2) (by kernel_rfl) S2 rfl) box_op
    · exact sNew rfl rfl rfl hz rfl rfl rfl (fun _ => tN_nil) al_n64
    · exact sNew rfl rfl rfl hz rfl rfl rfl (fun _ => tN_nil) al_n32
  intro a' γ' W' hz' hd' hC hk hh
  replace S0 := hk 0 _ (by kernel_rfl) S0
  replace S1 := hk 1 _ (by kernel_rfl) S1
  clear S2
  replace HL := Rw.aft HL hC rfl
  replace HM := Rw.aft HM hC rfl
  obtain ⟨p1, S5, Cp1, lp1, gp1⟩ := gotB hz' 0 hC hh rfl rfl rfl rfl rfl rfl
  obtain ⟨p2, S6, Cp2, lp2, gp2⟩ := gotB hz' 1 hC hh rfl rfl rfl rfl rfl rfl
  obtain ⟨p3, S7, Cp3, lp3, gp3⟩ := gotB hz' 2 hC hh rfl rfl rfl rfl rfl rfl
  have n_p1_p2 : p1 ≠ p2 := by intro e; rw [e, gp2] at gp1; omega
  have n_p1_p3 : p1 ≠ p3 := by intro e; rw [e, gp3] at gp1; omega
  have n_p2_p3 : p2 ≠ p3 := by intro e; rw [e, gp3] at gp2; omega
  have n_p3_p2 : p3 ≠ p2 := by intro e; rw [e, gp2] at gp3; omega
  have bp2 : w.heap.size ≤ p2 := Nat.le_trans HB.size lp2
  have bp3 : w.heap.size ≤ p3 := Nat.le_trans HB.size lp3
  clear lp1 gp1 lp2 gp2 lp3 gp3
  replace HB := aft_call HB (RelC.below_nil hC)
  clear hC hk hh; replace hz := hz'; replace hd := hd'; clear hz' hd'
  refine wp_seq ?_
  refine region_drawn (M := []) (
      rT (tV (.pointer (some ⟨p1, 1, none⟩))) ::
      rT (tV (.int .i64 oi)) ::
      rT (tV (.int .i64 (ia : Int))) ::
      rT (tV (.slice (some ⟨gl, 0, none⟩) n cl)) ::
      rT (tV (.int .i64 (n : Int))) ::
      rT (tV (.int .i64 (i : Int))) ::
      rT (tV (.pointer (some ⟨p1, 2, none⟩))) ::
      rT (tV (.int .i64 oj)) ::
      rT (tV (.int .i64 (ja : Int))) ::
      rT (tV (.slice (some ⟨gl, 0, none⟩) n cl)) ::
      rT (tV (.int .i64 (n : Int))) ::
      rT (tV (.int .i64 (j : Int))) ::
      rT (tV (.int .i64 (i : Int))) ::
      rT (tV (.int .i64 (j : Int))) ::
      []) hz hd (by kernel_rfl) (by kernel_rfl) ?_ ?_
  · refine ⟨?_, ?_, ?_, ?_, ?_, ?_, ?_, ?_, ?_, ?_, ?_, ?_, ?_, ?_, trivial⟩
    · exact sFA rfl rfl rfl hz rfl (Gd.none_ rfl) rfl (Src.out (t := 5) (by kernel_rfl) S5 rfl) (fun w => by simp [go_sem])
    · exact sLoadF rfl rfl rfl hz rfl (Gd.none_ rfl) rfl (Src.dep (j := 0) (t := 25) (by kernel_rfl) (by kernel_rfl) rfl) Cp1 rfl rfl (fun w h => by simp [go_sem, h])
    · exact sBin rfl rfl rfl hz rfl (Gd.none_ rfl) rfl (Src.dep (j := 1) (t := 26) (by kernel_rfl) (by kernel_rfl) rfl) (Src.const (.int .i64 255)) (fun w => by simp [go_sem, ei])
    · exact sMv rfl rfl rfl hz rfl (Gd.none_ rfl) rfl (Src.out (t := 0) (by kernel_rfl) S0 rfl)
    · exact sLen rfl rfl rfl hz rfl (Gd.none_ rfl) rfl (Src.dep (j := 3) (t := 28) (by kernel_rfl) (by kernel_rfl) rfl) (fun v w h => ⟨_, _, h⟩) len64
    · exact sBin rfl rfl rfl hz rfl (Gd.none_ rfl) rfl (Src.dep (j := 2) (t := 27) (by kernel_rfl) (by kernel_rfl) rfl) (Src.dep (j := 4) (t := 29) (by kernel_rfl) (by kernel_rfl) rfl) (fun w => by simp [go_sem, hn0, ri])
    · exact sFA rfl rfl rfl hz rfl (Gd.none_ rfl) rfl (Src.out (t := 5) (by kernel_rfl) S5 rfl) (fun w => by simp [go_sem])
    · exact sLoadF rfl rfl rfl hz rfl (Gd.none_ rfl) rfl (Src.dep (j := 6) (t := 31) (by kernel_rfl) (by kernel_rfl) rfl) Cp1 rfl rfl (fun w h => by simp [go_sem, h])
    · exact sBin rfl rfl rfl hz rfl (Gd.none_ rfl) rfl (Src.dep (j := 7) (t := 32) (by kernel_rfl) (by kernel_rfl) rfl) (Src.const (.int .i64 255)) (fun w => by simp [go_sem, ej])
    · exact sMv rfl rfl rfl hz rfl (Gd.none_ rfl) rfl (Src.out (t := 0) (by kernel_rfl) S0 rfl)
    · exact sLen rfl rfl rfl hz rfl (Gd.none_ rfl) rfl (Src.dep (j := 9) (t := 34) (by kernel_rfl) (by kernel_rfl) rfl) (fun v w h => ⟨_, _, h⟩) len64
    · exact sBin rfl rfl rfl hz rfl (Gd.none_ rfl) rfl (Src.dep (j := 8) (t := 33) (by kernel_rfl) (by kernel_rfl) rfl) (Src.dep (j := 10) (t := 35) (by kernel_rfl) (by kernel_rfl) rfl) (fun w => by simp [go_sem, hn0, rj])
    · exact sAs rfl rfl rfl hz rfl (Gd.none_ rfl) rfl (Src.dep (j := 5) (t := 30) (by kernel_rfl) (by kernel_rfl) rfl)
    · exact sAs rfl rfl rfl hz rfl (Gd.none_ rfl) rfl (Src.dep (j := 11) (t := 36) (by kernel_rfl) (by kernel_rfl) rfl)
  intro a' γ' W' hz' hd' hC hk hh
  replace Cp1 := Cell.aft Cp1 hC rfl
  have tp2 := Cp2.lt
  replace Cp2 := Cell.aft Cp2 hC rfl
  have tp3 := Cp3.lt
  replace Cp3 := Cell.aft Cp3 hC rfl
  replace S0 := hk 0 _ (by kernel_rfl) S0
  replace S1 := hk 1 _ (by kernel_rfl) S1
  replace S5 := hk 5 _ (by kernel_rfl) S5
  replace S6 := hk 6 _ (by kernel_rfl) S6
  replace S7 := hk 7 _ (by kernel_rfl) S7
  replace HL := Rw.aft HL hC rfl
  replace HM := Rw.aft HM hC rfl
  have S8 := gotV hz' 12 hh rfl rfl rfl rfl
  have S9 := gotV hz' 13 hh rfl rfl rfl rfl
  clear tp2 tp3
  replace HB := aft_call HB (RelC.below_nil hC)
  clear hC hk hh; replace hz := hz'; replace hd := hd'; clear hz' hd'
  refine wp_seq ?_
  refine region_drawn (M := []) (
      rT (tV (.slice (some ⟨gl, 0, none⟩) n cl)) ::
      rT (tV (.int .i64 (i : Int))) ::
      rT (tV (.pointer (some ⟨gl, i, none⟩))) ::
      rT (tN B64 1000000 (xs.getD i 0)) ::
      rT (tV (.slice (some ⟨gl, 0, none⟩) n cl)) ::
      rT (tV (.int .i64 (j : Int))) ::
      rT (tV (.pointer (some ⟨gl, j, none⟩))) ::
      rT (tN B64 1000000 (xs.getD j 0)) ::
      rT (tV (.slice (some ⟨gm, 0, none⟩) n cm)) ::
      rT (tV (.int .i64 (i : Int))) ::
      rT (tV (.pointer (some ⟨gm, i, none⟩))) ::
      rT (tN B32 1000000 (xs.getD i 0)) ::
      rT (tV (.slice (some ⟨gm, 0, none⟩) n cm)) ::
      rT (tV (.int .i64 (j : Int))) ::
      rT (tV (.pointer (some ⟨gm, j, none⟩))) ::
      rT (tN B32 1000000 (xs.getD j 0)) ::
      rVar 16 25 1 ::
      rVar 17 25 1 ::
      rVar 18 44 1 ::
      rVar 19 44 1 ::
      rB 16 25 (tN B64 1000000 (xs.getD i 0)) (some 16) 17 ::
      rB 17 25 (tN B64 1000000 (xs.getD j 0)) (some 17) 18 ::
      rB 18 44 (tN B32 1000000 (xs.getD i 0)) (some 18) 19 ::
      rB 19 44 (tN B32 1000000 (xs.getD j 0)) (some 19) 20 ::
      []) hz hd (by kernel_rfl) (by kernel_rfl) ?_ ?_
  · refine ⟨?_, ?_, ?_, ?_, ?_, ?_, ?_, ?_, ?_, ?_, ?_, ?_, ?_, ?_, ?_, ?_, ?_, ?_, ?_, ?_, ?_, ?_, ?_, ?_, trivial⟩
    · exact sMv rfl rfl rfl hz rfl (Gd.none_ rfl) rfl (Src.out (t := 0) (by kernel_rfl) S0 rfl)
    · exact sMv rfl rfl rfl hz rfl (Gd.none_ rfl) rfl (Src.out (t := 8) (by kernel_rfl) S8 rfl)
    · exact sIdx rfl rfl rfl hz rfl (Gd.none_ rfl) rfl (Src.dep (j := 0) (t := 37) (by kernel_rfl) (by kernel_rfl) rfl) (Src.dep (j := 1) (t := 38) (by kernel_rfl) (by kernel_rfl) rfl) (ia64 hi2)
    · exact sLoadRow rfl rfl rfl hz rfl (Gd.none_ rfl) rfl (Src.dep (j := 2) (t := 39) (by kernel_rfl) (by kernel_rfl) rfl) HL rfl hi ldr64
    · exact sMv rfl rfl rfl hz rfl (Gd.none_ rfl) rfl (Src.out (t := 0) (by kernel_rfl) S0 rfl)
    · exact sMv rfl rfl rfl hz rfl (Gd.none_ rfl) rfl (Src.out (t := 9) (by kernel_rfl) S9 rfl)
    · exact sIdx rfl rfl rfl hz rfl (Gd.none_ rfl) rfl (Src.dep (j := 4) (t := 41) (by kernel_rfl) (by kernel_rfl) rfl) (Src.dep (j := 5) (t := 42) (by kernel_rfl) (by kernel_rfl) rfl) (ia64 hj2)
    · exact sLoadRow rfl rfl rfl hz rfl (Gd.none_ rfl) rfl (Src.dep (j := 6) (t := 43) (by kernel_rfl) (by kernel_rfl) rfl) HL rfl hj ldr64
    · exact sMv rfl rfl rfl hz rfl (Gd.none_ rfl) rfl (Src.out (t := 1) (by kernel_rfl) S1 rfl)
    · exact sMv rfl rfl rfl hz rfl (Gd.none_ rfl) rfl (Src.out (t := 8) (by kernel_rfl) S8 rfl)
    · exact sIdx rfl rfl rfl hz rfl (Gd.none_ rfl) rfl (Src.dep (j := 8) (t := 45) (by kernel_rfl) (by kernel_rfl) rfl) (Src.dep (j := 9) (t := 46) (by kernel_rfl) (by kernel_rfl) rfl) (ia32 hi2)
    · exact sLoadRow rfl rfl rfl hz rfl (Gd.none_ rfl) rfl (Src.dep (j := 10) (t := 47) (by kernel_rfl) (by kernel_rfl) rfl) HM rfl hi ldr32
    · exact sMv rfl rfl rfl hz rfl (Gd.none_ rfl) rfl (Src.out (t := 1) (by kernel_rfl) S1 rfl)
    · exact sMv rfl rfl rfl hz rfl (Gd.none_ rfl) rfl (Src.out (t := 9) (by kernel_rfl) S9 rfl)
    · exact sIdx rfl rfl rfl hz rfl (Gd.none_ rfl) rfl (Src.dep (j := 12) (t := 49) (by kernel_rfl) (by kernel_rfl) rfl) (Src.dep (j := 13) (t := 50) (by kernel_rfl) (by kernel_rfl) rfl) (ia32 hj2)
    · exact sLoadRow rfl rfl rfl hz rfl (Gd.none_ rfl) rfl (Src.dep (j := 14) (t := 51) (by kernel_rfl) (by kernel_rfl) rfl) HM rfl hj ldr32
    · exact sAlloc rfl rfl rfl hz rfl rfl rfl rfl nd_slice al_n64
    · exact sAlloc rfl rfl rfl hz rfl rfl rfl rfl nd_slice al_n64
    · exact sAlloc rfl rfl rfl hz rfl rfl rfl rfl nd_slice al_n32
    · exact sAlloc rfl rfl rfl hz rfl rfl rfl rfl nd_slice al_n32
    · exact sStore rfl rfl rfl rfl rfl (by kernel_rfl) (by kernel_rfl) rfl (Src.dep (j := 3) (t := 40) (by kernel_rfl) (by kernel_rfl) rfl) st_n64
    · exact sStore rfl rfl rfl rfl rfl (by kernel_rfl) (by kernel_rfl) rfl (Src.dep (j := 7) (t := 44) (by kernel_rfl) (by kernel_rfl) rfl) st_n64
    · exact sStore rfl rfl rfl rfl rfl (by kernel_rfl) (by kernel_rfl) rfl (Src.dep (j := 11) (t := 48) (by kernel_rfl) (by kernel_rfl) rfl) st_n32
    · exact sStore rfl rfl rfl rfl rfl (by kernel_rfl) (by kernel_rfl) rfl (Src.dep (j := 15) (t := 52) (by kernel_rfl) (by kernel_rfl) rfl) st_n32
  intro a' γ' W' hz' hd' hC hk hh
  replace Cp1 := Cell.aft Cp1 hC rfl
  have tp2 := Cp2.lt
  replace Cp2 := Cell.aft Cp2 hC rfl
  have tp3 := Cp3.lt
  replace Cp3 := Cell.aft Cp3 hC rfl
  clear S0
  clear S1
  replace S5 := hk 5 _ (by kernel_rfl) S5
  replace S6 := hk 6 _ (by kernel_rfl) S6
  replace S7 := hk 7 _ (by kernel_rfl) S7
  clear S8
  clear S9
  clear HL
  clear HM
  obtain ⟨p4, S10, Cp4, lp4, gp4⟩ := gotB hz' 20 hC hh rfl rfl rfl rfl rfl rfl
  obtain ⟨p5, S11, Cp5, lp5, gp5⟩ := gotB hz' 21 hC hh rfl rfl rfl rfl rfl rfl
  obtain ⟨p6, S12, Cp6, lp6, gp6⟩ := gotB hz' 22 hC hh rfl rfl rfl rfl rfl rfl
  obtain ⟨p7, S13, Cp7, lp7, gp7⟩ := gotB hz' 23 hC hh rfl rfl rfl rfl rfl rfl
  have n_p4_p2 : p4 ≠ p2 := by omega
  have n_p4_p3 : p4 ≠ p3 := by omega
  have n_p5_p2 : p5 ≠ p2 := by omega
  have n_p5_p3 : p5 ≠ p3 := by omega
  have n_p6_p2 : p6 ≠ p2 := by omega
  have n_p6_p3 : p6 ≠ p3 := by omega
  have n_p7_p2 : p7 ≠ p2 := by omega
  have n_p7_p3 : p7 ≠ p3 := by omega
  clear lp4 gp4 lp5 gp5 lp6 gp6 lp7 gp7
  clear tp2 tp3
  replace HB := aft_call HB (RelC.below_nil hC)
  clear hC hk hh; replace hz := hz'; replace hd := hd'; clear hz' hd'
  refine wp_seq ?_
  refine wp_seq ?_
  refine region_text (M := []) (
      rT (tV (.pointer (some ⟨p1, 0, none⟩))) ::
      rT (tV (.int .i64 ok)) ::
      rT (tV (.int .i64 1)) ::
      []) hz hd (by kernel_rfl) ?_ ?_
  · refine ⟨?_, ?_, ?_, trivial⟩
    · exact sFA rfl rfl rfl hz rfl (Gd.none_ rfl) rfl (Src.out (t := 5) (by kernel_rfl) S5 rfl) (fun w => by simp [go_sem])
    · exact sLoadF rfl rfl rfl hz rfl (Gd.none_ rfl) rfl (Src.dep (j := 0) (t := 53) (by kernel_rfl) (by kernel_rfl) rfl) Cp1 rfl rfl (fun w h => by simp [go_sem, h])
    · exact sBin rfl rfl rfl hz rfl (Gd.none_ rfl) rfl (Src.dep (j := 1) (t := 54) (by kernel_rfl) (by kernel_rfl) rfl) (Src.const (.int .i64 7)) (fun w => by simp [go_sem, ek])
  intro a' γ' W' hz' hd' hC hk hh
  replace Cp1 := Cell.aft Cp1 hC rfl
  have tp2 := Cp2.lt
  replace Cp2 := Cell.aft Cp2 hC rfl
  have tp3 := Cp3.lt
  replace Cp3 := Cell.aft Cp3 hC rfl
  replace Cp4 := Cell.aft Cp4 hC rfl
  replace Cp5 := Cell.aft Cp5 hC rfl
  replace Cp6 := Cell.aft Cp6 hC rfl
  replace Cp7 := Cell.aft Cp7 hC rfl
  replace S5 := hk 5 _ (by kernel_rfl) S5
  replace S6 := hk 6 _ (by kernel_rfl) S6
  replace S7 := hk 7 _ (by kernel_rfl) S7
  replace S10 := hk 10 _ (by kernel_rfl) S10
  replace S11 := hk 11 _ (by kernel_rfl) S11
  replace S12 := hk 12 _ (by kernel_rfl) S12
  replace S13 := hk 13 _ (by kernel_rfl) S13
  have S55 := gotV hz' 2 hh rfl rfl rfl rfl
  clear tp2 tp3
  replace HB := aft_call HB (RelC.below_nil hC)
  clear hC hk hh; replace hz := hz'; replace hd := hd'; clear hz' hd'
  refine wp_block ?_
  refine wp_seq ?_
  refine region_text (M := []) (
      rT (tV (.bool false)) ::
      rT (tV (.bool false)) ::
      []) hz hd (by kernel_rfl) ?_ ?_
  · refine ⟨?_, ?_, trivial⟩
    · exact sBin rfl rfl rfl hz rfl (Gd.none_ rfl) rfl (Src.out (t := 55) (by kernel_rfl) S55 rfl) (Src.const (.int .i64 0)) (fun w => by simp [go_sem])
    · exact sAs rfl rfl rfl hz rfl (Gd.none_ rfl) rfl (Src.dep (j := 0) (t := 57) (by kernel_rfl) (by kernel_rfl) rfl)
  intro a' γ' W' hz' hd' hC hk hh
  replace Cp1 := Cell.aft Cp1 hC rfl
  have tp2 := Cp2.lt
  replace Cp2 := Cell.aft Cp2 hC rfl
  have tp3 := Cp3.lt
  replace Cp3 := Cell.aft Cp3 hC rfl
  replace Cp4 := Cell.aft Cp4 hC rfl
  replace Cp5 := Cell.aft Cp5 hC rfl
  replace Cp6 := Cell.aft Cp6 hC rfl
  replace Cp7 := Cell.aft Cp7 hC rfl
  replace S5 := hk 5 _ (by kernel_rfl) S5
  replace S6 := hk 6 _ (by kernel_rfl) S6
  replace S7 := hk 7 _ (by kernel_rfl) S7
  replace S10 := hk 10 _ (by kernel_rfl) S10
  replace S11 := hk 11 _ (by kernel_rfl) S11
  replace S12 := hk 12 _ (by kernel_rfl) S12
  replace S13 := hk 13 _ (by kernel_rfl) S13
  replace S55 := hk 55 _ (by kernel_rfl) S55
  have S56 := gotV hz' 1 hh rfl rfl rfl rfl
  clear tp2 tp3
  replace HB := aft_call HB (RelC.below_nil hC)
  clear hC hk hh; replace hz := hz'; replace hd := hd'; clear hz' hd'
  refine wp_cond_false S56.ev ?_
  refine wp_seq ?_
  refine region_text (M := []) (
      rT (tV (.bool true)) ::
      rT (tV (.bool true)) ::
      []) hz hd (by kernel_rfl) ?_ ?_
  · refine ⟨?_, ?_, trivial⟩
    · exact sBin rfl rfl rfl hz rfl (Gd.none_ rfl) rfl (Src.out (t := 55) (by kernel_rfl) S55 rfl) (Src.const (.int .i64 1)) (fun w => by simp [go_sem])
    · exact sAs rfl rfl rfl hz rfl (Gd.none_ rfl) rfl (Src.dep (j := 0) (t := 65) (by kernel_rfl) (by kernel_rfl) rfl)
  intro a' γ' W' hz' hd' hC hk hh
  replace Cp1 := Cell.aft Cp1 hC rfl
  have tp2 := Cp2.lt
  replace Cp2 := Cell.aft Cp2 hC rfl
  have tp3 := Cp3.lt
  replace Cp3 := Cell.aft Cp3 hC rfl
  replace Cp4 := Cell.aft Cp4 hC rfl
  replace Cp5 := Cell.aft Cp5 hC rfl
  replace Cp6 := Cell.aft Cp6 hC rfl
  replace Cp7 := Cell.aft Cp7 hC rfl
  replace S5 := hk 5 _ (by kernel_rfl) S5
  replace S6 := hk 6 _ (by kernel_rfl) S6
  replace S7 := hk 7 _ (by kernel_rfl) S7
  replace S10 := hk 10 _ (by kernel_rfl) S10
  replace S11 := hk 11 _ (by kernel_rfl) S11
  replace S12 := hk 12 _ (by kernel_rfl) S12
  replace S13 := hk 13 _ (by kernel_rfl) S13
  replace S55 := hk 55 _ (by kernel_rfl) S55
  clear S56
  have S64 := gotV hz' 1 hh rfl rfl rfl rfl
  clear tp2 tp3
  replace HB := aft_call HB (RelC.below_nil hC)
  clear hC hk hh; replace hz := hz'; replace hd := hd'; clear hz' hd'
  refine wp_cond_true S64.ev ?_
  refine wp_seq ?_
  refine region_text (M := []) (
      rT (tN B64 1000000 (xs.getD i 0)) ::
      rT (tN B64 1000000 (xs.getD j 0)) ::
      rT (tT [tN B64 1000000 0, tV (.bool (decide (xs.getD j 0 ≤ xs.getD i 0)))]) ::
      rT (tT [tN B64 1000000 0, tV (.bool (decide (xs.getD j 0 ≤ xs.getD i 0)))]) ::
      rT (tN B64 1000000 0) ::
      rT (tV (.bool (decide (xs.getD j 0 ≤ xs.getD i 0)))) ::
      rVar 6 25 1 ::
      rB 6 25 (tN B64 1000000 0) (some 6) 7 ::
      rT (tV (.bool (decide (xs.getD j 0 ≤ xs.getD i 0)))) ::
      []) hz hd (by kernel_rfl) ?_ ?_
  · refine ⟨?_, ?_, ?_, ?_, ?_, ?_, ?_, ?_, ?_, trivial⟩
    · exact sLoad rfl rfl rfl hz rfl (Gd.none_ rfl) rfl (Src.out (t := 10) (by kernel_rfl) S10 rfl) Cp4 rfl ld_n64
    · exact sLoad rfl rfl rfl hz rfl (Gd.none_ rfl) rfl (Src.out (t := 11) (by kernel_rfl) S11 rfl) Cp5 rfl ld_n64
    · exact sCall rfl rfl rfl hz rfl (Gd.none_ rfl) rfl Try.func37 (by kernel_rfl) (by kernel_rfl) fun a γ w U => (by show Calls _ _ #[a.eval (.tmp 67), a.eval (.tmp 68)] _ _; have hq : Calls _ _ #[a.eval (.tmp 67), a.eval (.tmp 68)] w (Ret _ w) := c_sub (Src.at_ (Src.dep (j := 0) (t := 67) (by kernel_rfl) (by kernel_rfl) rfl) U) (Src.at_ (Src.dep (j := 1) (t := 68) (by kernel_rfl) (by kernel_rfl) rfl) U) (by decide) (by decide); simp only [e2] at hq; exact hq)
    · exact sMv rfl rfl rfl hz rfl (Gd.none_ rfl) rfl (Src.dep (j := 2) (t := 69) (by kernel_rfl) (by kernel_rfl) rfl)
    · exact sExt rfl rfl rfl hz rfl (Gd.none_ rfl) rfl (Src.dep (j := 3) (t := 66) (by kernel_rfl) (by kernel_rfl) rfl) rfl
    · exact sExt rfl rfl rfl hz rfl (Gd.none_ rfl) rfl (Src.dep (j := 3) (t := 66) (by kernel_rfl) (by kernel_rfl) rfl) rfl
    · exact sAlloc rfl rfl rfl hz rfl rfl rfl rfl nd_slice al_n64
    · exact sStore rfl rfl rfl rfl rfl (by kernel_rfl) (by kernel_rfl) rfl (Src.dep (j := 4) (t := 70) (by kernel_rfl) (by kernel_rfl) rfl) st_n64
    · exact sAs rfl rfl rfl hz rfl (Gd.none_ rfl) rfl (Src.dep (j := 5) (t := 71) (by kernel_rfl) (by kernel_rfl) rfl)
  intro a' γ' W' hz' hd' hC hk hh
  replace Cp1 := Cell.aft Cp1 hC rfl
  have tp2 := Cp2.lt
  replace Cp2 := Cell.aft Cp2 hC rfl
  have tp3 := Cp3.lt
  replace Cp3 := Cell.aft Cp3 hC rfl
  replace Cp4 := Cell.aft Cp4 hC rfl
  clear Cp5
  replace Cp6 := Cell.aft Cp6 hC rfl
  replace Cp7 := Cell.aft Cp7 hC rfl
  replace S5 := hk 5 _ (by kernel_rfl) S5
  replace S6 := hk 6 _ (by kernel_rfl) S6
  replace S7 := hk 7 _ (by kernel_rfl) S7
  replace S10 := hk 10 _ (by kernel_rfl) S10
  clear S11
  replace S12 := hk 12 _ (by kernel_rfl) S12
  replace S13 := hk 13 _ (by kernel_rfl) S13
  clear S55
  clear S64
  obtain ⟨p8, S14, Cp8, lp8, gp8⟩ := gotB hz' 7 hC hh rfl rfl rfl rfl rfl rfl
  have n_p8_p2 : p8 ≠ p2 := by omega
  have n_p8_p3 : p8 ≠ p3 := by omega
  clear lp8 gp8
  clear tp2 tp3
  replace HB := aft_call HB (RelC.below_nil hC)
  clear hC hk hh; replace hz := hz'; replace hd := hd'; clear hz' hd'
  refine wp_seq ?_
  refine wp_seq ?_
  refine region_text (M := []) (
      rT (tN B32 1000000 (xs.getD i 0)) ::
      rT (tN B32 1000000 (xs.getD j 0)) ::
      rT (tV (.int .i64 (cmpI (xs.getD i 0) (xs.getD j 0)))) ::
      rT (tV (.bool true)) ::
      []) hz hd (by kernel_rfl) ?_ ?_
  · refine ⟨?_, ?_, ?_, ?_, trivial⟩
    · exact sLoad rfl rfl rfl hz rfl (Gd.none_ rfl) rfl (Src.out (t := 12) (by kernel_rfl) S12 rfl) Cp6 rfl ld_n32
    · exact sLoad rfl rfl rfl hz rfl (Gd.none_ rfl) rfl (Src.out (t := 13) (by kernel_rfl) S13 rfl) Cp7 rfl ld_n32
    · exact sCall rfl rfl rfl hz rfl (Gd.none_ rfl) rfl Try.func65 (by kernel_rfl) (by kernel_rfl) fun a γ w U => (by show Calls _ _ #[a.eval (.tmp 72), a.eval (.tmp 73)] _ _; exact d_cmp (Src.at_ (Src.dep (j := 0) (t := 72) (by kernel_rfl) (by kernel_rfl) rfl) U) (Src.at_ (Src.dep (j := 1) (t := 73) (by kernel_rfl) (by kernel_rfl) rfl) U) (by decide) (by decide))
    · exact sBin rfl rfl rfl hz rfl (Gd.none_ rfl) rfl (Src.dep (j := 2) (t := 74) (by kernel_rfl) (by kernel_rfl) rfl) (Src.const (.int .i64 0)) (fun w => by have h := e3; simp [go_sem] at h ⊢; exact h)
  intro a' γ' W' hz' hd' hC hk hh
  replace Cp1 := Cell.aft Cp1 hC rfl
  have tp2 := Cp2.lt
  replace Cp2 := Cell.aft Cp2 hC rfl
  have tp3 := Cp3.lt
  replace Cp3 := Cell.aft Cp3 hC rfl
  replace Cp4 := Cell.aft Cp4 hC rfl
  replace Cp6 := Cell.aft Cp6 hC rfl
  replace Cp7 := Cell.aft Cp7 hC rfl
  replace Cp8 := Cell.aft Cp8 hC rfl
  replace S5 := hk 5 _ (by kernel_rfl) S5
  replace S6 := hk 6 _ (by kernel_rfl) S6
  replace S7 := hk 7 _ (by kernel_rfl) S7
  replace S10 := hk 10 _ (by kernel_rfl) S10
  replace S12 := hk 12 _ (by kernel_rfl) S12
  replace S13 := hk 13 _ (by kernel_rfl) S13
  replace S14 := hk 14 _ (by kernel_rfl) S14
  have S75 := gotV hz' 3 hh rfl rfl rfl rfl
  clear tp2 tp3
  replace HB := aft_call HB (RelC.below_nil hC)
  clear hC hk hh; replace hz := hz'; replace hd := hd'; clear hz' hd'
  refine wp_cond_true S75.ev ?_
  refine wp_seq ?_
  refine region_text (M := [p2, p3]) (
      rT (tN B64 1000000 0) ::
      rT (tN B32 0 0) ::
      rE 0 25 (tN B64 1000000 0) p2 ::
      rE 1 44 (tN B32 0 0) p3 ::
      []) hz hd (by kernel_rfl) ?_ ?_
  · refine ⟨?_, ?_, ?_, ?_, trivial⟩
    · exact sLoad rfl rfl rfl hz rfl (Gd.none_ rfl) rfl (Src.out (t := 14) (by kernel_rfl) S14 rfl) Cp8 (by simp [tagOf, n_p8_p2, n_p8_p3]) ld_n64
    · exact sBuild0 rfl rfl rfl hz rfl (Gd.none_ rfl) rfl bd_n32 (fun _ => tN_nil)
    · exact sStoreE rfl rfl rfl rfl rfl (Src.out (t := 6) (by kernel_rfl) S6 rfl) (by simp [tagOf]) (Cp2.var tN_nd) (Src.dep (j := 0) (t := 76) (by kernel_rfl) (by kernel_rfl) rfl) st_n64
    · exact sStoreE rfl rfl rfl rfl rfl (Src.out (t := 7) (by kernel_rfl) S7 rfl) (by simp [tagOf, n_p3_p2]) (Cp3.var tN_nd) (Src.dep (j := 1) (t := 77) (by kernel_rfl) (by kernel_rfl) rfl) st_n32
  intro a' γ' W' hz' hd' hC hk hh
  replace Cp1 := Cell.aft Cp1 hC (by simp [tagOf, n_p1_p2, n_p1_p3])
  replace Cp2 := gotE (T := tN B64 1000000 0) (id := 25) (p := p2) 2 hh rfl rfl
  replace Cp3 := gotE (T := tN B32 0 0) (id := 44) (p := p3) 3 hh rfl rfl
  replace Cp4 := Cell.aft Cp4 hC (by simp [tagOf, n_p4_p2, n_p4_p3])
  replace Cp6 := Cell.aft Cp6 hC (by simp [tagOf, n_p6_p2, n_p6_p3])
  replace Cp7 := Cell.aft Cp7 hC (by simp [tagOf, n_p7_p2, n_p7_p3])
  replace Cp8 := Cell.aft Cp8 hC (by simp [tagOf, n_p8_p2, n_p8_p3])
  replace S5 := hk 5 _ (by kernel_rfl) S5
  replace S6 := hk 6 _ (by kernel_rfl) S6
  replace S7 := hk 7 _ (by kernel_rfl) S7
  replace S10 := hk 10 _ (by kernel_rfl) S10
  replace S12 := hk 12 _ (by kernel_rfl) S12
  replace S13 := hk 13 _ (by kernel_rfl) S13
  replace S14 := hk 14 _ (by kernel_rfl) S14
  clear S75
  replace HB := RelC.aftM HB hC (by intro m hm; simp at hm; rcases hm with rfl | rfl <;> assumption)
  clear hC hk hh; replace hz := hz'; replace hd := hd'; clear hz' hd'
  refine wp_ret ?_
  exact ret2n (by kernel_rfl) S6 S7 hd Cp2 Cp3 HB

set_option maxRecDepth 10000 in
set_option maxHeartbeats 2000000 in
theorem after1g {gl gm n cl cm ia ja i j sn : Nat} {ok oi oj os : Int} {xs : List Nat} {w : World} (HL : Rw B64 25 1000000 gl xs w) (HM : Rw B32 44 1000000 gm xs w) (hn0 : ¬ n = 0) (hi : i < xs.length) (hj : j < xs.length) (hi2 : i < n) (hj2 : j < n)
    (ei : bits .and .i64 oi 255 = (ia : Int)) (ej : bits .and .i64 oj 255 = (ja : Int)) (es : bits .and .i64 os 127 = (sn : Int)) (ri : (ia : Int).tmod (n : Int) = (i : Int)) (rj : (ja : Int).tmod (n : Int) = (j : Int)) (ek : bits .and .i64 ok 7 = 1) (e3 : decide (cmpI (xs.getD i 0) (xs.getD j 0) < 0) = false) (e8 : (xs.getD j 0) ≤ (xs.getD i 0)) :
    Calls Try.prog 44 #[.slice (some ⟨gl, 0, none⟩) n cl, .slice (some ⟨gm, 0, none⟩) n cm, .agg #[.int .i64 ok, .int .i64 oi, .int .i64 oj, .int .i64 os]] w (Ret (tT [tN B64 1000000 ((xs.getD i 0) - (xs.getD j 0)), tN B32 1000000 ((xs.getD i 0) - (xs.getD j 0))]) w) := by
  refine enter Try.func44 rfl Try.ntmps44 (by simp) ?_
  intro a hz hd ha
  have S0 := ha 0 _ rfl
  have S1 := ha 1 _ rfl
  have S2 := ha 2 _ rfl
  clear ha
  have HB : Below w.heap.size w w := Below.refl _ _
  refine wp_seq ?_
  refine region_text (M := []) (
      rB 0 74 (tV (.agg #[.int .i64 ok, .int .i64 oi, .int .i64 oj, .int .i64 os])) none 0 ::
      rB 1 25 (tN B64 0 0) none 0 ::
      rB 2 44 (tN B32 0 0) none 0 ::
      []) hz hd (by kernel_rfl) ?_ ?_
  · refine ⟨?_, ?_, ?_, trivial⟩
    · exact sBox rfl rfl rfl hz rfl rfl rfl (Src.out (t := 2) (by kernel_rfl) S2 rfl) box_op
    · exact sNew rfl rfl rfl hz rfl rfl rfl (fun _ => tN_nil) al_n64
    · exact sNew rfl rfl rfl hz rfl rfl rfl (fun _ => tN_nil) al_n32
  intro a' γ' W' hz' hd' hC hk hh
  replace S0 := hk 0 _ (by kernel_rfl) S0
  replace S1 := hk 1 _ (by kernel_rfl) S1
  clear S2
  replace HL := Rw.aft HL hC rfl
  replace HM := Rw.aft HM hC rfl
  obtain ⟨p1, S5, Cp1, lp1, gp1⟩ := gotB hz' 0 hC hh rfl rfl rfl rfl rfl rfl
  obtain ⟨p2, S6, Cp2, lp2, gp2⟩ := gotB hz' 1 hC hh rfl rfl rfl rfl rfl rfl
  obtain ⟨p3, S7, Cp3, lp3, gp3⟩ := gotB hz' 2 hC hh rfl rfl rfl rfl rfl rfl
  have n_p1_p2 : p1 ≠ p2 := by intro e; rw [e, gp2] at gp1; omega
  have n_p1_p3 : p1 ≠ p3 := by intro e; rw [e, gp3] at gp1; omega
  have n_p2_p3 : p2 ≠ p3 := by intro e; rw [e, gp3] at gp2; omega
  have n_p3_p2 : p3 ≠ p2 := by intro e; rw [e, gp2] at gp3; omega
  have bp2 : w.heap.size ≤ p2 := Nat.le_trans HB.size lp2
  have bp3 : w.heap.size ≤ p3 := Nat.le_trans HB.size lp3
  clear lp1 gp1 lp2 gp2 lp3 gp3
  replace HB := aft_call HB (RelC.below_nil hC)
  clear hC hk hh; replace hz := hz'; replace hd := hd'; clear hz' hd'
  refine wp_seq ?_
  refine region_drawn (M := []) (
      rT (tV (.pointer (some ⟨p1, 1, none⟩))) ::
      rT (tV (.int .i64 oi)) ::
      rT (tV (.int .i64 (ia : Int))) ::
      rT (tV (.slice (some ⟨gl, 0, none⟩) n cl)) ::
      rT (tV (.int .i64 (n : Int))) ::
      rT (tV (.int .i64 (i : Int))) ::
      rT (tV (.pointer (some ⟨p1, 2, none⟩))) ::
      rT (tV (.int .i64 oj)) ::
      rT (tV (.int .i64 (ja : Int))) ::
      rT (tV (.slice (some ⟨gl, 0, none⟩) n cl)) ::
      rT (tV (.int .i64 (n : Int))) ::
      rT (tV (.int .i64 (j : Int))) ::
      rT (tV (.int .i64 (i : Int))) ::
      rT (tV (.int .i64 (j : Int))) ::
      []) hz hd (by kernel_rfl) (by kernel_rfl) ?_ ?_
  · refine ⟨?_, ?_, ?_, ?_, ?_, ?_, ?_, ?_, ?_, ?_, ?_, ?_, ?_, ?_, trivial⟩
    · exact sFA rfl rfl rfl hz rfl (Gd.none_ rfl) rfl (Src.out (t := 5) (by kernel_rfl) S5 rfl) (fun w => by simp [go_sem])
    · exact sLoadF rfl rfl rfl hz rfl (Gd.none_ rfl) rfl (Src.dep (j := 0) (t := 25) (by kernel_rfl) (by kernel_rfl) rfl) Cp1 rfl rfl (fun w h => by simp [go_sem, h])
    · exact sBin rfl rfl rfl hz rfl (Gd.none_ rfl) rfl (Src.dep (j := 1) (t := 26) (by kernel_rfl) (by kernel_rfl) rfl) (Src.const (.int .i64 255)) (fun w => by simp [go_sem, ei])
    · exact sMv rfl rfl rfl hz rfl (Gd.none_ rfl) rfl (Src.out (t := 0) (by kernel_rfl) S0 rfl)
    · exact sLen rfl rfl rfl hz rfl (Gd.none_ rfl) rfl (Src.dep (j := 3) (t := 28) (by kernel_rfl) (by kernel_rfl) rfl) (fun v w h => ⟨_, _, h⟩) len64
    · exact sBin rfl rfl rfl hz rfl (Gd.none_ rfl) rfl (Src.dep (j := 2) (t := 27) (by kernel_rfl) (by kernel_rfl) rfl) (Src.dep (j := 4) (t := 29) (by kernel_rfl) (by kernel_rfl) rfl) (fun w => by simp [go_sem, hn0, ri])
    · exact sFA rfl rfl rfl hz rfl (Gd.none_ rfl) rfl (Src.out (t := 5) (by kernel_rfl) S5 rfl) (fun w => by simp [go_sem])
    · exact sLoadF rfl rfl rfl hz rfl (Gd.none_ rfl) rfl (Src.dep (j := 6) (t := 31) (by kernel_rfl) (by kernel_rfl) rfl) Cp1 rfl rfl (fun w h => by simp [go_sem, h])
    · exact sBin rfl rfl rfl hz rfl (Gd.none_ rfl) rfl (Src.dep (j := 7) (t := 32) (by kernel_rfl) (by kernel_rfl) rfl) (Src.const (.int .i64 255)) (fun w => by simp [go_sem, ej])
    · exact sMv rfl rfl rfl hz rfl (Gd.none_ rfl) rfl (Src.out (t := 0) (by kernel_rfl) S0 rfl)
    · exact sLen rfl rfl rfl hz rfl (Gd.none_ rfl) rfl (Src.dep (j := 9) (t := 34) (by kernel_rfl) (by kernel_rfl) rfl) (fun v w h => ⟨_, _, h⟩) len64
    · exact sBin rfl rfl rfl hz rfl (Gd.none_ rfl) rfl (Src.dep (j := 8) (t := 33) (by kernel_rfl) (by kernel_rfl) rfl) (Src.dep (j := 10) (t := 35) (by kernel_rfl) (by kernel_rfl) rfl) (fun w => by simp [go_sem, hn0, rj])
    · exact sAs rfl rfl rfl hz rfl (Gd.none_ rfl) rfl (Src.dep (j := 5) (t := 30) (by kernel_rfl) (by kernel_rfl) rfl)
    · exact sAs rfl rfl rfl hz rfl (Gd.none_ rfl) rfl (Src.dep (j := 11) (t := 36) (by kernel_rfl) (by kernel_rfl) rfl)
  intro a' γ' W' hz' hd' hC hk hh
  replace Cp1 := Cell.aft Cp1 hC rfl
  have tp2 := Cp2.lt
  replace Cp2 := Cell.aft Cp2 hC rfl
  have tp3 := Cp3.lt
  replace Cp3 := Cell.aft Cp3 hC rfl
  replace S0 := hk 0 _ (by kernel_rfl) S0
  replace S1 := hk 1 _ (by kernel_rfl) S1
  replace S5 := hk 5 _ (by kernel_rfl) S5
  replace S6 := hk 6 _ (by kernel_rfl) S6
  replace S7 := hk 7 _ (by kernel_rfl) S7
  replace HL := Rw.aft HL hC rfl
  replace HM := Rw.aft HM hC rfl
  have S8 := gotV hz' 12 hh rfl rfl rfl rfl
  have S9 := gotV hz' 13 hh rfl rfl rfl rfl
  clear tp2 tp3
  replace HB := aft_call HB (RelC.below_nil hC)
  clear hC hk hh; replace hz := hz'; replace hd := hd'; clear hz' hd'
  refine wp_seq ?_
  refine region_drawn (M := []) (
      rT (tV (.slice (some ⟨gl, 0, none⟩) n cl)) ::
      rT (tV (.int .i64 (i : Int))) ::
      rT (tV (.pointer (some ⟨gl, i, none⟩))) ::
      rT (tN B64 1000000 (xs.getD i 0)) ::
      rT (tV (.slice (some ⟨gl, 0, none⟩) n cl)) ::
      rT (tV (.int .i64 (j : Int))) ::
      rT (tV (.pointer (some ⟨gl, j, none⟩))) ::
      rT (tN B64 1000000 (xs.getD j 0)) ::
      rT (tV (.slice (some ⟨gm, 0, none⟩) n cm)) ::
      rT (tV (.int .i64 (i : Int))) ::
      rT (tV (.pointer (some ⟨gm, i, none⟩))) ::
      rT (tN B32 1000000 (xs.getD i 0)) ::
      rT (tV (.slice (some ⟨gm, 0, none⟩) n cm)) ::
      rT (tV (.int .i64 (j : Int))) ::
      rT (tV (.pointer (some ⟨gm, j, none⟩))) ::
      rT (tN B32 1000000 (xs.getD j 0)) ::
      rVar 16 25 1 ::
      rVar 17 25 1 ::
      rVar 18 44 1 ::
      rVar 19 44 1 ::
      rB 16 25 (tN B64 1000000 (xs.getD i 0)) (some 16) 17 ::
      rB 17 25 (tN B64 1000000 (xs.getD j 0)) (some 17) 18 ::
      rB 18 44 (tN B32 1000000 (xs.getD i 0)) (some 18) 19 ::
      rB 19 44 (tN B32 1000000 (xs.getD j 0)) (some 19) 20 ::
      []) hz hd (by kernel_rfl) (by kernel_rfl) ?_ ?_
  · refine ⟨?_, ?_, ?_, ?_, ?_, ?_, ?_, ?_, ?_, ?_, ?_, ?_, ?_, ?_, ?_, ?_, ?_, ?_, ?_, ?_, ?_, ?_, ?_, ?_, trivial⟩
    · exact sMv rfl rfl rfl hz rfl (Gd.none_ rfl) rfl (Src.out (t := 0) (by kernel_rfl) S0 rfl)
    · exact sMv rfl rfl rfl hz rfl (Gd.none_ rfl) rfl (Src.out (t := 8) (by kernel_rfl) S8 rfl)
    · exact sIdx rfl rfl rfl hz rfl (Gd.none_ rfl) rfl (Src.dep (j := 0) (t := 37) (by kernel_rfl) (by kernel_rfl) rfl) (Src.dep (j := 1) (t := 38) (by kernel_rfl) (by kernel_rfl) rfl) (ia64 hi2)
    · exact sLoadRow rfl rfl rfl hz rfl (Gd.none_ rfl) rfl (Src.dep (j := 2) (t := 39) (by kernel_rfl) (by kernel_rfl) rfl) HL rfl hi ldr64
    · exact sMv rfl rfl rfl hz rfl (Gd.none_ rfl) rfl (Src.out (t := 0) (by kernel_rfl) S0 rfl)
    · exact sMv rfl rfl rfl hz rfl (Gd.none_ rfl) rfl (Src.out (t := 9) (by kernel_rfl) S9 rfl)
    · exact sIdx rfl rfl rfl hz rfl (Gd.none_ rfl) rfl (Src.dep (j := 4) (t := 41) (by kernel_rfl) (by kernel_rfl) rfl) (Src.dep (j := 5) (t := 42) (by kernel_rfl) (by kernel_rfl) rfl) (ia64 hj2)
    · exact sLoadRow rfl rfl rfl hz rfl (Gd.none_ rfl) rfl (Src.dep (j := 6) (t := 43) (by kernel_rfl) (by kernel_rfl) rfl) HL rfl hj ldr64
    · exact sMv rfl rfl rfl hz rfl (Gd.none_ rfl) rfl (Src.out (t := 1) (by kernel_rfl) S1 rfl)
    · exact sMv rfl rfl rfl hz rfl (Gd.none_ rfl) rfl (Src.out (t := 8) (by kernel_rfl) S8 rfl)
    · exact sIdx rfl rfl rfl hz rfl (Gd.none_ rfl) rfl (Src.dep (j := 8) (t := 45) (by kernel_rfl) (by kernel_rfl) rfl) (Src.dep (j := 9) (t := 46) (by kernel_rfl) (by kernel_rfl) rfl) (ia32 hi2)
    · exact sLoadRow rfl rfl rfl hz rfl (Gd.none_ rfl) rfl (Src.dep (j := 10) (t := 47) (by kernel_rfl) (by kernel_rfl) rfl) HM rfl hi ldr32
    · exact sMv rfl rfl rfl hz rfl (Gd.none_ rfl) rfl (Src.out (t := 1) (by kernel_rfl) S1 rfl)
    · exact sMv rfl rfl rfl hz rfl (Gd.none_ rfl) rfl (Src.out (t := 9) (by kernel_rfl) S9 rfl)
    · exact sIdx rfl rfl rfl hz rfl (Gd.none_ rfl) rfl (Src.dep (j := 12) (t := 49) (by kernel_rfl) (by kernel_rfl) rfl) (Src.dep (j := 13) (t := 50) (by kernel_rfl) (by kernel_rfl) rfl) (ia32 hj2)
    · exact sLoadRow rfl rfl rfl hz rfl (Gd.none_ rfl) rfl (Src.dep (j := 14) (t := 51) (by kernel_rfl) (by kernel_rfl) rfl) HM rfl hj ldr32
    · exact sAlloc rfl rfl rfl hz rfl rfl rfl rfl nd_slice al_n64
    · exact sAlloc rfl rfl rfl hz rfl rfl rfl rfl nd_slice al_n64
    · exact sAlloc rfl rfl rfl hz rfl rfl rfl rfl nd_slice al_n32
    · exact sAlloc rfl rfl rfl hz rfl rfl rfl rfl nd_slice al_n32
    · exact sStore rfl rfl rfl rfl rfl (by kernel_rfl) (by kernel_rfl) rfl (Src.dep (j := 3) (t := 40) (by kernel_rfl) (by kernel_rfl) rfl) st_n64
    · exact sStore rfl rfl rfl rfl rfl (by kernel_rfl) (by kernel_rfl) rfl (Src.dep (j := 7) (t := 44) (by kernel_rfl) (by kernel_rfl) rfl) st_n64
    · exact sStore rfl rfl rfl rfl rfl (by kernel_rfl) (by kernel_rfl) rfl (Src.dep (j := 11) (t := 48) (by kernel_rfl) (by kernel_rfl) rfl) st_n32
    · exact sStore rfl rfl rfl rfl rfl (by kernel_rfl) (by kernel_rfl) rfl (Src.dep (j := 15) (t := 52) (by kernel_rfl) (by kernel_rfl) rfl) st_n32
  intro a' γ' W' hz' hd' hC hk hh
  replace Cp1 := Cell.aft Cp1 hC rfl
  have tp2 := Cp2.lt
  replace Cp2 := Cell.aft Cp2 hC rfl
  have tp3 := Cp3.lt
  replace Cp3 := Cell.aft Cp3 hC rfl
  clear S0
  clear S1
  replace S5 := hk 5 _ (by kernel_rfl) S5
  replace S6 := hk 6 _ (by kernel_rfl) S6
  replace S7 := hk 7 _ (by kernel_rfl) S7
  clear S8
  clear S9
  clear HL
  clear HM
  obtain ⟨p4, S10, Cp4, lp4, gp4⟩ := gotB hz' 20 hC hh rfl rfl rfl rfl rfl rfl
  obtain ⟨p5, S11, Cp5, lp5, gp5⟩ := gotB hz' 21 hC hh rfl rfl rfl rfl rfl rfl
  obtain ⟨p6, S12, Cp6, lp6, gp6⟩ := gotB hz' 22 hC hh rfl rfl rfl rfl rfl rfl
  obtain ⟨p7, S13, Cp7, lp7, gp7⟩ := gotB hz' 23 hC hh rfl rfl rfl rfl rfl rfl
  have n_p4_p2 : p4 ≠ p2 := by omega
  have n_p4_p3 : p4 ≠ p3 := by omega
  have n_p5_p2 : p5 ≠ p2 := by omega
  have n_p5_p3 : p5 ≠ p3 := by omega
  have n_p6_p2 : p6 ≠ p2 := by omega
  have n_p6_p3 : p6 ≠ p3 := by omega
  have n_p7_p2 : p7 ≠ p2 := by omega
  have n_p7_p3 : p7 ≠ p3 := by omega
  clear lp4 gp4 lp5 gp5 lp6 gp6 lp7 gp7
  clear tp2 tp3
  replace HB := aft_call HB (RelC.below_nil hC)
  clear hC hk hh; replace hz := hz'; replace hd := hd'; clear hz' hd'
  refine wp_seq ?_
  refine wp_seq ?_
  refine region_text (M := []) (
      rT (tV (.pointer (some ⟨p1, 0, none⟩))) ::
      rT (tV (.int .i64 ok)) ::
      rT (tV (.int .i64 1)) ::
      []) hz hd (by kernel_rfl) ?_ ?_
  · refine ⟨?_, ?_, ?_, trivial⟩
    · exact sFA rfl rfl rfl hz rfl (Gd.none_ rfl) rfl (Src.out (t := 5) (by kernel_rfl) S5 rfl) (fun w => by simp [go_sem])
    · exact sLoadF rfl rfl rfl hz rfl (Gd.none_ rfl) rfl (Src.dep (j := 0) (t := 53) (by kernel_rfl) (by kernel_rfl) rfl) Cp1 rfl rfl (fun w h => by simp [go_sem, h])
    · exact sBin rfl rfl rfl hz rfl (Gd.none_ rfl) rfl (Src.dep (j := 1) (t := 54) (by kernel_rfl) (by kernel_rfl) rfl) (Src.const (.int .i64 7)) (fun w => by simp [go_sem, ek])
  intro a' γ' W' hz' hd' hC hk hh
  replace Cp1 := Cell.aft Cp1 hC rfl
  have tp2 := Cp2.lt
  replace Cp2 := Cell.aft Cp2 hC rfl
  have tp3 := Cp3.lt
  replace Cp3 := Cell.aft Cp3 hC rfl
  replace Cp4 := Cell.aft Cp4 hC rfl
  replace Cp5 := Cell.aft Cp5 hC rfl
  replace Cp6 := Cell.aft Cp6 hC rfl
  replace Cp7 := Cell.aft Cp7 hC rfl
  replace S5 := hk 5 _ (by kernel_rfl) S5
  replace S6 := hk 6 _ (by kernel_rfl) S6
  replace S7 := hk 7 _ (by kernel_rfl) S7
  replace S10 := hk 10 _ (by kernel_rfl) S10
  replace S11 := hk 11 _ (by kernel_rfl) S11
  replace S12 := hk 12 _ (by kernel_rfl) S12
  replace S13 := hk 13 _ (by kernel_rfl) S13
  have S55 := gotV hz' 2 hh rfl rfl rfl rfl
  clear tp2 tp3
  replace HB := aft_call HB (RelC.below_nil hC)
  clear hC hk hh; replace hz := hz'; replace hd := hd'; clear hz' hd'
  refine wp_block ?_
  refine wp_seq ?_
  refine region_text (M := []) (
      rT (tV (.bool false)) ::
      rT (tV (.bool false)) ::
      []) hz hd (by kernel_rfl) ?_ ?_
  · refine ⟨?_, ?_, trivial⟩
    · exact sBin rfl rfl rfl hz rfl (Gd.none_ rfl) rfl (Src.out (t := 55) (by kernel_rfl) S55 rfl) (Src.const (.int .i64 0)) (fun w => by simp [go_sem])
    · exact sAs rfl rfl rfl hz rfl (Gd.none_ rfl) rfl (Src.dep (j := 0) (t := 57) (by kernel_rfl) (by kernel_rfl) rfl)
  intro a' γ' W' hz' hd' hC hk hh
  replace Cp1 := Cell.aft Cp1 hC rfl
  have tp2 := Cp2.lt
  replace Cp2 := Cell.aft Cp2 hC rfl
  have tp3 := Cp3.lt
  replace Cp3 := Cell.aft Cp3 hC rfl
  replace Cp4 := Cell.aft Cp4 hC rfl
  replace Cp5 := Cell.aft Cp5 hC rfl
  replace Cp6 := Cell.aft Cp6 hC rfl
  replace Cp7 := Cell.aft Cp7 hC rfl
  replace S5 := hk 5 _ (by kernel_rfl) S5
  replace S6 := hk 6 _ (by kernel_rfl) S6
  replace S7 := hk 7 _ (by kernel_rfl) S7
  replace S10 := hk 10 _ (by kernel_rfl) S10
  replace S11 := hk 11 _ (by kernel_rfl) S11
  replace S12 := hk 12 _ (by kernel_rfl) S12
  replace S13 := hk 13 _ (by kernel_rfl) S13
  replace S55 := hk 55 _ (by kernel_rfl) S55
  have S56 := gotV hz' 1 hh rfl rfl rfl rfl
  clear tp2 tp3
  replace HB := aft_call HB (RelC.below_nil hC)
  clear hC hk hh; replace hz := hz'; replace hd := hd'; clear hz' hd'
  refine wp_cond_false S56.ev ?_
  refine wp_seq ?_
  refine region_text (M := []) (
      rT (tV (.bool true)) ::
      rT (tV (.bool true)) ::
      []) hz hd (by kernel_rfl) ?_ ?_
  · refine ⟨?_, ?_, trivial⟩
    · exact sBin rfl rfl rfl hz rfl (Gd.none_ rfl) rfl (Src.out (t := 55) (by kernel_rfl) S55 rfl) (Src.const (.int .i64 1)) (fun w => by simp [go_sem])
    · exact sAs rfl rfl rfl hz rfl (Gd.none_ rfl) rfl (Src.dep (j := 0) (t := 65) (by kernel_rfl) (by kernel_rfl) rfl)
  intro a' γ' W' hz' hd' hC hk hh
  replace Cp1 := Cell.aft Cp1 hC rfl
  have tp2 := Cp2.lt
  replace Cp2 := Cell.aft Cp2 hC rfl
  have tp3 := Cp3.lt
  replace Cp3 := Cell.aft Cp3 hC rfl
  replace Cp4 := Cell.aft Cp4 hC rfl
  replace Cp5 := Cell.aft Cp5 hC rfl
  replace Cp6 := Cell.aft Cp6 hC rfl
  replace Cp7 := Cell.aft Cp7 hC rfl
  replace S5 := hk 5 _ (by kernel_rfl) S5
  replace S6 := hk 6 _ (by kernel_rfl) S6
  replace S7 := hk 7 _ (by kernel_rfl) S7
  replace S10 := hk 10 _ (by kernel_rfl) S10
  replace S11 := hk 11 _ (by kernel_rfl) S11
  replace S12 := hk 12 _ (by kernel_rfl) S12
  replace S13 := hk 13 _ (by kernel_rfl) S13
  replace S55 := hk 55 _ (by kernel_rfl) S55
  clear S56
  have S64 := gotV hz' 1 hh rfl rfl rfl rfl
  clear tp2 tp3
  replace HB := aft_call HB (RelC.below_nil hC)
  clear hC hk hh; replace hz := hz'; replace hd := hd'; clear hz' hd'
  refine wp_cond_true S64.ev ?_
  refine wp_seq ?_
  refine region_text (M := []) (
      rT (tN B64 1000000 (xs.getD i 0)) ::
      rT (tN B64 1000000 (xs.getD j 0)) ::
      rT (tT [tN B64 1000000 ((xs.getD i 0) - (xs.getD j 0)), tV (.bool (decide (xs.getD j 0 ≤ xs.getD i 0)))]) ::
      rT (tT [tN B64 1000000 ((xs.getD i 0) - (xs.getD j 0)), tV (.bool (decide (xs.getD j 0 ≤ xs.getD i 0)))]) ::
      rT (tN B64 1000000 ((xs.getD i 0) - (xs.getD j 0))) ::
      rT (tV (.bool (decide (xs.getD j 0 ≤ xs.getD i 0)))) ::
      rVar 6 25 1 ::
      rB 6 25 (tN B64 1000000 ((xs.getD i 0) - (xs.getD j 0))) (some 6) 7 ::
      rT (tV (.bool (decide (xs.getD j 0 ≤ xs.getD i 0)))) ::
      []) hz hd (by kernel_rfl) ?_ ?_
  · refine ⟨?_, ?_, ?_, ?_, ?_, ?_, ?_, ?_, ?_, trivial⟩
    · exact sLoad rfl rfl rfl hz rfl (Gd.none_ rfl) rfl (Src.out (t := 10) (by kernel_rfl) S10 rfl) Cp4 rfl ld_n64
    · exact sLoad rfl rfl rfl hz rfl (Gd.none_ rfl) rfl (Src.out (t := 11) (by kernel_rfl) S11 rfl) Cp5 rfl ld_n64
    · exact sCall rfl rfl rfl hz rfl (Gd.none_ rfl) rfl Try.func37 (by kernel_rfl) (by kernel_rfl) fun a γ w U => (by show Calls _ _ #[a.eval (.tmp 67), a.eval (.tmp 68)] _ _; exact c_sub (Src.at_ (Src.dep (j := 0) (t := 67) (by kernel_rfl) (by kernel_rfl) rfl) U) (Src.at_ (Src.dep (j := 1) (t := 68) (by kernel_rfl) (by kernel_rfl) rfl) U) (by decide) (by decide))
    · exact sMv rfl rfl rfl hz rfl (Gd.none_ rfl) rfl (Src.dep (j := 2) (t := 69) (by kernel_rfl) (by kernel_rfl) rfl)
    · exact sExt rfl rfl rfl hz rfl (Gd.none_ rfl) rfl (Src.dep (j := 3) (t := 66) (by kernel_rfl) (by kernel_rfl) rfl) rfl
    · exact sExt rfl rfl rfl hz rfl (Gd.none_ rfl) rfl (Src.dep (j := 3) (t := 66) (by kernel_rfl) (by kernel_rfl) rfl) rfl
    · exact sAlloc rfl rfl rfl hz rfl rfl rfl rfl nd_slice al_n64
    · exact sStore rfl rfl rfl rfl rfl (by kernel_rfl) (by kernel_rfl) rfl (Src.dep (j := 4) (t := 70) (by kernel_rfl) (by kernel_rfl) rfl) st_n64
    · exact sAs rfl rfl rfl hz rfl (Gd.none_ rfl) rfl (Src.dep (j := 5) (t := 71) (by kernel_rfl) (by kernel_rfl) rfl)
  intro a' γ' W' hz' hd' hC hk hh
  replace Cp1 := Cell.aft Cp1 hC rfl
  have tp2 := Cp2.lt
  replace Cp2 := Cell.aft Cp2 hC rfl
  have tp3 := Cp3.lt
  replace Cp3 := Cell.aft Cp3 hC rfl
  replace Cp4 := Cell.aft Cp4 hC rfl
  clear Cp5
  replace Cp6 := Cell.aft Cp6 hC rfl
  replace Cp7 := Cell.aft Cp7 hC rfl
  replace S5 := hk 5 _ (by kernel_rfl) S5
  replace S6 := hk 6 _ (by kernel_rfl) S6
  replace S7 := hk 7 _ (by kernel_rfl) S7
  replace S10 := hk 10 _ (by kernel_rfl) S10
  clear S11
  replace S12 := hk 12 _ (by kernel_rfl) S12
  replace S13 := hk 13 _ (by kernel_rfl) S13
  clear S55
  clear S64
  obtain ⟨p8, S14, Cp8, lp8, gp8⟩ := gotB hz' 7 hC hh rfl rfl rfl rfl rfl rfl
  have n_p8_p2 : p8 ≠ p2 := by omega
  have n_p8_p3 : p8 ≠ p3 := by omega
  clear lp8 gp8
  clear tp2 tp3
  replace HB := aft_call HB (RelC.below_nil hC)
  clear hC hk hh; replace hz := hz'; replace hd := hd'; clear hz' hd'
  refine wp_seq ?_
  refine wp_seq ?_
  refine region_text (M := []) (
      rT (tN B32 1000000 (xs.getD i 0)) ::
      rT (tN B32 1000000 (xs.getD j 0)) ::
      rT (tV (.int .i64 (cmpI (xs.getD i 0) (xs.getD j 0)))) ::
      rT (tV (.bool false)) ::
      []) hz hd (by kernel_rfl) ?_ ?_
  · refine ⟨?_, ?_, ?_, ?_, trivial⟩
    · exact sLoad rfl rfl rfl hz rfl (Gd.none_ rfl) rfl (Src.out (t := 12) (by kernel_rfl) S12 rfl) Cp6 rfl ld_n32
    · exact sLoad rfl rfl rfl hz rfl (Gd.none_ rfl) rfl (Src.out (t := 13) (by kernel_rfl) S13 rfl) Cp7 rfl ld_n32
    · exact sCall rfl rfl rfl hz rfl (Gd.none_ rfl) rfl Try.func65 (by kernel_rfl) (by kernel_rfl) fun a γ w U => (by show Calls _ _ #[a.eval (.tmp 72), a.eval (.tmp 73)] _ _; exact d_cmp (Src.at_ (Src.dep (j := 0) (t := 72) (by kernel_rfl) (by kernel_rfl) rfl) U) (Src.at_ (Src.dep (j := 1) (t := 73) (by kernel_rfl) (by kernel_rfl) rfl) U) (by decide) (by decide))
    · exact sBin rfl rfl rfl hz rfl (Gd.none_ rfl) rfl (Src.dep (j := 2) (t := 74) (by kernel_rfl) (by kernel_rfl) rfl) (Src.const (.int .i64 0)) (fun w => by have h := e3; simp [go_sem] at h ⊢; exact h)
  intro a' γ' W' hz' hd' hC hk hh
  replace Cp1 := Cell.aft Cp1 hC rfl
  have tp2 := Cp2.lt
  replace Cp2 := Cell.aft Cp2 hC rfl
  have tp3 := Cp3.lt
  replace Cp3 := Cell.aft Cp3 hC rfl
  replace Cp4 := Cell.aft Cp4 hC rfl
  replace Cp6 := Cell.aft Cp6 hC rfl
  replace Cp7 := Cell.aft Cp7 hC rfl
  replace Cp8 := Cell.aft Cp8 hC rfl
  replace S5 := hk 5 _ (by kernel_rfl) S5
  replace S6 := hk 6 _ (by kernel_rfl) S6
  replace S7 := hk 7 _ (by kernel_rfl) S7
  replace S10 := hk 10 _ (by kernel_rfl) S10
  replace S12 := hk 12 _ (by kernel_rfl) S12
  replace S13 := hk 13 _ (by kernel_rfl) S13
  replace S14 := hk 14 _ (by kernel_rfl) S14
  have S75 := gotV hz' 3 hh rfl rfl rfl rfl
  clear tp2 tp3
  replace HB := aft_call HB (RelC.below_nil hC)
  clear hC hk hh; replace hz := hz'; replace hd := hd'; clear hz' hd'
  refine wp_cond_false S75.ev ?_
  refine wp_skip ?_
  refine wp_seq ?_
  refine region_drawn (M := [p2, p3]) (
      rT (tN B64 1000000 ((xs.getD i 0) - (xs.getD j 0))) ::
      rT (tN B32 1000000 (xs.getD i 0)) ::
      rT (tN B32 1000000 (xs.getD j 0)) ::
      rT (tN B32 1000000 ((xs.getD i 0) - (xs.getD j 0))) ::
      rE 0 25 (tN B64 1000000 ((xs.getD i 0) - (xs.getD j 0))) p2 ::
      rE 1 44 (tN B32 1000000 ((xs.getD i 0) - (xs.getD j 0))) p3 ::
      []) hz hd (by kernel_rfl) (by kernel_rfl) ?_ ?_
  · refine ⟨?_, ?_, ?_, ?_, ?_, ?_, trivial⟩
    · exact sLoad rfl rfl rfl hz rfl (Gd.none_ rfl) rfl (Src.out (t := 14) (by kernel_rfl) S14 rfl) Cp8 (by simp [tagOf, n_p8_p2, n_p8_p3]) ld_n64
    · exact sLoad rfl rfl rfl hz rfl (Gd.none_ rfl) rfl (Src.out (t := 12) (by kernel_rfl) S12 rfl) Cp6 (by simp [tagOf, n_p6_p2, n_p6_p3]) ld_n32
    · exact sLoad rfl rfl rfl hz rfl (Gd.none_ rfl) rfl (Src.out (t := 13) (by kernel_rfl) S13 rfl) Cp7 (by simp [tagOf, n_p7_p2, n_p7_p3]) ld_n32
    · exact sCall rfl rfl rfl hz rfl (Gd.none_ rfl) rfl Try.func67 (by kernel_rfl) (by kernel_rfl) fun a γ w U => (by show Calls _ _ #[a.eval (.tmp 79), a.eval (.tmp 80)] _ _; exact d_minus (Src.at_ (Src.dep (j := 1) (t := 79) (by kernel_rfl) (by kernel_rfl) rfl) U) (Src.at_ (Src.dep (j := 2) (t := 80) (by kernel_rfl) (by kernel_rfl) rfl) U) (by decide) (by decide) e8)
    · exact sStoreE rfl rfl rfl rfl rfl (Src.out (t := 6) (by kernel_rfl) S6 rfl) (by simp [tagOf]) (Cp2.var tN_nd) (Src.dep (j := 0) (t := 78) (by kernel_rfl) (by kernel_rfl) rfl) st_n64
    · exact sStoreE rfl rfl rfl rfl rfl (Src.out (t := 7) (by kernel_rfl) S7 rfl) (by simp [tagOf, n_p3_p2]) (Cp3.var tN_nd) (Src.dep (j := 3) (t := 81) (by kernel_rfl) (by kernel_rfl) rfl) st_n32
  intro a' γ' W' hz' hd' hC hk hh
  replace Cp1 := Cell.aft Cp1 hC (by simp [tagOf, n_p1_p2, n_p1_p3])
  replace Cp2 := gotE (T := tN B64 1000000 ((xs.getD i 0) - (xs.getD j 0))) (id := 25) (p := p2) 4 hh rfl rfl
  replace Cp3 := gotE (T := tN B32 1000000 ((xs.getD i 0) - (xs.getD j 0))) (id := 44) (p := p3) 5 hh rfl rfl
  replace Cp4 := Cell.aft Cp4 hC (by simp [tagOf, n_p4_p2, n_p4_p3])
  replace Cp6 := Cell.aft Cp6 hC (by simp [tagOf, n_p6_p2, n_p6_p3])
  clear Cp7
  clear Cp8
  replace S5 := hk 5 _ (by kernel_rfl) S5
  replace S6 := hk 6 _ (by kernel_rfl) S6
  replace S7 := hk 7 _ (by kernel_rfl) S7
  replace S10 := hk 10 _ (by kernel_rfl) S10
  replace S12 := hk 12 _ (by kernel_rfl) S12
  clear S13
  clear S14
  clear S75
  replace HB := RelC.aftM HB hC (by intro m hm; simp at hm; rcases hm with rfl | rfl <;> assumption)
  clear hC hk hh; replace hz := hz'; replace hd := hd'; clear hz' hd'
  refine wp_ret ?_
  exact ret2n (by kernel_rfl) S6 S7 hd Cp2 Cp3 HB

set_option maxRecDepth 10000 in
set_option maxHeartbeats 2000000 in
theorem after2 {gl gm n cl cm ia ja i j sn : Nat} {ok oi oj os : Int} {xs : List Nat} {w : World} (HL : Rw B64 25 1000000 gl xs w) (HM : Rw B32 44 1000000 gm xs w) (hn0 : ¬ n = 0) (hi : i < xs.length) (hj : j < xs.length) (hi2 : i < n) (hj2 : j < n)
    (ei : bits .and .i64 oi 255 = (ia : Int)) (ej : bits .and .i64 oj 255 = (ja : Int)) (es : bits .and .i64 os 127 = (sn : Int)) (ri : (ia : Int).tmod (n : Int) = (i : Int)) (rj : (ja : Int).tmod (n : Int) = (j : Int)) (ek : bits .and .i64 ok 7 = 2)  :
    Calls Try.prog 44 #[.slice (some ⟨gl, 0, none⟩) n cl, .slice (some ⟨gm, 0, none⟩) n cm, .agg #[.int .i64 ok, .int .i64 oi, .int .i64 oj, .int .i64 os]] w (Ret (tT [tN B64 2000000 ((xs.getD i 0) * (xs.getD j 0)), tN B32 2000000 ((xs.getD i 0) * (xs.getD j 0))]) w) := by
  refine enter Try.func44 rfl Try.ntmps44 (by simp) ?_
  intro a hz hd ha
  have S0 := ha 0 _ rfl
  have S1 := ha 1 _ rfl
  have S2 := ha 2 _ rfl
  clear ha
  have HB : Below w.heap.size w w := Below.refl _ _
  refine wp_seq ?_
  refine region_text (M := []) (
      rB 0 74 (tV (.agg #[.int .i64 ok, .int .i64 oi, .int .i64 oj, .int .i64 os])) none 0 ::
      rB 1 25 (tN B64 0 0) none 0 ::
      rB 2 44 (tN B32 0 0) none 0 ::
      []) hz hd (by kernel_rfl) ?_ ?_
  · refine ⟨?_, ?_, ?_, trivial⟩
    · exact sBox rfl rfl rfl hz rfl rfl rfl (Src.out (t := 2) (by kernel_rfl) S2 rfl) box_op
    · exact sNew rfl rfl rfl hz rfl rfl rfl (fun _ => tN_nil) al_n64
    · exact sNew rfl rfl rfl hz rfl rfl rfl (fun _ => tN_nil) al_n32
  intro a' γ' W' hz' hd' hC hk hh
  replace S0 := hk 0 _ (by kernel_rfl) S0
  replace S1 := hk 1 _ (by kernel_rfl) S1
  clear S2
  replace HL := Rw.aft HL hC rfl
  replace HM := Rw.aft HM hC rfl
  obtain ⟨p1, S5, Cp1, lp1, gp1⟩ := gotB hz' 0 hC hh rfl rfl rfl rfl rfl rfl
  obtain ⟨p2, S6, Cp2, lp2, gp2⟩ := gotB hz' 1 hC hh rfl rfl rfl rfl rfl rfl
  obtain ⟨p3, S7, Cp3, lp3, gp3⟩ := gotB hz' 2 hC hh rfl rfl rfl rfl rfl rfl
  have n_p1_p2 : p1 ≠ p2 := by intro e; rw [e, gp2] at gp1; omega
  have n_p1_p3 : p1 ≠ p3 := by intro e; rw [e, gp3] at gp1; omega
  have n_p2_p3 : p2 ≠ p3 := by intro e; rw [e, gp3] at gp2; omega
  have n_p3_p2 : p3 ≠ p2 := by intro e; rw [e, gp2] at gp3; omega
  have bp2 : w.heap.size ≤ p2 := Nat.le_trans HB.size lp2
  have bp3 : w.heap.size ≤ p3 := Nat.le_trans HB.size lp3
  clear lp1 gp1 lp2 gp2 lp3 gp3
  replace HB := aft_call HB (RelC.below_nil hC)
  clear hC hk hh; replace hz := hz'; replace hd := hd'; clear hz' hd'
  refine wp_seq ?_
  refine region_drawn (M := []) (
      rT (tV (.pointer (some ⟨p1, 1, none⟩))) ::
      rT (tV (.int .i64 oi)) ::
      rT (tV (.int .i64 (ia : Int))) ::
      rT (tV (.slice (some ⟨gl, 0, none⟩) n cl)) ::
      rT (tV (.int .i64 (n : Int))) ::
      rT (tV (.int .i64 (i : Int))) ::
      rT (tV (.pointer (some ⟨p1, 2, none⟩))) ::
      rT (tV (.int .i64 oj)) ::
      rT (tV (.int .i64 (ja : Int))) ::
      rT (tV (.slice (some ⟨gl, 0, none⟩) n cl)) ::
      rT (tV (.int .i64 (n : Int))) ::
      rT (tV (.int .i64 (j : Int))) ::
      rT (tV (.int .i64 (i : Int))) ::
      rT (tV (.int .i64 (j : Int))) ::
      []) hz hd (by kernel_rfl) (by kernel_rfl) ?_ ?_
  · refine ⟨?_, ?_, ?_, ?_, ?_, ?_, ?_, ?_, ?_, ?_, ?_, ?_, ?_, ?_, trivial⟩
    · exact sFA rfl rfl rfl hz rfl (Gd.none_ rfl) rfl (Src.out (t := 5) (by kernel_rfl) S5 rfl) (fun w => by simp [go_sem])
    · exact sLoadF rfl rfl rfl hz rfl (Gd.none_ rfl) rfl (Src.dep (j := 0) (t := 25) (by kernel_rfl) (by kernel_rfl) rfl) Cp1 rfl rfl (fun w h => by simp [go_sem, h])
    · exact sBin rfl rfl rfl hz rfl (Gd.none_ rfl) rfl (Src.dep (j := 1) (t := 26) (by kernel_rfl) (by kernel_rfl) rfl) (Src.const (.int .i64 255)) (fun w => by simp [go_sem, ei])
    · exact sMv rfl rfl rfl hz rfl (Gd.none_ rfl) rfl (Src.out (t := 0) (by kernel_rfl) S0 rfl)
    · exact sLen rfl rfl rfl hz rfl (Gd.none_ rfl) rfl (Src.dep (j := 3) (t := 28) (by kernel_rfl) (by kernel_rfl) rfl) (fun v w h => ⟨_, _, h⟩) len64
    · exact sBin rfl rfl rfl hz rfl (Gd.none_ rfl) rfl (Src.dep (j := 2) (t := 27) (by kernel_rfl) (by kernel_rfl) rfl) (Src.dep (j := 4) (t := 29) (by kernel_rfl) (by kernel_rfl) rfl) (fun w => by simp [go_sem, hn0, ri])
    · exact sFA rfl rfl rfl hz rfl (Gd.none_ rfl) rfl (Src.out (t := 5) (by kernel_rfl) S5 rfl) (fun w => by simp [go_sem])
    · exact sLoadF rfl rfl rfl hz rfl (Gd.none_ rfl) rfl (Src.dep (j := 6) (t := 31) (by kernel_rfl) (by kernel_rfl) rfl) Cp1 rfl rfl (fun w h => by simp [go_sem, h])
    · exact sBin rfl rfl rfl hz rfl (Gd.none_ rfl) rfl (Src.dep (j := 7) (t := 32) (by kernel_rfl) (by kernel_rfl) rfl) (Src.const (.int .i64 255)) (fun w => by simp [go_sem, ej])
    · exact sMv rfl rfl rfl hz rfl (Gd.none_ rfl) rfl (Src.out (t := 0) (by kernel_rfl) S0 rfl)
    · exact sLen rfl rfl rfl hz rfl (Gd.none_ rfl) rfl (Src.dep (j := 9) (t := 34) (by kernel_rfl) (by kernel_rfl) rfl) (fun v w h => ⟨_, _, h⟩) len64
    · exact sBin rfl rfl rfl hz rfl (Gd.none_ rfl) rfl (Src.dep (j := 8) (t := 33) (by kernel_rfl) (by kernel_rfl) rfl) (Src.dep (j := 10) (t := 35) (by kernel_rfl) (by kernel_rfl) rfl) (fun w => by simp [go_sem, hn0, rj])
    · exact sAs rfl rfl rfl hz rfl (Gd.none_ rfl) rfl (Src.dep (j := 5) (t := 30) (by kernel_rfl) (by kernel_rfl) rfl)
    · exact sAs rfl rfl rfl hz rfl (Gd.none_ rfl) rfl (Src.dep (j := 11) (t := 36) (by kernel_rfl) (by kernel_rfl) rfl)
  intro a' γ' W' hz' hd' hC hk hh
  replace Cp1 := Cell.aft Cp1 hC rfl
  have tp2 := Cp2.lt
  replace Cp2 := Cell.aft Cp2 hC rfl
  have tp3 := Cp3.lt
  replace Cp3 := Cell.aft Cp3 hC rfl
  replace S0 := hk 0 _ (by kernel_rfl) S0
  replace S1 := hk 1 _ (by kernel_rfl) S1
  replace S5 := hk 5 _ (by kernel_rfl) S5
  replace S6 := hk 6 _ (by kernel_rfl) S6
  replace S7 := hk 7 _ (by kernel_rfl) S7
  replace HL := Rw.aft HL hC rfl
  replace HM := Rw.aft HM hC rfl
  have S8 := gotV hz' 12 hh rfl rfl rfl rfl
  have S9 := gotV hz' 13 hh rfl rfl rfl rfl
  clear tp2 tp3
  replace HB := aft_call HB (RelC.below_nil hC)
  clear hC hk hh; replace hz := hz'; replace hd := hd'; clear hz' hd'
  refine wp_seq ?_
  refine region_drawn (M := []) (
      rT (tV (.slice (some ⟨gl, 0, none⟩) n cl)) ::
      rT (tV (.int .i64 (i : Int))) ::
      rT (tV (.pointer (some ⟨gl, i, none⟩))) ::
      rT (tN B64 1000000 (xs.getD i 0)) ::
      rT (tV (.slice (some ⟨gl, 0, none⟩) n cl)) ::
      rT (tV (.int .i64 (j : Int))) ::
      rT (tV (.pointer (some ⟨gl, j, none⟩))) ::
      rT (tN B64 1000000 (xs.getD j 0)) ::
      rT (tV (.slice (some ⟨gm, 0, none⟩) n cm)) ::
      rT (tV (.int .i64 (i : Int))) ::
      rT (tV (.pointer (some ⟨gm, i, none⟩))) ::
      rT (tN B32 1000000 (xs.getD i 0)) ::
      rT (tV (.slice (some ⟨gm, 0, none⟩) n cm)) ::
      rT (tV (.int .i64 (j : Int))) ::
      rT (tV (.pointer (some ⟨gm, j, none⟩))) ::
      rT (tN B32 1000000 (xs.getD j 0)) ::
      rVar 16 25 1 ::
      rVar 17 25 1 ::
      rVar 18 44 1 ::
      rVar 19 44 1 ::
      rB 16 25 (tN B64 1000000 (xs.getD i 0)) (some 16) 17 ::
      rB 17 25 (tN B64 1000000 (xs.getD j 0)) (some 17) 18 ::
      rB 18 44 (tN B32 1000000 (xs.getD i 0)) (some 18) 19 ::
      rB 19 44 (tN B32 1000000 (xs.getD j 0)) (some 19) 20 ::
      []) hz hd (by kernel_rfl) (by kernel_rfl) ?_ ?_
  · refine ⟨?_, ?_, ?_, ?_, ?_, ?_, ?_, ?_, ?_, ?_, ?_, ?_, ?_, ?_, ?_, ?_, ?_, ?_, ?_, ?_, ?_, ?_, ?_, ?_, trivial⟩
    · exact sMv rfl rfl rfl hz rfl (Gd.none_ rfl) rfl (Src.out (t := 0) (by kernel_rfl) S0 rfl)
    · exact sMv rfl rfl rfl hz rfl (Gd.none_ rfl) rfl (Src.out (t := 8) (by kernel_rfl) S8 rfl)
    · exact sIdx rfl rfl rfl hz rfl (Gd.none_ rfl) rfl (Src.dep (j := 0) (t := 37) (by kernel_rfl) (by kernel_rfl) rfl) (Src.dep (j := 1) (t := 38) (by kernel_rfl) (by kernel_rfl) rfl) (ia64 hi2)
    · exact sLoadRow rfl rfl rfl hz rfl (Gd.none_ rfl) rfl (Src.dep (j := 2) (t := 39) (by kernel_rfl) (by kernel_rfl) rfl) HL rfl hi ldr64
    · exact sMv rfl rfl rfl hz rfl (Gd.none_ rfl) rfl (Src.out (t := 0) (by kernel_rfl) S0 rfl)
    · exact sMv rfl rfl rfl hz rfl (Gd.none_ rfl) rfl (Src.out (t := 9) (by kernel_rfl) S9 rfl)
    · exact sIdx rfl rfl rfl hz rfl (Gd.none_ rfl) rfl (Src.dep (j := 4) (t := 41) (by kernel_rfl) (by kernel_rfl) rfl) (Src.dep (j := 5) (t := 42) (by kernel_rfl) (by kernel_rfl) rfl) (ia64 hj2)
    · exact sLoadRow rfl rfl rfl hz rfl (Gd.none_ rfl) rfl (Src.dep (j := 6) (t := 43) (by kernel_rfl) (by kernel_rfl) rfl) HL rfl hj ldr64
    · exact sMv rfl rfl rfl hz rfl (Gd.none_ rfl) rfl (Src.out (t := 1) (by kernel_rfl) S1 rfl)
    · exact sMv rfl rfl rfl hz rfl (Gd.none_ rfl) rfl (Src.out (t := 8) (by kernel_rfl) S8 rfl)
    · exact sIdx rfl rfl rfl hz rfl (Gd.none_ rfl) rfl (Src.dep (j := 8) (t := 45) (by kernel_rfl) (by kernel_rfl) rfl) (Src.dep (j := 9) (t := 46) (by kernel_rfl) (by kernel_rfl) rfl) (ia32 hi2)
    · exact sLoadRow rfl rfl rfl hz rfl (Gd.none_ rfl) rfl (Src.dep (j := 10) (t := 47) (by kernel_rfl) (by kernel_rfl) rfl) HM rfl hi ldr32
    · exact sMv rfl rfl rfl hz rfl (Gd.none_ rfl) rfl (Src.out (t := 1) (by kernel_rfl) S1 rfl)
    · exact sMv rfl rfl rfl hz rfl (Gd.none_ rfl) rfl (Src.out (t := 9) (by kernel_rfl) S9 rfl)
    · exact sIdx rfl rfl rfl hz rfl (Gd.none_ rfl) rfl (Src.dep (j := 12) (t := 49) (by kernel_rfl) (by kernel_rfl) rfl) (Src.dep (j := 13) (t := 50) (by kernel_rfl) (by kernel_rfl) rfl) (ia32 hj2)
    · exact sLoadRow rfl rfl rfl hz rfl (Gd.none_ rfl) rfl (Src.dep (j := 14) (t := 51) (by kernel_rfl) (by kernel_rfl) rfl) HM rfl hj ldr32
    · exact sAlloc rfl rfl rfl hz rfl rfl rfl rfl nd_slice al_n64
    · exact sAlloc rfl rfl rfl hz rfl rfl rfl rfl nd_slice al_n64
    · exact sAlloc rfl rfl rfl hz rfl rfl rfl rfl nd_slice al_n32
    · exact sAlloc rfl rfl rfl hz rfl rfl rfl rfl nd_slice al_n32
    · exact sStore rfl rfl rfl rfl rfl (by kernel_rfl) (by kernel_rfl) rfl (Src.dep (j := 3) (t := 40) (by kernel_rfl) (by kernel_rfl) rfl) st_n64
    · exact sStore rfl rfl rfl rfl rfl (by kernel_rfl) (by kernel_rfl) rfl (Src.dep (j := 7) (t := 44) (by kernel_rfl) (by kernel_rfl) rfl) st_n64
    · exact sStore rfl rfl rfl rfl rfl (by kernel_rfl) (by kernel_rfl) rfl (Src.dep (j := 11) (t := 48) (by kernel_rfl) (by kernel_rfl) rfl) st_n32
    · exact sStore rfl rfl rfl rfl rfl (by kernel_rfl) (by kernel_rfl) rfl (Src.dep (j := 15) (t := 52) (by kernel_rfl) (by kernel_rfl) rfl) st_n32
  intro a' γ' W' hz' hd' hC hk hh
  replace Cp1 := Cell.aft Cp1 hC rfl
  have tp2 := Cp2.lt
  replace Cp2 := Cell.aft Cp2 hC rfl
  have tp3 := Cp3.lt
  replace Cp3 := Cell.aft Cp3 hC rfl
  clear S0
  clear S1
  replace S5 := hk 5 _ (by kernel_rfl) S5
  replace S6 := hk 6 _ (by kernel_rfl) S6
  replace S7 := hk 7 _ (by kernel_rfl) S7
  clear S8
  clear S9
  clear HL
  clear HM
  obtain ⟨p4, S10, Cp4, lp4, gp4⟩ := gotB hz' 20 hC hh rfl rfl rfl rfl rfl rfl
  obtain ⟨p5, S11, Cp5, lp5, gp5⟩ := gotB hz' 21 hC hh rfl rfl rfl rfl rfl rfl
  obtain ⟨p6, S12, Cp6, lp6, gp6⟩ := gotB hz' 22 hC hh rfl rfl rfl rfl rfl rfl
  obtain ⟨p7, S13, Cp7, lp7, gp7⟩ := gotB hz' 23 hC hh rfl rfl rfl rfl rfl rfl
  have n_p4_p2 : p4 ≠ p2 := by omega
  have n_p4_p3 : p4 ≠ p3 := by omega
  have n_p5_p2 : p5 ≠ p2 := by omega
  have n_p5_p3 : p5 ≠ p3 := by omega
  have n_p6_p2 : p6 ≠ p2 := by omega
  have n_p6_p3 : p6 ≠ p3 := by omega
  have n_p7_p2 : p7 ≠ p2 := by omega
  have n_p7_p3 : p7 ≠ p3 := by omega
  clear lp4 gp4 lp5 gp5 lp6 gp6 lp7 gp7
  clear tp2 tp3
  replace HB := aft_call HB (RelC.below_nil hC)
  clear hC hk hh; replace hz := hz'; replace hd := hd'; clear hz' hd'
  refine wp_seq ?_
  refine wp_seq ?_
  refine region_text (M := []) (
      rT (tV (.pointer (some ⟨p1, 0, none⟩))) ::
      rT (tV (.int .i64 ok)) ::
      rT (tV (.int .i64 2)) ::
      []) hz hd (by kernel_rfl) ?_ ?_
  · refine ⟨?_, ?_, ?_, trivial⟩
    · exact sFA rfl rfl rfl hz rfl (Gd.none_ rfl) rfl (Src.out (t := 5) (by kernel_rfl) S5 rfl) (fun w => by simp [go_sem])
    · exact sLoadF rfl rfl rfl hz rfl (Gd.none_ rfl) rfl (Src.dep (j := 0) (t := 53) (by kernel_rfl) (by kernel_rfl) rfl) Cp1 rfl rfl (fun w h => by simp [go_sem, h])
    · exact sBin rfl rfl rfl hz rfl (Gd.none_ rfl) rfl (Src.dep (j := 1) (t := 54) (by kernel_rfl) (by kernel_rfl) rfl) (Src.const (.int .i64 7)) (fun w => by simp [go_sem, ek])
  intro a' γ' W' hz' hd' hC hk hh
  replace Cp1 := Cell.aft Cp1 hC rfl
  have tp2 := Cp2.lt
  replace Cp2 := Cell.aft Cp2 hC rfl
  have tp3 := Cp3.lt
  replace Cp3 := Cell.aft Cp3 hC rfl
  replace Cp4 := Cell.aft Cp4 hC rfl
  replace Cp5 := Cell.aft Cp5 hC rfl
  replace Cp6 := Cell.aft Cp6 hC rfl
  replace Cp7 := Cell.aft Cp7 hC rfl
  replace S5 := hk 5 _ (by kernel_rfl) S5
  replace S6 := hk 6 _ (by kernel_rfl) S6
  replace S7 := hk 7 _ (by kernel_rfl) S7
  replace S10 := hk 10 _ (by kernel_rfl) S10
  replace S11 := hk 11 _ (by kernel_rfl) S11
  replace S12 := hk 12 _ (by kernel_rfl) S12
  replace S13 := hk 13 _ (by kernel_rfl) S13
  have S55 := gotV hz' 2 hh rfl rfl rfl rfl
  clear tp2 tp3
  replace HB := aft_call HB (RelC.below_nil hC)
  clear hC hk hh; replace hz := hz'; replace hd := hd'; clear hz' hd'
  refine wp_block ?_
  refine wp_seq ?_
  refine region_text (M := []) (
      rT (tV (.bool false)) ::
      rT (tV (.bool false)) ::
      []) hz hd (by kernel_rfl) ?_ ?_
  · refine ⟨?_, ?_, trivial⟩
    · exact sBin rfl rfl rfl hz rfl (Gd.none_ rfl) rfl (Src.out (t := 55) (by kernel_rfl) S55 rfl) (Src.const (.int .i64 0)) (fun w => by simp [go_sem])
    · exact sAs rfl rfl rfl hz rfl (Gd.none_ rfl) rfl (Src.dep (j := 0) (t := 57) (by kernel_rfl) (by kernel_rfl) rfl)
  intro a' γ' W' hz' hd' hC hk hh
  replace Cp1 := Cell.aft Cp1 hC rfl
  have tp2 := Cp2.lt
  replace Cp2 := Cell.aft Cp2 hC rfl
  have tp3 := Cp3.lt
  replace Cp3 := Cell.aft Cp3 hC rfl
  replace Cp4 := Cell.aft Cp4 hC rfl
  replace Cp5 := Cell.aft Cp5 hC rfl
  replace Cp6 := Cell.aft Cp6 hC rfl
  replace Cp7 := Cell.aft Cp7 hC rfl
  replace S5 := hk 5 _ (by kernel_rfl) S5
  replace S6 := hk 6 _ (by kernel_rfl) S6
  replace S7 := hk 7 _ (by kernel_rfl) S7
  replace S10 := hk 10 _ (by kernel_rfl) S10
  replace S11 := hk 11 _ (by kernel_rfl) S11
  replace S12 := hk 12 _ (by kernel_rfl) S12
  replace S13 := hk 13 _ (by kernel_rfl) S13
  replace S55 := hk 55 _ (by kernel_rfl) S55
  have S56 := gotV hz' 1 hh rfl rfl rfl rfl
  clear tp2 tp3
  replace HB := aft_call HB (RelC.below_nil hC)
  clear hC hk hh; replace hz := hz'; replace hd := hd'; clear hz' hd'
  refine wp_cond_false S56.ev ?_
  refine wp_seq ?_
  refine region_text (M := []) (
      rT (tV (.bool false)) ::
      rT (tV (.bool false)) ::
      []) hz hd (by kernel_rfl) ?_ ?_
  · refine ⟨?_, ?_, trivial⟩
    · exact sBin rfl rfl rfl hz rfl (Gd.none_ rfl) rfl (Src.out (t := 55) (by kernel_rfl) S55 rfl) (Src.const (.int .i64 1)) (fun w => by simp [go_sem])
    · exact sAs rfl rfl rfl hz rfl (Gd.none_ rfl) rfl (Src.dep (j := 0) (t := 65) (by kernel_rfl) (by kernel_rfl) rfl)
  intro a' γ' W' hz' hd' hC hk hh
  replace Cp1 := Cell.aft Cp1 hC rfl
  have tp2 := Cp2.lt
  replace Cp2 := Cell.aft Cp2 hC rfl
  have tp3 := Cp3.lt
  replace Cp3 := Cell.aft Cp3 hC rfl
  replace Cp4 := Cell.aft Cp4 hC rfl
  replace Cp5 := Cell.aft Cp5 hC rfl
  replace Cp6 := Cell.aft Cp6 hC rfl
  replace Cp7 := Cell.aft Cp7 hC rfl
  replace S5 := hk 5 _ (by kernel_rfl) S5
  replace S6 := hk 6 _ (by kernel_rfl) S6
  replace S7 := hk 7 _ (by kernel_rfl) S7
  replace S10 := hk 10 _ (by kernel_rfl) S10
  replace S11 := hk 11 _ (by kernel_rfl) S11
  replace S12 := hk 12 _ (by kernel_rfl) S12
  replace S13 := hk 13 _ (by kernel_rfl) S13
  replace S55 := hk 55 _ (by kernel_rfl) S55
  clear S56
  have S64 := gotV hz' 1 hh rfl rfl rfl rfl
  clear tp2 tp3
  replace HB := aft_call HB (RelC.below_nil hC)
  clear hC hk hh; replace hz := hz'; replace hd := hd'; clear hz' hd'
  refine wp_cond_false S64.ev ?_
  refine wp_seq ?_
  refine region_text (M := []) (
      rT (tV (.bool true)) ::
      rT (tV (.bool true)) ::
      []) hz hd (by kernel_rfl) ?_ ?_
  · refine ⟨?_, ?_, trivial⟩
    · exact sBin rfl rfl rfl hz rfl (Gd.none_ rfl) rfl (Src.out (t := 55) (by kernel_rfl) S55 rfl) (Src.const (.int .i64 2)) (fun w => by simp [go_sem])
    · exact sAs rfl rfl rfl hz rfl (Gd.none_ rfl) rfl (Src.dep (j := 0) (t := 83) (by kernel_rfl) (by kernel_rfl) rfl)
  intro a' γ' W' hz' hd' hC hk hh
  replace Cp1 := Cell.aft Cp1 hC rfl
  have tp2 := Cp2.lt
  replace Cp2 := Cell.aft Cp2 hC rfl
  have tp3 := Cp3.lt
  replace Cp3 := Cell.aft Cp3 hC rfl
  replace Cp4 := Cell.aft Cp4 hC rfl
  replace Cp5 := Cell.aft Cp5 hC rfl
  replace Cp6 := Cell.aft Cp6 hC rfl
  replace Cp7 := Cell.aft Cp7 hC rfl
  replace S5 := hk 5 _ (by kernel_rfl) S5
  replace S6 := hk 6 _ (by kernel_rfl) S6
  replace S7 := hk 7 _ (by kernel_rfl) S7
  replace S10 := hk 10 _ (by kernel_rfl) S10
  replace S11 := hk 11 _ (by kernel_rfl) S11
  replace S12 := hk 12 _ (by kernel_rfl) S12
  replace S13 := hk 13 _ (by kernel_rfl) S13
  replace S55 := hk 55 _ (by kernel_rfl) S55
  clear S64
  have S82 := gotV hz' 1 hh rfl rfl rfl rfl
  clear tp2 tp3
  replace HB := aft_call HB (RelC.below_nil hC)
  clear hC hk hh; replace hz := hz'; replace hd := hd'; clear hz' hd'
  refine wp_cond_true S82.ev ?_
  refine wp_seq ?_
  refine region_drawn (M := [p2, p3]) (
      rT (tN B64 1000000 (xs.getD i 0)) ::
      rT (tN B64 1000000 (xs.getD j 0)) ::
      rT (tN B64 2000000 ((xs.getD i 0) * (xs.getD j 0))) ::
      rT (tN B32 1000000 (xs.getD i 0)) ::
      rT (tN B32 1000000 (xs.getD j 0)) ::
      rT (tN B32 2000000 ((xs.getD i 0) * (xs.getD j 0))) ::
      rE 0 25 (tN B64 2000000 ((xs.getD i 0) * (xs.getD j 0))) p2 ::
      rE 1 44 (tN B32 2000000 ((xs.getD i 0) * (xs.getD j 0))) p3 ::
      []) hz hd (by kernel_rfl) (by kernel_rfl) ?_ ?_
  · refine ⟨?_, ?_, ?_, ?_, ?_, ?_, ?_, ?_, trivial⟩
    · exact sLoad rfl rfl rfl hz rfl (Gd.none_ rfl) rfl (Src.out (t := 10) (by kernel_rfl) S10 rfl) Cp4 (by simp [tagOf, n_p4_p2, n_p4_p3]) ld_n64
    · exact sLoad rfl rfl rfl hz rfl (Gd.none_ rfl) rfl (Src.out (t := 11) (by kernel_rfl) S11 rfl) Cp5 (by simp [tagOf, n_p5_p2, n_p5_p3]) ld_n64
    · exact sCall rfl rfl rfl hz rfl (Gd.none_ rfl) rfl Try.func19 (by kernel_rfl) (by kernel_rfl) fun a γ w U => (by show Calls _ _ #[a.eval (.tmp 84), a.eval (.tmp 85)] _ _; exact c_mul (Src.at_ (Src.dep (j := 0) (t := 84) (by kernel_rfl) (by kernel_rfl) rfl) U) (Src.at_ (Src.dep (j := 1) (t := 85) (by kernel_rfl) (by kernel_rfl) rfl) U) (by decide) (by decide))
    · exact sLoad rfl rfl rfl hz rfl (Gd.none_ rfl) rfl (Src.out (t := 12) (by kernel_rfl) S12 rfl) Cp6 (by simp [tagOf, n_p6_p2, n_p6_p3]) ld_n32
    · exact sLoad rfl rfl rfl hz rfl (Gd.none_ rfl) rfl (Src.out (t := 13) (by kernel_rfl) S13 rfl) Cp7 (by simp [tagOf, n_p7_p2, n_p7_p3]) ld_n32
    · exact sCall rfl rfl rfl hz rfl (Gd.none_ rfl) rfl Try.func59 (by kernel_rfl) (by kernel_rfl) fun a γ w U => (by show Calls _ _ #[a.eval (.tmp 87), a.eval (.tmp 88)] _ _; exact d_mul (Src.at_ (Src.dep (j := 3) (t := 87) (by kernel_rfl) (by kernel_rfl) rfl) U) (Src.at_ (Src.dep (j := 4) (t := 88) (by kernel_rfl) (by kernel_rfl) rfl) U) (by decide) (by decide))
    · exact sStoreE rfl rfl rfl rfl rfl (Src.out (t := 6) (by kernel_rfl) S6 rfl) (by simp [tagOf]) (Cp2.var tN_nd) (Src.dep (j := 2) (t := 86) (by kernel_rfl) (by kernel_rfl) rfl) st_n64
    · exact sStoreE rfl rfl rfl rfl rfl (Src.out (t := 7) (by kernel_rfl) S7 rfl) (by simp [tagOf, n_p3_p2]) (Cp3.var tN_nd) (Src.dep (j := 5) (t := 89) (by kernel_rfl) (by kernel_rfl) rfl) st_n32
  intro a' γ' W' hz' hd' hC hk hh
  replace Cp1 := Cell.aft Cp1 hC (by simp [tagOf, n_p1_p2, n_p1_p3])
  replace Cp2 := gotE (T := tN B64 2000000 ((xs.getD i 0) * (xs.getD j 0))) (id := 25) (p := p2) 6 hh rfl rfl
  replace Cp3 := gotE (T := tN B32 2000000 ((xs.getD i 0) * (xs.getD j 0))) (id := 44) (p := p3) 7 hh rfl rfl
  replace Cp4 := Cell.aft Cp4 hC (by simp [tagOf, n_p4_p2, n_p4_p3])
  clear Cp5
  replace Cp6 := Cell.aft Cp6 hC (by simp [tagOf, n_p6_p2, n_p6_p3])
  clear Cp7
  replace S5 := hk 5 _ (by kernel_rfl) S5
  replace S6 := hk 6 _ (by kernel_rfl) S6
  replace S7 := hk 7 _ (by kernel_rfl) S7
  replace S10 := hk 10 _ (by kernel_rfl) S10
  clear S11
  replace S12 := hk 12 _ (by kernel_rfl) S12
  clear S13
  clear S55
  clear S82
  replace HB := RelC.aftM HB hC (by intro m hm; simp at hm; rcases hm with rfl | rfl <;> assumption)
  clear hC hk hh; replace hz := hz'; replace hd := hd'; clear hz' hd'
  refine wp_ret ?_
  exact ret2n (by kernel_rfl) S6 S7 hd Cp2 Cp3 HB

set_option maxRecDepth 10000 in
set_option maxHeartbeats 2000000 in
theorem after3z {gl gm n cl cm ia ja i j sn : Nat} {ok oi oj os : Int} {xs : List Nat} {w : World} (HL : Rw B64 25 1000000 gl xs w) (HM : Rw B32 44 1000000 gm xs w) (hn0 : ¬ n = 0) (hi : i < xs.length) (hj : j < xs.length) (hi2 : i < n) (hj2 : j < n)
    (ei : bits .and .i64 oi 255 = (ia : Int)) (ej : bits .and .i64 oj 255 = (ja : Int)) (es : bits .and .i64 os 127 = (sn : Int)) (ri : (ia : Int).tmod (n : Int) = (i : Int)) (rj : (ja : Int).tmod (n : Int) = (j : Int)) (ek : bits .and .i64 ok 7 = 3) (e5 : modOf (xs.getD i 0) (xs.getD j 0) = 0) (e6 : decide (xs.getD j 0 = 0) = true) (e7 : (xs.getD i 0) / (xs.getD j 0) = 0) :
    Calls Try.prog 44 #[.slice (some ⟨gl, 0, none⟩) n cl, .slice (some ⟨gm, 0, none⟩) n cm, .agg #[.int .i64 ok, .int .i64 oi, .int .i64 oj, .int .i64 os]] w (Ret (tT [tN B64 1000000 0, tN B32 0 0]) w) := by
  refine enter Try.func44 rfl Try.ntmps44 (by simp) ?_
  intro a hz hd ha
  have S0 := ha 0 _ rfl
  have S1 := ha 1 _ rfl
  have S2 := ha 2 _ rfl
  clear ha
  have HB : Below w.heap.size w w := Below.refl _ _
  refine wp_seq ?_
  refine region_text (M := []) (
      rB 0 74 (tV (.agg #[.int .i64 ok, .int .i64 oi, .int .i64 oj, .int .i64 os])) none 0 ::
      rB 1 25 (tN B64 0 0) none 0 ::
      rB 2 44 (tN B32 0 0) none 0 ::
      []) hz hd (by kernel_rfl) ?_ ?_
  · refine ⟨?_, ?_, ?_, trivial⟩
    · exact sBox rfl rfl rfl hz rfl rfl rfl (Src.out (t := 2) (by kernel_rfl) S2 rfl) box_op
    · exact sNew rfl rfl rfl hz rfl rfl rfl (fun _ => tN_nil) al_n64
    · exact sNew rfl rfl rfl hz rfl rfl rfl (fun _ => tN_nil) al_n32
  intro a' γ' W' hz' hd' hC hk hh
  replace S0 := hk 0 _ (by kernel_rfl) S0
  replace S1 := hk 1 _ (by kernel_rfl) S1
  clear S2
  replace HL := Rw.aft HL hC rfl
  replace HM := Rw.aft HM hC rfl
  obtain ⟨p1, S5, Cp1, lp1, gp1⟩ := gotB hz' 0 hC hh rfl rfl rfl rfl rfl rfl
  obtain ⟨p2, S6, Cp2, lp2, gp2⟩ := gotB hz' 1 hC hh rfl rfl rfl rfl rfl rfl
  obtain ⟨p3, S7, Cp3, lp3, gp3⟩ := gotB hz' 2 hC hh rfl rfl rfl rfl rfl rfl
  have n_p1_p2 : p1 ≠ p2 := by intro e; rw [e, gp2] at gp1; omega
  have n_p1_p3 : p1 ≠ p3 := by intro e; rw [e, gp3] at gp1; omega
  have n_p2_p3 : p2 ≠ p3 := by intro e; rw [e, gp3] at gp2; omega
  have n_p3_p2 : p3 ≠ p2 := by intro e; rw [e, gp2] at gp3; omega
  have bp2 : w.heap.size ≤ p2 := Nat.le_trans HB.size lp2
  have bp3 : w.heap.size ≤ p3 := Nat.le_trans HB.size lp3
  clear lp1 gp1 lp2 gp2 lp3 gp3
  replace HB := aft_call HB (RelC.below_nil hC)
  clear hC hk hh; replace hz := hz'; replace hd := hd'; clear hz' hd'
  refine wp_seq ?_
  refine region_drawn (M := []) (
      rT (tV (.pointer (some ⟨p1, 1, none⟩))) ::
      rT (tV (.int .i64 oi)) ::
      rT (tV (.int .i64 (ia : Int))) ::
      rT (tV (.slice (some ⟨gl, 0, none⟩) n cl)) ::
      rT (tV (.int .i64 (n : Int))) ::
      rT (tV (.int .i64 (i : Int))) ::
      rT (tV (.pointer (some ⟨p1, 2, none⟩))) ::
      rT (tV (.int .i64 oj)) ::
      rT (tV (.int .i64 (ja : Int))) ::
      rT (tV (.slice (some ⟨gl, 0, none⟩) n cl)) ::
      rT (tV (.int .i64 (n : Int))) ::
      rT (tV (.int .i64 (j : Int))) ::
      rT (tV (.int .i64 (i : Int))) ::
      rT (tV (.int .i64 (j : Int))) ::
      []) hz hd (by kernel_rfl) (by kernel_rfl) ?_ ?_
  · refine ⟨?_, ?_, ?_, ?_, ?_, ?_, ?_, ?_, ?_, ?_, ?_, ?_, ?_, ?_, trivial⟩
    · exact sFA rfl rfl rfl hz rfl (Gd.none_ rfl) rfl (Src.out (t := 5) (by kernel_rfl) S5 rfl) (fun w => by simp [go_sem])
    · exact sLoadF rfl rfl rfl hz rfl (Gd.none_ rfl) rfl (Src.dep (j := 0) (t := 25) (by kernel_rfl) (by kernel_rfl) rfl) Cp1 rfl rfl (fun w h => by simp [go_sem, h])
    · exact sBin rfl rfl rfl hz rfl (Gd.none_ rfl) rfl (Src.dep (j := 1) (t := 26) (by kernel_rfl) (by kernel_rfl) rfl) (Src.const (.int .i64 255)) (fun w => by simp [go_sem, ei])
    · exact sMv rfl rfl rfl hz rfl (Gd.none_ rfl) rfl (Src.out (t := 0) (by kernel_rfl) S0 rfl)
    · exact sLen rfl rfl rfl hz rfl (Gd.none_ rfl) rfl (Src.dep (j := 3) (t := 28) (by kernel_rfl) (by kernel_rfl) rfl) (fun v w h => ⟨_, _, h⟩) len64
    · exact sBin rfl rfl rfl hz rfl (Gd.none_ rfl) rfl (Src.dep (j := 2) (t := 27) (by kernel_rfl) (by kernel_rfl) rfl) (Src.dep (j := 4) (t := 29) (by kernel_rfl) (by kernel_rfl) rfl) (fun w => by simp [go_sem, hn0, ri])
    · exact sFA rfl rfl rfl hz rfl (Gd.none_ rfl) rfl (Src.out (t := 5) (by kernel_rfl) S5 rfl) (fun w => by simp [go_sem])
    · exact sLoadF rfl rfl rfl hz rfl (Gd.none_ rfl) rfl (Src.dep (j := 6) (t := 31) (by kernel_rfl) (by kernel_rfl) rfl) Cp1 rfl rfl (fun w h => by simp [go_sem, h])
    · exact sBin rfl rfl rfl hz rfl (Gd.none_ rfl) rfl (Src.dep (j := 7) (t := 32) (by kernel_rfl) (by kernel_rfl) rfl) (Src.const (.int .i64 255)) (fun w => by simp [go_sem, ej])
    · exact sMv rfl rfl rfl hz rfl (Gd.none_ rfl) rfl (Src.out (t := 0) (by kernel_rfl) S0 rfl)
    · exact sLen rfl rfl rfl hz rfl (Gd.none_ rfl) rfl (Src.dep (j := 9) (t := 34) (by kernel_rfl) (by kernel_rfl) rfl) (fun v w h => ⟨_, _, h⟩) len64
    · exact sBin rfl rfl rfl hz rfl (Gd.none_ rfl) rfl (Src.dep (j := 8) (t := 33) (by kernel_rfl) (by kernel_rfl) rfl) (Src.dep (j := 10) (t := 35) (by kernel_rfl) (by kernel_rfl) rfl) (fun w => by simp [go_sem, hn0, rj])
    · exact sAs rfl rfl rfl hz rfl (Gd.none_ rfl) rfl (Src.dep (j := 5) (t := 30) (by kernel_rfl) (by kernel_rfl) rfl)
    · exact sAs rfl rfl rfl hz rfl (Gd.none_ rfl) rfl (Src.dep (j := 11) (t := 36) (by kernel_rfl) (by kernel_rfl) rfl)
  intro a' γ' W' hz' hd' hC hk hh
  replace Cp1 := Cell.aft Cp1 hC rfl
  have tp2 := Cp2.lt
  replace Cp2 := Cell.aft Cp2 hC rfl
  have tp3 := Cp3.lt
  replace Cp3 := Cell.aft Cp3 hC rfl
  replace S0 := hk 0 _ (by kernel_rfl) S0
  replace S1 := hk 1 _ (by kernel_rfl) S1
  replace S5 := hk 5 _ (by kernel_rfl) S5
  replace S6 := hk 6 _ (by kernel_rfl) S6
  replace S7 := hk 7 _ (by kernel_rfl) S7
  replace HL := Rw.aft HL hC rfl
  replace HM := Rw.aft HM hC rfl
  have S8 := gotV hz' 12 hh rfl rfl rfl rfl
  have S9 := gotV hz' 13 hh rfl rfl rfl rfl
  clear tp2 tp3
  replace HB := aft_call HB (RelC.below_nil hC)
  clear hC hk hh; replace hz := hz'; replace hd := hd'; clear hz' hd'
  refine wp_seq ?_
  refine region_drawn (M := []) (
      rT (tV (.slice (some ⟨gl, 0, none⟩) n cl)) ::
      rT (tV (.int .i64 (i : Int))) ::
      rT (tV (.pointer (some ⟨gl, i, none⟩))) ::
      rT (tN B64 1000000 (xs.getD i 0)) ::
      rT (tV (.slice (some ⟨gl, 0, none⟩) n cl)) ::
      rT (tV (.int .i64 (j : Int))) ::
      rT (tV (.pointer (some ⟨gl, j, none⟩))) ::
      rT (tN B64 1000000 (xs.getD j 0)) ::
      rT (tV (.slice (some ⟨gm, 0, none⟩) n cm)) ::
      rT (tV (.int .i64 (i : Int))) ::
      rT (tV (.pointer (some ⟨gm, i, none⟩))) ::
      rT (tN B32 1000000 (xs.getD i 0)) ::
      rT (tV (.slice (some ⟨gm, 0, none⟩) n cm)) ::
      rT (tV (.int .i64 (j : Int))) ::
      rT (tV (.pointer (some ⟨gm, j, none⟩))) ::
      rT (tN B32 1000000 (xs.getD j 0)) ::
      rVar 16 25 1 ::
      rVar 17 25 1 ::
      rVar 18 44 1 ::
      rVar 19 44 1 ::
      rB 16 25 (tN B64 1000000 (xs.getD i 0)) (some 16) 17 ::
      rB 17 25 (tN B64 1000000 (xs.getD j 0)) (some 17) 18 ::
      rB 18 44 (tN B32 1000000 (xs.getD i 0)) (some 18) 19 ::
      rB 19 44 (tN B32 1000000 (xs.getD j 0)) (some 19) 20 ::
      []) hz hd (by kernel_rfl) (by kernel_rfl) ?_ ?_
  · refine ⟨?_, ?_, ?_, ?_, ?_, ?_, ?_, ?_, ?_, ?_, ?_, ?_, ?_, ?_, ?_, ?_, ?_, ?_, ?_, ?_, ?_, ?_, ?_, ?_, trivial⟩
    · exact sMv rfl rfl rfl hz rfl (Gd.none_ rfl) rfl (Src.out (t := 0) (by kernel_rfl) S0 rfl)
    · exact sMv rfl rfl rfl hz rfl (Gd.none_ rfl) rfl (Src.out (t := 8) (by kernel_rfl) S8 rfl)
    · exact sIdx rfl rfl rfl hz rfl (Gd.none_ rfl) rfl (Src.dep (j := 0) (t := 37) (by kernel_rfl) (by kernel_rfl) rfl) (Src.dep (j := 1) (t := 38) (by kernel_rfl) (by kernel_rfl) rfl) (ia64 hi2)
    · exact sLoadRow rfl rfl rfl hz rfl (Gd.none_ rfl) rfl (Src.dep (j := 2) (t := 39) (by kernel_rfl) (by kernel_rfl) rfl) HL rfl hi ldr64
    · exact sMv rfl rfl rfl hz rfl (Gd.none_ rfl) rfl (Src.out (t := 0) (by kernel_rfl) S0 rfl)
    · exact sMv rfl rfl rfl hz rfl (Gd.none_ rfl) rfl (Src.out (t := 9) (by kernel_rfl) S9 rfl)
    · exact sIdx rfl rfl rfl hz rfl (Gd.none_ rfl) rfl (Src.dep (j := 4) (t := 41) (by kernel_rfl) (by kernel_rfl) rfl) (Src.dep (j := 5) (t := 42) (by kernel_rfl) (by kernel_rfl) rfl) (ia64 hj2)
    · exact sLoadRow rfl rfl rfl hz rfl (Gd.none_ rfl) rfl (Src.dep (j := 6) (t := 43) (by kernel_rfl) (by kernel_rfl) rfl) HL rfl hj ldr64
    · exact sMv rfl rfl rfl hz rfl (Gd.none_ rfl) rfl (Src.out (t := 1) (by kernel_rfl) S1 rfl)
    · exact sMv rfl rfl rfl hz rfl (Gd.none_ rfl) rfl (Src.out (t := 8) (by kernel_rfl) S8 rfl)
    · exact sIdx rfl rfl rfl hz rfl (Gd.none_ rfl) rfl (Src.dep (j := 8) (t := 45) (by kernel_rfl) (by kernel_rfl) rfl) (Src.dep (j := 9) (t := 46) (by kernel_rfl) (by kernel_rfl) rfl) (ia32 hi2)
    · exact sLoadRow rfl rfl rfl hz rfl (Gd.none_ rfl) rfl (Src.dep (j := 10) (t := 47) (by kernel_rfl) (by kernel_rfl) rfl) HM rfl hi ldr32
    · exact sMv rfl rfl rfl hz rfl (Gd.none_ rfl) rfl (Src.out (t := 1) (by kernel_rfl) S1 rfl)
    · exact sMv rfl rfl rfl hz rfl (Gd.none_ rfl) rfl (Src.out (t := 9) (by kernel_rfl) S9 rfl)
    · exact sIdx rfl rfl rfl hz rfl (Gd.none_ rfl) rfl (Src.dep (j := 12) (t := 49) (by kernel_rfl) (by kernel_rfl) rfl) (Src.dep (j := 13) (t := 50) (by kernel_rfl) (by kernel_rfl) rfl) (ia32 hj2)
    · exact sLoadRow rfl rfl rfl hz rfl (Gd.none_ rfl) rfl (Src.dep (j := 14) (t := 51) (by kernel_rfl) (by kernel_rfl) rfl) HM rfl hj ldr32
    · exact sAlloc rfl rfl rfl hz rfl rfl rfl rfl nd_slice al_n64
    · exact sAlloc rfl rfl rfl hz rfl rfl rfl rfl nd_slice al_n64
    · exact sAlloc rfl rfl rfl hz rfl rfl rfl rfl nd_slice al_n32
    · exact sAlloc rfl rfl rfl hz rfl rfl rfl rfl nd_slice al_n32
    · exact sStore rfl rfl rfl rfl rfl (by kernel_rfl) (by kernel_rfl) rfl (Src.dep (j := 3) (t := 40) (by kernel_rfl) (by kernel_rfl) rfl) st_n64
    · exact sStore rfl rfl rfl rfl rfl (by kernel_rfl) (by kernel_rfl) rfl (Src.dep (j := 7) (t := 44) (by kernel_rfl) (by kernel_rfl) rfl) st_n64
    · exact sStore rfl rfl rfl rfl rfl (by kernel_rfl) (by kernel_rfl) rfl (Src.dep (j := 11) (t := 48) (by kernel_rfl) (by kernel_rfl) rfl) st_n32
    · exact sStore rfl rfl rfl rfl rfl (by kernel_rfl) (by kernel_rfl) rfl (Src.dep (j := 15) (t := 52) (by kernel_rfl) (by kernel_rfl) rfl) st_n32
  intro a' γ' W' hz' hd' hC hk hh
  replace Cp1 := Cell.aft Cp1 hC rfl
  have tp2 := Cp2.lt
  replace Cp2 := Cell.aft Cp2 hC rfl
  have tp3 := Cp3.lt
  replace Cp3 := Cell.aft Cp3 hC rfl
  clear S0
  clear S1
  replace S5 := hk 5 _ (by kernel_rfl) S5
  replace S6 := hk 6 _ (by kernel_rfl) S6
  replace S7 := hk 7 _ (by kernel_rfl) S7
  clear S8
  clear S9
  clear HL
  clear HM
  obtain ⟨p4, S10, Cp4, lp4, gp4⟩ := gotB hz' 20 hC hh rfl rfl rfl rfl rfl rfl
  obtain ⟨p5, S11, Cp5, lp5, gp5⟩ := gotB hz' 21 hC hh rfl rfl rfl rfl rfl rfl
  obtain ⟨p6, S12, Cp6, lp6, gp6⟩ := gotB hz' 22 hC hh rfl rfl rfl rfl rfl rfl
  obtain ⟨p7, S13, Cp7, lp7, gp7⟩ := gotB hz' 23 hC hh rfl rfl rfl rfl rfl rfl
  have n_p4_p2 : p4 ≠ p2 := by omega
  have n_p4_p3 : p4 ≠ p3 := by omega
  have n_p5_p2 : p5 ≠ p2 := by omega
  have n_p5_p3 : p5 ≠ p3 := by omega
  have n_p6_p2 : p6 ≠ p2 := by omega
  have n_p6_p3 : p6 ≠ p3 := by omega
  have n_p7_p2 : p7 ≠ p2 := by omega
  have n_p7_p3 : p7 ≠ p3 := by omega
  clear lp4 gp4 lp5 gp5 lp6 gp6 lp7 gp7
  clear tp2 tp3
  replace HB := aft_call HB (RelC.below_nil hC)
  clear hC hk hh; replace hz := hz'; replace hd := hd'; clear hz' hd'
  refine wp_seq ?_
  refine wp_seq ?_
  refine region_text (M := []) (
      rT (tV (.pointer (some ⟨p1, 0, none⟩))) ::
      rT (tV (.int .i64 ok)) ::
      rT (tV (.int .i64 3)) ::
      []) hz hd (by kernel_rfl) ?_ ?_
  · refine ⟨?_, ?_, ?_, trivial⟩
    · exact sFA rfl rfl rfl hz rfl (Gd.none_ rfl) rfl (Src.out (t := 5) (by kernel_rfl) S5 rfl) (fun w => by simp [go_sem])
    · exact sLoadF rfl rfl rfl hz rfl (Gd.none_ rfl) rfl (Src.dep (j := 0) (t := 53) (by kernel_rfl) (by kernel_rfl) rfl) Cp1 rfl rfl (fun w h => by simp [go_sem, h])
    · exact sBin rfl rfl rfl hz rfl (Gd.none_ rfl) rfl (Src.dep (j := 1) (t := 54) (by kernel_rfl) (by kernel_rfl) rfl) (Src.const (.int .i64 7)) (fun w => by simp [go_sem, ek])
  intro a' γ' W' hz' hd' hC hk hh
  replace Cp1 := Cell.aft Cp1 hC rfl
  have tp2 := Cp2.lt
  replace Cp2 := Cell.aft Cp2 hC rfl
  have tp3 := Cp3.lt
  replace Cp3 := Cell.aft Cp3 hC rfl
  replace Cp4 := Cell.aft Cp4 hC rfl
  replace Cp5 := Cell.aft Cp5 hC rfl
  replace Cp6 := Cell.aft Cp6 hC rfl
  replace Cp7 := Cell.aft Cp7 hC rfl
  replace S5 := hk 5 _ (by kernel_rfl) S5
  replace S6 := hk 6 _ (by kernel_rfl) S6
  replace S7 := hk 7 _ (by kernel_rfl) S7
  replace S10 := hk 10 _ (by kernel_rfl) S10
  replace S11 := hk 11 _ (by kernel_rfl) S11
  replace S12 := hk 12 _ (by kernel_rfl) S12
  replace S13 := hk 13 _ (by kernel_rfl) S13
  have S55 := gotV hz' 2 hh rfl rfl rfl rfl
  clear tp2 tp3
  replace HB := aft_call HB (RelC.below_nil hC)
  clear hC hk hh; replace hz := hz'; replace hd := hd'; clear hz' hd'
  refine wp_block ?_
  refine wp_seq ?_
  refine region_text (M := []) (
      rT (tV (.bool false)) ::
      rT (tV (.bool false)) ::
      []) hz hd (by kernel_rfl) ?_ ?_
  · refine ⟨?_, ?_, trivial⟩
    · exact sBin rfl rfl rfl hz rfl (Gd.none_ rfl) rfl (Src.out (t := 55) (by kernel_rfl) S55 rfl) (Src.const (.int .i64 0)) (fun w => by simp [go_sem])
    · exact sAs rfl rfl rfl hz rfl (Gd.none_ rfl) rfl (Src.dep (j := 0) (t := 57) (by kernel_rfl) (by kernel_rfl) rfl)
  intro a' γ' W' hz' hd' hC hk hh
  replace Cp1 := Cell.aft Cp1 hC rfl
  have tp2 := Cp2.lt
  replace Cp2 := Cell.aft Cp2 hC rfl
  have tp3 := Cp3.lt
  replace Cp3 := Cell.aft Cp3 hC rfl
  replace Cp4 := Cell.aft Cp4 hC rfl
  replace Cp5 := Cell.aft Cp5 hC rfl
  replace Cp6 := Cell.aft Cp6 hC rfl
  replace Cp7 := Cell.aft Cp7 hC rfl
  replace S5 := hk 5 _ (by kernel_rfl) S5
  replace S6 := hk 6 _ (by kernel_rfl) S6
  replace S7 := hk 7 _ (by kernel_rfl) S7
  replace S10 := hk 10 _ (by kernel_rfl) S10
  replace S11 := hk 11 _ (by kernel_rfl) S11
  replace S12 := hk 12 _ (by kernel_rfl) S12
  replace S13 := hk 13 _ (by kernel_rfl) S13
  replace S55 := hk 55 _ (by kernel_rfl) S55
  have S56 := gotV hz' 1 hh rfl rfl rfl rfl
  clear tp2 tp3
  replace HB := aft_call HB (RelC.below_nil hC)
  clear hC hk hh; replace hz := hz'; replace hd := hd'; clear hz' hd'
  refine wp_cond_false S56.ev ?_
  refine wp_seq ?_
  refine region_text (M := []) (
      rT (tV (.bool false)) ::
      rT (tV (.bool false)) ::
      []) hz hd (by kernel_rfl) ?_ ?_
  · refine ⟨?_, ?_, trivial⟩
    · exact sBin rfl rfl rfl hz rfl (Gd.none_ rfl) rfl (Src.out (t := 55) (by kernel_rfl) S55 rfl) (Src.const (.int .i64 1)) (fun w => by simp [go_sem])
    · exact sAs rfl rfl rfl hz rfl (Gd.none_ rfl) rfl (Src.dep (j := 0) (t := 65) (by kernel_rfl) (by kernel_rfl) rfl)
  intro a' γ' W' hz' hd' hC hk hh
  replace Cp1 := Cell.aft Cp1 hC rfl
  have tp2 := Cp2.lt
  replace Cp2 := Cell.aft Cp2 hC rfl
  have tp3 := Cp3.lt
  replace Cp3 := Cell.aft Cp3 hC rfl
  replace Cp4 := Cell.aft Cp4 hC rfl
  replace Cp5 := Cell.aft Cp5 hC rfl
  replace Cp6 := Cell.aft Cp6 hC rfl
  replace Cp7 := Cell.aft Cp7 hC rfl
  replace S5 := hk 5 _ (by kernel_rfl) S5
  replace S6 := hk 6 _ (by kernel_rfl) S6
  replace S7 := hk 7 _ (by kernel_rfl) S7
  replace S10 := hk 10 _ (by kernel_rfl) S10
  replace S11 := hk 11 _ (by kernel_rfl) S11
  replace S12 := hk 12 _ (by kernel_rfl) S12
  replace S13 := hk 13 _ (by kernel_rfl) S13
  replace S55 := hk 55 _ (by kernel_rfl) S55
  clear S56
  have S64 := gotV hz' 1 hh rfl rfl rfl rfl
  clear tp2 tp3
  replace HB := aft_call HB (RelC.below_nil hC)
  clear hC hk hh; replace hz := hz'; replace hd := hd'; clear hz' hd'
  refine wp_cond_false S64.ev ?_
  refine wp_seq ?_
  refine region_text (M := []) (
      rT (tV (.bool false)) ::
      rT (tV (.bool false)) ::
      []) hz hd (by kernel_rfl) ?_ ?_
  · refine ⟨?_, ?_, trivial⟩
    · exact sBin rfl rfl rfl hz rfl (Gd.none_ rfl) rfl (Src.out (t := 55) (by kernel_rfl) S55 rfl) (Src.const (.int .i64 2)) (fun w => by simp [go_sem])
    · exact sAs rfl rfl rfl hz rfl (Gd.none_ rfl) rfl (Src.dep (j := 0) (t := 83) (by kernel_rfl) (by kernel_rfl) rfl)
  intro a' γ' W' hz' hd' hC hk hh
  replace Cp1 := Cell.aft Cp1 hC rfl
  have tp2 := Cp2.lt
  replace Cp2 := Cell.aft Cp2 hC rfl
  have tp3 := Cp3.lt
  replace Cp3 := Cell.aft Cp3 hC rfl
  replace Cp4 := Cell.aft Cp4 hC rfl
  replace Cp5 := Cell.aft Cp5 hC rfl
  replace Cp6 := Cell.aft Cp6 hC rfl
  replace Cp7 := Cell.aft Cp7 hC rfl
  replace S5 := hk 5 _ (by kernel_rfl) S5
  replace S6 := hk 6 _ (by kernel_rfl) S6
  replace S7 := hk 7 _ (by kernel_rfl) S7
  replace S10 := hk 10 _ (by kernel_rfl) S10
  replace S11 := hk 11 _ (by kernel_rfl) S11
  replace S12 := hk 12 _ (by kernel_rfl) S12
  replace S13 := hk 13 _ (by kernel_rfl) S13
  replace S55 := hk 55 _ (by kernel_rfl) S55
  clear S64
  have S82 := gotV hz' 1 hh rfl rfl rfl rfl
  clear tp2 tp3
  replace HB := aft_call HB (RelC.below_nil hC)
  clear hC hk hh; replace hz := hz'; replace hd := hd'; clear hz' hd'
  refine wp_cond_false S82.ev ?_
  refine wp_seq ?_
  refine wp_seq ?_
  refine region_text (M := []) (
      rT (tV (.bool true)) ::
      rT (tV (.bool true)) ::
      []) hz hd (by kernel_rfl) ?_ ?_
  · refine ⟨?_, ?_, trivial⟩
    · exact sBin rfl rfl rfl hz rfl (Gd.none_ rfl) rfl (Src.out (t := 55) (by kernel_rfl) S55 rfl) (Src.const (.int .i64 3)) (fun w => by simp [go_sem])
    · exact sAs rfl rfl rfl hz rfl (Gd.none_ rfl) rfl (Src.dep (j := 0) (t := 91) (by kernel_rfl) (by kernel_rfl) rfl)
  intro a' γ' W' hz' hd' hC hk hh
  replace Cp1 := Cell.aft Cp1 hC rfl
  have tp2 := Cp2.lt
  replace Cp2 := Cell.aft Cp2 hC rfl
  have tp3 := Cp3.lt
  replace Cp3 := Cell.aft Cp3 hC rfl
  replace Cp4 := Cell.aft Cp4 hC rfl
  replace Cp5 := Cell.aft Cp5 hC rfl
  replace Cp6 := Cell.aft Cp6 hC rfl
  replace Cp7 := Cell.aft Cp7 hC rfl
  replace S5 := hk 5 _ (by kernel_rfl) S5
  replace S6 := hk 6 _ (by kernel_rfl) S6
  replace S7 := hk 7 _ (by kernel_rfl) S7
  replace S10 := hk 10 _ (by kernel_rfl) S10
  replace S11 := hk 11 _ (by kernel_rfl) S11
  replace S12 := hk 12 _ (by kernel_rfl) S12
  replace S13 := hk 13 _ (by kernel_rfl) S13
  replace S55 := hk 55 _ (by kernel_rfl) S55
  clear S82
  have S90 := gotV hz' 1 hh rfl rfl rfl rfl
  clear tp2 tp3
  replace HB := aft_call HB (RelC.below_nil hC)
  clear hC hk hh; replace hz := hz'; replace hd := hd'; clear hz' hd'
  refine wp_cond_true S90.ev ?_
  refine wp_skip ?_
  refine wp_cond_true S90.ev ?_
  refine wp_seq ?_
  refine region_text (M := []) (
      rT (tN B64 1000000 (xs.getD i 0)) ::
      rT (tN B64 1000000 (xs.getD j 0)) ::
      rT (tT [tN B64 1000000 0, tN B64 1000000 0, tV (.bool (nz (xs.getD j 0)))]) ::
      rT (tT [tN B64 1000000 0, tN B64 1000000 0, tV (.bool (nz (xs.getD j 0)))]) ::
      rT (tN B64 1000000 0) ::
      rT (tN B64 1000000 0) ::
      rT (tV (.bool (nz (xs.getD j 0)))) ::
      rVar 7 25 1 ::
      rVar 8 25 1 ::
      rB 7 25 (tN B64 1000000 0) (some 7) 8 ::
      rB 8 25 (tN B64 1000000 0) (some 8) 9 ::
      rT (tV (.bool (nz (xs.getD j 0)))) ::
      []) hz hd (by kernel_rfl) ?_ ?_
  · refine ⟨?_, ?_, ?_, ?_, ?_, ?_, ?_, ?_, ?_, ?_, ?_, ?_, trivial⟩
    · exact sLoad rfl rfl rfl hz rfl (Gd.none_ rfl) rfl (Src.out (t := 10) (by kernel_rfl) S10 rfl) Cp4 rfl ld_n64
    · exact sLoad rfl rfl rfl hz rfl (Gd.none_ rfl) rfl (Src.out (t := 11) (by kernel_rfl) S11 rfl) Cp5 rfl ld_n64
    · exact sCall rfl rfl rfl hz rfl (Gd.none_ rfl) rfl Try.func15 (by kernel_rfl) (by kernel_rfl) fun a γ w U => (by show Calls _ _ #[a.eval (.tmp 94), a.eval (.tmp 95)] _ _; have hq : Calls _ _ #[a.eval (.tmp 94), a.eval (.tmp 95)] w (Ret _ w) := c_divmod (Src.at_ (Src.dep (j := 0) (t := 94) (by kernel_rfl) (by kernel_rfl) rfl) U) (Src.at_ (Src.dep (j := 1) (t := 95) (by kernel_rfl) (by kernel_rfl) rfl) U) (by decide) (by decide); simp only [e7, e5] at hq; exact hq)
    · exact sMv rfl rfl rfl hz rfl (Gd.none_ rfl) rfl (Src.dep (j := 2) (t := 96) (by kernel_rfl) (by kernel_rfl) rfl)
    · exact sExt rfl rfl rfl hz rfl (Gd.none_ rfl) rfl (Src.dep (j := 3) (t := 93) (by kernel_rfl) (by kernel_rfl) rfl) rfl
    · exact sExt rfl rfl rfl hz rfl (Gd.none_ rfl) rfl (Src.dep (j := 3) (t := 93) (by kernel_rfl) (by kernel_rfl) rfl) rfl
    · exact sExt rfl rfl rfl hz rfl (Gd.none_ rfl) rfl (Src.dep (j := 3) (t := 93) (by kernel_rfl) (by kernel_rfl) rfl) rfl
    · exact sAlloc rfl rfl rfl hz rfl rfl rfl rfl nd_slice al_n64
    · exact sAlloc rfl rfl rfl hz rfl rfl rfl rfl nd_slice al_n64
    · exact sStore rfl rfl rfl rfl rfl (by kernel_rfl) (by kernel_rfl) rfl (Src.dep (j := 4) (t := 97) (by kernel_rfl) (by kernel_rfl) rfl) st_n64
    · exact sStore rfl rfl rfl rfl rfl (by kernel_rfl) (by kernel_rfl) rfl (Src.dep (j := 5) (t := 98) (by kernel_rfl) (by kernel_rfl) rfl) st_n64
    · exact sAs rfl rfl rfl hz rfl (Gd.none_ rfl) rfl (Src.dep (j := 6) (t := 99) (by kernel_rfl) (by kernel_rfl) rfl)
  intro a' γ' W' hz' hd' hC hk hh
  replace Cp1 := Cell.aft Cp1 hC rfl
  have tp2 := Cp2.lt
  replace Cp2 := Cell.aft Cp2 hC rfl
  have tp3 := Cp3.lt
  replace Cp3 := Cell.aft Cp3 hC rfl
  replace Cp4 := Cell.aft Cp4 hC rfl
  clear Cp5
  replace Cp6 := Cell.aft Cp6 hC rfl
  replace Cp7 := Cell.aft Cp7 hC rfl
  replace S5 := hk 5 _ (by kernel_rfl) S5
  replace S6 := hk 6 _ (by kernel_rfl) S6
  replace S7 := hk 7 _ (by kernel_rfl) S7
  replace S10 := hk 10 _ (by kernel_rfl) S10
  clear S11
  replace S12 := hk 12 _ (by kernel_rfl) S12
  replace S13 := hk 13 _ (by kernel_rfl) S13
  clear S55
  clear S90
  obtain ⟨p8, S16, Cp8, lp8, gp8⟩ := gotB hz' 9 hC hh rfl rfl rfl rfl rfl rfl
  obtain ⟨p9, S17, Cp9, lp9, gp9⟩ := gotB hz' 10 hC hh rfl rfl rfl rfl rfl rfl
  have n_p8_p2 : p8 ≠ p2 := by omega
  have n_p8_p3 : p8 ≠ p3 := by omega
  have n_p9_p2 : p9 ≠ p2 := by omega
  have n_p9_p3 : p9 ≠ p3 := by omega
  clear lp8 gp8 lp9 gp9
  clear tp2 tp3
  replace HB := aft_call HB (RelC.below_nil hC)
  clear hC hk hh; replace hz := hz'; replace hd := hd'; clear hz' hd'
  refine wp_seq ?_
  refine wp_seq ?_
  refine region_text (M := []) (
      rT (tN B32 1000000 (xs.getD j 0)) ::
      rT (tV (.bool true)) ::
      []) hz hd (by kernel_rfl) ?_ ?_
  · refine ⟨?_, ?_, trivial⟩
    · exact sLoad rfl rfl rfl hz rfl (Gd.none_ rfl) rfl (Src.out (t := 13) (by kernel_rfl) S13 rfl) Cp7 rfl ld_n32
    · exact sCall rfl rfl rfl hz rfl (Gd.none_ rfl) rfl Try.func68 (by kernel_rfl) (by kernel_rfl) fun a γ w U => (by show Calls _ _ #[a.eval (.tmp 100)] _ _; have hq : Calls _ _ #[a.eval (.tmp 100)] w (Ret _ w) := d_zero (Src.at_ (Src.dep (j := 0) (t := 100) (by kernel_rfl) (by kernel_rfl) rfl) U); simp only [e6] at hq; exact hq)
  intro a' γ' W' hz' hd' hC hk hh
  replace Cp1 := Cell.aft Cp1 hC rfl
  have tp2 := Cp2.lt
  replace Cp2 := Cell.aft Cp2 hC rfl
  have tp3 := Cp3.lt
  replace Cp3 := Cell.aft Cp3 hC rfl
  replace Cp4 := Cell.aft Cp4 hC rfl
  replace Cp6 := Cell.aft Cp6 hC rfl
  replace Cp7 := Cell.aft Cp7 hC rfl
  replace Cp8 := Cell.aft Cp8 hC rfl
  replace Cp9 := Cell.aft Cp9 hC rfl
  replace S5 := hk 5 _ (by kernel_rfl) S5
  replace S6 := hk 6 _ (by kernel_rfl) S6
  replace S7 := hk 7 _ (by kernel_rfl) S7
  replace S10 := hk 10 _ (by kernel_rfl) S10
  replace S12 := hk 12 _ (by kernel_rfl) S12
  replace S13 := hk 13 _ (by kernel_rfl) S13
  replace S16 := hk 16 _ (by kernel_rfl) S16
  replace S17 := hk 17 _ (by kernel_rfl) S17
  have S101 := gotV hz' 1 hh rfl rfl rfl rfl
  clear tp2 tp3
  replace HB := aft_call HB (RelC.below_nil hC)
  clear hC hk hh; replace hz := hz'; replace hd := hd'; clear hz' hd'
  refine wp_cond_true S101.ev ?_
  refine wp_seq ?_
  refine region_text (M := [p2, p3]) (
      rT (tN B64 1000000 0) ::
      rT (tN B32 0 0) ::
      rE 0 25 (tN B64 1000000 0) p2 ::
      rE 1 44 (tN B32 0 0) p3 ::
      []) hz hd (by kernel_rfl) ?_ ?_
  · refine ⟨?_, ?_, ?_, ?_, trivial⟩
    · exact sLoad rfl rfl rfl hz rfl (Gd.none_ rfl) rfl (Src.out (t := 16) (by kernel_rfl) S16 rfl) Cp8 (by simp [tagOf, n_p8_p2, n_p8_p3]) ld_n64
    · exact sBuild0 rfl rfl rfl hz rfl (Gd.none_ rfl) rfl bd_n32 (fun _ => tN_nil)
    · exact sStoreE rfl rfl rfl rfl rfl (Src.out (t := 6) (by kernel_rfl) S6 rfl) (by simp [tagOf]) (Cp2.var tN_nd) (Src.dep (j := 0) (t := 102) (by kernel_rfl) (by kernel_rfl) rfl) st_n64
    · exact sStoreE rfl rfl rfl rfl rfl (Src.out (t := 7) (by kernel_rfl) S7 rfl) (by simp [tagOf, n_p3_p2]) (Cp3.var tN_nd) (Src.dep (j := 1) (t := 103) (by kernel_rfl) (by kernel_rfl) rfl) st_n32
  intro a' γ' W' hz' hd' hC hk hh
  replace Cp1 := Cell.aft Cp1 hC (by simp [tagOf, n_p1_p2, n_p1_p3])
  replace Cp2 := gotE (T := tN B64 1000000 0) (id := 25) (p := p2) 2 hh rfl rfl
  replace Cp3 := gotE (T := tN B32 0 0) (id := 44) (p := p3) 3 hh rfl rfl
  replace Cp4 := Cell.aft Cp4 hC (by simp [tagOf, n_p4_p2, n_p4_p3])
  replace Cp6 := Cell.aft Cp6 hC (by simp [tagOf, n_p6_p2, n_p6_p3])
  replace Cp7 := Cell.aft Cp7 hC (by simp [tagOf, n_p7_p2, n_p7_p3])
  replace Cp8 := Cell.aft Cp8 hC (by simp [tagOf, n_p8_p2, n_p8_p3])
  replace Cp9 := Cell.aft Cp9 hC (by simp [tagOf, n_p9_p2, n_p9_p3])
  replace S5 := hk 5 _ (by kernel_rfl) S5
  replace S6 := hk 6 _ (by kernel_rfl) S6
  replace S7 := hk 7 _ (by kernel_rfl) S7
  replace S10 := hk 10 _ (by kernel_rfl) S10
  replace S12 := hk 12 _ (by kernel_rfl) S12
  replace S13 := hk 13 _ (by kernel_rfl) S13
  replace S16 := hk 16 _ (by kernel_rfl) S16
  replace S17 := hk 17 _ (by kernel_rfl) S17
  clear S101
  replace HB := RelC.aftM HB hC (by intro m hm; simp at hm; rcases hm with rfl | rfl <;> assumption)
  clear hC hk hh; replace hz := hz'; replace hd := hd'; clear hz' hd'
  refine wp_ret ?_
  exact ret2n (by kernel_rfl) S6 S7 hd Cp2 Cp3 HB

set_option maxRecDepth 10000 in
set_option maxHeartbeats 2000000 in
theorem after3p {gl gm n cl cm ia ja i j sn : Nat} {ok oi oj os : Int} {xs : List Nat} {w : World} (HL : Rw B64 25 1000000 gl xs w) (HM : Rw B32 44 1000000 gm xs w) (hn0 : ¬ n = 0) (hi : i < xs.length) (hj : j < xs.length) (hi2 : i < n) (hj2 : j < n)
    (ei : bits .and .i64 oi 255 = (ia : Int)) (ej : bits .and .i64 oj 255 = (ja : Int)) (es : bits .and .i64 os 127 = (sn : Int)) (ri : (ia : Int).tmod (n : Int) = (i : Int)) (rj : (ja : Int).tmod (n : Int) = (j : Int)) (ek : bits .and .i64 ok 7 = 3) (e5 : modOf (xs.getD i 0) (xs.getD j 0) = (xs.getD i 0) % (xs.getD j 0)) (e6 : decide (xs.getD j 0 = 0) = false) (e7 : 0 < xs.getD j 0) :
    Calls Try.prog 44 #[.slice (some ⟨gl, 0, none⟩) n cl, .slice (some ⟨gm, 0, none⟩) n cm, .agg #[.int .i64 ok, .int .i64 oi, .int .i64 oj, .int .i64 os]] w (Ret (tT [tN B64 1000000 ((xs.getD i 0) / (xs.getD j 0)), tN B32 1000000 ((xs.getD i 0) / (xs.getD j 0))]) w) := by
  refine enter Try.func44 rfl Try.ntmps44 (by simp) ?_
  intro a hz hd ha
  have S0 := ha 0 _ rfl
  have S1 := ha 1 _ rfl
  have S2 := ha 2 _ rfl
  clear ha
  have HB : Below w.heap.size w w := Below.refl _ _
  refine wp_seq ?_
  refine region_text (M := []) (
      rB 0 74 (tV (.agg #[.int .i64 ok, .int .i64 oi, .int .i64 oj, .int .i64 os])) none 0 ::
      rB 1 25 (tN B64 0 0) none 0 ::
      rB 2 44 (tN B32 0 0) none 0 ::
      []) hz hd (by kernel_rfl) ?_ ?_
  · refine ⟨?_, ?_, ?_, trivial⟩
    · exact sBox rfl rfl rfl hz rfl rfl rfl (Src.out (t := 2) (by kernel_rfl) S2 rfl) box_op
    · exact sNew rfl rfl rfl hz rfl rfl rfl (fun _ => tN_nil) al_n64
    · exact sNew rfl rfl rfl hz rfl rfl rfl (fun _ => tN_nil) al_n32
  intro a' γ' W' hz' hd' hC hk hh
  replace S0 := hk 0 _ (by kernel_rfl) S0
  replace S1 := hk 1 _ (by kernel_rfl) S1
  clear S2
  replace HL := Rw.aft HL hC rfl
  replace HM := Rw.aft HM hC rfl
  obtain ⟨p1, S5, Cp1, lp1, gp1⟩ := gotB hz' 0 hC hh rfl rfl rfl rfl rfl rfl
  obtain ⟨p2, S6, Cp2, lp2, gp2⟩ := gotB hz' 1 hC hh rfl rfl rfl rfl rfl rfl
  obtain ⟨p3, S7, Cp3, lp3, gp3⟩ := gotB hz' 2 hC hh rfl rfl rfl rfl rfl rfl
  have n_p1_p2 : p1 ≠ p2 := by intro e; rw [e, gp2] at gp1; omega
  have n_p1_p3 : p1 ≠ p3 := by intro e; rw [e, gp3] at gp1; omega
  have n_p2_p3 : p2 ≠ p3 := by intro e; rw [e, gp3] at gp2; omega
  have n_p3_p2 : p3 ≠ p2 := by intro e; rw [e, gp2] at gp3; omega
  have bp2 : w.heap.size ≤ p2 := Nat.le_trans HB.size lp2
  have bp3 : w.heap.size ≤ p3 := Nat.le_trans HB.size lp3
  clear lp1 gp1 lp2 gp2 lp3 gp3
  replace HB := aft_call HB (RelC.below_nil hC)
  clear hC hk hh; replace hz := hz'; replace hd := hd'; clear hz' hd'
  refine wp_seq ?_
  refine region_drawn (M := []) (
      rT (tV (.pointer (some ⟨p1, 1, none⟩))) ::
      rT (tV (.int .i64 oi)) ::
      rT (tV (.int .i64 (ia : Int))) ::
      rT (tV (.slice (some ⟨gl, 0, none⟩) n cl)) ::
      rT (tV (.int .i64 (n : Int))) ::
      rT (tV (.int .i64 (i : Int))) ::
      rT (tV (.pointer (some ⟨p1, 2, none⟩))) ::
      rT (tV (.int .i64 oj)) ::
      rT (tV (.int .i64 (ja : Int))) ::
      rT (tV (.slice (some ⟨gl, 0, none⟩) n cl)) ::
      rT (tV (.int .i64 (n : Int))) ::
      rT (tV (.int .i64 (j : Int))) ::
      rT (tV (.int .i64 (i : Int))) ::
      rT (tV (.int .i64 (j : Int))) ::
      []) hz hd (by kernel_rfl) (by kernel_rfl) ?_ ?_
  · refine ⟨?_, ?_, ?_, ?_, ?_, ?_, ?_, ?_, ?_, ?_, ?_, ?_, ?_, ?_, trivial⟩
    · exact sFA rfl rfl rfl hz rfl (Gd.none_ rfl) rfl (Src.out (t := 5) (by kernel_rfl) S5 rfl) (fun w => by simp [go_sem])
    · exact sLoadF rfl rfl rfl hz rfl (Gd.none_ rfl) rfl (Src.dep (j := 0) (t := 25) (by kernel_rfl) (by kernel_rfl) rfl) Cp1 rfl rfl (fun w h => by simp [go_sem, h])
    · exact sBin rfl rfl rfl hz rfl (Gd.none_ rfl) rfl (Src.dep (j := 1) (t := 26) (by kernel_rfl) (by kernel_rfl) rfl) (Src.const (.int .i64 255)) (fun w => by simp [go_sem, ei])
    · exact sMv rfl rfl rfl hz rfl (Gd.none_ rfl) rfl (Src.out (t := 0) (by kernel_rfl) S0 rfl)
    · exact sLen rfl rfl rfl hz rfl (Gd.none_ rfl) rfl (Src.dep (j := 3) (t := 28) (by kernel_rfl) (by kernel_rfl) rfl) (fun v w h => ⟨_, _, h⟩) len64
    · exact sBin rfl rfl rfl hz rfl (Gd.none_ rfl) rfl (Src.dep (j := 2) (t := 27) (by kernel_rfl) (by kernel_rfl) rfl) (Src.dep (j := 4) (t := 29) (by kernel_rfl) (by kernel_rfl) rfl) (fun w => by simp [go_sem, hn0, ri])
    · exact sFA rfl rfl rfl hz rfl (Gd.none_ rfl) rfl (Src.out (t := 5) (by kernel_rfl) S5 rfl) (fun w => by simp [go_sem])
    · exact sLoadF rfl rfl rfl hz rfl (Gd.none_ rfl) rfl (Src.dep (j := 6) (t := 31) (by kernel_rfl) (by kernel_rfl) rfl) Cp1 rfl rfl (fun w h => by simp [go_sem, h])
    · exact sBin rfl rfl rfl hz rfl (Gd.none_ rfl) rfl (Src.dep (j := 7) (t := 32) (by kernel_rfl) (by kernel_rfl) rfl) (Src.const (.int .i64 255)) (fun w => by simp [go_sem, ej])
    · exact sMv rfl rfl rfl hz rfl (Gd.none_ rfl) rfl (Src.out (t := 0) (by kernel_rfl) S0 rfl)
    · exact sLen rfl rfl rfl hz rfl (Gd.none_ rfl) rfl (Src.dep (j := 9) (t := 34) (by kernel_rfl) (by kernel_rfl) rfl) (fun v w h => ⟨_, _, h⟩) len64
    · exact sBin rfl rfl rfl hz rfl (Gd.none_ rfl) rfl (Src.dep (j := 8) (t := 33) (by kernel_rfl) (by kernel_rfl) rfl) (Src.dep (j := 10) (t := 35) (by kernel_rfl) (by kernel_rfl) rfl) (fun w => by simp [go_sem, hn0, rj])
    · exact sAs rfl rfl rfl hz rfl (Gd.none_ rfl) rfl (Src.dep (j := 5) (t := 30) (by kernel_rfl) (by kernel_rfl) rfl)
    · exact sAs rfl rfl rfl hz rfl (Gd.none_ rfl) rfl (Src.dep (j := 11) (t := 36) (by kernel_rfl) (by kernel_rfl) rfl)
  intro a' γ' W' hz' hd' hC hk hh
  replace Cp1 := Cell.aft Cp1 hC rfl
  have tp2 := Cp2.lt
  replace Cp2 := Cell.aft Cp2 hC rfl
  have tp3 := Cp3.lt
  replace Cp3 := Cell.aft Cp3 hC rfl
  replace S0 := hk 0 _ (by kernel_rfl) S0
  replace S1 := hk 1 _ (by kernel_rfl) S1
  replace S5 := hk 5 _ (by kernel_rfl) S5
  replace S6 := hk 6 _ (by kernel_rfl) S6
  replace S7 := hk 7 _ (by kernel_rfl) S7
  replace HL := Rw.aft HL hC rfl
  replace HM := Rw.aft HM hC rfl
  have S8 := gotV hz' 12 hh rfl rfl rfl rfl
  have S9 := gotV hz' 13 hh rfl rfl rfl rfl
  clear tp2 tp3
  replace HB := aft_call HB (RelC.below_nil hC)
  clear hC hk hh; replace hz := hz'; replace hd := hd'; clear hz' hd'
  refine wp_seq ?_
  refine region_drawn (M := []) (
      rT (tV (.slice (some ⟨gl, 0, none⟩) n cl)) ::
      rT (tV (.int .i64 (i : Int))) ::
      rT (tV (.pointer (some ⟨gl, i, none⟩))) ::
      rT (tN B64 1000000 (xs.getD i 0)) ::
      rT (tV (.slice (some ⟨gl, 0, none⟩) n cl)) ::
      rT (tV (.int .i64 (j : Int))) ::
      rT (tV (.pointer (some ⟨gl, j, none⟩))) ::
      rT (tN B64 1000000 (xs.getD j 0)) ::
      rT (tV (.slice (some ⟨gm, 0, none⟩) n cm)) ::
      rT (tV (.int .i64 (i : Int))) ::
      rT (tV (.pointer (some ⟨gm, i, none⟩))) ::
      rT (tN B32 1000000 (xs.getD i 0)) ::
      rT (tV (.slice (some ⟨gm, 0, none⟩) n cm)) ::
      rT (tV (.int .i64 (j : Int))) ::
      rT (tV (.pointer (some ⟨gm, j, none⟩))) ::
      rT (tN B32 1000000 (xs.getD j 0)) ::
      rVar 16 25 1 ::
      rVar 17 25 1 ::
      rVar 18 44 1 ::
      rVar 19 44 1 ::
      rB 16 25 (tN B64 1000000 (xs.getD i 0)) (some 16) 17 ::
      rB 17 25 (tN B64 1000000 (xs.getD j 0)) (some 17) 18 ::
      rB 18 44 (tN B32 1000000 (xs.getD i 0)) (some 18) 19 ::
      rB 19 44 (tN B32 1000000 (xs.getD j 0)) (some 19) 20 ::
      []) hz hd (by kernel_rfl) (by kernel_rfl) ?_ ?_
  · refine ⟨?_, ?_, ?_, ?_, ?_, ?_, ?_, ?_, ?_, ?_, ?_, ?_, ?_, ?_, ?_, ?_, ?_, ?_, ?_, ?_, ?_, ?_, ?_, ?_, trivial⟩
    · exact sMv rfl rfl rfl hz rfl (Gd.none_ rfl) rfl (Src.out (t := 0) (by kernel_rfl) S0 rfl)
    · exact sMv rfl rfl rfl hz rfl (Gd.none_ rfl) rfl (Src.out (t := 8) (by kernel_rfl) S8 rfl)
    · exact sIdx rfl rfl rfl hz rfl (Gd.none_ rfl) rfl (Src.dep (j := 0) (t := 37) (by kernel_rfl) (by kernel_rfl) rfl) (Src.dep (j := 1) (t := 38) (by kernel_rfl) (by kernel_rfl) rfl) (ia64 hi2)
    · exact sLoadRow rfl rfl rfl hz rfl (Gd.none_ rfl) rfl (Src.dep (j := 2) (t := 39) (by kernel_rfl) (by kernel_rfl) rfl) HL rfl hi ldr64
    · exact sMv rfl rfl rfl hz rfl (Gd.none_ rfl) rfl (Src.out (t := 0) (by kernel_rfl) S0 rfl)
    · exact sMv rfl rfl rfl hz rfl (Gd.none_ rfl) rfl (Src.out (t := 9) (by kernel_rfl) S9 rfl)
    · exact sIdx rfl rfl rfl hz rfl (Gd.none_ rfl) rfl (Src.dep (j := 4) (t := 41) (by kernel_rfl) (by kernel_rfl) rfl) (Src.dep (j := 5) (t := 42) (by kernel_rfl) (by kernel_rfl) rfl) (ia64 hj2)
    · exact sLoadRow rfl rfl rfl hz rfl (Gd.none_ rfl) rfl (Src.dep (j := 6) (t := 43) (by kernel_rfl) (by kernel_rfl) rfl) HL rfl hj ldr64
    · exact sMv rfl rfl rfl hz rfl (Gd.none_ rfl) rfl (Src.out (t := 1) (by kernel_rfl) S1 rfl)
    · exact sMv rfl rfl rfl hz rfl (Gd.none_ rfl) rfl (Src.out (t := 8) (by kernel_rfl) S8 rfl)
    · exact sIdx rfl rfl rfl hz rfl (Gd.none_ rfl) rfl (Src.dep (j := 8) (t := 45) (by kernel_rfl) (by kernel_rfl) rfl) (Src.dep (j := 9) (t := 46) (by kernel_rfl) (by kernel_rfl) rfl) (ia32 hi2)
    · exact sLoadRow rfl rfl rfl hz rfl (Gd.none_ rfl) rfl (Src.dep (j := 10) (t := 47) (by kernel_rfl) (by kernel_rfl) rfl) HM rfl hi ldr32
    · exact sMv rfl rfl rfl hz rfl (Gd.none_ rfl) rfl (Src.out (t := 1) (by kernel_rfl) S1 rfl)
    · exact sMv rfl rfl rfl hz rfl (Gd.none_ rfl) rfl (Src.out (t := 9) (by kernel_rfl) S9 rfl)
    · exact sIdx rfl rfl rfl hz rfl (Gd.none_ rfl) rfl (Src.dep (j := 12) (t := 49) (by kernel_rfl) (by kernel_rfl) rfl) (Src.dep (j := 13) (t := 50) (by kernel_rfl) (by kernel_rfl) rfl) (ia32 hj2)
    · exact sLoadRow rfl rfl rfl hz rfl (Gd.none_ rfl) rfl (Src.dep (j := 14) (t := 51) (by kernel_rfl) (by kernel_rfl) rfl) HM rfl hj ldr32
    · exact sAlloc rfl rfl rfl hz rfl rfl rfl rfl nd_slice al_n64
    · exact sAlloc rfl rfl rfl hz rfl rfl rfl rfl nd_slice al_n64
    · exact sAlloc rfl rfl rfl hz rfl rfl rfl rfl nd_slice al_n32
    · exact sAlloc rfl rfl rfl hz rfl rfl rfl rfl nd_slice al_n32
    · exact sStore rfl rfl rfl rfl rfl (by kernel_rfl) (by kernel_rfl) rfl (Src.dep (j := 3) (t := 40) (by kernel_rfl) (by kernel_rfl) rfl) st_n64
    · exact sStore rfl rfl rfl rfl rfl (by kernel_rfl) (by kernel_rfl) rfl (Src.dep (j := 7) (t := 44) (by kernel_rfl) (by kernel_rfl) rfl) st_n64
    · exact sStore rfl rfl rfl rfl rfl (by kernel_rfl) (by kernel_rfl) rfl (Src.dep (j := 11) (t := 48) (by kernel_rfl) (by kernel_rfl) rfl) st_n32
    · exact sStore rfl rfl rfl rfl rfl (by kernel_rfl) (by kernel_rfl) rfl (Src.dep (j := 15) (t := 52) (by kernel_rfl) (by kernel_rfl) rfl) st_n32
  intro a' γ' W' hz' hd' hC hk hh
  replace Cp1 := Cell.aft Cp1 hC rfl
  have tp2 := Cp2.lt
  replace Cp2 := Cell.aft Cp2 hC rfl
  have tp3 := Cp3.lt
  replace Cp3 := Cell.aft Cp3 hC rfl
  clear S0
  clear S1
  replace S5 := hk 5 _ (by kernel_rfl) S5
  replace S6 := hk 6 _ (by kernel_rfl) S6
  replace S7 := hk 7 _ (by kernel_rfl) S7
  clear S8
  clear S9
  clear HL
  clear HM
  obtain ⟨p4, S10, Cp4, lp4, gp4⟩ := gotB hz' 20 hC hh rfl rfl rfl rfl rfl rfl
  obtain ⟨p5, S11, Cp5, lp5, gp5⟩ := gotB hz' 21 hC hh rfl rfl rfl rfl rfl rfl
  obtain ⟨p6, S12, Cp6, lp6, gp6⟩ := gotB hz' 22 hC hh rfl rfl rfl rfl rfl rfl
  obtain ⟨p7, S13, Cp7, lp7, gp7⟩ := gotB hz' 23 hC hh rfl rfl rfl rfl rfl rfl
  have n_p4_p2 : p4 ≠ p2 := by omega
  have n_p4_p3 : p4 ≠ p3 := by omega
  have n_p5_p2 : p5 ≠ p2 := by omega
  have n_p5_p3 : p5 ≠ p3 := by omega
  have n_p6_p2 : p6 ≠ p2 := by omega
  have n_p6_p3 : p6 ≠ p3 := by omega
  have n_p7_p2 : p7 ≠ p2 := by omega
  have n_p7_p3 : p7 ≠ p3 := by omega
  clear lp4 gp4 lp5 gp5 lp6 gp6 lp7 gp7
  clear tp2 tp3
  replace HB := aft_call HB (RelC.below_nil hC)
  clear hC hk hh; replace hz := hz'; replace hd := hd'; clear hz' hd'
  refine wp_seq ?_
  refine wp_seq ?_
  refine region_text (M := []) (
      rT (tV (.pointer (some ⟨p1, 0, none⟩))) ::
      rT (tV (.int .i64 ok)) ::
      rT (tV (.int .i64 3)) ::
      []) hz hd (by kernel_rfl) ?_ ?_
  · refine ⟨?_, ?_, ?_, trivial⟩
    · exact sFA rfl rfl rfl hz rfl (Gd.none_ rfl) rfl (Src.out (t := 5) (by kernel_rfl) S5 rfl) (fun w => by simp [go_sem])
    · exact sLoadF rfl rfl rfl hz rfl (Gd.none_ rfl) rfl (Src.dep (j := 0) (t := 53) (by kernel_rfl) (by kernel_rfl) rfl) Cp1 rfl rfl (fun w h => by simp [go_sem, h])
    · exact sBin rfl rfl rfl hz rfl (Gd.none_ rfl) rfl (Src.dep (j := 1) (t := 54) (by kernel_rfl) (by kernel_rfl) rfl) (Src.const (.int .i64 7)) (fun w => by simp [go_sem, ek])
  intro a' γ' W' hz' hd' hC hk hh
  replace Cp1 := Cell.aft Cp1 hC rfl
  have tp2 := Cp2.lt
  replace Cp2 := Cell.aft Cp2 hC rfl
  have tp3 := Cp3.lt
  replace Cp3 := Cell.aft Cp3 hC rfl
  replace Cp4 := Cell.aft Cp4 hC rfl
  replace Cp5 := Cell.aft Cp5 hC rfl
  replace Cp6 := Cell.aft Cp6 hC rfl
  replace Cp7 := Cell.aft Cp7 hC rfl
  replace S5 := hk 5 _ (by kernel_rfl) S5
  replace S6 := hk 6 _ (by kernel_rfl) S6
  replace S7 := hk 7 _ (by kernel_rfl) S7
  replace S10 := hk 10 _ (by kernel_rfl) S10
  replace S11 := hk 11 _ (by kernel_rfl) S11
  replace S12 := hk 12 _ (by kernel_rfl) S12
  replace S13 := hk 13 _ (by kernel_rfl) S13
  have S55 := gotV hz' 2 hh rfl rfl rfl rfl
  clear tp2 tp3
  replace HB := aft_call HB (RelC.below_nil hC)
  clear hC hk hh; replace hz := hz'; replace hd := hd'; clear hz' hd'
  refine wp_block ?_
  refine wp_seq ?_
  refine region_text (M := []) (
      rT (tV (.bool false)) ::
      rT (tV (.bool false)) ::
      []) hz hd (by kernel_rfl) ?_ ?_
  · refine ⟨?_, ?_, trivial⟩
    · exact sBin rfl rfl rfl hz rfl (Gd.none_ rfl) rfl (Src.out (t := 55) (by kernel_rfl) S55 rfl) (Src.const (.int .i64 0)) (fun w => by simp [go_sem])
    · exact sAs rfl rfl rfl hz rfl (Gd.none_ rfl) rfl (Src.dep (j := 0) (t := 57) (by kernel_rfl) (by kernel_rfl) rfl)
  intro a' γ' W' hz' hd' hC hk hh
  replace Cp1 := Cell.aft Cp1 hC rfl
  have tp2 := Cp2.lt
  replace Cp2 := Cell.aft Cp2 hC rfl
  have tp3 := Cp3.lt
  replace Cp3 := Cell.aft Cp3 hC rfl
  replace Cp4 := Cell.aft Cp4 hC rfl
  replace Cp5 := Cell.aft Cp5 hC rfl
  replace Cp6 := Cell.aft Cp6 hC rfl
  replace Cp7 := Cell.aft Cp7 hC rfl
  replace S5 := hk 5 _ (by kernel_rfl) S5
  replace S6 := hk 6 _ (by kernel_rfl) S6
  replace S7 := hk 7 _ (by kernel_rfl) S7
  replace S10 := hk 10 _ (by kernel_rfl) S10
  replace S11 := hk 11 _ (by kernel_rfl) S11
  replace S12 := hk 12 _ (by kernel_rfl) S12
  replace S13 := hk 13 _ (by kernel_rfl) S13
  replace S55 := hk 55 _ (by kernel_rfl) S55
  have S56 := gotV hz' 1 hh rfl rfl rfl rfl
  clear tp2 tp3
  replace HB := aft_call HB (RelC.below_nil hC)
  clear hC hk hh; replace hz := hz'; replace hd := hd'; clear hz' hd'
  refine wp_cond_false S56.ev ?_
  refine wp_seq ?_
  refine region_text (M := []) (
      rT (tV (.bool false)) ::
      rT (tV (.bool false)) ::
      []) hz hd (by kernel_rfl) ?_ ?_
  · refine ⟨?_, ?_, trivial⟩
    · exact sBin rfl rfl rfl hz rfl (Gd.none_ rfl) rfl (Src.out (t := 55) (by kernel_rfl) S55 rfl) (Src.const (.int .i64 1)) (fun w => by simp [go_sem])
    · exact sAs rfl rfl rfl hz rfl (Gd.none_ rfl) rfl (Src.dep (j := 0) (t := 65) (by kernel_rfl) (by kernel_rfl) rfl)
  intro a' γ' W' hz' hd' hC hk hh
  replace Cp1 := Cell.aft Cp1 hC rfl
  have tp2 := Cp2.lt
  replace Cp2 := Cell.aft Cp2 hC rfl
  have tp3 := Cp3.lt
  replace Cp3 := Cell.aft Cp3 hC rfl
  replace Cp4 := Cell.aft Cp4 hC rfl
  replace Cp5 := Cell.aft Cp5 hC rfl
  replace Cp6 := Cell.aft Cp6 hC rfl
  replace Cp7 := Cell.aft Cp7 hC rfl
  replace S5 := hk 5 _ (by kernel_rfl) S5
  replace S6 := hk 6 _ (by kernel_rfl) S6
  replace S7 := hk 7 _ (by kernel_rfl) S7
  replace S10 := hk 10 _ (by kernel_rfl) S10
  replace S11 := hk 11 _ (by kernel_rfl) S11
  replace S12 := hk 12 _ (by kernel_rfl) S12
  replace S13 := hk 13 _ (by kernel_rfl) S13
  replace S55 := hk 55 _ (by kernel_rfl) S55
  clear S56
  have S64 := gotV hz' 1 hh rfl rfl rfl rfl
  clear tp2 tp3
  replace HB := aft_call HB (RelC.below_nil hC)
  clear hC hk hh; replace hz := hz'; replace hd := hd'; clear hz' hd'
  refine wp_cond_false S64.ev ?_
  refine wp_seq ?_
  refine region_text (M := []) (
      rT (tV (.bool false)) ::
      rT (tV (.bool false)) ::
      []) hz hd (by kernel_rfl) ?_ ?_
  · refine ⟨?_, ?_, trivial⟩
    · exact sBin rfl rfl rfl hz rfl (Gd.none_ rfl) rfl (Src.out (t := 55) (by kernel_rfl) S55 rfl) (Src.const (.int .i64 2)) (fun w => by simp [go_sem])
    · exact sAs rfl rfl rfl hz rfl (Gd.none_ rfl) rfl (Src.dep (j := 0) (t := 83) (by kernel_rfl) (by kernel_rfl) rfl)
  intro a' γ' W' hz' hd' hC hk hh
  replace Cp1 := Cell.aft Cp1 hC rfl
  have tp2 := Cp2.lt
  replace Cp2 := Cell.aft Cp2 hC rfl
  have tp3 := Cp3.lt
  replace Cp3 := Cell.aft Cp3 hC rfl
  replace Cp4 := Cell.aft Cp4 hC rfl
  replace Cp5 := Cell.aft Cp5 hC rfl
  replace Cp6 := Cell.aft Cp6 hC rfl
  replace Cp7 := Cell.aft Cp7 hC rfl
  replace S5 := hk 5 _ (by kernel_rfl) S5
  replace S6 := hk 6 _ (by kernel_rfl) S6
  replace S7 := hk 7 _ (by kernel_rfl) S7
  replace S10 := hk 10 _ (by kernel_rfl) S10
  replace S11 := hk 11 _ (by kernel_rfl) S11
  replace S12 := hk 12 _ (by kernel_rfl) S12
  replace S13 := hk 13 _ (by kernel_rfl) S13
  replace S55 := hk 55 _ (by kernel_rfl) S55
  clear S64
  have S82 := gotV hz' 1 hh rfl rfl rfl rfl
  clear tp2 tp3
  replace HB := aft_call HB (RelC.below_nil hC)
  clear hC hk hh; replace hz := hz'; replace hd := hd'; clear hz' hd'
  refine wp_cond_false S82.ev ?_
  refine wp_seq ?_
  refine wp_seq ?_
  refine region_text (M := []) (
      rT (tV (.bool true)) ::
      rT (tV (.bool true)) ::
      []) hz hd (by kernel_rfl) ?_ ?_
  · refine ⟨?_, ?_, trivial⟩
    · exact sBin rfl rfl rfl hz rfl (Gd.none_ rfl) rfl (Src.out (t := 55) (by kernel_rfl) S55 rfl) (Src.const (.int .i64 3)) (fun w => by simp [go_sem])
    · exact sAs rfl rfl rfl hz rfl (Gd.none_ rfl) rfl (Src.dep (j := 0) (t := 91) (by kernel_rfl) (by kernel_rfl) rfl)
  intro a' γ' W' hz' hd' hC hk hh
  replace Cp1 := Cell.aft Cp1 hC rfl
  have tp2 := Cp2.lt
  replace Cp2 := Cell.aft Cp2 hC rfl
  have tp3 := Cp3.lt
  replace Cp3 := Cell.aft Cp3 hC rfl
  replace Cp4 := Cell.aft Cp4 hC rfl
  replace Cp5 := Cell.aft Cp5 hC rfl
  replace Cp6 := Cell.aft Cp6 hC rfl
  replace Cp7 := Cell.aft Cp7 hC rfl
  replace S5 := hk 5 _ (by kernel_rfl) S5
  replace S6 := hk 6 _ (by kernel_rfl) S6
  replace S7 := hk 7 _ (by kernel_rfl) S7
  replace S10 := hk 10 _ (by kernel_rfl) S10
  replace S11 := hk 11 _ (by kernel_rfl) S11
  replace S12 := hk 12 _ (by kernel_rfl) S12
  replace S13 := hk 13 _ (by kernel_rfl) S13
  replace S55 := hk 55 _ (by kernel_rfl) S55
  clear S82
  have S90 := gotV hz' 1 hh rfl rfl rfl rfl
  clear tp2 tp3
  replace HB := aft_call HB (RelC.below_nil hC)
  clear hC hk hh; replace hz := hz'; replace hd := hd'; clear hz' hd'
  refine wp_cond_true S90.ev ?_
  refine wp_skip ?_
  refine wp_cond_true S90.ev ?_
  refine wp_seq ?_
  refine region_text (M := []) (
      rT (tN B64 1000000 (xs.getD i 0)) ::
      rT (tN B64 1000000 (xs.getD j 0)) ::
      rT (tT [tN B64 1000000 ((xs.getD i 0) / (xs.getD j 0)), tN B64 1000000 ((xs.getD i 0) % (xs.getD j 0)), tV (.bool (nz (xs.getD j 0)))]) ::
      rT (tT [tN B64 1000000 ((xs.getD i 0) / (xs.getD j 0)), tN B64 1000000 ((xs.getD i 0) % (xs.getD j 0)), tV (.bool (nz (xs.getD j 0)))]) ::
      rT (tN B64 1000000 ((xs.getD i 0) / (xs.getD j 0))) ::
      rT (tN B64 1000000 ((xs.getD i 0) % (xs.getD j 0))) ::
      rT (tV (.bool (nz (xs.getD j 0)))) ::
      rVar 7 25 1 ::
      rVar 8 25 1 ::
      rB 7 25 (tN B64 1000000 ((xs.getD i 0) / (xs.getD j 0))) (some 7) 8 ::
      rB 8 25 (tN B64 1000000 ((xs.getD i 0) % (xs.getD j 0))) (some 8) 9 ::
      rT (tV (.bool (nz (xs.getD j 0)))) ::
      []) hz hd (by kernel_rfl) ?_ ?_
  · refine ⟨?_, ?_, ?_, ?_, ?_, ?_, ?_, ?_, ?_, ?_, ?_, ?_, trivial⟩
    · exact sLoad rfl rfl rfl hz rfl (Gd.none_ rfl) rfl (Src.out (t := 10) (by kernel_rfl) S10 rfl) Cp4 rfl ld_n64
    · exact sLoad rfl rfl rfl hz rfl (Gd.none_ rfl) rfl (Src.out (t := 11) (by kernel_rfl) S11 rfl) Cp5 rfl ld_n64
    · exact sCall rfl rfl rfl hz rfl (Gd.none_ rfl) rfl Try.func15 (by kernel_rfl) (by kernel_rfl) fun a γ w U => (by show Calls _ _ #[a.eval (.tmp 94), a.eval (.tmp 95)] _ _; have hq : Calls _ _ #[a.eval (.tmp 94), a.eval (.tmp 95)] w (Ret _ w) := c_divmod (Src.at_ (Src.dep (j := 0) (t := 94) (by kernel_rfl) (by kernel_rfl) rfl) U) (Src.at_ (Src.dep (j := 1) (t := 95) (by kernel_rfl) (by kernel_rfl) rfl) U) (by decide) (by decide); simp only [e5] at hq; exact hq)
    · exact sMv rfl rfl rfl hz rfl (Gd.none_ rfl) rfl (Src.dep (j := 2) (t := 96) (by kernel_rfl) (by kernel_rfl) rfl)
    · exact sExt rfl rfl rfl hz rfl (Gd.none_ rfl) rfl (Src.dep (j := 3) (t := 93) (by kernel_rfl) (by kernel_rfl) rfl) rfl
    · exact sExt rfl rfl rfl hz rfl (Gd.none_ rfl) rfl (Src.dep (j := 3) (t := 93) (by kernel_rfl) (by kernel_rfl) rfl) rfl
    · exact sExt rfl rfl rfl hz rfl (Gd.none_ rfl) rfl (Src.dep (j := 3) (t := 93) (by kernel_rfl) (by kernel_rfl) rfl) rfl
    · exact sAlloc rfl rfl rfl hz rfl rfl rfl rfl nd_slice al_n64
    · exact sAlloc rfl rfl rfl hz rfl rfl rfl rfl nd_slice al_n64
    · exact sStore rfl rfl rfl rfl rfl (by kernel_rfl) (by kernel_rfl) rfl (Src.dep (j := 4) (t := 97) (by kernel_rfl) (by kernel_rfl) rfl) st_n64
    · exact sStore rfl rfl rfl rfl rfl (by kernel_rfl) (by kernel_rfl) rfl (Src.dep (j := 5) (t := 98) (by kernel_rfl) (by kernel_rfl) rfl) st_n64
    · exact sAs rfl rfl rfl hz rfl (Gd.none_ rfl) rfl (Src.dep (j := 6) (t := 99) (by kernel_rfl) (by kernel_rfl) rfl)
  intro a' γ' W' hz' hd' hC hk hh
  replace Cp1 := Cell.aft Cp1 hC rfl
  have tp2 := Cp2.lt
  replace Cp2 := Cell.aft Cp2 hC rfl
  have tp3 := Cp3.lt
  replace Cp3 := Cell.aft Cp3 hC rfl
  replace Cp4 := Cell.aft Cp4 hC rfl
  clear Cp5
  replace Cp6 := Cell.aft Cp6 hC rfl
  replace Cp7 := Cell.aft Cp7 hC rfl
  replace S5 := hk 5 _ (by kernel_rfl) S5
  replace S6 := hk 6 _ (by kernel_rfl) S6
  replace S7 := hk 7 _ (by kernel_rfl) S7
  replace S10 := hk 10 _ (by kernel_rfl) S10
  clear S11
  replace S12 := hk 12 _ (by kernel_rfl) S12
  replace S13 := hk 13 _ (by kernel_rfl) S13
  clear S55
  clear S90
  obtain ⟨p8, S16, Cp8, lp8, gp8⟩ := gotB hz' 9 hC hh rfl rfl rfl rfl rfl rfl
  obtain ⟨p9, S17, Cp9, lp9, gp9⟩ := gotB hz' 10 hC hh rfl rfl rfl rfl rfl rfl
  have n_p8_p2 : p8 ≠ p2 := by omega
  have n_p8_p3 : p8 ≠ p3 := by omega
  have n_p9_p2 : p9 ≠ p2 := by omega
  have n_p9_p3 : p9 ≠ p3 := by omega
  clear lp8 gp8 lp9 gp9
  clear tp2 tp3
  replace HB := aft_call HB (RelC.below_nil hC)
  clear hC hk hh; replace hz := hz'; replace hd := hd'; clear hz' hd'
  refine wp_seq ?_
  refine wp_seq ?_
  refine region_text (M := []) (
      rT (tN B32 1000000 (xs.getD j 0)) ::
      rT (tV (.bool false)) ::
      []) hz hd (by kernel_rfl) ?_ ?_
  · refine ⟨?_, ?_, trivial⟩
    · exact sLoad rfl rfl rfl hz rfl (Gd.none_ rfl) rfl (Src.out (t := 13) (by kernel_rfl) S13 rfl) Cp7 rfl ld_n32
    · exact sCall rfl rfl rfl hz rfl (Gd.none_ rfl) rfl Try.func68 (by kernel_rfl) (by kernel_rfl) fun a γ w U => (by show Calls _ _ #[a.eval (.tmp 100)] _ _; have hq : Calls _ _ #[a.eval (.tmp 100)] w (Ret _ w) := d_zero (Src.at_ (Src.dep (j := 0) (t := 100) (by kernel_rfl) (by kernel_rfl) rfl) U); simp only [e6] at hq; exact hq)
  intro a' γ' W' hz' hd' hC hk hh
  replace Cp1 := Cell.aft Cp1 hC rfl
  have tp2 := Cp2.lt
  replace Cp2 := Cell.aft Cp2 hC rfl
  have tp3 := Cp3.lt
  replace Cp3 := Cell.aft Cp3 hC rfl
  replace Cp4 := Cell.aft Cp4 hC rfl
  replace Cp6 := Cell.aft Cp6 hC rfl
  replace Cp7 := Cell.aft Cp7 hC rfl
  replace Cp8 := Cell.aft Cp8 hC rfl
  replace Cp9 := Cell.aft Cp9 hC rfl
  replace S5 := hk 5 _ (by kernel_rfl) S5
  replace S6 := hk 6 _ (by kernel_rfl) S6
  replace S7 := hk 7 _ (by kernel_rfl) S7
  replace S10 := hk 10 _ (by kernel_rfl) S10
  replace S12 := hk 12 _ (by kernel_rfl) S12
  replace S13 := hk 13 _ (by kernel_rfl) S13
  replace S16 := hk 16 _ (by kernel_rfl) S16
  replace S17 := hk 17 _ (by kernel_rfl) S17
  have S101 := gotV hz' 1 hh rfl rfl rfl rfl
  clear tp2 tp3
  replace HB := aft_call HB (RelC.below_nil hC)
  clear hC hk hh; replace hz := hz'; replace hd := hd'; clear hz' hd'
  refine wp_cond_false S101.ev ?_
  refine wp_skip ?_
  refine wp_seq ?_
  refine region_text (M := []) (
      rT (tN B32 1000000 (xs.getD i 0)) ::
      rT (tN B32 1000000 (xs.getD j 0)) ::
      rT (tT [tN B32 1000000 ((xs.getD i 0) / (xs.getD j 0)), tN B32 1000000 ((xs.getD i 0) % (xs.getD j 0))]) ::
      rT (tT [tN B32 1000000 ((xs.getD i 0) / (xs.getD j 0)), tN B32 1000000 ((xs.getD i 0) % (xs.getD j 0))]) ::
      rT (tN B32 1000000 ((xs.getD i 0) / (xs.getD j 0))) ::
      rT (tN B32 1000000 ((xs.getD i 0) % (xs.getD j 0))) ::
      rVar 6 44 1 ::
      rVar 7 44 1 ::
      rB 6 44 (tN B32 1000000 ((xs.getD i 0) / (xs.getD j 0))) (some 6) 7 ::
      rB 7 44 (tN B32 1000000 ((xs.getD i 0) % (xs.getD j 0))) (some 7) 8 ::
      []) hz hd (by kernel_rfl) ?_ ?_
  · refine ⟨?_, ?_, ?_, ?_, ?_, ?_, ?_, ?_, ?_, ?_, trivial⟩
    · exact sLoad rfl rfl rfl hz rfl (Gd.none_ rfl) rfl (Src.out (t := 12) (by kernel_rfl) S12 rfl) Cp6 rfl ld_n32
    · exact sLoad rfl rfl rfl hz rfl (Gd.none_ rfl) rfl (Src.out (t := 13) (by kernel_rfl) S13 rfl) Cp7 rfl ld_n32
    · exact sCall rfl rfl rfl hz rfl (Gd.none_ rfl) rfl Try.func69 (by kernel_rfl) (by kernel_rfl) fun a γ w U => (by show Calls _ _ #[a.eval (.tmp 105), a.eval (.tmp 106)] _ _; exact d_divmod (Src.at_ (Src.dep (j := 0) (t := 105) (by kernel_rfl) (by kernel_rfl) rfl) U) (Src.at_ (Src.dep (j := 1) (t := 106) (by kernel_rfl) (by kernel_rfl) rfl) U) (by decide) (by decide) e7)
    · exact sMv rfl rfl rfl hz rfl (Gd.none_ rfl) rfl (Src.dep (j := 2) (t := 107) (by kernel_rfl) (by kernel_rfl) rfl)
    · exact sExt rfl rfl rfl hz rfl (Gd.none_ rfl) rfl (Src.dep (j := 3) (t := 104) (by kernel_rfl) (by kernel_rfl) rfl) rfl
    · exact sExt rfl rfl rfl hz rfl (Gd.none_ rfl) rfl (Src.dep (j := 3) (t := 104) (by kernel_rfl) (by kernel_rfl) rfl) rfl
    · exact sAlloc rfl rfl rfl hz rfl rfl rfl rfl nd_slice al_n32
    · exact sAlloc rfl rfl rfl hz rfl rfl rfl rfl nd_slice al_n32
    · exact sStore rfl rfl rfl rfl rfl (by kernel_rfl) (by kernel_rfl) rfl (Src.dep (j := 4) (t := 108) (by kernel_rfl) (by kernel_rfl) rfl) st_n32
    · exact sStore rfl rfl rfl rfl rfl (by kernel_rfl) (by kernel_rfl) rfl (Src.dep (j := 5) (t := 109) (by kernel_rfl) (by kernel_rfl) rfl) st_n32
  intro a' γ' W' hz' hd' hC hk hh
  replace Cp1 := Cell.aft Cp1 hC rfl
  have tp2 := Cp2.lt
  replace Cp2 := Cell.aft Cp2 hC rfl
  have tp3 := Cp3.lt
  replace Cp3 := Cell.aft Cp3 hC rfl
  replace Cp4 := Cell.aft Cp4 hC rfl
  replace Cp6 := Cell.aft Cp6 hC rfl
  clear Cp7
  replace Cp8 := Cell.aft Cp8 hC rfl
  replace Cp9 := Cell.aft Cp9 hC rfl
  replace S5 := hk 5 _ (by kernel_rfl) S5
  replace S6 := hk 6 _ (by kernel_rfl) S6
  replace S7 := hk 7 _ (by kernel_rfl) S7
  replace S10 := hk 10 _ (by kernel_rfl) S10
  replace S12 := hk 12 _ (by kernel_rfl) S12
  clear S13
  replace S16 := hk 16 _ (by kernel_rfl) S16
  replace S17 := hk 17 _ (by kernel_rfl) S17
  clear S101
  obtain ⟨p10, S19, Cp10, lp10, gp10⟩ := gotB hz' 8 hC hh rfl rfl rfl rfl rfl rfl
  obtain ⟨p11, S20, Cp11, lp11, gp11⟩ := gotB hz' 9 hC hh rfl rfl rfl rfl rfl rfl
  have n_p10_p2 : p10 ≠ p2 := by omega
  have n_p10_p3 : p10 ≠ p3 := by omega
  have n_p11_p2 : p11 ≠ p2 := by omega
  have n_p11_p3 : p11 ≠ p3 := by omega
  clear lp10 gp10 lp11 gp11
  clear tp2 tp3
  replace HB := aft_call HB (RelC.below_nil hC)
  clear hC hk hh; replace hz := hz'; replace hd := hd'; clear hz' hd'
  refine wp_seq ?_
  refine wp_seq ?_
  refine region_text (M := []) (
      rT (tV (.pointer (some ⟨p1, 0, none⟩))) ::
      rT (tV (.int .i64 ok)) ::
      rT (tV (.int .i64 3)) ::
      rT (tV (.bool true)) ::
      []) hz hd (by kernel_rfl) ?_ ?_
  · refine ⟨?_, ?_, ?_, ?_, trivial⟩
    · exact sFA rfl rfl rfl hz rfl (Gd.none_ rfl) rfl (Src.out (t := 5) (by kernel_rfl) S5 rfl) (fun w => by simp [go_sem])
    · exact sLoadF rfl rfl rfl hz rfl (Gd.none_ rfl) rfl (Src.dep (j := 0) (t := 110) (by kernel_rfl) (by kernel_rfl) rfl) Cp1 rfl rfl (fun w h => by simp [go_sem, h])
    · exact sBin rfl rfl rfl hz rfl (Gd.none_ rfl) rfl (Src.dep (j := 1) (t := 111) (by kernel_rfl) (by kernel_rfl) rfl) (Src.const (.int .i64 7)) (fun w => by simp [go_sem, ek])
    · exact sBin rfl rfl rfl hz rfl (Gd.none_ rfl) rfl (Src.dep (j := 2) (t := 112) (by kernel_rfl) (by kernel_rfl) rfl) (Src.const (.int .i64 3)) (fun w => by simp [go_sem])
  intro a' γ' W' hz' hd' hC hk hh
  replace Cp1 := Cell.aft Cp1 hC rfl
  have tp2 := Cp2.lt
  replace Cp2 := Cell.aft Cp2 hC rfl
  have tp3 := Cp3.lt
  replace Cp3 := Cell.aft Cp3 hC rfl
  replace Cp4 := Cell.aft Cp4 hC rfl
  replace Cp6 := Cell.aft Cp6 hC rfl
  replace Cp8 := Cell.aft Cp8 hC rfl
  replace Cp9 := Cell.aft Cp9 hC rfl
  replace Cp10 := Cell.aft Cp10 hC rfl
  replace Cp11 := Cell.aft Cp11 hC rfl
  replace S5 := hk 5 _ (by kernel_rfl) S5
  replace S6 := hk 6 _ (by kernel_rfl) S6
  replace S7 := hk 7 _ (by kernel_rfl) S7
  replace S10 := hk 10 _ (by kernel_rfl) S10
  replace S12 := hk 12 _ (by kernel_rfl) S12
  replace S16 := hk 16 _ (by kernel_rfl) S16
  replace S17 := hk 17 _ (by kernel_rfl) S17
  replace S19 := hk 19 _ (by kernel_rfl) S19
  replace S20 := hk 20 _ (by kernel_rfl) S20
  have S113 := gotV hz' 3 hh rfl rfl rfl rfl
  clear tp2 tp3
  replace HB := aft_call HB (RelC.below_nil hC)
  clear hC hk hh; replace hz := hz'; replace hd := hd'; clear hz' hd'
  refine wp_cond_true S113.ev ?_
  refine wp_seq ?_
  refine region_drawn (M := [p2, p3]) (
      rT (tN B64 1000000 ((xs.getD i 0) / (xs.getD j 0))) ::
      rT (tN B32 1000000 ((xs.getD i 0) / (xs.getD j 0))) ::
      rE 0 25 (tN B64 1000000 ((xs.getD i 0) / (xs.getD j 0))) p2 ::
      rE 1 44 (tN B32 1000000 ((xs.getD i 0) / (xs.getD j 0))) p3 ::
      []) hz hd (by kernel_rfl) (by kernel_rfl) ?_ ?_
  · refine ⟨?_, ?_, ?_, ?_, trivial⟩
    · exact sLoad rfl rfl rfl hz rfl (Gd.none_ rfl) rfl (Src.out (t := 16) (by kernel_rfl) S16 rfl) Cp8 (by simp [tagOf, n_p8_p2, n_p8_p3]) ld_n64
    · exact sLoad rfl rfl rfl hz rfl (Gd.none_ rfl) rfl (Src.out (t := 19) (by kernel_rfl) S19 rfl) Cp10 (by simp [tagOf, n_p10_p2, n_p10_p3]) ld_n32
    · exact sStoreE rfl rfl rfl rfl rfl (Src.out (t := 6) (by kernel_rfl) S6 rfl) (by simp [tagOf]) (Cp2.var tN_nd) (Src.dep (j := 0) (t := 114) (by kernel_rfl) (by kernel_rfl) rfl) st_n64
    · exact sStoreE rfl rfl rfl rfl rfl (Src.out (t := 7) (by kernel_rfl) S7 rfl) (by simp [tagOf, n_p3_p2]) (Cp3.var tN_nd) (Src.dep (j := 1) (t := 115) (by kernel_rfl) (by kernel_rfl) rfl) st_n32
  intro a' γ' W' hz' hd' hC hk hh
  replace Cp1 := Cell.aft Cp1 hC (by simp [tagOf, n_p1_p2, n_p1_p3])
  replace Cp2 := gotE (T := tN B64 1000000 ((xs.getD i 0) / (xs.getD j 0))) (id := 25) (p := p2) 2 hh rfl rfl
  replace Cp3 := gotE (T := tN B32 1000000 ((xs.getD i 0) / (xs.getD j 0))) (id := 44) (p := p3) 3 hh rfl rfl
  replace Cp4 := Cell.aft Cp4 hC (by simp [tagOf, n_p4_p2, n_p4_p3])
  replace Cp6 := Cell.aft Cp6 hC (by simp [tagOf, n_p6_p2, n_p6_p3])
  clear Cp8
  replace Cp9 := Cell.aft Cp9 hC (by simp [tagOf, n_p9_p2, n_p9_p3])
  clear Cp10
  replace Cp11 := Cell.aft Cp11 hC (by simp [tagOf, n_p11_p2, n_p11_p3])
  replace S5 := hk 5 _ (by kernel_rfl) S5
  replace S6 := hk 6 _ (by kernel_rfl) S6
  replace S7 := hk 7 _ (by kernel_rfl) S7
  replace S10 := hk 10 _ (by kernel_rfl) S10
  replace S12 := hk 12 _ (by kernel_rfl) S12
  clear S16
  replace S17 := hk 17 _ (by kernel_rfl) S17
  clear S19
  replace S20 := hk 20 _ (by kernel_rfl) S20
  clear S113
  replace HB := RelC.aftM HB hC (by intro m hm; simp at hm; rcases hm with rfl | rfl <;> assumption)
  clear hC hk hh; replace hz := hz'; replace hd := hd'; clear hz' hd'
  refine wp_ret ?_
  exact ret2n (by kernel_rfl) S6 S7 hd Cp2 Cp3 HB

set_option maxRecDepth 10000 in
set_option maxHeartbeats 2000000 in
theorem after4z {gl gm n cl cm ia ja i j sn : Nat} {ok oi oj os : Int} {xs : List Nat} {w : World} (HL : Rw B64 25 1000000 gl xs w) (HM : Rw B32 44 1000000 gm xs w) (hn0 : ¬ n = 0) (hi : i < xs.length) (hj : j < xs.length) (hi2 : i < n) (hj2 : j < n)
    (ei : bits .and .i64 oi 255 = (ia : Int)) (ej : bits .and .i64 oj 255 = (ja : Int)) (es : bits .and .i64 os 127 = (sn : Int)) (ri : (ia : Int).tmod (n : Int) = (i : Int)) (rj : (ja : Int).tmod (n : Int) = (j : Int)) (ek : bits .and .i64 ok 7 = 4) (e5 : modOf (xs.getD i 0) (xs.getD j 0) = 0) (e6 : decide (xs.getD j 0 = 0) = true) (e7 : (xs.getD i 0) / (xs.getD j 0) = 0) :
    Calls Try.prog 44 #[.slice (some ⟨gl, 0, none⟩) n cl, .slice (some ⟨gm, 0, none⟩) n cm, .agg #[.int .i64 ok, .int .i64 oi, .int .i64 oj, .int .i64 os]] w (Ret (tT [tN B64 1000000 0, tN B32 0 0]) w) := by
  refine enter Try.func44 rfl Try.ntmps44 (by simp) ?_
  intro a hz hd ha
  have S0 := ha 0 _ rfl
  have S1 := ha 1 _ rfl
  have S2 := ha 2 _ rfl
  clear ha
  have HB : Below w.heap.size w w := Below.refl _ _
  refine wp_seq ?_
  refine region_text (M := []) (
      rB 0 74 (tV (.agg #[.int .i64 ok, .int .i64 oi, .int .i64 oj, .int .i64 os])) none 0 ::
      rB 1 25 (tN B64 0 0) none 0 ::
      rB 2 44 (tN B32 0 0) none 0 ::
      []) hz hd (by kernel_rfl) ?_ ?_
  · refine ⟨?_, ?_, ?_, trivial⟩
    · exact sBox rfl rfl rfl hz rfl rfl rfl (Src.out (t := 2) (by kernel_rfl) S2 rfl) box_op
    · exact sNew rfl rfl rfl hz rfl rfl rfl (fun _ => tN_nil) al_n64
    · exact sNew rfl rfl rfl hz rfl rfl rfl (fun _ => tN_nil) al_n32
  intro a' γ' W' hz' hd' hC hk hh
  replace S0 := hk 0 _ (by kernel_rfl) S0
  replace S1 := hk 1 _ (by kernel_rfl) S1
  clear S2
  replace HL := Rw.aft HL hC rfl
  replace HM := Rw.aft HM hC rfl
  obtain ⟨p1, S5, Cp1, lp1, gp1⟩ := gotB hz' 0 hC hh rfl rfl rfl rfl rfl rfl
  obtain ⟨p2, S6, Cp2, lp2, gp2⟩ := gotB hz' 1 hC hh rfl rfl rfl rfl rfl rfl
  obtain ⟨p3, S7, Cp3, lp3, gp3⟩ := gotB hz' 2 hC hh rfl rfl rfl rfl rfl rfl
  have n_p1_p2 : p1 ≠ p2 := by intro e; rw [e, gp2] at gp1; omega
  have n_p1_p3 : p1 ≠ p3 := by intro e; rw [e, gp3] at gp1; omega
  have n_p2_p3 : p2 ≠ p3 := by intro e; rw [e, gp3] at gp2; omega
  have n_p3_p2 : p3 ≠ p2 := by intro e; rw [e, gp2] at gp3; omega
  have bp2 : w.heap.size ≤ p2 := Nat.le_trans HB.size lp2
  have bp3 : w.heap.size ≤ p3 := Nat.le_trans HB.size lp3
  clear lp1 gp1 lp2 gp2 lp3 gp3
  replace HB := aft_call HB (RelC.below_nil hC)
  clear hC hk hh; replace hz := hz'; replace hd := hd'; clear hz' hd'
  refine wp_seq ?_
  refine region_drawn (M := []) (
      rT (tV (.pointer (some ⟨p1, 1, none⟩))) ::
      rT (tV (.int .i64 oi)) ::
      rT (tV (.int .i64 (ia : Int))) ::
      rT (tV (.slice (some ⟨gl, 0, none⟩) n cl)) ::
      rT (tV (.int .i64 (n : Int))) ::
      rT (tV (.int .i64 (i : Int))) ::
      rT (tV (.pointer (some ⟨p1, 2, none⟩))) ::
      rT (tV (.int .i64 oj)) ::
      rT (tV (.int .i64 (ja : Int))) ::
      rT (tV (.slice (some ⟨gl, 0, none⟩) n cl)) ::
      rT (tV (.int .i64 (n : Int))) ::
      rT (tV (.int .i64 (j : Int))) ::
      rT (tV (.int .i64 (i : Int))) ::
      rT (tV (.int .i64 (j : Int))) ::
      []) hz hd (by kernel_rfl) (by kernel_rfl) ?_ ?_
  · refine ⟨?_, ?_, ?_, ?_, ?_, ?_, ?_, ?_, ?_, ?_, ?_, ?_, ?_, ?_, trivial⟩
    · exact sFA rfl rfl rfl hz rfl (Gd.none_ rfl) rfl (Src.out (t := 5) (by kernel_rfl) S5 rfl) (fun w => by simp [go_sem])
    · exact sLoadF rfl rfl rfl hz rfl (Gd.none_ rfl) rfl (Src.dep (j := 0) (t := 25) (by kernel_rfl) (by kernel_rfl) rfl) Cp1 rfl rfl (fun w h => by simp [go_sem, h])
    · exact sBin rfl rfl rfl hz rfl (Gd.none_ rfl) rfl (Src.dep (j := 1) (t := 26) (by kernel_rfl) (by kernel_rfl) rfl) (Src.const (.int .i64 255)) (fun w => by simp [go_sem, ei])
    · exact sMv rfl rfl rfl hz rfl (Gd.none_ rfl) rfl (Src.out (t := 0) (by kernel_rfl) S0 rfl)
    · exact sLen rfl rfl rfl hz rfl (Gd.none_ rfl) rfl (Src.dep (j := 3) (t := 28) (by kernel_rfl) (by kernel_rfl) rfl) (fun v w h => ⟨_, _, h⟩) len64
    · exact sBin rfl rfl rfl hz rfl (Gd.none_ rfl) rfl (Src.dep (j := 2) (t := 27) (by kernel_rfl) (by kernel_rfl) rfl) (Src.dep (j := 4) (t := 29) (by kernel_rfl) (by kernel_rfl) rfl) (fun w => by simp [go_sem, hn0, ri])
    · exact sFA rfl rfl rfl hz rfl (Gd.none_ rfl) rfl (Src.out (t := 5) (by kernel_rfl) S5 rfl) (fun w => by simp [go_sem])
    · exact sLoadF rfl rfl rfl hz rfl (Gd.none_ rfl) rfl (Src.dep (j := 6) (t := 31) (by kernel_rfl) (by kernel_rfl) rfl) Cp1 rfl rfl (fun w h => by simp [go_sem, h])
    · exact sBin rfl rfl rfl hz rfl (Gd.none_ rfl) rfl (Src.dep (j := 7) (t := 32) (by kernel_rfl) (by kernel_rfl) rfl) (Src.const (.int .i64 255)) (fun w => by simp [go_sem, ej])
    · exact sMv rfl rfl rfl hz rfl (Gd.none_ rfl) rfl (Src.out (t := 0) (by kernel_rfl) S0 rfl)
    · exact sLen rfl rfl rfl hz rfl (Gd.none_ rfl) rfl (Src.dep (j := 9) (t := 34) (by kernel_rfl) (by kernel_rfl) rfl) (fun v w h => ⟨_, _, h⟩) len64
    · exact sBin rfl rfl rfl hz rfl (Gd.none_ rfl) rfl (Src.dep (j := 8) (t := 33) (by kernel_rfl) (by kernel_rfl) rfl) (Src.dep (j := 10) (t := 35) (by kernel_rfl) (by kernel_rfl) rfl) (fun w => by simp [go_sem, hn0, rj])
    · exact sAs rfl rfl rfl hz rfl (Gd.none_ rfl) rfl (Src.dep (j := 5) (t := 30) (by kernel_rfl) (by kernel_rfl) rfl)
    · exact sAs rfl rfl rfl hz rfl (Gd.none_ rfl) rfl (Src.dep (j := 11) (t := 36) (by kernel_rfl) (by kernel_rfl) rfl)
  intro a' γ' W' hz' hd' hC hk hh
  replace Cp1 := Cell.aft Cp1 hC rfl
  have tp2 := Cp2.lt
  replace Cp2 := Cell.aft Cp2 hC rfl
  have tp3 := Cp3.lt
  replace Cp3 := Cell.aft Cp3 hC rfl
  replace S0 := hk 0 _ (by kernel_rfl) S0
  replace S1 := hk 1 _ (by kernel_rfl) S1
  replace S5 := hk 5 _ (by kernel_rfl) S5
  replace S6 := hk 6 _ (by kernel_rfl) S6
  replace S7 := hk 7 _ (by kernel_rfl) S7
  replace HL := Rw.aft HL hC rfl
  replace HM := Rw.aft HM hC rfl
  have S8 := gotV hz' 12 hh rfl rfl rfl rfl
  have S9 := gotV hz' 13 hh rfl rfl rfl rfl
  clear tp2 tp3
  replace HB := aft_call HB (RelC.below_nil hC)
  clear hC hk hh; replace hz := hz'; replace hd := hd'; clear hz' hd'
  refine wp_seq ?_
  refine region_drawn (M := []) (
      rT (tV (.slice (some ⟨gl, 0, none⟩) n cl)) ::
      rT (tV (.int .i64 (i : Int))) ::
      rT (tV (.pointer (some ⟨gl, i, none⟩))) ::
      rT (tN B64 1000000 (xs.getD i 0)) ::
      rT (tV (.slice (some ⟨gl, 0, none⟩) n cl)) ::
      rT (tV (.int .i64 (j : Int))) ::
      rT (tV (.pointer (some ⟨gl, j, none⟩))) ::
      rT (tN B64 1000000 (xs.getD j 0)) ::
      rT (tV (.slice (some ⟨gm, 0, none⟩) n cm)) ::
      rT (tV (.int .i64 (i : Int))) ::
      rT (tV (.pointer (some ⟨gm, i, none⟩))) ::
      rT (tN B32 1000000 (xs.getD i 0)) ::
      rT (tV (.slice (some ⟨gm, 0, none⟩) n cm)) ::
      rT (tV (.int .i64 (j : Int))) ::
      rT (tV (.pointer (some ⟨gm, j, none⟩))) ::
      rT (tN B32 1000000 (xs.getD j 0)) ::
      rVar 16 25 1 ::
      rVar 17 25 1 ::
      rVar 18 44 1 ::
      rVar 19 44 1 ::
      rB 16 25 (tN B64 1000000 (xs.getD i 0)) (some 16) 17 ::
      rB 17 25 (tN B64 1000000 (xs.getD j 0)) (some 17) 18 ::
      rB 18 44 (tN B32 1000000 (xs.getD i 0)) (some 18) 19 ::
      rB 19 44 (tN B32 1000000 (xs.getD j 0)) (some 19) 20 ::
      []) hz hd (by kernel_rfl) (by kernel_rfl) ?_ ?_
  · refine ⟨?_, ?_, ?_, ?_, ?_, ?_, ?_, ?_, ?_, ?_, ?_, ?_, ?_, ?_, ?_, ?_, ?_, ?_, ?_, ?_, ?_, ?_, ?_, ?_, trivial⟩
    · exact sMv rfl rfl rfl hz rfl (Gd.none_ rfl) rfl (Src.out (t := 0) (by kernel_rfl) S0 rfl)
    · exact sMv rfl rfl rfl hz rfl (Gd.none_ rfl) rfl (Src.out (t := 8) (by kernel_rfl) S8 rfl)
    · exact sIdx rfl rfl rfl hz rfl (Gd.none_ rfl) rfl (Src.dep (j := 0) (t := 37) (by kernel_rfl) (by kernel_rfl) rfl) (Src.dep (j := 1) (t := 38) (by kernel_rfl) (by kernel_rfl) rfl) (ia64 hi2)
    · exact sLoadRow rfl rfl rfl hz rfl (Gd.none_ rfl) rfl (Src.dep (j := 2) (t := 39) (by kernel_rfl) (by kernel_rfl) rfl) HL rfl hi ldr64
    · exact sMv rfl rfl rfl hz rfl (Gd.none_ rfl) rfl (Src.out (t := 0) (by kernel_rfl) S0 rfl)
    · exact sMv rfl rfl rfl hz rfl (Gd.none_ rfl) rfl (Src.out (t := 9) (by kernel_rfl) S9 rfl)
    · exact sIdx rfl rfl rfl hz rfl (Gd.none_ rfl) rfl (Src.dep (j := 4) (t := 41) (by kernel_rfl) (by kernel_rfl) rfl) (Src.dep (j := 5) (t := 42) (by kernel_rfl) (by kernel_rfl) rfl) (ia64 hj2)
    · exact sLoadRow rfl rfl rfl hz rfl (Gd.none_ rfl) rfl (Src.dep (j := 6) (t := 43) (by kernel_rfl) (by kernel_rfl) rfl) HL rfl hj ldr64
    · exact sMv rfl rfl rfl hz rfl (Gd.none_ rfl) rfl (Src.out (t := 1) (by kernel_rfl) S1 rfl)
    · exact sMv rfl rfl rfl hz rfl (Gd.none_ rfl) rfl (Src.out (t := 8) (by kernel_rfl) S8 rfl)
    · exact sIdx rfl rfl rfl hz rfl (Gd.none_ rfl) rfl (Src.dep (j := 8) (t := 45) (by kernel_rfl) (by kernel_rfl) rfl) (Src.dep (j := 9) (t := 46) (by kernel_rfl) (by kernel_rfl) rfl) (ia32 hi2)
    · exact sLoadRow rfl rfl rfl hz rfl (Gd.none_ rfl) rfl (Src.dep (j := 10) (t := 47) (by kernel_rfl) (by kernel_rfl) rfl) HM rfl hi ldr32
    · exact sMv rfl rfl rfl hz rfl (Gd.none_ rfl) rfl (Src.out (t := 1) (by kernel_rfl) S1 rfl)
    · exact sMv rfl rfl rfl hz rfl (Gd.none_ rfl) rfl (Src.out (t := 9) (by kernel_rfl) S9 rfl)
    · exact sIdx rfl rfl rfl hz rfl (Gd.none_ rfl) rfl (Src.dep (j := 12) (t := 49) (by kernel_rfl) (by kernel_rfl) rfl) (Src.dep (j := 13) (t := 50) (by kernel_rfl) (by kernel_rfl) rfl) (ia32 hj2)
    · exact sLoadRow rfl rfl rfl hz rfl (Gd.none_ rfl) rfl (Src.dep (j := 14) (t := 51) (by kernel_rfl) (by kernel_rfl) rfl) HM rfl hj ldr32
    · exact sAlloc rfl rfl rfl hz rfl rfl rfl rfl nd_slice al_n64
    · exact sAlloc rfl rfl rfl hz rfl rfl rfl rfl nd_slice al_n64
    · exact sAlloc rfl rfl rfl hz rfl rfl rfl rfl nd_slice al_n32
    · exact sAlloc rfl rfl rfl hz rfl rfl rfl rfl nd_slice al_n32
    · exact sStore rfl rfl rfl rfl rfl (by kernel_rfl) (by kernel_rfl) rfl (Src.dep (j := 3) (t := 40) (by kernel_rfl) (by kernel_rfl) rfl) st_n64
    · exact sStore rfl rfl rfl rfl rfl (by kernel_rfl) (by kernel_rfl) rfl (Src.dep (j := 7) (t := 44) (by kernel_rfl) (by kernel_rfl) rfl) st_n64
    · exact sStore rfl rfl rfl rfl rfl (by kernel_rfl) (by kernel_rfl) rfl (Src.dep (j := 11) (t := 48) (by kernel_rfl) (by kernel_rfl) rfl) st_n32
    · exact sStore rfl rfl rfl rfl rfl (by kernel_rfl) (by kernel_rfl) rfl (Src.dep (j := 15) (t := 52) (by kernel_rfl) (by kernel_rfl) rfl) st_n32
  intro a' γ' W' hz' hd' hC hk hh
  replace Cp1 := Cell.aft Cp1 hC rfl
  have tp2 := Cp2.lt
  replace Cp2 := Cell.aft Cp2 hC rfl
  have tp3 := Cp3.lt
  replace Cp3 := Cell.aft Cp3 hC rfl
  clear S0
  clear S1
  replace S5 := hk 5 _ (by kernel_rfl) S5
  replace S6 := hk 6 _ (by kernel_rfl) S6
  replace S7 := hk 7 _ (by kernel_rfl) S7
  clear S8
  clear S9
  clear HL
  clear HM
  obtain ⟨p4, S10, Cp4, lp4, gp4⟩ := gotB hz' 20 hC hh rfl rfl rfl rfl rfl rfl
  obtain ⟨p5, S11, Cp5, lp5, gp5⟩ := gotB hz' 21 hC hh rfl rfl rfl rfl rfl rfl
  obtain ⟨p6, S12, Cp6, lp6, gp6⟩ := gotB hz' 22 hC hh rfl rfl rfl rfl rfl rfl
  obtain ⟨p7, S13, Cp7, lp7, gp7⟩ := gotB hz' 23 hC hh rfl rfl rfl rfl rfl rfl
  have n_p4_p2 : p4 ≠ p2 := by omega
  have n_p4_p3 : p4 ≠ p3 := by omega
  have n_p5_p2 : p5 ≠ p2 := by omega
  have n_p5_p3 : p5 ≠ p3 := by omega
  have n_p6_p2 : p6 ≠ p2 := by omega
  have n_p6_p3 : p6 ≠ p3 := by omega
  have n_p7_p2 : p7 ≠ p2 := by omega
  have n_p7_p3 : p7 ≠ p3 := by omega
  clear lp4 gp4 lp5 gp5 lp6 gp6 lp7 gp7
  clear tp2 tp3
  replace HB := aft_call HB (RelC.below_nil hC)
  clear hC hk hh; replace hz := hz'; replace hd := hd'; clear hz' hd'
  refine wp_seq ?_
  refine wp_seq ?_
  refine region_text (M := []) (
      rT (tV (.pointer (some ⟨p1, 0, none⟩))) ::
      rT (tV (.int .i64 ok)) ::
      rT (tV (.int .i64 4)) ::
      []) hz hd (by kernel_rfl) ?_ ?_
  · refine ⟨?_, ?_, ?_, trivial⟩
    · exact sFA rfl rfl rfl hz rfl (Gd.none_ rfl) rfl (Src.out (t := 5) (by kernel_rfl) S5 rfl) (fun w => by simp [go_sem])
    · exact sLoadF rfl rfl rfl hz rfl (Gd.none_ rfl) rfl (Src.dep (j := 0) (t := 53) (by kernel_rfl) (by kernel_rfl) rfl) Cp1 rfl rfl (fun w h => by simp [go_sem, h])
    · exact sBin rfl rfl rfl hz rfl (Gd.none_ rfl) rfl (Src.dep (j := 1) (t := 54) (by kernel_rfl) (by kernel_rfl) rfl) (Src.const (.int .i64 7)) (fun w => by simp [go_sem, ek])
  intro a' γ' W' hz' hd' hC hk hh
  replace Cp1 := Cell.aft Cp1 hC rfl
  have tp2 := Cp2.lt
  replace Cp2 := Cell.aft Cp2 hC rfl
  have tp3 := Cp3.lt
  replace Cp3 := Cell.aft Cp3 hC rfl
  replace Cp4 := Cell.aft Cp4 hC rfl
  replace Cp5 := Cell.aft Cp5 hC rfl
  replace Cp6 := Cell.aft Cp6 hC rfl
  replace Cp7 := Cell.aft Cp7 hC rfl
  replace S5 := hk 5 _ (by kernel_rfl) S5
  replace S6 := hk 6 _ (by kernel_rfl) S6
  replace S7 := hk 7 _ (by kernel_rfl) S7
  replace S10 := hk 10 _ (by kernel_rfl) S10
  replace S11 := hk 11 _ (by kernel_rfl) S11
  replace S12 := hk 12 _ (by kernel_rfl) S12
  replace S13 := hk 13 _ (by kernel_rfl) S13
  have S55 := gotV hz' 2 hh rfl rfl rfl rfl
  clear tp2 tp3
  replace HB := aft_call HB (RelC.below_nil hC)
  clear hC hk hh; replace hz := hz'; replace hd := hd'; clear hz' hd'
  refine wp_block ?_
  refine wp_seq ?_
  refine region_text (M := []) (
      rT (tV (.bool false)) ::
      rT (tV (.bool false)) ::
      []) hz hd (by kernel_rfl) ?_ ?_
  · refine ⟨?_, ?_, trivial⟩
    · exact sBin rfl rfl rfl hz rfl (Gd.none_ rfl) rfl (Src.out (t := 55) (by kernel_rfl) S55 rfl) (Src.const (.int .i64 0)) (fun w => by simp [go_sem])
    · exact sAs rfl rfl rfl hz rfl (Gd.none_ rfl) rfl (Src.dep (j := 0) (t := 57) (by kernel_rfl) (by kernel_rfl) rfl)
  intro a' γ' W' hz' hd' hC hk hh
  replace Cp1 := Cell.aft Cp1 hC rfl
  have tp2 := Cp2.lt
  replace Cp2 := Cell.aft Cp2 hC rfl
  have tp3 := Cp3.lt
  replace Cp3 := Cell.aft Cp3 hC rfl
  replace Cp4 := Cell.aft Cp4 hC rfl
  replace Cp5 := Cell.aft Cp5 hC rfl
  replace Cp6 := Cell.aft Cp6 hC rfl
  replace Cp7 := Cell.aft Cp7 hC rfl
  replace S5 := hk 5 _ (by kernel_rfl) S5
  replace S6 := hk 6 _ (by kernel_rfl) S6
  replace S7 := hk 7 _ (by kernel_rfl) S7
  replace S10 := hk 10 _ (by kernel_rfl) S10
  replace S11 := hk 11 _ (by kernel_rfl) S11
  replace S12 := hk 12 _ (by kernel_rfl) S12
  replace S13 := hk 13 _ (by kernel_rfl) S13
  replace S55 := hk 55 _ (by kernel_rfl) S55
  have S56 := gotV hz' 1 hh rfl rfl rfl rfl
  clear tp2 tp3
  replace HB := aft_call HB (RelC.below_nil hC)
  clear hC hk hh; replace hz := hz'; replace hd := hd'; clear hz' hd'
  refine wp_cond_false S56.ev ?_
  refine wp_seq ?_
  refine region_text (M := []) (
      rT (tV (.bool false)) ::
      rT (tV (.bool false)) ::
      []) hz hd (by kernel_rfl) ?_ ?_
  · refine ⟨?_, ?_, trivial⟩
    · exact sBin rfl rfl rfl hz rfl (Gd.none_ rfl) rfl (Src.out (t := 55) (by kernel_rfl) S55 rfl) (Src.const (.int .i64 1)) (fun w => by simp [go_sem])
    · exact sAs rfl rfl rfl hz rfl (Gd.none_ rfl) rfl (Src.dep (j := 0) (t := 65) (by kernel_rfl) (by kernel_rfl) rfl)
  intro a' γ' W' hz' hd' hC hk hh
  replace Cp1 := Cell.aft Cp1 hC rfl
  have tp2 := Cp2.lt
  replace Cp2 := Cell.aft Cp2 hC rfl
  have tp3 := Cp3.lt
  replace Cp3 := Cell.aft Cp3 hC rfl
  replace Cp4 := Cell.aft Cp4 hC rfl
  replace Cp5 := Cell.aft Cp5 hC rfl
  replace Cp6 := Cell.aft Cp6 hC rfl
  replace Cp7 := Cell.aft Cp7 hC rfl
  replace S5 := hk 5 _ (by kernel_rfl) S5
  replace S6 := hk 6 _ (by kernel_rfl) S6
  replace S7 := hk 7 _ (by kernel_rfl) S7
  replace S10 := hk 10 _ (by kernel_rfl) S10
  replace S11 := hk 11 _ (by kernel_rfl) S11
  replace S12 := hk 12 _ (by kernel_rfl) S12
  replace S13 := hk 13 _ (by kernel_rfl) S13
  replace S55 := hk 55 _ (by kernel_rfl) S55
  clear S56
  have S64 := gotV hz' 1 hh rfl rfl rfl rfl
  clear tp2 tp3
  replace HB := aft_call HB (RelC.below_nil hC)
  clear hC hk hh; replace hz := hz'; replace hd := hd'; clear hz' hd'
  refine wp_cond_false S64.ev ?_
  refine wp_seq ?_
  refine region_text (M := []) (
      rT (tV (.bool false)) ::
      rT (tV (.bool false)) ::
      []) hz hd (by kernel_rfl) ?_ ?_
  · refine ⟨?_, ?_, trivial⟩
    · exact sBin rfl rfl rfl hz rfl (Gd.none_ rfl) rfl (Src.out (t := 55) (by kernel_rfl) S55 rfl) (Src.const (.int .i64 2)) (fun w => by simp [go_sem])
    · exact sAs rfl rfl rfl hz rfl (Gd.none_ rfl) rfl (Src.dep (j := 0) (t := 83) (by kernel_rfl) (by kernel_rfl) rfl)
  intro a' γ' W' hz' hd' hC hk hh
  replace Cp1 := Cell.aft Cp1 hC rfl
  have tp2 := Cp2.lt
  replace Cp2 := Cell.aft Cp2 hC rfl
  have tp3 := Cp3.lt
  replace Cp3 := Cell.aft Cp3 hC rfl
  replace Cp4 := Cell.aft Cp4 hC rfl
  replace Cp5 := Cell.aft Cp5 hC rfl
  replace Cp6 := Cell.aft Cp6 hC rfl
  replace Cp7 := Cell.aft Cp7 hC rfl
  replace S5 := hk 5 _ (by kernel_rfl) S5
  replace S6 := hk 6 _ (by kernel_rfl) S6
  replace S7 := hk 7 _ (by kernel_rfl) S7
  replace S10 := hk 10 _ (by kernel_rfl) S10
  replace S11 := hk 11 _ (by kernel_rfl) S11
  replace S12 := hk 12 _ (by kernel_rfl) S12
  replace S13 := hk 13 _ (by kernel_rfl) S13
  replace S55 := hk 55 _ (by kernel_rfl) S55
  clear S64
  have S82 := gotV hz' 1 hh rfl rfl rfl rfl
  clear tp2 tp3
  replace HB := aft_call HB (RelC.below_nil hC)
  clear hC hk hh; replace hz := hz'; replace hd := hd'; clear hz' hd'
  refine wp_cond_false S82.ev ?_
  refine wp_seq ?_
  refine wp_seq ?_
  refine region_text (M := []) (
      rT (tV (.bool false)) ::
      rT (tV (.bool false)) ::
      []) hz hd (by kernel_rfl) ?_ ?_
  · refine ⟨?_, ?_, trivial⟩
    · exact sBin rfl rfl rfl hz rfl (Gd.none_ rfl) rfl (Src.out (t := 55) (by kernel_rfl) S55 rfl) (Src.const (.int .i64 3)) (fun w => by simp [go_sem])
    · exact sAs rfl rfl rfl hz rfl (Gd.none_ rfl) rfl (Src.dep (j := 0) (t := 91) (by kernel_rfl) (by kernel_rfl) rfl)
  intro a' γ' W' hz' hd' hC hk hh
  replace Cp1 := Cell.aft Cp1 hC rfl
  have tp2 := Cp2.lt
  replace Cp2 := Cell.aft Cp2 hC rfl
  have tp3 := Cp3.lt
  replace Cp3 := Cell.aft Cp3 hC rfl
  replace Cp4 := Cell.aft Cp4 hC rfl
  replace Cp5 := Cell.aft Cp5 hC rfl
  replace Cp6 := Cell.aft Cp6 hC rfl
  replace Cp7 := Cell.aft Cp7 hC rfl
  replace S5 := hk 5 _ (by kernel_rfl) S5
  replace S6 := hk 6 _ (by kernel_rfl) S6
  replace S7 := hk 7 _ (by kernel_rfl) S7
  replace S10 := hk 10 _ (by kernel_rfl) S10
  replace S11 := hk 11 _ (by kernel_rfl) S11
  replace S12 := hk 12 _ (by kernel_rfl) S12
  replace S13 := hk 13 _ (by kernel_rfl) S13
  replace S55 := hk 55 _ (by kernel_rfl) S55
  clear S82
  have S90 := gotV hz' 1 hh rfl rfl rfl rfl
  clear tp2 tp3
  replace HB := aft_call HB (RelC.below_nil hC)
  clear hC hk hh; replace hz := hz'; replace hd := hd'; clear hz' hd'
  refine wp_cond_false S90.ev ?_
  refine region_text (M := []) (
      rT (tV (.bool true)) ::
      rT (tV (.bool true)) ::
      []) hz hd (by kernel_rfl) ?_ ?_
  · refine ⟨?_, ?_, trivial⟩
    · exact sBin rfl rfl rfl hz rfl (Gd.none_ rfl) rfl (Src.out (t := 55) (by kernel_rfl) S55 rfl) (Src.const (.int .i64 4)) (fun w => by simp [go_sem])
    · exact sAs rfl rfl rfl hz rfl (Gd.none_ rfl) rfl (Src.dep (j := 0) (t := 92) (by kernel_rfl) (by kernel_rfl) rfl)
  intro a' γ' W' hz' hd' hC hk hh
  replace Cp1 := Cell.aft Cp1 hC rfl
  have tp2 := Cp2.lt
  replace Cp2 := Cell.aft Cp2 hC rfl
  have tp3 := Cp3.lt
  replace Cp3 := Cell.aft Cp3 hC rfl
  replace Cp4 := Cell.aft Cp4 hC rfl
  replace Cp5 := Cell.aft Cp5 hC rfl
  replace Cp6 := Cell.aft Cp6 hC rfl
  replace Cp7 := Cell.aft Cp7 hC rfl
  replace S5 := hk 5 _ (by kernel_rfl) S5
  replace S6 := hk 6 _ (by kernel_rfl) S6
  replace S7 := hk 7 _ (by kernel_rfl) S7
  replace S10 := hk 10 _ (by kernel_rfl) S10
  replace S11 := hk 11 _ (by kernel_rfl) S11
  replace S12 := hk 12 _ (by kernel_rfl) S12
  replace S13 := hk 13 _ (by kernel_rfl) S13
  replace S55 := hk 55 _ (by kernel_rfl) S55
  clear S90
  have S90 := gotV hz' 1 hh rfl rfl rfl rfl
  clear tp2 tp3
  replace HB := aft_call HB (RelC.below_nil hC)
  clear hC hk hh; replace hz := hz'; replace hd := hd'; clear hz' hd'
  refine wp_cond_true S90.ev ?_
  refine wp_seq ?_
  refine region_text (M := []) (
      rT (tN B64 1000000 (xs.getD i 0)) ::
      rT (tN B64 1000000 (xs.getD j 0)) ::
      rT (tT [tN B64 1000000 0, tN B64 1000000 0, tV (.bool (nz (xs.getD j 0)))]) ::
      rT (tT [tN B64 1000000 0, tN B64 1000000 0, tV (.bool (nz (xs.getD j 0)))]) ::
      rT (tN B64 1000000 0) ::
      rT (tN B64 1000000 0) ::
      rT (tV (.bool (nz (xs.getD j 0)))) ::
      rVar 7 25 1 ::
      rVar 8 25 1 ::
      rB 7 25 (tN B64 1000000 0) (some 7) 8 ::
      rB 8 25 (tN B64 1000000 0) (some 8) 9 ::
      rT (tV (.bool (nz (xs.getD j 0)))) ::
      []) hz hd (by kernel_rfl) ?_ ?_
  · refine ⟨?_, ?_, ?_, ?_, ?_, ?_, ?_, ?_, ?_, ?_, ?_, ?_, trivial⟩
    · exact sLoad rfl rfl rfl hz rfl (Gd.none_ rfl) rfl (Src.out (t := 10) (by kernel_rfl) S10 rfl) Cp4 rfl ld_n64
    · exact sLoad rfl rfl rfl hz rfl (Gd.none_ rfl) rfl (Src.out (t := 11) (by kernel_rfl) S11 rfl) Cp5 rfl ld_n64
    · exact sCall rfl rfl rfl hz rfl (Gd.none_ rfl) rfl Try.func15 (by kernel_rfl) (by kernel_rfl) fun a γ w U => (by show Calls _ _ #[a.eval (.tmp 94), a.eval (.tmp 95)] _ _; have hq : Calls _ _ #[a.eval (.tmp 94), a.eval (.tmp 95)] w (Ret _ w) := c_divmod (Src.at_ (Src.dep (j := 0) (t := 94) (by kernel_rfl) (by kernel_rfl) rfl) U) (Src.at_ (Src.dep (j := 1) (t := 95) (by kernel_rfl) (by kernel_rfl) rfl) U) (by decide) (by decide); simp only [e7, e5] at hq; exact hq)
    · exact sMv rfl rfl rfl hz rfl (Gd.none_ rfl) rfl (Src.dep (j := 2) (t := 96) (by kernel_rfl) (by kernel_rfl) rfl)
    · exact sExt rfl rfl rfl hz rfl (Gd.none_ rfl) rfl (Src.dep (j := 3) (t := 93) (by kernel_rfl) (by kernel_rfl) rfl) rfl
    · exact sExt rfl rfl rfl hz rfl (Gd.none_ rfl) rfl (Src.dep (j := 3) (t := 93) (by kernel_rfl) (by kernel_rfl) rfl) rfl
    · exact sExt rfl rfl rfl hz rfl (Gd.none_ rfl) rfl (Src.dep (j := 3) (t := 93) (by kernel_rfl) (by kernel_rfl) rfl) rfl
    · exact sAlloc rfl rfl rfl hz rfl rfl rfl rfl nd_slice al_n64
    · exact sAlloc rfl rfl rfl hz rfl rfl rfl rfl nd_slice al_n64
    · exact sStore rfl rfl rfl rfl rfl (by kernel_rfl) (by kernel_rfl) rfl (Src.dep (j := 4) (t := 97) (by kernel_rfl) (by kernel_rfl) rfl) st_n64
    · exact sStore rfl rfl rfl rfl rfl (by kernel_rfl) (by kernel_rfl) rfl (Src.dep (j := 5) (t := 98) (by kernel_rfl) (by kernel_rfl) rfl) st_n64
    · exact sAs rfl rfl rfl hz rfl (Gd.none_ rfl) rfl (Src.dep (j := 6) (t := 99) (by kernel_rfl) (by kernel_rfl) rfl)
  intro a' γ' W' hz' hd' hC hk hh
  replace Cp1 := Cell.aft Cp1 hC rfl
  have tp2 := Cp2.lt
  replace Cp2 := Cell.aft Cp2 hC rfl
  have tp3 := Cp3.lt
  replace Cp3 := Cell.aft Cp3 hC rfl
  replace Cp4 := Cell.aft Cp4 hC rfl
  clear Cp5
  replace Cp6 := Cell.aft Cp6 hC rfl
  replace Cp7 := Cell.aft Cp7 hC rfl
  replace S5 := hk 5 _ (by kernel_rfl) S5
  replace S6 := hk 6 _ (by kernel_rfl) S6
  replace S7 := hk 7 _ (by kernel_rfl) S7
  replace S10 := hk 10 _ (by kernel_rfl) S10
  clear S11
  replace S12 := hk 12 _ (by kernel_rfl) S12
  replace S13 := hk 13 _ (by kernel_rfl) S13
  clear S55
  clear S90
  obtain ⟨p8, S16, Cp8, lp8, gp8⟩ := gotB hz' 9 hC hh rfl rfl rfl rfl rfl rfl
  obtain ⟨p9, S17, Cp9, lp9, gp9⟩ := gotB hz' 10 hC hh rfl rfl rfl rfl rfl rfl
  have n_p8_p2 : p8 ≠ p2 := by omega
  have n_p8_p3 : p8 ≠ p3 := by omega
  have n_p9_p2 : p9 ≠ p2 := by omega
  have n_p9_p3 : p9 ≠ p3 := by omega
  clear lp8 gp8 lp9 gp9
  clear tp2 tp3
  replace HB := aft_call HB (RelC.below_nil hC)
  clear hC hk hh; replace hz := hz'; replace hd := hd'; clear hz' hd'
  refine wp_seq ?_
  refine wp_seq ?_
  refine region_text (M := []) (
      rT (tN B32 1000000 (xs.getD j 0)) ::
      rT (tV (.bool true)) ::
      []) hz hd (by kernel_rfl) ?_ ?_
  · refine ⟨?_, ?_, trivial⟩
    · exact sLoad rfl rfl rfl hz rfl (Gd.none_ rfl) rfl (Src.out (t := 13) (by kernel_rfl) S13 rfl) Cp7 rfl ld_n32
    · exact sCall rfl rfl rfl hz rfl (Gd.none_ rfl) rfl Try.func68 (by kernel_rfl) (by kernel_rfl) fun a γ w U => (by show Calls _ _ #[a.eval (.tmp 100)] _ _; have hq : Calls _ _ #[a.eval (.tmp 100)] w (Ret _ w) := d_zero (Src.at_ (Src.dep (j := 0) (t := 100) (by kernel_rfl) (by kernel_rfl) rfl) U); simp only [e6] at hq; exact hq)
  intro a' γ' W' hz' hd' hC hk hh
  replace Cp1 := Cell.aft Cp1 hC rfl
  have tp2 := Cp2.lt
  replace Cp2 := Cell.aft Cp2 hC rfl
  have tp3 := Cp3.lt
  replace Cp3 := Cell.aft Cp3 hC rfl
  replace Cp4 := Cell.aft Cp4 hC rfl
  replace Cp6 := Cell.aft Cp6 hC rfl
  replace Cp7 := Cell.aft Cp7 hC rfl
  replace Cp8 := Cell.aft Cp8 hC rfl
  replace Cp9 := Cell.aft Cp9 hC rfl
  replace S5 := hk 5 _ (by kernel_rfl) S5
  replace S6 := hk 6 _ (by kernel_rfl) S6
  replace S7 := hk 7 _ (by kernel_rfl) S7
  replace S10 := hk 10 _ (by kernel_rfl) S10
  replace S12 := hk 12 _ (by kernel_rfl) S12
  replace S13 := hk 13 _ (by kernel_rfl) S13
  replace S16 := hk 16 _ (by kernel_rfl) S16
  replace S17 := hk 17 _ (by kernel_rfl) S17
  have S101 := gotV hz' 1 hh rfl rfl rfl rfl
  clear tp2 tp3
  replace HB := aft_call HB (RelC.below_nil hC)
  clear hC hk hh; replace hz := hz'; replace hd := hd'; clear hz' hd'
  refine wp_cond_true S101.ev ?_
  refine wp_seq ?_
  refine region_text (M := [p2, p3]) (
      rT (tN B64 1000000 0) ::
      rT (tN B32 0 0) ::
      rE 0 25 (tN B64 1000000 0) p2 ::
      rE 1 44 (tN B32 0 0) p3 ::
      []) hz hd (by kernel_rfl) ?_ ?_
  · refine ⟨?_, ?_, ?_, ?_, trivial⟩
    · exact sLoad rfl rfl rfl hz rfl (Gd.none_ rfl) rfl (Src.out (t := 16) (by kernel_rfl) S16 rfl) Cp8 (by simp [tagOf, n_p8_p2, n_p8_p3]) ld_n64
    · exact sBuild0 rfl rfl rfl hz rfl (Gd.none_ rfl) rfl bd_n32 (fun _ => tN_nil)
    · exact sStoreE rfl rfl rfl rfl rfl (Src.out (t := 6) (by kernel_rfl) S6 rfl) (by simp [tagOf]) (Cp2.var tN_nd) (Src.dep (j := 0) (t := 102) (by kernel_rfl) (by kernel_rfl) rfl) st_n64
    · exact sStoreE rfl rfl rfl rfl rfl (Src.out (t := 7) (by kernel_rfl) S7 rfl) (by simp [tagOf, n_p3_p2]) (Cp3.var tN_nd) (Src.dep (j := 1) (t := 103) (by kernel_rfl) (by kernel_rfl) rfl) st_n32
  intro a' γ' W' hz' hd' hC hk hh
  replace Cp1 := Cell.aft Cp1 hC (by simp [tagOf, n_p1_p2, n_p1_p3])
  replace Cp2 := gotE (T := tN B64 1000000 0) (id := 25) (p := p2) 2 hh rfl rfl
  replace Cp3 := gotE (T := tN B32 0 0) (id := 44) (p := p3) 3 hh rfl rfl
  replace Cp4 := Cell.aft Cp4 hC (by simp [tagOf, n_p4_p2, n_p4_p3])
  replace Cp6 := Cell.aft Cp6 hC (by simp [tagOf, n_p6_p2, n_p6_p3])
  replace Cp7 := Cell.aft Cp7 hC (by simp [tagOf, n_p7_p2, n_p7_p3])
  replace Cp8 := Cell.aft Cp8 hC (by simp [tagOf, n_p8_p2, n_p8_p3])
  replace Cp9 := Cell.aft Cp9 hC (by simp [tagOf, n_p9_p2, n_p9_p3])
  replace S5 := hk 5 _ (by kernel_rfl) S5
  replace S6 := hk 6 _ (by kernel_rfl) S6
  replace S7 := hk 7 _ (by kernel_rfl) S7
  replace S10 := hk 10 _ (by kernel_rfl) S10
  replace S12 := hk 12 _ (by kernel_rfl) S12
  replace S13 := hk 13 _ (by kernel_rfl) S13
  replace S16 := hk 16 _ (by kernel_rfl) S16
  replace S17 := hk 17 _ (by kernel_rfl) S17
  clear S101
  replace HB := RelC.aftM HB hC (by intro m hm; simp at hm; rcases hm with rfl | rfl <;> assumption)
  clear hC hk hh; replace hz := hz'; replace hd := hd'; clear hz' hd'
  refine wp_ret ?_
  exact ret2n (by kernel_rfl) S6 S7 hd Cp2 Cp3 HB

set_option maxRecDepth 10000 in
set_option maxHeartbeats 2000000 in
theorem after4p {gl gm n cl cm ia ja i j sn : Nat} {ok oi oj os : Int} {xs : List Nat} {w : World} (HL : Rw B64 25 1000000 gl xs w) (HM : Rw B32 44 1000000 gm xs w) (hn0 : ¬ n = 0) (hi : i < xs.length) (hj : j < xs.length) (hi2 : i < n) (hj2 : j < n)
    (ei : bits .and .i64 oi 255 = (ia : Int)) (ej : bits .and .i64 oj 255 = (ja : Int)) (es : bits .and .i64 os 127 = (sn : Int)) (ri : (ia : Int).tmod (n : Int) = (i : Int)) (rj : (ja : Int).tmod (n : Int) = (j : Int)) (ek : bits .and .i64 ok 7 = 4) (e5 : modOf (xs.getD i 0) (xs.getD j 0) = (xs.getD i 0) % (xs.getD j 0)) (e6 : decide (xs.getD j 0 = 0) = false) (e7 : 0 < xs.getD j 0) :
    Calls Try.prog 44 #[.slice (some ⟨gl, 0, none⟩) n cl, .slice (some ⟨gm, 0, none⟩) n cm, .agg #[.int .i64 ok, .int .i64 oi, .int .i64 oj, .int .i64 os]] w (Ret (tT [tN B64 1000000 ((xs.getD i 0) % (xs.getD j 0)), tN B32 1000000 ((xs.getD i 0) % (xs.getD j 0))]) w) := by
  refine enter Try.func44 rfl Try.ntmps44 (by simp) ?_
  intro a hz hd ha
  have S0 := ha 0 _ rfl
  have S1 := ha 1 _ rfl
  have S2 := ha 2 _ rfl
  clear ha
  have HB : Below w.heap.size w w := Below.refl _ _
  refine wp_seq ?_
  refine region_text (M := []) (
      rB 0 74 (tV (.agg #[.int .i64 ok, .int .i64 oi, .int .i64 oj, .int .i64 os])) none 0 ::
      rB 1 25 (tN B64 0 0) none 0 ::
      rB 2 44 (tN B32 0 0) none 0 ::
      []) hz hd (by kernel_rfl) ?_ ?_
  · refine ⟨?_, ?_, ?_, trivial⟩
    · exact sBox rfl rfl rfl hz rfl rfl rfl (Src.out (t := 2) (by kernel_rfl) S2 rfl) box_op
    · exact sNew rfl rfl rfl hz rfl rfl rfl (fun _ => tN_nil) al_n64
    · exact sNew rfl rfl rfl hz rfl rfl rfl (fun _ => tN_nil) al_n32
  intro a' γ' W' hz' hd' hC hk hh
  replace S0 := hk 0 _ (by kernel_rfl) S0
  replace S1 := hk 1 _ (by kernel_rfl) S1
  clear S2
  replace HL := Rw.aft HL hC rfl
  replace HM := Rw.aft HM hC rfl
  obtain ⟨p1, S5, Cp1, lp1, gp1⟩ := gotB hz' 0 hC hh rfl rfl rfl rfl rfl rfl
  obtain ⟨p2, S6, Cp2, lp2, gp2⟩ := gotB hz' 1 hC hh rfl rfl rfl rfl rfl rfl
  obtain ⟨p3, S7, Cp3, lp3, gp3⟩ := gotB hz' 2 hC hh rfl rfl rfl rfl rfl rfl
  have n_p1_p2 : p1 ≠ p2 := by intro e; rw [e, gp2] at gp1; omega
  have n_p1_p3 : p1 ≠ p3 := by intro e; rw [e, gp3] at gp1; omega
  have n_p2_p3 : p2 ≠ p3 := by intro e; rw [e, gp3] at gp2; omega
  have n_p3_p2 : p3 ≠ p2 := by intro e; rw [e, gp2] at gp3; omega
  have bp2 : w.heap.size ≤ p2 := Nat.le_trans HB.size lp2
  have bp3 : w.heap.size ≤ p3 := Nat.le_trans HB.size lp3
  clear lp1 gp1 lp2 gp2 lp3 gp3
  replace HB := aft_call HB (RelC.below_nil hC)
  clear hC hk hh; replace hz := hz'; replace hd := hd'; clear hz' hd'
  refine wp_seq ?_
  refine region_drawn (M := []) (
      rT (tV (.pointer (some ⟨p1, 1, none⟩))) ::
      rT (tV (.int .i64 oi)) ::
      rT (tV (.int .i64 (ia : Int))) ::
      rT (tV (.slice (some ⟨gl, 0, none⟩) n cl)) ::
      rT (tV (.int .i64 (n : Int))) ::
      rT (tV (.int .i64 (i : Int))) ::
      rT (tV (.pointer (some ⟨p1, 2, none⟩))) ::
      rT (tV (.int .i64 oj)) ::
      rT (tV (.int .i64 (ja : Int))) ::
      rT (tV (.slice (some ⟨gl, 0, none⟩) n cl)) ::
      rT (tV (.int .i64 (n : Int))) ::
      rT (tV (.int .i64 (j : Int))) ::
      rT (tV (.int .i64 (i : Int))) ::
      rT (tV (.int .i64 (j : Int))) ::
      []) hz hd (by kernel_rfl) (by kernel_rfl) ?_ ?_
  · refine ⟨?_, ?_, ?_, ?_, ?_, ?_, ?_, ?_, ?_, ?_, ?_, ?_, ?_, ?_, trivial⟩
    · exact sFA rfl rfl rfl hz rfl (Gd.none_ rfl) rfl (Src.out (t := 5) (by kernel_rfl) S5 rfl) (fun w => by simp [go_sem])
    · exact sLoadF rfl rfl rfl hz rfl (Gd.none_ rfl) rfl (Src.dep (j := 0) (t := 25) (by kernel_rfl) (by kernel_rfl) rfl) Cp1 rfl rfl (fun w h => by simp [go_sem, h])
    · exact sBin rfl rfl rfl hz rfl (Gd.none_ rfl) rfl (Src.dep (j := 1) (t := 26) (by kernel_rfl) (by kernel_rfl) rfl) (Src.const (.int .i64 255)) (fun w => by simp [go_sem, ei])
    · exact sMv rfl rfl rfl hz rfl (Gd.none_ rfl) rfl (Src.out (t := 0) (by kernel_rfl) S0 rfl)
    · exact sLen rfl rfl rfl hz rfl (Gd.none_ rfl) rfl (Src.dep (j := 3) (t := 28) (by kernel_rfl) (by kernel_rfl) rfl) (fun v w h => ⟨_, _, h⟩) len64
    · exact sBin rfl rfl rfl hz rfl (Gd.none_ rfl) rfl (Src.dep (j := 2) (t := 27) (by kernel_rfl) (by kernel_rfl) rfl) (Src.dep (j := 4) (t := 29) (by kernel_rfl) (by kernel_rfl) rfl) (fun w => by simp [go_sem, hn0, ri])
    · exact sFA rfl rfl rfl hz rfl (Gd.none_ rfl) rfl (Src.out (t := 5) (by kernel_rfl) S5 rfl) (fun w => by simp [go_sem])
    · exact sLoadF rfl rfl rfl hz rfl (Gd.none_ rfl) rfl (Src.dep (j := 6) (t := 31) (by kernel_rfl) (by kernel_rfl) rfl) Cp1 rfl rfl (fun w h => by simp [go_sem, h])
    · exact sBin rfl rfl rfl hz rfl (Gd.none_ rfl) rfl (Src.dep (j := 7) (t := 32) (by kernel_rfl) (by kernel_rfl) rfl) (Src.const (.int .i64 255)) (fun w => by simp [go_sem, ej])
    · exact sMv rfl rfl rfl hz rfl (Gd.none_ rfl) rfl (Src.out (t := 0) (by kernel_rfl) S0 rfl)
    · exact sLen rfl rfl rfl hz rfl (Gd.none_ rfl) rfl (Src.dep (j := 9) (t := 34) (by kernel_rfl) (by kernel_rfl) rfl) (fun v w h => ⟨_, _, h⟩) len64
    · exact sBin rfl rfl rfl hz rfl (Gd.none_ rfl) rfl (Src.dep (j := 8) (t := 33) (by kernel_rfl) (by kernel_rfl) rfl) (Src.dep (j := 10) (t := 35) (by kernel_rfl) (by kernel_rfl) rfl) (fun w => by simp [go_sem, hn0, rj])
    · exact sAs rfl rfl rfl hz rfl (Gd.none_ rfl) rfl (Src.dep (j := 5) (t := 30) (by kernel_rfl) (by kernel_rfl) rfl)
    · exact sAs rfl rfl rfl hz rfl (Gd.none_ rfl) rfl (Src.dep (j := 11) (t := 36) (by kernel_rfl) (by kernel_rfl) rfl)
  intro a' γ' W' hz' hd' hC hk hh
  replace Cp1 := Cell.aft Cp1 hC rfl
  have tp2 := Cp2.lt
  replace Cp2 := Cell.aft Cp2 hC rfl
  have tp3 := Cp3.lt
  replace Cp3 := Cell.aft Cp3 hC rfl
  replace S0 := hk 0 _ (by kernel_rfl) S0
  replace S1 := hk 1 _ (by kernel_rfl) S1
  replace S5 := hk 5 _ (by kernel_rfl) S5
  replace S6 := hk 6 _ (by kernel_rfl) S6
  replace S7 := hk 7 _ (by kernel_rfl) S7
  replace HL := Rw.aft HL hC rfl
  replace HM := Rw.aft HM hC rfl
  have S8 := gotV hz' 12 hh rfl rfl rfl rfl
  have S9 := gotV hz' 13 hh rfl rfl rfl rfl
  clear tp2 tp3
  replace HB := aft_call HB (RelC.below_nil hC)
  clear hC hk hh; replace hz := hz'; replace hd := hd'; clear hz' hd'
  refine wp_seq ?_
  refine region_drawn (M := []) (
      rT (tV (.slice (some ⟨gl, 0, none⟩) n cl)) ::
      rT (tV (.int .i64 (i : Int))) ::
      rT (tV (.pointer (some ⟨gl, i, none⟩))) ::
      rT (tN B64 1000000 (xs.getD i 0)) ::
      rT (tV (.slice (some ⟨gl, 0, none⟩) n cl)) ::
      rT (tV (.int .i64 (j : Int))) ::
      rT (tV (.pointer (some ⟨gl, j, none⟩))) ::
      rT (tN B64 1000000 (xs.getD j 0)) ::
      rT (tV (.slice (some ⟨gm, 0, none⟩) n cm)) ::
      rT (tV (.int .i64 (i : Int))) ::
      rT (tV (.pointer (some ⟨gm, i, none⟩))) ::
      rT (tN B32 1000000 (xs.getD i 0)) ::
      rT (tV (.slice (some ⟨gm, 0, none⟩) n cm)) ::
      rT (tV (.int .i64 (j : Int))) ::
      rT (tV (.pointer (some ⟨gm, j, none⟩))) ::
      rT (tN B32 1000000 (xs.getD j 0)) ::
      rVar 16 25 1 ::
      rVar 17 25 1 ::
      rVar 18 44 1 ::
      rVar 19 44 1 ::
      rB 16 25 (tN B64 1000000 (xs.getD i 0)) (some 16) 17 ::
      rB 17 25 (tN B64 1000000 (xs.getD j 0)) (some 17) 18 ::
      rB 18 44 (tN B32 1000000 (xs.getD i 0)) (some 18) 19 ::
      rB 19 44 (tN B32 1000000 (xs.getD j 0)) (some 19) 20 ::
      []) hz hd (by kernel_rfl) (by kernel_rfl) ?_ ?_
  · refine ⟨?_, ?_, ?_, ?_, ?_, ?_, ?_, ?_, ?_, ?_, ?_, ?_, ?_, ?_, ?_, ?_, ?_, ?_, ?_, ?_, ?_, ?_, ?_, ?_, trivial⟩
    · exact sMv rfl rfl rfl hz rfl (Gd.none_ rfl) rfl (Src.out (t := 0) (by kernel_rfl) S0 rfl)
    · exact sMv rfl rfl rfl hz rfl (Gd.none_ rfl) rfl (Src.out (t := 8) (by kernel_rfl) S8 rfl)
    · exact sIdx rfl rfl rfl hz rfl (Gd.none_ rfl) rfl (Src.dep (j := 0) (t := 37) (by kernel_rfl) (by kernel_rfl) rfl) (Src.dep (j := 1) (t := 38) (by kernel_rfl) (by kernel_rfl) rfl) (ia64 hi2)
    · exact sLoadRow rfl rfl rfl hz rfl (Gd.none_ rfl) rfl (Src.dep (j := 2) (t := 39) (by kernel_rfl) (by kernel_rfl) rfl) HL rfl hi ldr64
    · exact sMv rfl rfl rfl hz rfl (Gd.none_ rfl) rfl (Src.out (t := 0) (by kernel_rfl) S0 rfl)
    · exact sMv rfl rfl rfl hz rfl (Gd.none_ rfl) rfl (Src.out (t := 9) (by kernel_rfl) S9 rfl)
    · exact sIdx rfl rfl rfl hz rfl (Gd.none_ rfl) rfl (Src.dep (j := 4) (t := 41) (by kernel_rfl) (by kernel_rfl) rfl) (Src.dep (j := 5) (t := 42) (by kernel_rfl) (by kernel_rfl) rfl) (ia64 hj2)
    · exact sLoadRow rfl rfl rfl hz rfl (Gd.none_ rfl) rfl (Src.dep (j := 6) (t := 43) (by kernel_rfl) (by kernel_rfl) rfl) HL rfl hj ldr64
    · exact sMv rfl rfl rfl hz rfl (Gd.none_ rfl) rfl (Src.out (t := 1) (by kernel_rfl) S1 rfl)
    · exact sMv rfl rfl rfl hz rfl (Gd.none_ rfl) rfl (Src.out (t := 8) (by kernel_rfl) S8 rfl)
    · exact sIdx rfl rfl rfl hz rfl (Gd.none_ rfl) rfl (Src.dep (j := 8) (t := 45) (by kernel_rfl) (by kernel_rfl) rfl) (Src.dep (j := 9) (t := 46) (by kernel_rfl) (by kernel_rfl) rfl) (ia32 hi2)
    · exact sLoadRow rfl rfl rfl hz rfl (Gd.none_ rfl) rfl (Src.dep (j := 10) (t := 47) (by kernel_rfl) (by kernel_rfl) rfl) HM rfl hi ldr32
    · exact sMv rfl rfl rfl hz rfl (Gd.none_ rfl) rfl (Src.out (t := 1) (by kernel_rfl) S1 rfl)
    · exact sMv rfl rfl rfl hz rfl (Gd.none_ rfl) rfl (Src.out (t := 9) (by kernel_rfl) S9 rfl)
    · exact sIdx rfl rfl rfl hz rfl (Gd.none_ rfl) rfl (Src.dep (j := 12) (t := 49) (by kernel_rfl) (by kernel_rfl) rfl) (Src.dep (j := 13) (t := 50) (by kernel_rfl) (by kernel_rfl) rfl) (ia32 hj2)
    · exact sLoadRow rfl rfl rfl hz rfl (Gd.none_ rfl) rfl (Src.dep (j := 14) (t := 51) (by kernel_rfl) (by kernel_rfl) rfl) HM rfl hj ldr32
    · exact sAlloc rfl rfl rfl hz rfl rfl rfl rfl nd_slice al_n64
    · exact sAlloc rfl rfl rfl hz rfl rfl rfl rfl nd_slice al_n64
    · exact sAlloc rfl rfl rfl hz rfl rfl rfl rfl nd_slice al_n32
    · exact sAlloc rfl rfl rfl hz rfl rfl rfl rfl nd_slice al_n32
    · exact sStore rfl rfl rfl rfl rfl (by kernel_rfl) (by kernel_rfl) rfl (Src.dep (j := 3) (t := 40) (by kernel_rfl) (by kernel_rfl) rfl) st_n64
    · exact sStore rfl rfl rfl rfl rfl (by kernel_rfl) (by kernel_rfl) rfl (Src.dep (j := 7) (t := 44) (by kernel_rfl) (by kernel_rfl) rfl) st_n64
    · exact sStore rfl rfl rfl rfl rfl (by kernel_rfl) (by kernel_rfl) rfl (Src.dep (j := 11) (t := 48) (by kernel_rfl) (by kernel_rfl) rfl) st_n32
    · exact sStore rfl rfl rfl rfl rfl (by kernel_rfl) (by kernel_rfl) rfl (Src.dep (j := 15) (t := 52) (by kernel_rfl) (by kernel_rfl) rfl) st_n32
  intro a' γ' W' hz' hd' hC hk hh
  replace Cp1 := Cell.aft Cp1 hC rfl
  have tp2 := Cp2.lt
  replace Cp2 := Cell.aft Cp2 hC rfl
  have tp3 := Cp3.lt
  replace Cp3 := Cell.aft Cp3 hC rfl
  clear S0
  clear S1
  replace S5 := hk 5 _ (by kernel_rfl) S5
  replace S6 := hk 6 _ (by kernel_rfl) S6
  replace S7 := hk 7 _ (by kernel_rfl) S7
  clear S8
  clear S9
  clear HL
  clear HM
  obtain ⟨p4, S10, Cp4, lp4, gp4⟩ := gotB hz' 20 hC hh rfl rfl rfl rfl rfl rfl
  obtain ⟨p5, S11, Cp5, lp5, gp5⟩ := gotB hz' 21 hC hh rfl rfl rfl rfl rfl rfl
  obtain ⟨p6, S12, Cp6, lp6, gp6⟩ := gotB hz' 22 hC hh rfl rfl rfl rfl rfl rfl
  obtain ⟨p7, S13, Cp7, lp7, gp7⟩ := gotB hz' 23 hC hh rfl rfl rfl rfl rfl rfl
  have n_p4_p2 : p4 ≠ p2 := by omega
  have n_p4_p3 : p4 ≠ p3 := by omega
  have n_p5_p2 : p5 ≠ p2 := by omega
  have n_p5_p3 : p5 ≠ p3 := by omega
  have n_p6_p2 : p6 ≠ p2 := by omega
  have n_p6_p3 : p6 ≠ p3 := by omega
  have n_p7_p2 : p7 ≠ p2 := by omega
  have n_p7_p3 : p7 ≠ p3 := by omega
  clear lp4 gp4 lp5 gp5 lp6 gp6 lp7 gp7
  clear tp2 tp3
  replace HB := aft_call HB (RelC.below_nil hC)
  clear hC hk hh; replace hz := hz'; replace hd := hd'; clear hz' hd'
  refine wp_seq ?_
  refine wp_seq ?_
  refine region_text (M := []) (
      rT (tV (.pointer (some ⟨p1, 0, none⟩))) ::
      rT (tV (.int .i64 ok)) ::
      rT (tV (.int .i64 4)) ::
      []) hz hd (by kernel_rfl) ?_ ?_
  · refine ⟨?_, ?_, ?_, trivial⟩
    · exact sFA rfl rfl rfl hz rfl (Gd.none_ rfl) rfl (Src.out (t := 5) (by kernel_rfl) S5 rfl) (fun w => by simp [go_sem])
    · exact sLoadF rfl rfl rfl hz rfl (Gd.none_ rfl) rfl (Src.dep (j := 0) (t := 53) (by kernel_rfl) (by kernel_rfl) rfl) Cp1 rfl rfl (fun w h => by simp [go_sem, h])
    · exact sBin rfl rfl rfl hz rfl (Gd.none_ rfl) rfl (Src.dep (j := 1) (t := 54) (by kernel_rfl) (by kernel_rfl) rfl) (Src.const (.int .i64 7)) (fun w => by simp [go_sem, ek])
  intro a' γ' W' hz' hd' hC hk hh
  replace Cp1 := Cell.aft Cp1 hC rfl
  have tp2 := Cp2.lt
  replace Cp2 := Cell.aft Cp2 hC rfl
  have tp3 := Cp3.lt
  replace Cp3 := Cell.aft Cp3 hC rfl
  replace Cp4 := Cell.aft Cp4 hC rfl
  replace Cp5 := Cell.aft Cp5 hC rfl
  replace Cp6 := Cell.aft Cp6 hC rfl
  replace Cp7 := Cell.aft Cp7 hC rfl
  replace S5 := hk 5 _ (by kernel_rfl) S5
  replace S6 := hk 6 _ (by kernel_rfl) S6
  replace S7 := hk 7 _ (by kernel_rfl) S7
  replace S10 := hk 10 _ (by kernel_rfl) S10
  replace S11 := hk 11 _ (by kernel_rfl) S11
  replace S12 := hk 12 _ (by kernel_rfl) S12
  replace S13 := hk 13 _ (by kernel_rfl) S13
  have S55 := gotV hz' 2 hh rfl rfl rfl rfl
  clear tp2 tp3
  replace HB := aft_call HB (RelC.below_nil hC)
  clear hC hk hh; replace hz := hz'; replace hd := hd'; clear hz' hd'
  refine wp_block ?_
  refine wp_seq ?_
  refine region_text (M := []) (
      rT (tV (.bool false)) ::
      rT (tV (.bool false)) ::
      []) hz hd (by kernel_rfl) ?_ ?_
  · refine ⟨?_, ?_, trivial⟩
    · exact sBin rfl rfl rfl hz rfl (Gd.none_ rfl) rfl (Src.out (t := 55) (by kernel_rfl) S55 rfl) (Src.const (.int .i64 0)) (fun w => by simp [go_sem])
    · exact sAs rfl rfl rfl hz rfl (Gd.none_ rfl) rfl (Src.dep (j := 0) (t := 57) (by kernel_rfl) (by kernel_rfl) rfl)
  intro a' γ' W' hz' hd' hC hk hh
  replace Cp1 := Cell.aft Cp1 hC rfl
  have tp2 := Cp2.lt
  replace Cp2 := Cell.aft Cp2 hC rfl
  have tp3 := Cp3.lt
  replace Cp3 := Cell.aft Cp3 hC rfl
  replace Cp4 := Cell.aft Cp4 hC rfl
  replace Cp5 := Cell.aft Cp5 hC rfl
  replace Cp6 := Cell.aft Cp6 hC rfl
  replace Cp7 := Cell.aft Cp7 hC rfl
  replace S5 := hk 5 _ (by kernel_rfl) S5
  replace S6 := hk 6 _ (by kernel_rfl) S6
  replace S7 := hk 7 _ (by kernel_rfl) S7
  replace S10 := hk 10 _ (by kernel_rfl) S10
  replace S11 := hk 11 _ (by kernel_rfl) S11
  replace S12 := hk 12 _ (by kernel_rfl) S12
  replace S13 := hk 13 _ (by kernel_rfl) S13
  replace S55 := hk 55 _ (by kernel_rfl) S55
  have S56 := gotV hz' 1 hh rfl rfl rfl rfl
  clear tp2 tp3
  replace HB := aft_call HB (RelC.below_nil hC)
  clear hC hk hh; replace hz := hz'; replace hd := hd'; clear hz' hd'
  refine wp_cond_false S56.ev ?_
  refine wp_seq ?_
  refine region_text (M := []) (
      rT (tV (.bool false)) ::
      rT (tV (.bool false)) ::
      []) hz hd (by kernel_rfl) ?_ ?_
  · refine ⟨?_, ?_, trivial⟩
    · exact sBin rfl rfl rfl hz rfl (Gd.none_ rfl) rfl (Src.out (t := 55) (by kernel_rfl) S55 rfl) (Src.const (.int .i64 1)) (fun w => by simp [go_sem])
    · exact sAs rfl rfl rfl hz rfl (Gd.none_ rfl) rfl (Src.dep (j := 0) (t := 65) (by kernel_rfl) (by kernel_rfl) rfl)
  intro a' γ' W' hz' hd' hC hk hh
  replace Cp1 := Cell.aft Cp1 hC rfl
  have tp2 := Cp2.lt
  replace Cp2 := Cell.aft Cp2 hC rfl
  have tp3 := Cp3.lt
  replace Cp3 := Cell.aft Cp3 hC rfl
  replace Cp4 := Cell.aft Cp4 hC rfl
  replace Cp5 := Cell.aft Cp5 hC rfl
  replace Cp6 := Cell.aft Cp6 hC rfl
  replace Cp7 := Cell.aft Cp7 hC rfl
  replace S5 := hk 5 _ (by kernel_rfl) S5
  replace S6 := hk 6 _ (by kernel_rfl) S6
  replace S7 := hk 7 _ (by kernel_rfl) S7
  replace S10 := hk 10 _ (by kernel_rfl) S10
  replace S11 := hk 11 _ (by kernel_rfl) S11
  replace S12 := hk 12 _ (by kernel_rfl) S12
  replace S13 := hk 13 _ (by kernel_rfl) S13
  replace S55 := hk 55 _ (by kernel_rfl) S55
  clear S56
  have S64 := gotV hz' 1 hh rfl rfl rfl rfl
  clear tp2 tp3
  replace HB := aft_call HB (RelC.below_nil hC)
  clear hC hk hh; replace hz := hz'; replace hd := hd'; clear hz' hd'
  refine wp_cond_false S64.ev ?_
  refine wp_seq ?_
  refine region_text (M := []) (
      rT (tV (.bool false)) ::
      rT (tV (.bool false)) ::
      []) hz hd (by kernel_rfl) ?_ ?_
  · refine ⟨?_, ?_, trivial⟩
    · exact sBin rfl rfl rfl hz rfl (Gd.none_ rfl) rfl (Src.out (t := 55) (by kernel_rfl) S55 rfl) (Src.const (.int .i64 2)) (fun w => by simp [go_sem])
    · exact sAs rfl rfl rfl hz rfl (Gd.none_ rfl) rfl (Src.dep (j := 0) (t := 83) (by kernel_rfl) (by kernel_rfl) rfl)
  intro a' γ' W' hz' hd' hC hk hh
  replace Cp1 := Cell.aft Cp1 hC rfl
  have tp2 := Cp2.lt
  replace Cp2 := Cell.aft Cp2 hC rfl
  have tp3 := Cp3.lt
  replace Cp3 := Cell.aft Cp3 hC rfl
  replace Cp4 := Cell.aft Cp4 hC rfl
  replace Cp5 := Cell.aft Cp5 hC rfl
  replace Cp6 := Cell.aft Cp6 hC rfl
  replace Cp7 := Cell.aft Cp7 hC rfl
  replace S5 := hk 5 _ (by kernel_rfl) S5
  replace S6 := hk 6 _ (by kernel_rfl) S6
  replace S7 := hk 7 _ (by kernel_rfl) S7
  replace S10 := hk 10 _ (by kernel_rfl) S10
  replace S11 := hk 11 _ (by kernel_rfl) S11
  replace S12 := hk 12 _ (by kernel_rfl) S12
  replace S13 := hk 13 _ (by kernel_rfl) S13
  replace S55 := hk 55 _ (by kernel_rfl) S55
  clear S64
  have S82 := gotV hz' 1 hh rfl rfl rfl rfl
  clear tp2 tp3
  replace HB := aft_call HB (RelC.below_nil hC)
  clear hC hk hh; replace hz := hz'; replace hd := hd'; clear hz' hd'
  refine wp_cond_false S82.ev ?_
  refine wp_seq ?_
  refine wp_seq ?_
  refine region_text (M := []) (
      rT (tV (.bool false)) ::
      rT (tV (.bool false)) ::
      []) hz hd (by kernel_rfl) ?_ ?_
  · refine ⟨?_, ?_, trivial⟩
    · exact sBin rfl rfl rfl hz rfl (Gd.none_ rfl) rfl (Src.out (t := 55) (by kernel_rfl) S55 rfl) (Src.const (.int .i64 3)) (fun w => by simp [go_sem])
    · exact sAs rfl rfl rfl hz rfl (Gd.none_ rfl) rfl (Src.dep (j := 0) (t := 91) (by kernel_rfl) (by kernel_rfl) rfl)
  intro a' γ' W' hz' hd' hC hk hh
  replace Cp1 := Cell.aft Cp1 hC rfl
  have tp2 := Cp2.lt
  replace Cp2 := Cell.aft Cp2 hC rfl
  have tp3 := Cp3.lt
  replace Cp3 := Cell.aft Cp3 hC rfl
  replace Cp4 := Cell.aft Cp4 hC rfl
  replace Cp5 := Cell.aft Cp5 hC rfl
  replace Cp6 := Cell.aft Cp6 hC rfl
  replace Cp7 := Cell.aft Cp7 hC rfl
  replace S5 := hk 5 _ (by kernel_rfl) S5
  replace S6 := hk 6 _ (by kernel_rfl) S6
  replace S7 := hk 7 _ (by kernel_rfl) S7
  replace S10 := hk 10 _ (by kernel_rfl) S10
  replace S11 := hk 11 _ (by kernel_rfl) S11
  replace S12 := hk 12 _ (by kernel_rfl) S12
  replace S13 := hk 13 _ (by kernel_rfl) S13
  replace S55 := hk 55 _ (by kernel_rfl) S55
  clear S82
  have S90 := gotV hz' 1 hh rfl rfl rfl rfl
  clear tp2 tp3
  replace HB := aft_call HB (RelC.below_nil hC)
  clear hC hk hh; replace hz := hz'; replace hd := hd'; clear hz' hd'
  refine wp_cond_false S90.ev ?_
  refine region_text (M := []) (
      rT (tV (.bool true)) ::
      rT (tV (.bool true)) ::
      []) hz hd (by kernel_rfl) ?_ ?_
  · refine ⟨?_, ?_, trivial⟩
    · exact sBin rfl rfl rfl hz rfl (Gd.none_ rfl) rfl (Src.out (t := 55) (by kernel_rfl) S55 rfl) (Src.const (.int .i64 4)) (fun w => by simp [go_sem])
    · exact sAs rfl rfl rfl hz rfl (Gd.none_ rfl) rfl (Src.dep (j := 0) (t := 92) (by kernel_rfl) (by kernel_rfl) rfl)
  intro a' γ' W' hz' hd' hC hk hh
  replace Cp1 := Cell.aft Cp1 hC rfl
  have tp2 := Cp2.lt
  replace Cp2 := Cell.aft Cp2 hC rfl
  have tp3 := Cp3.lt
  replace Cp3 := Cell.aft Cp3 hC rfl
  replace Cp4 := Cell.aft Cp4 hC rfl
  replace Cp5 := Cell.aft Cp5 hC rfl
  replace Cp6 := Cell.aft Cp6 hC rfl
  replace Cp7 := Cell.aft Cp7 hC rfl
  replace S5 := hk 5 _ (by kernel_rfl) S5
  replace S6 := hk 6 _ (by kernel_rfl) S6
  replace S7 := hk 7 _ (by kernel_rfl) S7
  replace S10 := hk 10 _ (by kernel_rfl) S10
  replace S11 := hk 11 _ (by kernel_rfl) S11
  replace S12 := hk 12 _ (by kernel_rfl) S12
  replace S13 := hk 13 _ (by kernel_rfl) S13
  replace S55 := hk 55 _ (by kernel_rfl) S55
  clear S90
  have S90 := gotV hz' 1 hh rfl rfl rfl rfl
  clear tp2 tp3
  replace HB := aft_call HB (RelC.below_nil hC)
  clear hC hk hh; replace hz := hz'; replace hd := hd'; clear hz' hd'
  refine wp_cond_true S90.ev ?_
  refine wp_seq ?_
  refine region_text (M := []) (
      rT (tN B64 1000000 (xs.getD i 0)) ::
      rT (tN B64 1000000 (xs.getD j 0)) ::
      rT (tT [tN B64 1000000 ((xs.getD i 0) / (xs.getD j 0)), tN B64 1000000 ((xs.getD i 0) % (xs.getD j 0)), tV (.bool (nz (xs.getD j 0)))]) ::
      rT (tT [tN B64 1000000 ((xs.getD i 0) / (xs.getD j 0)), tN B64 1000000 ((xs.getD i 0) % (xs.getD j 0)), tV (.bool (nz (xs.getD j 0)))]) ::
      rT (tN B64 1000000 ((xs.getD i 0) / (xs.getD j 0))) ::
      rT (tN B64 1000000 ((xs.getD i 0) % (xs.getD j 0))) ::
      rT (tV (.bool (nz (xs.getD j 0)))) ::
      rVar 7 25 1 ::
      rVar 8 25 1 ::
      rB 7 25 (tN B64 1000000 ((xs.getD i 0) / (xs.getD j 0))) (some 7) 8 ::
      rB 8 25 (tN B64 1000000 ((xs.getD i 0) % (xs.getD j 0))) (some 8) 9 ::
      rT (tV (.bool (nz (xs.getD j 0)))) ::
      []) hz hd (by kernel_rfl) ?_ ?_
  · refine ⟨?_, ?_, ?_, ?_, ?_, ?_, ?_, ?_, ?_, ?_, ?_, ?_, trivial⟩
    · exact sLoad rfl rfl rfl hz rfl (Gd.none_ rfl) rfl (Src.out (t := 10) (by kernel_rfl) S10 rfl) Cp4 rfl ld_n64
    · exact sLoad rfl rfl rfl hz rfl (Gd.none_ rfl) rfl (Src.out (t := 11) (by kernel_rfl) S11 rfl) Cp5 rfl ld_n64
    · exact sCall rfl rfl rfl hz rfl (Gd.none_ rfl) rfl Try.func15 (by kernel_rfl) (by kernel_rfl) fun a γ w U => (by show Calls _ _ #[a.eval (.tmp 94), a.eval (.tmp 95)] _ _; have hq : Calls _ _ #[a.eval (.tmp 94), a.eval (.tmp 95)] w (Ret _ w) := c_divmod (Src.at_ (Src.dep (j := 0) (t := 94) (by kernel_rfl) (by kernel_rfl) rfl) U) (Src.at_ (Src.dep (j := 1) (t := 95) (by kernel_rfl) (by kernel_rfl) rfl) U) (by decide) (by decide); simp only [e5] at hq; exact hq)
    · exact sMv rfl rfl rfl hz rfl (Gd.none_ rfl) rfl (Src.dep (j := 2) (t := 96) (by kernel_rfl) (by kernel_rfl) rfl)
    · exact sExt rfl rfl rfl hz rfl (Gd.none_ rfl) rfl (Src.dep (j := 3) (t := 93) (by kernel_rfl) (by kernel_rfl) rfl) rfl
    · exact sExt rfl rfl rfl hz rfl (Gd.none_ rfl) rfl (Src.dep (j := 3) (t := 93) (by kernel_rfl) (by kernel_rfl) rfl) rfl
    · exact sExt rfl rfl rfl hz rfl (Gd.none_ rfl) rfl (Src.dep (j := 3) (t := 93) (by kernel_rfl) (by kernel_rfl) rfl) rfl
    · exact sAlloc rfl rfl rfl hz rfl rfl rfl rfl nd_slice al_n64
    · exact sAlloc rfl rfl rfl hz rfl rfl rfl rfl nd_slice al_n64
    · exact sStore rfl rfl rfl rfl rfl (by kernel_rfl) (by kernel_rfl) rfl (Src.dep (j := 4) (t := 97) (by kernel_rfl) (by kernel_rfl) rfl) st_n64
    · exact sStore rfl rfl rfl rfl rfl (by kernel_rfl) (by kernel_rfl) rfl (Src.dep (j := 5) (t := 98) (by kernel_rfl) (by kernel_rfl) rfl) st_n64
    · exact sAs rfl rfl rfl hz rfl (Gd.none_ rfl) rfl (Src.dep (j := 6) (t := 99) (by kernel_rfl) (by kernel_rfl) rfl)
  intro a' γ' W' hz' hd' hC hk hh
  replace Cp1 := Cell.aft Cp1 hC rfl
  have tp2 := Cp2.lt
  replace Cp2 := Cell.aft Cp2 hC rfl
  have tp3 := Cp3.lt
  replace Cp3 := Cell.aft Cp3 hC rfl
  replace Cp4 := Cell.aft Cp4 hC rfl
  clear Cp5
  replace Cp6 := Cell.aft Cp6 hC rfl
  replace Cp7 := Cell.aft Cp7 hC rfl
  replace S5 := hk 5 _ (by kernel_rfl) S5
  replace S6 := hk 6 _ (by kernel_rfl) S6
  replace S7 := hk 7 _ (by kernel_rfl) S7
  replace S10 := hk 10 _ (by kernel_rfl) S10
  clear S11
  replace S12 := hk 12 _ (by kernel_rfl) S12
  replace S13 := hk 13 _ (by kernel_rfl) S13
  clear S55
  clear S90
  obtain ⟨p8, S16, Cp8, lp8, gp8⟩ := gotB hz' 9 hC hh rfl rfl rfl rfl rfl rfl
  obtain ⟨p9, S17, Cp9, lp9, gp9⟩ := gotB hz' 10 hC hh rfl rfl rfl rfl rfl rfl
  have n_p8_p2 : p8 ≠ p2 := by omega
  have n_p8_p3 : p8 ≠ p3 := by omega
  have n_p9_p2 : p9 ≠ p2 := by omega
  have n_p9_p3 : p9 ≠ p3 := by omega
  clear lp8 gp8 lp9 gp9
  clear tp2 tp3
  replace HB := aft_call HB (RelC.below_nil hC)
  clear hC hk hh; replace hz := hz'; replace hd := hd'; clear hz' hd'
  refine wp_seq ?_
  refine wp_seq ?_
  refine region_text (M := []) (
      rT (tN B32 1000000 (xs.getD j 0)) ::
      rT (tV (.bool false)) ::
      []) hz hd (by kernel_rfl) ?_ ?_
  · refine ⟨?_, ?_, trivial⟩
    · exact sLoad rfl rfl rfl hz rfl (Gd.none_ rfl) rfl (Src.out (t := 13) (by kernel_rfl) S13 rfl) Cp7 rfl ld_n32
    · exact sCall rfl rfl rfl hz rfl (Gd.none_ rfl) rfl Try.func68 (by kernel_rfl) (by kernel_rfl) fun a γ w U => (by show Calls _ _ #[a.eval (.tmp 100)] _ _; have hq : Calls _ _ #[a.eval (.tmp 100)] w (Ret _ w) := d_zero (Src.at_ (Src.dep (j := 0) (t := 100) (by kernel_rfl) (by kernel_rfl) rfl) U); simp only [e6] at hq; exact hq)
  intro a' γ' W' hz' hd' hC hk hh
  replace Cp1 := Cell.aft Cp1 hC rfl
  have tp2 := Cp2.lt
  replace Cp2 := Cell.aft Cp2 hC rfl
  have tp3 := Cp3.lt
  replace Cp3 := Cell.aft Cp3 hC rfl
  replace Cp4 := Cell.aft Cp4 hC rfl
  replace Cp6 := Cell.aft Cp6 hC rfl
  replace Cp7 := Cell.aft Cp7 hC rfl
  replace Cp8 := Cell.aft Cp8 hC rfl
  replace Cp9 := Cell.aft Cp9 hC rfl
  replace S5 := hk 5 _ (by kernel_rfl) S5
  replace S6 := hk 6 _ (by kernel_rfl) S6
  replace S7 := hk 7 _ (by kernel_rfl) S7
  replace S10 := hk 10 _ (by kernel_rfl) S10
  replace S12 := hk 12 _ (by kernel_rfl) S12
  replace S13 := hk 13 _ (by kernel_rfl) S13
  replace S16 := hk 16 _ (by kernel_rfl) S16
  replace S17 := hk 17 _ (by kernel_rfl) S17
  have S101 := gotV hz' 1 hh rfl rfl rfl rfl
  clear tp2 tp3
  replace HB := aft_call HB (RelC.below_nil hC)
  clear hC hk hh; replace hz := hz'; replace hd := hd'; clear hz' hd'
  refine wp_cond_false S101.ev ?_
  refine wp_skip ?_
  refine wp_seq ?_
  refine region_text (M := []) (
      rT (tN B32 1000000 (xs.getD i 0)) ::
      rT (tN B32 1000000 (xs.getD j 0)) ::
      rT (tT [tN B32 1000000 ((xs.getD i 0) / (xs.getD j 0)), tN B32 1000000 ((xs.getD i 0) % (xs.getD j 0))]) ::
      rT (tT [tN B32 1000000 ((xs.getD i 0) / (xs.getD j 0)), tN B32 1000000 ((xs.getD i 0) % (xs.getD j 0))]) ::
      rT (tN B32 1000000 ((xs.getD i 0) / (xs.getD j 0))) ::
      rT (tN B32 1000000 ((xs.getD i 0) % (xs.getD j 0))) ::
      rVar 6 44 1 ::
      rVar 7 44 1 ::
      rB 6 44 (tN B32 1000000 ((xs.getD i 0) / (xs.getD j 0))) (some 6) 7 ::
      rB 7 44 (tN B32 1000000 ((xs.getD i 0) % (xs.getD j 0))) (some 7) 8 ::
      []) hz hd (by kernel_rfl) ?_ ?_
  · refine ⟨?_, ?_, ?_, ?_, ?_, ?_, ?_, ?_, ?_, ?_, trivial⟩
    · exact sLoad rfl rfl rfl hz rfl (Gd.none_ rfl) rfl (Src.out (t := 12) (by kernel_rfl) S12 rfl) Cp6 rfl ld_n32
    · exact sLoad rfl rfl rfl hz rfl (Gd.none_ rfl) rfl (Src.out (t := 13) (by kernel_rfl) S13 rfl) Cp7 rfl ld_n32
    · exact sCall rfl rfl rfl hz rfl (Gd.none_ rfl) rfl Try.func69 (by kernel_rfl) (by kernel_rfl) fun a γ w U => (by show Calls _ _ #[a.eval (.tmp 105), a.eval (.tmp 106)] _ _; exact d_divmod (Src.at_ (Src.dep (j := 0) (t := 105) (by kernel_rfl) (by kernel_rfl) rfl) U) (Src.at_ (Src.dep (j := 1) (t := 106) (by kernel_rfl) (by kernel_rfl) rfl) U) (by decide) (by decide) e7)
    · exact sMv rfl rfl rfl hz rfl (Gd.none_ rfl) rfl (Src.dep (j := 2) (t := 107) (by kernel_rfl) (by kernel_rfl) rfl)
    · exact sExt rfl rfl rfl hz rfl (Gd.none_ rfl) rfl (Src.dep (j := 3) (t := 104) (by kernel_rfl) (by kernel_rfl) rfl) rfl
    · exact sExt rfl rfl rfl hz rfl (Gd.none_ rfl) rfl (Src.dep (j := 3) (t := 104) (by kernel_rfl) (by kernel_rfl) rfl) rfl
    · exact sAlloc rfl rfl rfl hz rfl rfl rfl rfl nd_slice al_n32
    · exact sAlloc rfl rfl rfl hz rfl rfl rfl rfl nd_slice al_n32
    · exact sStore rfl rfl rfl rfl rfl (by kernel_rfl) (by kernel_rfl) rfl (Src.dep (j := 4) (t := 108) (by kernel_rfl) (by kernel_rfl) rfl) st_n32
    · exact sStore rfl rfl rfl rfl rfl (by kernel_rfl) (by kernel_rfl) rfl (Src.dep (j := 5) (t := 109) (by kernel_rfl) (by kernel_rfl) rfl) st_n32
  intro a' γ' W' hz' hd' hC hk hh
  replace Cp1 := Cell.aft Cp1 hC rfl
  have tp2 := Cp2.lt
  replace Cp2 := Cell.aft Cp2 hC rfl
  have tp3 := Cp3.lt
  replace Cp3 := Cell.aft Cp3 hC rfl
  replace Cp4 := Cell.aft Cp4 hC rfl
  replace Cp6 := Cell.aft Cp6 hC rfl
  clear Cp7
  replace Cp8 := Cell.aft Cp8 hC rfl
  replace Cp9 := Cell.aft Cp9 hC rfl
  replace S5 := hk 5 _ (by kernel_rfl) S5
  replace S6 := hk 6 _ (by kernel_rfl) S6
  replace S7 := hk 7 _ (by kernel_rfl) S7
  replace S10 := hk 10 _ (by kernel_rfl) S10
  replace S12 := hk 12 _ (by kernel_rfl) S12
  clear S13
  replace S16 := hk 16 _ (by kernel_rfl) S16
  replace S17 := hk 17 _ (by kernel_rfl) S17
  clear S101
  obtain ⟨p10, S19, Cp10, lp10, gp10⟩ := gotB hz' 8 hC hh rfl rfl rfl rfl rfl rfl
  obtain ⟨p11, S20, Cp11, lp11, gp11⟩ := gotB hz' 9 hC hh rfl rfl rfl rfl rfl rfl
  have n_p10_p2 : p10 ≠ p2 := by omega
  have n_p10_p3 : p10 ≠ p3 := by omega
  have n_p11_p2 : p11 ≠ p2 := by omega
  have n_p11_p3 : p11 ≠ p3 := by omega
  clear lp10 gp10 lp11 gp11
  clear tp2 tp3
  replace HB := aft_call HB (RelC.below_nil hC)
  clear hC hk hh; replace hz := hz'; replace hd := hd'; clear hz' hd'
  refine wp_seq ?_
  refine wp_seq ?_
  refine region_text (M := []) (
      rT (tV (.pointer (some ⟨p1, 0, none⟩))) ::
      rT (tV (.int .i64 ok)) ::
      rT (tV (.int .i64 4)) ::
      rT (tV (.bool false)) ::
      []) hz hd (by kernel_rfl) ?_ ?_
  · refine ⟨?_, ?_, ?_, ?_, trivial⟩
    · exact sFA rfl rfl rfl hz rfl (Gd.none_ rfl) rfl (Src.out (t := 5) (by kernel_rfl) S5 rfl) (fun w => by simp [go_sem])
    · exact sLoadF rfl rfl rfl hz rfl (Gd.none_ rfl) rfl (Src.dep (j := 0) (t := 110) (by kernel_rfl) (by kernel_rfl) rfl) Cp1 rfl rfl (fun w h => by simp [go_sem, h])
    · exact sBin rfl rfl rfl hz rfl (Gd.none_ rfl) rfl (Src.dep (j := 1) (t := 111) (by kernel_rfl) (by kernel_rfl) rfl) (Src.const (.int .i64 7)) (fun w => by simp [go_sem, ek])
    · exact sBin rfl rfl rfl hz rfl (Gd.none_ rfl) rfl (Src.dep (j := 2) (t := 112) (by kernel_rfl) (by kernel_rfl) rfl) (Src.const (.int .i64 3)) (fun w => by simp [go_sem])
  intro a' γ' W' hz' hd' hC hk hh
  replace Cp1 := Cell.aft Cp1 hC rfl
  have tp2 := Cp2.lt
  replace Cp2 := Cell.aft Cp2 hC rfl
  have tp3 := Cp3.lt
  replace Cp3 := Cell.aft Cp3 hC rfl
  replace Cp4 := Cell.aft Cp4 hC rfl
  replace Cp6 := Cell.aft Cp6 hC rfl
  replace Cp8 := Cell.aft Cp8 hC rfl
  replace Cp9 := Cell.aft Cp9 hC rfl
  replace Cp10 := Cell.aft Cp10 hC rfl
  replace Cp11 := Cell.aft Cp11 hC rfl
  replace S5 := hk 5 _ (by kernel_rfl) S5
  replace S6 := hk 6 _ (by kernel_rfl) S6
  replace S7 := hk 7 _ (by kernel_rfl) S7
  replace S10 := hk 10 _ (by kernel_rfl) S10
  replace S12 := hk 12 _ (by kernel_rfl) S12
  replace S16 := hk 16 _ (by kernel_rfl) S16
  replace S17 := hk 17 _ (by kernel_rfl) S17
  replace S19 := hk 19 _ (by kernel_rfl) S19
  replace S20 := hk 20 _ (by kernel_rfl) S20
  have S113 := gotV hz' 3 hh rfl rfl rfl rfl
  clear tp2 tp3
  replace HB := aft_call HB (RelC.below_nil hC)
  clear hC hk hh; replace hz := hz'; replace hd := hd'; clear hz' hd'
  refine wp_cond_false S113.ev ?_
  refine wp_skip ?_
  refine wp_seq ?_
  refine region_drawn (M := [p2, p3]) (
      rT (tN B64 1000000 ((xs.getD i 0) % (xs.getD j 0))) ::
      rT (tN B32 1000000 ((xs.getD i 0) % (xs.getD j 0))) ::
      rE 0 25 (tN B64 1000000 ((xs.getD i 0) % (xs.getD j 0))) p2 ::
      rE 1 44 (tN B32 1000000 ((xs.getD i 0) % (xs.getD j 0))) p3 ::
      []) hz hd (by kernel_rfl) (by kernel_rfl) ?_ ?_
  · refine ⟨?_, ?_, ?_, ?_, trivial⟩
    · exact sLoad rfl rfl rfl hz rfl (Gd.none_ rfl) rfl (Src.out (t := 17) (by kernel_rfl) S17 rfl) Cp9 (by simp [tagOf, n_p9_p2, n_p9_p3]) ld_n64
    · exact sLoad rfl rfl rfl hz rfl (Gd.none_ rfl) rfl (Src.out (t := 20) (by kernel_rfl) S20 rfl) Cp11 (by simp [tagOf, n_p11_p2, n_p11_p3]) ld_n32
    · exact sStoreE rfl rfl rfl rfl rfl (Src.out (t := 6) (by kernel_rfl) S6 rfl) (by simp [tagOf]) (Cp2.var tN_nd) (Src.dep (j := 0) (t := 116) (by kernel_rfl) (by kernel_rfl) rfl) st_n64
    · exact sStoreE rfl rfl rfl rfl rfl (Src.out (t := 7) (by kernel_rfl) S7 rfl) (by simp [tagOf, n_p3_p2]) (Cp3.var tN_nd) (Src.dep (j := 1) (t := 117) (by kernel_rfl) (by kernel_rfl) rfl) st_n32
  intro a' γ' W' hz' hd' hC hk hh
  replace Cp1 := Cell.aft Cp1 hC (by simp [tagOf, n_p1_p2, n_p1_p3])
  replace Cp2 := gotE (T := tN B64 1000000 ((xs.getD i 0) % (xs.getD j 0))) (id := 25) (p := p2) 2 hh rfl rfl
  replace Cp3 := gotE (T := tN B32 1000000 ((xs.getD i 0) % (xs.getD j 0))) (id := 44) (p := p3) 3 hh rfl rfl
  replace Cp4 := Cell.aft Cp4 hC (by simp [tagOf, n_p4_p2, n_p4_p3])
  replace Cp6 := Cell.aft Cp6 hC (by simp [tagOf, n_p6_p2, n_p6_p3])
  clear Cp8
  clear Cp9
  clear Cp10
  clear Cp11
  replace S5 := hk 5 _ (by kernel_rfl) S5
  replace S6 := hk 6 _ (by kernel_rfl) S6
  replace S7 := hk 7 _ (by kernel_rfl) S7
  replace S10 := hk 10 _ (by kernel_rfl) S10
  replace S12 := hk 12 _ (by kernel_rfl) S12
  clear S16
  clear S17
  clear S19
  clear S20
  clear S113
  replace HB := RelC.aftM HB hC (by intro m hm; simp at hm; rcases hm with rfl | rfl <;> assumption)
  clear hC hk hh; replace hz := hz'; replace hd := hd'; clear hz' hd'
  refine wp_ret ?_
  exact ret2n (by kernel_rfl) S6 S7 hd Cp2 Cp3 HB

set_option maxRecDepth 10000 in
set_option maxHeartbeats 2000000 in
theorem after5 {gl gm n cl cm ia ja i j sn : Nat} {ok oi oj os : Int} {xs : List Nat} {w : World} (HL : Rw B64 25 1000000 gl xs w) (HM : Rw B32 44 1000000 gm xs w) (hn0 : ¬ n = 0) (hi : i < xs.length) (hj : j < xs.length) (hi2 : i < n) (hj2 : j < n)
    (ei : bits .and .i64 oi 255 = (ia : Int)) (ej : bits .and .i64 oj 255 = (ja : Int)) (es : bits .and .i64 os 127 = (sn : Int)) (ri : (ia : Int).tmod (n : Int) = (i : Int)) (rj : (ja : Int).tmod (n : Int) = (j : Int)) (ek : bits .and .i64 ok 7 = 5)  :
    Calls Try.prog 44 #[.slice (some ⟨gl, 0, none⟩) n cl, .slice (some ⟨gm, 0, none⟩) n cm, .agg #[.int .i64 ok, .int .i64 oi, .int .i64 oj, .int .i64 os]] w (Ret (tT [tN B64 1000000 (Nat.gcd (xs.getD i 0) (xs.getD j 0)), tN B32 1000000 (Nat.gcd (xs.getD i 0) (xs.getD j 0))]) w) := by
  refine enter Try.func44 rfl Try.ntmps44 (by simp) ?_
  intro a hz hd ha
  have S0 := ha 0 _ rfl
  have S1 := ha 1 _ rfl
  have S2 := ha 2 _ rfl
  clear ha
  have HB : Below w.heap.size w w := Below.refl _ _
  refine wp_seq ?_
  refine region_text (M := []) (
      rB 0 74 (tV (.agg #[.int .i64 ok, .int .i64 oi, .int .i64 oj, .int .i64 os])) none 0 ::
      rB 1 25 (tN B64 0 0) none 0 ::
      rB 2 44 (tN B32 0 0) none 0 ::
      []) hz hd (by kernel_rfl) ?_ ?_
  · refine ⟨?_, ?_, ?_, trivial⟩
    · exact sBox rfl rfl rfl hz rfl rfl rfl (Src.out (t := 2) (by kernel_rfl) S2 rfl) box_op
    · exact sNew rfl rfl rfl hz rfl rfl rfl (fun _ => tN_nil) al_n64
    · exact sNew rfl rfl rfl hz rfl rfl rfl (fun _ => tN_nil) al_n32
  intro a' γ' W' hz' hd' hC hk hh
  replace S0 := hk 0 _ (by kernel_rfl) S0
  replace S1 := hk 1 _ (by kernel_rfl) S1
  clear S2
  replace HL := Rw.aft HL hC rfl
  replace HM := Rw.aft HM hC rfl
  obtain ⟨p1, S5, Cp1, lp1, gp1⟩ := gotB hz' 0 hC hh rfl rfl rfl rfl rfl rfl
  obtain ⟨p2, S6, Cp2, lp2, gp2⟩ := gotB hz' 1 hC hh rfl rfl rfl rfl rfl rfl
  obtain ⟨p3, S7, Cp3, lp3, gp3⟩ := gotB hz' 2 hC hh rfl rfl rfl rfl rfl rfl
  have n_p1_p2 : p1 ≠ p2 := by intro e; rw [e, gp2] at gp1; omega
  have n_p1_p3 : p1 ≠ p3 := by intro e; rw [e, gp3] at gp1; omega
  have n_p2_p3 : p2 ≠ p3 := by intro e; rw [e, gp3] at gp2; omega
  have n_p3_p2 : p3 ≠ p2 := by intro e; rw [e, gp2] at gp3; omega
  have bp2 : w.heap.size ≤ p2 := Nat.le_trans HB.size lp2
  have bp3 : w.heap.size ≤ p3 := Nat.le_trans HB.size lp3
  clear lp1 gp1 lp2 gp2 lp3 gp3
  replace HB := aft_call HB (RelC.below_nil hC)
  clear hC hk hh; replace hz := hz'; replace hd := hd'; clear hz' hd'
  refine wp_seq ?_
  refine region_drawn (M := []) (
      rT (tV (.pointer (some ⟨p1, 1, none⟩))) ::
      rT (tV (.int .i64 oi)) ::
      rT (tV (.int .i64 (ia : Int))) ::
      rT (tV (.slice (some ⟨gl, 0, none⟩) n cl)) ::
      rT (tV (.int .i64 (n : Int))) ::
      rT (tV (.int .i64 (i : Int))) ::
      rT (tV (.pointer (some ⟨p1, 2, none⟩))) ::
      rT (tV (.int .i64 oj)) ::
      rT (tV (.int .i64 (ja : Int))) ::
      rT (tV (.slice (some ⟨gl, 0, none⟩) n cl)) ::
      rT (tV (.int .i64 (n : Int))) ::
      rT (tV (.int .i64 (j : Int))) ::
      rT (tV (.int .i64 (i : Int))) ::
      rT (tV (.int .i64 (j : Int))) ::
      []) hz hd (by kernel_rfl) (by kernel_rfl) ?_ ?_
  · refine ⟨?_, ?_, ?_, ?_, ?_, ?_, ?_, ?_, ?_, ?_, ?_, ?_, ?_, ?_, trivial⟩
    · exact sFA rfl rfl rfl hz rfl (Gd.none_ rfl) rfl (Src.out (t := 5) (by kernel_rfl) S5 rfl) (fun w => by simp [go_sem])
    · exact sLoadF rfl rfl rfl hz rfl (Gd.none_ rfl) rfl (Src.dep (j := 0) (t := 25) (by kernel_rfl) (by kernel_rfl) rfl) Cp1 rfl rfl (fun w h => by simp [go_sem, h])
    · exact sBin rfl rfl rfl hz rfl (Gd.none_ rfl) rfl (Src.dep (j := 1) (t := 26) (by kernel_rfl) (by kernel_rfl) rfl) (Src.const (.int .i64 255)) (fun w => by simp [go_sem, ei])
    · exact sMv rfl rfl rfl hz rfl (Gd.none_ rfl) rfl (Src.out (t := 0) (by kernel_rfl) S0 rfl)
    · exact sLen rfl rfl rfl hz rfl (Gd.none_ rfl) rfl (Src.dep (j := 3) (t := 28) (by kernel_rfl) (by kernel_rfl) rfl) (fun v w h => ⟨_, _, h⟩) len64
    · exact sBin rfl rfl rfl hz rfl (Gd.none_ rfl) rfl (Src.dep (j := 2) (t := 27) (by kernel_rfl) (by kernel_rfl) rfl) (Src.dep (j := 4) (t := 29) (by kernel_rfl) (by kernel_rfl) rfl) (fun w => by simp [go_sem, hn0, ri])
    · exact sFA rfl rfl rfl hz rfl (Gd.none_ rfl) rfl (Src.out (t := 5) (by kernel_rfl) S5 rfl) (fun w => by simp [go_sem])
    · exact sLoadF rfl rfl rfl hz rfl (Gd.none_ rfl) rfl (Src.dep (j := 6) (t := 31) (by kernel_rfl) (by kernel_rfl) rfl) Cp1 rfl rfl (fun w h => by simp [go_sem, h])
    · exact sBin rfl rfl rfl hz rfl (Gd.none_ rfl) rfl (Src.dep (j := 7) (t := 32) (by kernel_rfl) (by kernel_rfl) rfl) (Src.const (.int .i64 255)) (fun w => by simp [go_sem, ej])
    · exact sMv rfl rfl rfl hz rfl (Gd.none_ rfl) rfl (Src.out (t := 0) (by kernel_rfl) S0 rfl)
    · exact sLen rfl rfl rfl hz rfl (Gd.none_ rfl) rfl (Src.dep (j := 9) (t := 34) (by kernel_rfl) (by kernel_rfl) rfl) (fun v w h => ⟨_, _, h⟩) len64
    · exact sBin rfl rfl rfl hz rfl (Gd.none_ rfl) rfl (Src.dep (j := 8) (t := 33) (by kernel_rfl) (by kernel_rfl) rfl) (Src.dep (j := 10) (t := 35) (by kernel_rfl) (by kernel_rfl) rfl) (fun w => by simp [go_sem, hn0, rj])
    · exact sAs rfl rfl rfl hz rfl (Gd.none_ rfl) rfl (Src.dep (j := 5) (t := 30) (by kernel_rfl) (by kernel_rfl) rfl)
    · exact sAs rfl rfl rfl hz rfl (Gd.none_ rfl) rfl (Src.dep (j := 11) (t := 36) (by kernel_rfl) (by kernel_rfl) rfl)
  intro a' γ' W' hz' hd' hC hk hh
  replace Cp1 := Cell.aft Cp1 hC rfl
  have tp2 := Cp2.lt
  replace Cp2 := Cell.aft Cp2 hC rfl
  have tp3 := Cp3.lt
  replace Cp3 := Cell.aft Cp3 hC rfl
  replace S0 := hk 0 _ (by kernel_rfl) S0
  replace S1 := hk 1 _ (by kernel_rfl) S1
  replace S5 := hk 5 _ (by kernel_rfl) S5
  replace S6 := hk 6 _ (by kernel_rfl) S6
  replace S7 := hk 7 _ (by kernel_rfl) S7
  replace HL := Rw.aft HL hC rfl
  replace HM := Rw.aft HM hC rfl
  have S8 := gotV hz' 12 hh rfl rfl rfl rfl
  have S9 := gotV hz' 13 hh rfl rfl rfl rfl
  clear tp2 tp3
  replace HB := aft_call HB (RelC.below_nil hC)
  clear hC hk hh; replace hz := hz'; replace hd := hd'; clear hz' hd'
  refine wp_seq ?_
  refine region_drawn (M := []) (
      rT (tV (.slice (some ⟨gl, 0, none⟩) n cl)) ::
      rT (tV (.int .i64 (i : Int))) ::
      rT (tV (.pointer (some ⟨gl, i, none⟩))) ::
      rT (tN B64 1000000 (xs.getD i 0)) ::
      rT (tV (.slice (some ⟨gl, 0, none⟩) n cl)) ::
      rT (tV (.int .i64 (j : Int))) ::
      rT (tV (.pointer (some ⟨gl, j, none⟩))) ::
      rT (tN B64 1000000 (xs.getD j 0)) ::
      rT (tV (.slice (some ⟨gm, 0, none⟩) n cm)) ::
      rT (tV (.int .i64 (i : Int))) ::
      rT (tV (.pointer (some ⟨gm, i, none⟩))) ::
      rT (tN B32 1000000 (xs.getD i 0)) ::
      rT (tV (.slice (some ⟨gm, 0, none⟩) n cm)) ::
      rT (tV (.int .i64 (j : Int))) ::
      rT (tV (.pointer (some ⟨gm, j, none⟩))) ::
      rT (tN B32 1000000 (xs.getD j 0)) ::
      rVar 16 25 1 ::
      rVar 17 25 1 ::
      rVar 18 44 1 ::
      rVar 19 44 1 ::
      rB 16 25 (tN B64 1000000 (xs.getD i 0)) (some 16) 17 ::
      rB 17 25 (tN B64 1000000 (xs.getD j 0)) (some 17) 18 ::
      rB 18 44 (tN B32 1000000 (xs.getD i 0)) (some 18) 19 ::
      rB 19 44 (tN B32 1000000 (xs.getD j 0)) (some 19) 20 ::
      []) hz hd (by kernel_rfl) (by kernel_rfl) ?_ ?_
  · refine ⟨?_, ?_, ?_, ?_, ?_, ?_, ?_, ?_, ?_, ?_, ?_, ?_, ?_, ?_, ?_, ?_, ?_, ?_, ?_, ?_, ?_, ?_, ?_, ?_, trivial⟩
    · exact sMv rfl rfl rfl hz rfl (Gd.none_ rfl) rfl (Src.out (t := 0) (by kernel_rfl) S0 rfl)
    · exact sMv rfl rfl rfl hz rfl (Gd.none_ rfl) rfl (Src.out (t := 8) (by kernel_rfl) S8 rfl)
    · exact sIdx rfl rfl rfl hz rfl (Gd.none_ rfl) rfl (Src.dep (j := 0) (t := 37) (by kernel_rfl) (by kernel_rfl) rfl) (Src.dep (j := 1) (t := 38) (by kernel_rfl) (by kernel_rfl) rfl) (ia64 hi2)
    · exact sLoadRow rfl rfl rfl hz rfl (Gd.none_ rfl) rfl (Src.dep (j := 2) (t := 39) (by kernel_rfl) (by kernel_rfl) rfl) HL rfl hi ldr64
    · exact sMv rfl rfl rfl hz rfl (Gd.none_ rfl) rfl (Src.out (t := 0) (by kernel_rfl) S0 rfl)
    · exact sMv rfl rfl rfl hz rfl (Gd.none_ rfl) rfl (Src.out (t := 9) (by kernel_rfl) S9 rfl)
    · exact sIdx rfl rfl rfl hz rfl (Gd.none_ rfl) rfl (Src.dep (j := 4) (t := 41) (by kernel_rfl) (by kernel_rfl) rfl) (Src.dep (j := 5) (t := 42) (by kernel_rfl) (by kernel_rfl) rfl) (ia64 hj2)
    · exact sLoadRow rfl rfl rfl hz rfl (Gd.none_ rfl) rfl (Src.dep (j := 6) (t := 43) (by kernel_rfl) (by kernel_rfl) rfl) HL rfl hj ldr64
    · exact sMv rfl rfl rfl hz rfl (Gd.none_ rfl) rfl (Src.out (t := 1) (by kernel_rfl) S1 rfl)
    · exact sMv rfl rfl rfl hz rfl (Gd.none_ rfl) rfl (Src.out (t := 8) (by kernel_rfl) S8 rfl)
    · exact sIdx rfl rfl rfl hz rfl (Gd.none_ rfl) rfl (Src.dep (j := 8) (t := 45) (by kernel_rfl) (by kernel_rfl) rfl) (Src.dep (j := 9) (t := 46) (by kernel_rfl) (by kernel_rfl) rfl) (ia32 hi2)
    · exact sLoadRow rfl rfl rfl hz rfl (Gd.none_ rfl) rfl (Src.dep (j := 10) (t := 47) (by kernel_rfl) (by kernel_rfl) rfl) HM rfl hi ldr32
    · exact sMv rfl rfl rfl hz rfl (Gd.none_ rfl) rfl (Src.out (t := 1) (by kernel_rfl) S1 rfl)
    · exact sMv rfl rfl rfl hz rfl (Gd.none_ rfl) rfl (Src.out (t := 9) (by kernel_rfl) S9 rfl)
    · exact sIdx rfl rfl rfl hz rfl (Gd.none_ rfl) rfl (Src.dep (j := 12) (t := 49) (by kernel_rfl) (by kernel_rfl) rfl) (Src.dep (j := 13) (t := 50) (by kernel_rfl) (by kernel_rfl) rfl) (ia32 hj2)
    · exact sLoadRow rfl rfl rfl hz rfl (Gd.none_ rfl) rfl (Src.dep (j := 14) (t := 51) (by kernel_rfl) (by kernel_rfl) rfl) HM rfl hj ldr32
    · exact sAlloc rfl rfl rfl hz rfl rfl rfl rfl nd_slice al_n64
    · exact sAlloc rfl rfl rfl hz rfl rfl rfl rfl nd_slice al_n64
    · exact sAlloc rfl rfl rfl hz rfl rfl rfl rfl nd_slice al_n32
    · exact sAlloc rfl rfl rfl hz rfl rfl rfl rfl nd_slice al_n32
    · exact sStore rfl rfl rfl rfl rfl (by kernel_rfl) (by kernel_rfl) rfl (Src.dep (j := 3) (t := 40) (by kernel_rfl) (by kernel_rfl) rfl) st_n64
    · exact sStore rfl rfl rfl rfl rfl (by kernel_rfl) (by kernel_rfl) rfl (Src.dep (j := 7) (t := 44) (by kernel_rfl) (by kernel_rfl) rfl) st_n64
    · exact sStore rfl rfl rfl rfl rfl (by kernel_rfl) (by kernel_rfl) rfl (Src.dep (j := 11) (t := 48) (by kernel_rfl) (by kernel_rfl) rfl) st_n32
    · exact sStore rfl rfl rfl rfl rfl (by kernel_rfl) (by kernel_rfl) rfl (Src.dep (j := 15) (t := 52) (by kernel_rfl) (by kernel_rfl) rfl) st_n32
  intro a' γ' W' hz' hd' hC hk hh
  replace Cp1 := Cell.aft Cp1 hC rfl
  have tp2 := Cp2.lt
  replace Cp2 := Cell.aft Cp2 hC rfl
  have tp3 := Cp3.lt
  replace Cp3 := Cell.aft Cp3 hC rfl
  clear S0
  clear S1
  replace S5 := hk 5 _ (by kernel_rfl) S5
  replace S6 := hk 6 _ (by kernel_rfl) S6
  replace S7 := hk 7 _ (by kernel_rfl) S7
  clear S8
  clear S9
  clear HL
  clear HM
  obtain ⟨p4, S10, Cp4, lp4, gp4⟩ := gotB hz' 20 hC hh rfl rfl rfl rfl rfl rfl
  obtain ⟨p5, S11, Cp5, lp5, gp5⟩ := gotB hz' 21 hC hh rfl rfl rfl rfl rfl rfl
  obtain ⟨p6, S12, Cp6, lp6, gp6⟩ := gotB hz' 22 hC hh rfl rfl rfl rfl rfl rfl
  obtain ⟨p7, S13, Cp7, lp7, gp7⟩ := gotB hz' 23 hC hh rfl rfl rfl rfl rfl rfl
  have n_p4_p2 : p4 ≠ p2 := by omega
  have n_p4_p3 : p4 ≠ p3 := by omega
  have n_p5_p2 : p5 ≠ p2 := by omega
  have n_p5_p3 : p5 ≠ p3 := by omega
  have n_p6_p2 : p6 ≠ p2 := by omega
  have n_p6_p3 : p6 ≠ p3 := by omega
  have n_p7_p2 : p7 ≠ p2 := by omega
  have n_p7_p3 : p7 ≠ p3 := by omega
  clear lp4 gp4 lp5 gp5 lp6 gp6 lp7 gp7
  clear tp2 tp3
  replace HB := aft_call HB (RelC.below_nil hC)
  clear hC hk hh; replace hz := hz'; replace hd := hd'; clear hz' hd'
  refine wp_seq ?_
  refine wp_seq ?_
  refine region_text (M := []) (
      rT (tV (.pointer (some ⟨p1, 0, none⟩))) ::
      rT (tV (.int .i64 ok)) ::
      rT (tV (.int .i64 5)) ::
      []) hz hd (by kernel_rfl) ?_ ?_
  · refine ⟨?_, ?_, ?_, trivial⟩
    · exact sFA rfl rfl rfl hz rfl (Gd.none_ rfl) rfl (Src.out (t := 5) (by kernel_rfl) S5 rfl) (fun w => by simp [go_sem])
    · exact sLoadF rfl rfl rfl hz rfl (Gd.none_ rfl) rfl (Src.dep (j := 0) (t := 53) (by kernel_rfl) (by kernel_rfl) rfl) Cp1 rfl rfl (fun w h => by simp [go_sem, h])
    · exact sBin rfl rfl rfl hz rfl (Gd.none_ rfl) rfl (Src.dep (j := 1) (t := 54) (by kernel_rfl) (by kernel_rfl) rfl) (Src.const (.int .i64 7)) (fun w => by simp [go_sem, ek])
  intro a' γ' W' hz' hd' hC hk hh
  replace Cp1 := Cell.aft Cp1 hC rfl
  have tp2 := Cp2.lt
  replace Cp2 := Cell.aft Cp2 hC rfl
  have tp3 := Cp3.lt
  replace Cp3 := Cell.aft Cp3 hC rfl
  replace Cp4 := Cell.aft Cp4 hC rfl
  replace Cp5 := Cell.aft Cp5 hC rfl
  replace Cp6 := Cell.aft Cp6 hC rfl
  replace Cp7 := Cell.aft Cp7 hC rfl
  replace S5 := hk 5 _ (by kernel_rfl) S5
  replace S6 := hk 6 _ (by kernel_rfl) S6
  replace S7 := hk 7 _ (by kernel_rfl) S7
  replace S10 := hk 10 _ (by kernel_rfl) S10
  replace S11 := hk 11 _ (by kernel_rfl) S11
  replace S12 := hk 12 _ (by kernel_rfl) S12
  replace S13 := hk 13 _ (by kernel_rfl) S13
  have S55 := gotV hz' 2 hh rfl rfl rfl rfl
  clear tp2 tp3
  replace HB := aft_call HB (RelC.below_nil hC)
  clear hC hk hh; replace hz := hz'; replace hd := hd'; clear hz' hd'
  refine wp_block ?_
  refine wp_seq ?_
  refine region_text (M := []) (
      rT (tV (.bool false)) ::
      rT (tV (.bool false)) ::
      []) hz hd (by kernel_rfl) ?_ ?_
  · refine ⟨?_, ?_, trivial⟩
    · exact sBin rfl rfl rfl hz rfl (Gd.none_ rfl) rfl (Src.out (t := 55) (by kernel_rfl) S55 rfl) (Src.const (.int .i64 0)) (fun w => by simp [go_sem])
    · exact sAs rfl rfl rfl hz rfl (Gd.none_ rfl) rfl (Src.dep (j := 0) (t := 57) (by kernel_rfl) (by kernel_rfl) rfl)
  intro a' γ' W' hz' hd' hC hk hh
  replace Cp1 := Cell.aft Cp1 hC rfl
  have tp2 := Cp2.lt
  replace Cp2 := Cell.aft Cp2 hC rfl
  have tp3 := Cp3.lt
  replace Cp3 := Cell.aft Cp3 hC rfl
  replace Cp4 := Cell.aft Cp4 hC rfl
  replace Cp5 := Cell.aft Cp5 hC rfl
  replace Cp6 := Cell.aft Cp6 hC rfl
  replace Cp7 := Cell.aft Cp7 hC rfl
  replace S5 := hk 5 _ (by kernel_rfl) S5
  replace S6 := hk 6 _ (by kernel_rfl) S6
  replace S7 := hk 7 _ (by kernel_rfl) S7
  replace S10 := hk 10 _ (by kernel_rfl) S10
  replace S11 := hk 11 _ (by kernel_rfl) S11
  replace S12 := hk 12 _ (by kernel_rfl) S12
  replace S13 := hk 13 _ (by kernel_rfl) S13
  replace S55 := hk 55 _ (by kernel_rfl) S55
  have S56 := gotV hz' 1 hh rfl rfl rfl rfl
  clear tp2 tp3
  replace HB := aft_call HB (RelC.below_nil hC)
  clear hC hk hh; replace hz := hz'; replace hd := hd'; clear hz' hd'
  refine wp_cond_false S56.ev ?_
  refine wp_seq ?_
  refine region_text (M := []) (
      rT (tV (.bool false)) ::
      rT (tV (.bool false)) ::
      []) hz hd (by kernel_rfl) ?_ ?_
  · refine ⟨?_, ?_, trivial⟩
    · exact sBin rfl rfl rfl hz rfl (Gd.none_ rfl) rfl (Src.out (t := 55) (by kernel_rfl) S55 rfl) (Src.const (.int .i64 1)) (fun w => by simp [go_sem])
    · exact sAs rfl rfl rfl hz rfl (Gd.none_ rfl) rfl (Src.dep (j := 0) (t := 65) (by kernel_rfl) (by kernel_rfl) rfl)
  intro a' γ' W' hz' hd' hC hk hh
  replace Cp1 := Cell.aft Cp1 hC rfl
  have tp2 := Cp2.lt
  replace Cp2 := Cell.aft Cp2 hC rfl
  have tp3 := Cp3.lt
  replace Cp3 := Cell.aft Cp3 hC rfl
  replace Cp4 := Cell.aft Cp4 hC rfl
  replace Cp5 := Cell.aft Cp5 hC rfl
  replace Cp6 := Cell.aft Cp6 hC rfl
  replace Cp7 := Cell.aft Cp7 hC rfl
  replace S5 := hk 5 _ (by kernel_rfl) S5
  replace S6 := hk 6 _ (by kernel_rfl) S6
  replace S7 := hk 7 _ (by kernel_rfl) S7
  replace S10 := hk 10 _ (by kernel_rfl) S10
  replace S11 := hk 11 _ (by kernel_rfl) S11
  replace S12 := hk 12 _ (by kernel_rfl) S12
  replace S13 := hk 13 _ (by kernel_rfl) S13
  replace S55 := hk 55 _ (by kernel_rfl) S55
  clear S56
  have S64 := gotV hz' 1 hh rfl rfl rfl rfl
  clear tp2 tp3
  replace HB := aft_call HB (RelC.below_nil hC)
  clear hC hk hh; replace hz := hz'; replace hd := hd'; clear hz' hd'
  refine wp_cond_false S64.ev ?_
  refine wp_seq ?_
  refine region_text (M := []) (
      rT (tV (.bool false)) ::
      rT (tV (.bool false)) ::
      []) hz hd (by kernel_rfl) ?_ ?_
  · refine ⟨?_, ?_, trivial⟩
    · exact sBin rfl rfl rfl hz rfl (Gd.none_ rfl) rfl (Src.out (t := 55) (by kernel_rfl) S55 rfl) (Src.const (.int .i64 2)) (fun w => by simp [go_sem])
    · exact sAs rfl rfl rfl hz rfl (Gd.none_ rfl) rfl (Src.dep (j := 0) (t := 83) (by kernel_rfl) (by kernel_rfl) rfl)
  intro a' γ' W' hz' hd' hC hk hh
  replace Cp1 := Cell.aft Cp1 hC rfl
  have tp2 := Cp2.lt
  replace Cp2 := Cell.aft Cp2 hC rfl
  have tp3 := Cp3.lt
  replace Cp3 := Cell.aft Cp3 hC rfl
  replace Cp4 := Cell.aft Cp4 hC rfl
  replace Cp5 := Cell.aft Cp5 hC rfl
  replace Cp6 := Cell.aft Cp6 hC rfl
  replace Cp7 := Cell.aft Cp7 hC rfl
  replace S5 := hk 5 _ (by kernel_rfl) S5
  replace S6 := hk 6 _ (by kernel_rfl) S6
  replace S7 := hk 7 _ (by kernel_rfl) S7
  replace S10 := hk 10 _ (by kernel_rfl) S10
  replace S11 := hk 11 _ (by kernel_rfl) S11
  replace S12 := hk 12 _ (by kernel_rfl) S12
  replace S13 := hk 13 _ (by kernel_rfl) S13
  replace S55 := hk 55 _ (by kernel_rfl) S55
  clear S64
  have S82 := gotV hz' 1 hh rfl rfl rfl rfl
  clear tp2 tp3
  replace HB := aft_call HB (RelC.below_nil hC)
  clear hC hk hh; replace hz := hz'; replace hd := hd'; clear hz' hd'
  refine wp_cond_false S82.ev ?_
  refine wp_seq ?_
  refine wp_seq ?_
  refine region_text (M := []) (
      rT (tV (.bool false)) ::
      rT (tV (.bool false)) ::
      []) hz hd (by kernel_rfl) ?_ ?_
  · refine ⟨?_, ?_, trivial⟩
    · exact sBin rfl rfl rfl hz rfl (Gd.none_ rfl) rfl (Src.out (t := 55) (by kernel_rfl) S55 rfl) (Src.const (.int .i64 3)) (fun w => by simp [go_sem])
    · exact sAs rfl rfl rfl hz rfl (Gd.none_ rfl) rfl (Src.dep (j := 0) (t := 91) (by kernel_rfl) (by kernel_rfl) rfl)
  intro a' γ' W' hz' hd' hC hk hh
  replace Cp1 := Cell.aft Cp1 hC rfl
  have tp2 := Cp2.lt
  replace Cp2 := Cell.aft Cp2 hC rfl
  have tp3 := Cp3.lt
  replace Cp3 := Cell.aft Cp3 hC rfl
  replace Cp4 := Cell.aft Cp4 hC rfl
  replace Cp5 := Cell.aft Cp5 hC rfl
  replace Cp6 := Cell.aft Cp6 hC rfl
  replace Cp7 := Cell.aft Cp7 hC rfl
  replace S5 := hk 5 _ (by kernel_rfl) S5
  replace S6 := hk 6 _ (by kernel_rfl) S6
  replace S7 := hk 7 _ (by kernel_rfl) S7
  replace S10 := hk 10 _ (by kernel_rfl) S10
  replace S11 := hk 11 _ (by kernel_rfl) S11
  replace S12 := hk 12 _ (by kernel_rfl) S12
  replace S13 := hk 13 _ (by kernel_rfl) S13
  replace S55 := hk 55 _ (by kernel_rfl) S55
  clear S82
  have S90 := gotV hz' 1 hh rfl rfl rfl rfl
  clear tp2 tp3
  replace HB := aft_call HB (RelC.below_nil hC)
  clear hC hk hh; replace hz := hz'; replace hd := hd'; clear hz' hd'
  refine wp_cond_false S90.ev ?_
  refine region_text (M := []) (
      rT (tV (.bool false)) ::
      rT (tV (.bool false)) ::
      []) hz hd (by kernel_rfl) ?_ ?_
  · refine ⟨?_, ?_, trivial⟩
    · exact sBin rfl rfl rfl hz rfl (Gd.none_ rfl) rfl (Src.out (t := 55) (by kernel_rfl) S55 rfl) (Src.const (.int .i64 4)) (fun w => by simp [go_sem])
    · exact sAs rfl rfl rfl hz rfl (Gd.none_ rfl) rfl (Src.dep (j := 0) (t := 92) (by kernel_rfl) (by kernel_rfl) rfl)
  intro a' γ' W' hz' hd' hC hk hh
  replace Cp1 := Cell.aft Cp1 hC rfl
  have tp2 := Cp2.lt
  replace Cp2 := Cell.aft Cp2 hC rfl
  have tp3 := Cp3.lt
  replace Cp3 := Cell.aft Cp3 hC rfl
  replace Cp4 := Cell.aft Cp4 hC rfl
  replace Cp5 := Cell.aft Cp5 hC rfl
  replace Cp6 := Cell.aft Cp6 hC rfl
  replace Cp7 := Cell.aft Cp7 hC rfl
  replace S5 := hk 5 _ (by kernel_rfl) S5
  replace S6 := hk 6 _ (by kernel_rfl) S6
  replace S7 := hk 7 _ (by kernel_rfl) S7
  replace S10 := hk 10 _ (by kernel_rfl) S10
  replace S11 := hk 11 _ (by kernel_rfl) S11
  replace S12 := hk 12 _ (by kernel_rfl) S12
  replace S13 := hk 13 _ (by kernel_rfl) S13
  replace S55 := hk 55 _ (by kernel_rfl) S55
  clear S90
  have S90 := gotV hz' 1 hh rfl rfl rfl rfl
  clear tp2 tp3
  replace HB := aft_call HB (RelC.below_nil hC)
  clear hC hk hh; replace hz := hz'; replace hd := hd'; clear hz' hd'
  refine wp_cond_false S90.ev ?_
  refine wp_seq ?_
  refine region_text (M := []) (
      rT (tV (.bool true)) ::
      rT (tV (.bool true)) ::
      []) hz hd (by kernel_rfl) ?_ ?_
  · refine ⟨?_, ?_, trivial⟩
    · exact sBin rfl rfl rfl hz rfl (Gd.none_ rfl) rfl (Src.out (t := 55) (by kernel_rfl) S55 rfl) (Src.const (.int .i64 5)) (fun w => by simp [go_sem])
    · exact sAs rfl rfl rfl hz rfl (Gd.none_ rfl) rfl (Src.dep (j := 0) (t := 119) (by kernel_rfl) (by kernel_rfl) rfl)
  intro a' γ' W' hz' hd' hC hk hh
  replace Cp1 := Cell.aft Cp1 hC rfl
  have tp2 := Cp2.lt
  replace Cp2 := Cell.aft Cp2 hC rfl
  have tp3 := Cp3.lt
  replace Cp3 := Cell.aft Cp3 hC rfl
  replace Cp4 := Cell.aft Cp4 hC rfl
  replace Cp5 := Cell.aft Cp5 hC rfl
  replace Cp6 := Cell.aft Cp6 hC rfl
  replace Cp7 := Cell.aft Cp7 hC rfl
  replace S5 := hk 5 _ (by kernel_rfl) S5
  replace S6 := hk 6 _ (by kernel_rfl) S6
  replace S7 := hk 7 _ (by kernel_rfl) S7
  replace S10 := hk 10 _ (by kernel_rfl) S10
  replace S11 := hk 11 _ (by kernel_rfl) S11
  replace S12 := hk 12 _ (by kernel_rfl) S12
  replace S13 := hk 13 _ (by kernel_rfl) S13
  replace S55 := hk 55 _ (by kernel_rfl) S55
  clear S90
  have S118 := gotV hz' 1 hh rfl rfl rfl rfl
  clear tp2 tp3
  replace HB := aft_call HB (RelC.below_nil hC)
  clear hC hk hh; replace hz := hz'; replace hd := hd'; clear hz' hd'
  refine wp_cond_true S118.ev ?_
  refine wp_seq ?_
  refine region_drawn (M := [p2, p3]) (
      rT (tN B64 1000000 (xs.getD i 0)) ::
      rT (tN B64 1000000 (xs.getD j 0)) ::
      rT (tN B64 1000000 (Nat.gcd (xs.getD i 0) (xs.getD j 0))) ::
      rT (tN B32 1000000 (xs.getD i 0)) ::
      rT (tN B32 1000000 (xs.getD j 0)) ::
      rT (tN B32 1000000 (Nat.gcd (xs.getD i 0) (xs.getD j 0))) ::
      rE 0 25 (tN B64 1000000 (Nat.gcd (xs.getD i 0) (xs.getD j 0))) p2 ::
      rE 1 44 (tN B32 1000000 (Nat.gcd (xs.getD i 0) (xs.getD j 0))) p3 ::
      []) hz hd (by kernel_rfl) (by kernel_rfl) ?_ ?_
  · refine ⟨?_, ?_, ?_, ?_, ?_, ?_, ?_, ?_, trivial⟩
    · exact sLoad rfl rfl rfl hz rfl (Gd.none_ rfl) rfl (Src.out (t := 10) (by kernel_rfl) S10 rfl) Cp4 (by simp [tagOf, n_p4_p2, n_p4_p3]) ld_n64
    · exact sLoad rfl rfl rfl hz rfl (Gd.none_ rfl) rfl (Src.out (t := 11) (by kernel_rfl) S11 rfl) Cp5 (by simp [tagOf, n_p5_p2, n_p5_p3]) ld_n64
    · exact sCall rfl rfl rfl hz rfl (Gd.none_ rfl) rfl Try.func36 (by kernel_rfl) (by kernel_rfl) fun a γ w U => (by show Calls _ _ #[a.eval (.tmp 120), a.eval (.tmp 121)] _ _; exact c_gcd (Src.at_ (Src.dep (j := 0) (t := 120) (by kernel_rfl) (by kernel_rfl) rfl) U) (Src.at_ (Src.dep (j := 1) (t := 121) (by kernel_rfl) (by kernel_rfl) rfl) U) (by decide) (by decide))
    · exact sLoad rfl rfl rfl hz rfl (Gd.none_ rfl) rfl (Src.out (t := 12) (by kernel_rfl) S12 rfl) Cp6 (by simp [tagOf, n_p6_p2, n_p6_p3]) ld_n32
    · exact sLoad rfl rfl rfl hz rfl (Gd.none_ rfl) rfl (Src.out (t := 13) (by kernel_rfl) S13 rfl) Cp7 (by simp [tagOf, n_p7_p2, n_p7_p3]) ld_n32
    · exact sCall rfl rfl rfl hz rfl (Gd.none_ rfl) rfl Try.func66 (by kernel_rfl) (by kernel_rfl) fun a γ w U => (by show Calls _ _ #[a.eval (.tmp 123), a.eval (.tmp 124)] _ _; exact d_gcd (Src.at_ (Src.dep (j := 3) (t := 123) (by kernel_rfl) (by kernel_rfl) rfl) U) (Src.at_ (Src.dep (j := 4) (t := 124) (by kernel_rfl) (by kernel_rfl) rfl) U) (by decide) (by decide))
    · exact sStoreE rfl rfl rfl rfl rfl (Src.out (t := 6) (by kernel_rfl) S6 rfl) (by simp [tagOf]) (Cp2.var tN_nd) (Src.dep (j := 2) (t := 122) (by kernel_rfl) (by kernel_rfl) rfl) st_n64
    · exact sStoreE rfl rfl rfl rfl rfl (Src.out (t := 7) (by kernel_rfl) S7 rfl) (by simp [tagOf, n_p3_p2]) (Cp3.var tN_nd) (Src.dep (j := 5) (t := 125) (by kernel_rfl) (by kernel_rfl) rfl) st_n32
  intro a' γ' W' hz' hd' hC hk hh
  replace Cp1 := Cell.aft Cp1 hC (by simp [tagOf, n_p1_p2, n_p1_p3])
  replace Cp2 := gotE (T := tN B64 1000000 (Nat.gcd (xs.getD i 0) (xs.getD j 0))) (id := 25) (p := p2) 6 hh rfl rfl
  replace Cp3 := gotE (T := tN B32 1000000 (Nat.gcd (xs.getD i 0) (xs.getD j 0))) (id := 44) (p := p3) 7 hh rfl rfl
  replace Cp4 := Cell.aft Cp4 hC (by simp [tagOf, n_p4_p2, n_p4_p3])
  clear Cp5
  replace Cp6 := Cell.aft Cp6 hC (by simp [tagOf, n_p6_p2, n_p6_p3])
  clear Cp7
  replace S5 := hk 5 _ (by kernel_rfl) S5
  replace S6 := hk 6 _ (by kernel_rfl) S6
  replace S7 := hk 7 _ (by kernel_rfl) S7
  replace S10 := hk 10 _ (by kernel_rfl) S10
  clear S11
  replace S12 := hk 12 _ (by kernel_rfl) S12
  clear S13
  clear S55
  clear S118
  replace HB := RelC.aftM HB hC (by intro m hm; simp at hm; rcases hm with rfl | rfl <;> assumption)
  clear hC hk hh; replace hz := hz'; replace hd := hd'; clear hz' hd'
  refine wp_ret ?_
  exact ret2n (by kernel_rfl) S6 S7 hd Cp2 Cp3 HB

set_option maxRecDepth 10000 in
set_option maxHeartbeats 2000000 in
theorem after6 {gl gm n cl cm ia ja i j sn : Nat} {ok oi oj os : Int} {xs : List Nat} {w : World} (HL : Rw B64 25 1000000 gl xs w) (HM : Rw B32 44 1000000 gm xs w) (hn0 : ¬ n = 0) (hi : i < xs.length) (hj : j < xs.length) (hi2 : i < n) (hj2 : j < n)
    (ei : bits .and .i64 oi 255 = (ia : Int)) (ej : bits .and .i64 oj 255 = (ja : Int)) (es : bits .and .i64 os 127 = (sn : Int)) (ri : (ia : Int).tmod (n : Int) = (i : Int)) (rj : (ja : Int).tmod (n : Int) = (j : Int)) (ek : bits .and .i64 ok 7 = 6) (hs0 : -9223372036854775808 ≤ (sn : Int)) (hs1 : (sn : Int) ≤ 9223372036854775807) :
    Calls Try.prog 44 #[.slice (some ⟨gl, 0, none⟩) n cl, .slice (some ⟨gm, 0, none⟩) n cm, .agg #[.int .i64 ok, .int .i64 oi, .int .i64 oj, .int .i64 os]] w (Ret (tT [tN B64 17777216 (leftV (xs.getD i 0) (sn : Int)), tN B32 17777216 (leftV (xs.getD i 0) (sn : Int))]) w) := by
  refine enter Try.func44 rfl Try.ntmps44 (by simp) ?_
  intro a hz hd ha
  have S0 := ha 0 _ rfl
  have S1 := ha 1 _ rfl
  have S2 := ha 2 _ rfl
  clear ha
  have HB : Below w.heap.size w w := Below.refl _ _
  refine wp_seq ?_
  refine region_text (M := []) (
      rB 0 74 (tV (.agg #[.int .i64 ok, .int .i64 oi, .int .i64 oj, .int .i64 os])) none 0 ::
      rB 1 25 (tN B64 0 0) none 0 ::
      rB 2 44 (tN B32 0 0) none 0 ::
      []) hz hd (by kernel_rfl) ?_ ?_
  · refine ⟨?_, ?_, ?_, trivial⟩
    · exact sBox rfl rfl rfl hz rfl rfl rfl (Src.out (t := 2) (by kernel_rfl) S2 rfl) box_op
    · exact sNew rfl rfl rfl hz rfl rfl rfl (fun _ => tN_nil) al_n64
    · exact sNew rfl rfl rfl hz rfl rfl rfl (fun _ => tN_nil) al_n32
  intro a' γ' W' hz' hd' hC hk hh
  replace S0 := hk 0 _ (by kernel_rfl) S0
  replace S1 := hk 1 _ (by kernel_rfl) S1
  clear S2
  replace HL := Rw.aft HL hC rfl
  replace HM := Rw.aft HM hC rfl
  obtain ⟨p1, S5, Cp1, lp1, gp1⟩ := gotB hz' 0 hC hh rfl rfl rfl rfl rfl rfl
  obtain ⟨p2, S6, Cp2, lp2, gp2⟩ := gotB hz' 1 hC hh rfl rfl rfl rfl rfl rfl
  obtain ⟨p3, S7, Cp3, lp3, gp3⟩ := gotB hz' 2 hC hh rfl rfl rfl rfl rfl rfl
  have n_p1_p2 : p1 ≠ p2 := by intro e; rw [e, gp2] at gp1; omega
  have n_p1_p3 : p1 ≠ p3 := by intro e; rw [e, gp3] at gp1; omega
  have n_p2_p3 : p2 ≠ p3 := by intro e; rw [e, gp3] at gp2; omega
  have n_p3_p2 : p3 ≠ p2 := by intro e; rw [e, gp2] at gp3; omega
  have bp2 : w.heap.size ≤ p2 := Nat.le_trans HB.size lp2
  have bp3 : w.heap.size ≤ p3 := Nat.le_trans HB.size lp3
  clear lp1 gp1 lp2 gp2 lp3 gp3
  replace HB := aft_call HB (RelC.below_nil hC)
  clear hC hk hh; replace hz := hz'; replace hd := hd'; clear hz' hd'
  refine wp_seq ?_
  refine region_drawn (M := []) (
      rT (tV (.pointer (some ⟨p1, 1, none⟩))) ::
      rT (tV (.int .i64 oi)) ::
      rT (tV (.int .i64 (ia : Int))) ::
      rT (tV (.slice (some ⟨gl, 0, none⟩) n cl)) ::
      rT (tV (.int .i64 (n : Int))) ::
      rT (tV (.int .i64 (i : Int))) ::
      rT (tV (.pointer (some ⟨p1, 2, none⟩))) ::
      rT (tV (.int .i64 oj)) ::
      rT (tV (.int .i64 (ja : Int))) ::
      rT (tV (.slice (some ⟨gl, 0, none⟩) n cl)) ::
      rT (tV (.int .i64 (n : Int))) ::
      rT (tV (.int .i64 (j : Int))) ::
      rT (tV (.int .i64 (i : Int))) ::
      rT (tV (.int .i64 (j : Int))) ::
      []) hz hd (by kernel_rfl) (by kernel_rfl) ?_ ?_
  · refine ⟨?_, ?_, ?_, ?_, ?_, ?_, ?_, ?_, ?_, ?_, ?_, ?_, ?_, ?_, trivial⟩
    · exact sFA rfl rfl rfl hz rfl (Gd.none_ rfl) rfl (Src.out (t := 5) (by kernel_rfl) S5 rfl) (fun w => by simp [go_sem])
    · exact sLoadF rfl rfl rfl hz rfl (Gd.none_ rfl) rfl (Src.dep (j := 0) (t := 25) (by kernel_rfl) (by kernel_rfl) rfl) Cp1 rfl rfl (fun w h => by simp [go_sem, h])
    · exact sBin rfl rfl rfl hz rfl (Gd.none_ rfl) rfl (Src.dep (j := 1) (t := 26) (by kernel_rfl) (by kernel_rfl) rfl) (Src.const (.int .i64 255)) (fun w => by simp [go_sem, ei])
    · exact sMv rfl rfl rfl hz rfl (Gd.none_ rfl) rfl (Src.out (t := 0) (by kernel_rfl) S0 rfl)
    · exact sLen rfl rfl rfl hz rfl (Gd.none_ rfl) rfl (Src.dep (j := 3) (t := 28) (by kernel_rfl) (by kernel_rfl) rfl) (fun v w h => ⟨_, _, h⟩) len64
    · exact sBin rfl rfl rfl hz rfl (Gd.none_ rfl) rfl (Src.dep (j := 2) (t := 27) (by kernel_rfl) (by kernel_rfl) rfl) (Src.dep (j := 4) (t := 29) (by kernel_rfl) (by kernel_rfl) rfl) (fun w => by simp [go_sem, hn0, ri])
    · exact sFA rfl rfl rfl hz rfl (Gd.none_ rfl) rfl (Src.out (t := 5) (by kernel_rfl) S5 rfl) (fun w => by simp [go_sem])
    · exact sLoadF rfl rfl rfl hz rfl (Gd.none_ rfl) rfl (Src.dep (j := 6) (t := 31) (by kernel_rfl) (by kernel_rfl) rfl) Cp1 rfl rfl (fun w h => by simp [go_sem, h])
    · exact sBin rfl rfl rfl hz rfl (Gd.none_ rfl) rfl (Src.dep (j := 7) (t := 32) (by kernel_rfl) (by kernel_rfl) rfl) (Src.const (.int .i64 255)) (fun w => by simp [go_sem, ej])
    · exact sMv rfl rfl rfl hz rfl (Gd.none_ rfl) rfl (Src.out (t := 0) (by kernel_rfl) S0 rfl)
    · exact sLen rfl rfl rfl hz rfl (Gd.none_ rfl) rfl (Src.dep (j := 9) (t := 34) (by kernel_rfl) (by kernel_rfl) rfl) (fun v w h => ⟨_, _, h⟩) len64
    · exact sBin rfl rfl rfl hz rfl (Gd.none_ rfl) rfl (Src.dep (j := 8) (t := 33) (by kernel_rfl) (by kernel_rfl) rfl) (Src.dep (j := 10) (t := 35) (by kernel_rfl) (by kernel_rfl) rfl) (fun w => by simp [go_sem, hn0, rj])
    · exact sAs rfl rfl rfl hz rfl (Gd.none_ rfl) rfl (Src.dep (j := 5) (t := 30) (by kernel_rfl) (by kernel_rfl) rfl)
    · exact sAs rfl rfl rfl hz rfl (Gd.none_ rfl) rfl (Src.dep (j := 11) (t := 36) (by kernel_rfl) (by kernel_rfl) rfl)
  intro a' γ' W' hz' hd' hC hk hh
  replace Cp1 := Cell.aft Cp1 hC rfl
  have tp2 := Cp2.lt
  replace Cp2 := Cell.aft Cp2 hC rfl
  have tp3 := Cp3.lt
  replace Cp3 := Cell.aft Cp3 hC rfl
  replace S0 := hk 0 _ (by kernel_rfl) S0
  replace S1 := hk 1 _ (by kernel_rfl) S1
  replace S5 := hk 5 _ (by kernel_rfl) S5
  replace S6 := hk 6 _ (by kernel_rfl) S6
  replace S7 := hk 7 _ (by kernel_rfl) S7
  replace HL := Rw.aft HL hC rfl
  replace HM := Rw.aft HM hC rfl
  have S8 := gotV hz' 12 hh rfl rfl rfl rfl
  have S9 := gotV hz' 13 hh rfl rfl rfl rfl
  clear tp2 tp3
  replace HB := aft_call HB (RelC.below_nil hC)
  clear hC hk hh; replace hz := hz'; replace hd := hd'; clear hz' hd'
  refine wp_seq ?_
  refine region_drawn (M := []) (
      rT (tV (.slice (some ⟨gl, 0, none⟩) n cl)) ::
      rT (tV (.int .i64 (i : Int))) ::
      rT (tV (.pointer (some ⟨gl, i, none⟩))) ::
      rT (tN B64 1000000 (xs.getD i 0)) ::
      rT (tV (.slice (some ⟨gl, 0, none⟩) n cl)) ::
      rT (tV (.int .i64 (j : Int))) ::
      rT (tV (.pointer (some ⟨gl, j, none⟩))) ::
      rT (tN B64 1000000 (xs.getD j 0)) ::
      rT (tV (.slice (some ⟨gm, 0, none⟩) n cm)) ::
      rT (tV (.int .i64 (i : Int))) ::
      rT (tV (.pointer (some ⟨gm, i, none⟩))) ::
      rT (tN B32 1000000 (xs.getD i 0)) ::
      rT (tV (.slice (some ⟨gm, 0, none⟩) n cm)) ::
      rT (tV (.int .i64 (j : Int))) ::
      rT (tV (.pointer (some ⟨gm, j, none⟩))) ::
      rT (tN B32 1000000 (xs.getD j 0)) ::
      rVar 16 25 1 ::
      rVar 17 25 1 ::
      rVar 18 44 1 ::
      rVar 19 44 1 ::
      rB 16 25 (tN B64 1000000 (xs.getD i 0)) (some 16) 17 ::
      rB 17 25 (tN B64 1000000 (xs.getD j 0)) (some 17) 18 ::
      rB 18 44 (tN B32 1000000 (xs.getD i 0)) (some 18) 19 ::
      rB 19 44 (tN B32 1000000 (xs.getD j 0)) (some 19) 20 ::
      []) hz hd (by kernel_rfl) (by kernel_rfl) ?_ ?_
  · refine ⟨?_, ?_, ?_, ?_, ?_, ?_, ?_, ?_, ?_, ?_, ?_, ?_, ?_, ?_, ?_, ?_, ?_, ?_, ?_, ?_, ?_, ?_, ?_, ?_, trivial⟩
    · exact sMv rfl rfl rfl hz rfl (Gd.none_ rfl) rfl (Src.out (t := 0) (by kernel_rfl) S0 rfl)
    · exact sMv rfl rfl rfl hz rfl (Gd.none_ rfl) rfl (Src.out (t := 8) (by kernel_rfl) S8 rfl)
    · exact sIdx rfl rfl rfl hz rfl (Gd.none_ rfl) rfl (Src.dep (j := 0) (t := 37) (by kernel_rfl) (by kernel_rfl) rfl) (Src.dep (j := 1) (t := 38) (by kernel_rfl) (by kernel_rfl) rfl) (ia64 hi2)
    · exact sLoadRow rfl rfl rfl hz rfl (Gd.none_ rfl) rfl (Src.dep (j := 2) (t := 39) (by kernel_rfl) (by kernel_rfl) rfl) HL rfl hi ldr64
    · exact sMv rfl rfl rfl hz rfl (Gd.none_ rfl) rfl (Src.out (t := 0) (by kernel_rfl) S0 rfl)
    · exact sMv rfl rfl rfl hz rfl (Gd.none_ rfl) rfl (Src.out (t := 9) (by kernel_rfl) S9 rfl)
    · exact sIdx rfl rfl rfl hz rfl (Gd.none_ rfl) rfl (Src.dep (j := 4) (t := 41) (by kernel_rfl) (by kernel_rfl) rfl) (Src.dep (j := 5) (t := 42) (by kernel_rfl) (by kernel_rfl) rfl) (ia64 hj2)
    · exact sLoadRow rfl rfl rfl hz rfl (Gd.none_ rfl) rfl (Src.dep (j := 6) (t := 43) (by kernel_rfl) (by kernel_rfl) rfl) HL rfl hj ldr64
    · exact sMv rfl rfl rfl hz rfl (Gd.none_ rfl) rfl (Src.out (t := 1) (by kernel_rfl) S1 rfl)
    · exact sMv rfl rfl rfl hz rfl (Gd.none_ rfl) rfl (Src.out (t := 8) (by kernel_rfl) S8 rfl)
    · exact sIdx rfl rfl rfl hz rfl (Gd.none_ rfl) rfl (Src.dep (j := 8) (t := 45) (by kernel_rfl) (by kernel_rfl) rfl) (Src.dep (j := 9) (t := 46) (by kernel_rfl) (by kernel_rfl) rfl) (ia32 hi2)
    · exact sLoadRow rfl rfl rfl hz rfl (Gd.none_ rfl) rfl (Src.dep (j := 10) (t := 47) (by kernel_rfl) (by kernel_rfl) rfl) HM rfl hi ldr32
    · exact sMv rfl rfl rfl hz rfl (Gd.none_ rfl) rfl (Src.out (t := 1) (by kernel_rfl) S1 rfl)
    · exact sMv rfl rfl rfl hz rfl (Gd.none_ rfl) rfl (Src.out (t := 9) (by kernel_rfl) S9 rfl)
    · exact sIdx rfl rfl rfl hz rfl (Gd.none_ rfl) rfl (Src.dep (j := 12) (t := 49) (by kernel_rfl) (by kernel_rfl) rfl) (Src.dep (j := 13) (t := 50) (by kernel_rfl) (by kernel_rfl) rfl) (ia32 hj2)
    · exact sLoadRow rfl rfl rfl hz rfl (Gd.none_ rfl) rfl (Src.dep (j := 14) (t := 51) (by kernel_rfl) (by kernel_rfl) rfl) HM rfl hj ldr32
    · exact sAlloc rfl rfl rfl hz rfl rfl rfl rfl nd_slice al_n64
    · exact sAlloc rfl rfl rfl hz rfl rfl rfl rfl nd_slice al_n64
    · exact sAlloc rfl rfl rfl hz rfl rfl rfl rfl nd_slice al_n32
    · exact sAlloc rfl rfl rfl hz rfl rfl rfl rfl nd_slice al_n32
    · exact sStore rfl rfl rfl rfl rfl (by kernel_rfl) (by kernel_rfl) rfl (Src.dep (j := 3) (t := 40) (by kernel_rfl) (by kernel_rfl) rfl) st_n64
    · exact sStore rfl rfl rfl rfl rfl (by kernel_rfl) (by kernel_rfl) rfl (Src.dep (j := 7) (t := 44) (by kernel_rfl) (by kernel_rfl) rfl) st_n64
    · exact sStore rfl rfl rfl rfl rfl (by kernel_rfl) (by kernel_rfl) rfl (Src.dep (j := 11) (t := 48) (by kernel_rfl) (by kernel_rfl) rfl) st_n32
    · exact sStore rfl rfl rfl rfl rfl (by kernel_rfl) (by kernel_rfl) rfl (Src.dep (j := 15) (t := 52) (by kernel_rfl) (by kernel_rfl) rfl) st_n32
  intro a' γ' W' hz' hd' hC hk hh
  replace Cp1 := Cell.aft Cp1 hC rfl
  have tp2 := Cp2.lt
  replace Cp2 := Cell.aft Cp2 hC rfl
  have tp3 := Cp3.lt
  replace Cp3 := Cell.aft Cp3 hC rfl
  clear S0
  clear S1
  replace S5 := hk 5 _ (by kernel_rfl) S5
  replace S6 := hk 6 _ (by kernel_rfl) S6
  replace S7 := hk 7 _ (by kernel_rfl) S7
  clear S8
  clear S9
  clear HL
  clear HM
  obtain ⟨p4, S10, Cp4, lp4, gp4⟩ := gotB hz' 20 hC hh rfl rfl rfl rfl rfl rfl
  obtain ⟨p5, S11, Cp5, lp5, gp5⟩ := gotB hz' 21 hC hh rfl rfl rfl rfl rfl rfl
  obtain ⟨p6, S12, Cp6, lp6, gp6⟩ := gotB hz' 22 hC hh rfl rfl rfl rfl rfl rfl
  obtain ⟨p7, S13, Cp7, lp7, gp7⟩ := gotB hz' 23 hC hh rfl rfl rfl rfl rfl rfl
  have n_p4_p2 : p4 ≠ p2 := by omega
  have n_p4_p3 : p4 ≠ p3 := by omega
  have n_p5_p2 : p5 ≠ p2 := by omega
  have n_p5_p3 : p5 ≠ p3 := by omega
  have n_p6_p2 : p6 ≠ p2 := by omega
  have n_p6_p3 : p6 ≠ p3 := by omega
  have n_p7_p2 : p7 ≠ p2 := by omega
  have n_p7_p3 : p7 ≠ p3 := by omega
  clear lp4 gp4 lp5 gp5 lp6 gp6 lp7 gp7
  clear tp2 tp3
  replace HB := aft_call HB (RelC.below_nil hC)
  clear hC hk hh; replace hz := hz'; replace hd := hd'; clear hz' hd'
  refine wp_seq ?_
  refine wp_seq ?_
  refine region_text (M := []) (
      rT (tV (.pointer (some ⟨p1, 0, none⟩))) ::
      rT (tV (.int .i64 ok)) ::
      rT (tV (.int .i64 6)) ::
      []) hz hd (by kernel_rfl) ?_ ?_
  · refine ⟨?_, ?_, ?_, trivial⟩
    · exact sFA rfl rfl rfl hz rfl (Gd.none_ rfl) rfl (Src.out (t := 5) (by kernel_rfl) S5 rfl) (fun w => by simp [go_sem])
    · exact sLoadF rfl rfl rfl hz rfl (Gd.none_ rfl) rfl (Src.dep (j := 0) (t := 53) (by kernel_rfl) (by kernel_rfl) rfl) Cp1 rfl rfl (fun w h => by simp [go_sem, h])
    · exact sBin rfl rfl rfl hz rfl (Gd.none_ rfl) rfl (Src.dep (j := 1) (t := 54) (by kernel_rfl) (by kernel_rfl) rfl) (Src.const (.int .i64 7)) (fun w => by simp [go_sem, ek])
  intro a' γ' W' hz' hd' hC hk hh
  replace Cp1 := Cell.aft Cp1 hC rfl
  have tp2 := Cp2.lt
  replace Cp2 := Cell.aft Cp2 hC rfl
  have tp3 := Cp3.lt
  replace Cp3 := Cell.aft Cp3 hC rfl
  replace Cp4 := Cell.aft Cp4 hC rfl
  replace Cp5 := Cell.aft Cp5 hC rfl
  replace Cp6 := Cell.aft Cp6 hC rfl
  replace Cp7 := Cell.aft Cp7 hC rfl
  replace S5 := hk 5 _ (by kernel_rfl) S5
  replace S6 := hk 6 _ (by kernel_rfl) S6
  replace S7 := hk 7 _ (by kernel_rfl) S7
  replace S10 := hk 10 _ (by kernel_rfl) S10
  replace S11 := hk 11 _ (by kernel_rfl) S11
  replace S12 := hk 12 _ (by kernel_rfl) S12
  replace S13 := hk 13 _ (by kernel_rfl) S13
  have S55 := gotV hz' 2 hh rfl rfl rfl rfl
  clear tp2 tp3
  replace HB := aft_call HB (RelC.below_nil hC)
  clear hC hk hh; replace hz := hz'; replace hd := hd'; clear hz' hd'
  refine wp_block ?_
  refine wp_seq ?_
  refine region_text (M := []) (
      rT (tV (.bool false)) ::
      rT (tV (.bool false)) ::
      []) hz hd (by kernel_rfl) ?_ ?_
  · refine ⟨?_, ?_, trivial⟩
    · exact sBin rfl rfl rfl hz rfl (Gd.none_ rfl) rfl (Src.out (t := 55) (by kernel_rfl) S55 rfl) (Src.const (.int .i64 0)) (fun w => by simp [go_sem])
    · exact sAs rfl rfl rfl hz rfl (Gd.none_ rfl) rfl (Src.dep (j := 0) (t := 57) (by kernel_rfl) (by kernel_rfl) rfl)
  intro a' γ' W' hz' hd' hC hk hh
  replace Cp1 := Cell.aft Cp1 hC rfl
  have tp2 := Cp2.lt
  replace Cp2 := Cell.aft Cp2 hC rfl
  have tp3 := Cp3.lt
  replace Cp3 := Cell.aft Cp3 hC rfl
  replace Cp4 := Cell.aft Cp4 hC rfl
  replace Cp5 := Cell.aft Cp5 hC rfl
  replace Cp6 := Cell.aft Cp6 hC rfl
  replace Cp7 := Cell.aft Cp7 hC rfl
  replace S5 := hk 5 _ (by kernel_rfl) S5
  replace S6 := hk 6 _ (by kernel_rfl) S6
  replace S7 := hk 7 _ (by kernel_rfl) S7
  replace S10 := hk 10 _ (by kernel_rfl) S10
  replace S11 := hk 11 _ (by kernel_rfl) S11
  replace S12 := hk 12 _ (by kernel_rfl) S12
  replace S13 := hk 13 _ (by kernel_rfl) S13
  replace S55 := hk 55 _ (by kernel_rfl) S55
  have S56 := gotV hz' 1 hh rfl rfl rfl rfl
  clear tp2 tp3
  replace HB := aft_call HB (RelC.below_nil hC)
  clear hC hk hh; replace hz := hz'; replace hd := hd'; clear hz' hd'
  refine wp_cond_false S56.ev ?_
  refine wp_seq ?_
  refine region_text (M := []) (
      rT (tV (.bool false)) ::
      rT (tV (.bool false)) ::
      []) hz hd (by kernel_rfl) ?_ ?_
  · refine ⟨?_, ?_, trivial⟩
    · exact sBin rfl rfl rfl hz rfl (Gd.none_ rfl) rfl (Src.out (t := 55) (by kernel_rfl) S55 rfl) (Src.const (.int .i64 1)) (fun w => by simp [go_sem])
    · exact sAs rfl rfl rfl hz rfl (Gd.none_ rfl) rfl (Src.dep (j := 0) (t := 65) (by kernel_rfl) (by kernel_rfl) rfl)
  intro a' γ' W' hz' hd' hC hk hh
  replace Cp1 := Cell.aft Cp1 hC rfl
  have tp2 := Cp2.lt
  replace Cp2 := Cell.aft Cp2 hC rfl
  have tp3 := Cp3.lt
  replace Cp3 := Cell.aft Cp3 hC rfl
  replace Cp4 := Cell.aft Cp4 hC rfl
  replace Cp5 := Cell.aft Cp5 hC rfl
  replace Cp6 := Cell.aft Cp6 hC rfl
  replace Cp7 := Cell.aft Cp7 hC rfl
  replace S5 := hk 5 _ (by kernel_rfl) S5
  replace S6 := hk 6 _ (by kernel_rfl) S6
  replace S7 := hk 7 _ (by kernel_rfl) S7
  replace S10 := hk 10 _ (by kernel_rfl) S10
  replace S11 := hk 11 _ (by kernel_rfl) S11
  replace S12 := hk 12 _ (by kernel_rfl) S12
  replace S13 := hk 13 _ (by kernel_rfl) S13
  replace S55 := hk 55 _ (by kernel_rfl) S55
  clear S56
  have S64 := gotV hz' 1 hh rfl rfl rfl rfl
  clear tp2 tp3
  replace HB := aft_call HB (RelC.below_nil hC)
  clear hC hk hh; replace hz := hz'; replace hd := hd'; clear hz' hd'
  refine wp_cond_false S64.ev ?_
  refine wp_seq ?_
  refine region_text (M := []) (
      rT (tV (.bool false)) ::
      rT (tV (.bool false)) ::
      []) hz hd (by kernel_rfl) ?_ ?_
  · refine ⟨?_, ?_, trivial⟩
    · exact sBin rfl rfl rfl hz rfl (Gd.none_ rfl) rfl (Src.out (t := 55) (by kernel_rfl) S55 rfl) (Src.const (.int .i64 2)) (fun w => by simp [go_sem])
    · exact sAs rfl rfl rfl hz rfl (Gd.none_ rfl) rfl (Src.dep (j := 0) (t := 83) (by kernel_rfl) (by kernel_rfl) rfl)
  intro a' γ' W' hz' hd' hC hk hh
  replace Cp1 := Cell.aft Cp1 hC rfl
  have tp2 := Cp2.lt
  replace Cp2 := Cell.aft Cp2 hC rfl
  have tp3 := Cp3.lt
  replace Cp3 := Cell.aft Cp3 hC rfl
  replace Cp4 := Cell.aft Cp4 hC rfl
  replace Cp5 := Cell.aft Cp5 hC rfl
  replace Cp6 := Cell.aft Cp6 hC rfl
  replace Cp7 := Cell.aft Cp7 hC rfl
  replace S5 := hk 5 _ (by kernel_rfl) S5
  replace S6 := hk 6 _ (by kernel_rfl) S6
  replace S7 := hk 7 _ (by kernel_rfl) S7
  replace S10 := hk 10 _ (by kernel_rfl) S10
  replace S11 := hk 11 _ (by kernel_rfl) S11
  replace S12 := hk 12 _ (by kernel_rfl) S12
  replace S13 := hk 13 _ (by kernel_rfl) S13
  replace S55 := hk 55 _ (by kernel_rfl) S55
  clear S64
  have S82 := gotV hz' 1 hh rfl rfl rfl rfl
  clear tp2 tp3
  replace HB := aft_call HB (RelC.below_nil hC)
  clear hC hk hh; replace hz := hz'; replace hd := hd'; clear hz' hd'
  refine wp_cond_false S82.ev ?_
  refine wp_seq ?_
  refine wp_seq ?_
  refine region_text (M := []) (
      rT (tV (.bool false)) ::
      rT (tV (.bool false)) ::
      []) hz hd (by kernel_rfl) ?_ ?_
  · refine ⟨?_, ?_, trivial⟩
    · exact sBin rfl rfl rfl hz rfl (Gd.none_ rfl) rfl (Src.out (t := 55) (by kernel_rfl) S55 rfl) (Src.const (.int .i64 3)) (fun w => by simp [go_sem])
    · exact sAs rfl rfl rfl hz rfl (Gd.none_ rfl) rfl (Src.dep (j := 0) (t := 91) (by kernel_rfl) (by kernel_rfl) rfl)
  intro a' γ' W' hz' hd' hC hk hh
  replace Cp1 := Cell.aft Cp1 hC rfl
  have tp2 := Cp2.lt
  replace Cp2 := Cell.aft Cp2 hC rfl
  have tp3 := Cp3.lt
  replace Cp3 := Cell.aft Cp3 hC rfl
  replace Cp4 := Cell.aft Cp4 hC rfl
  replace Cp5 := Cell.aft Cp5 hC rfl
  replace Cp6 := Cell.aft Cp6 hC rfl
  replace Cp7 := Cell.aft Cp7 hC rfl
  replace S5 := hk 5 _ (by kernel_rfl) S5
  replace S6 := hk 6 _ (by kernel_rfl) S6
  replace S7 := hk 7 _ (by kernel_rfl) S7
  replace S10 := hk 10 _ (by kernel_rfl) S10
  replace S11 := hk 11 _ (by kernel_rfl) S11
  replace S12 := hk 12 _ (by kernel_rfl) S12
  replace S13 := hk 13 _ (by kernel_rfl) S13
  replace S55 := hk 55 _ (by kernel_rfl) S55
  clear S82
  have S90 := gotV hz' 1 hh rfl rfl rfl rfl
  clear tp2 tp3
  replace HB := aft_call HB (RelC.below_nil hC)
  clear hC hk hh; replace hz := hz'; replace hd := hd'; clear hz' hd'
  refine wp_cond_false S90.ev ?_
  refine region_text (M := []) (
      rT (tV (.bool false)) ::
      rT (tV (.bool false)) ::
      []) hz hd (by kernel_rfl) ?_ ?_
  · refine ⟨?_, ?_, trivial⟩
    · exact sBin rfl rfl rfl hz rfl (Gd.none_ rfl) rfl (Src.out (t := 55) (by kernel_rfl) S55 rfl) (Src.const (.int .i64 4)) (fun w => by simp [go_sem])
    · exact sAs rfl rfl rfl hz rfl (Gd.none_ rfl) rfl (Src.dep (j := 0) (t := 92) (by kernel_rfl) (by kernel_rfl) rfl)
  intro a' γ' W' hz' hd' hC hk hh
  replace Cp1 := Cell.aft Cp1 hC rfl
  have tp2 := Cp2.lt
  replace Cp2 := Cell.aft Cp2 hC rfl
  have tp3 := Cp3.lt
  replace Cp3 := Cell.aft Cp3 hC rfl
  replace Cp4 := Cell.aft Cp4 hC rfl
  replace Cp5 := Cell.aft Cp5 hC rfl
  replace Cp6 := Cell.aft Cp6 hC rfl
  replace Cp7 := Cell.aft Cp7 hC rfl
  replace S5 := hk 5 _ (by kernel_rfl) S5
  replace S6 := hk 6 _ (by kernel_rfl) S6
  replace S7 := hk 7 _ (by kernel_rfl) S7
  replace S10 := hk 10 _ (by kernel_rfl) S10
  replace S11 := hk 11 _ (by kernel_rfl) S11
  replace S12 := hk 12 _ (by kernel_rfl) S12
  replace S13 := hk 13 _ (by kernel_rfl) S13
  replace S55 := hk 55 _ (by kernel_rfl) S55
  clear S90
  have S90 := gotV hz' 1 hh rfl rfl rfl rfl
  clear tp2 tp3
  replace HB := aft_call HB (RelC.below_nil hC)
  clear hC hk hh; replace hz := hz'; replace hd := hd'; clear hz' hd'
  refine wp_cond_false S90.ev ?_
  refine wp_seq ?_
  refine region_text (M := []) (
      rT (tV (.bool false)) ::
      rT (tV (.bool false)) ::
      []) hz hd (by kernel_rfl) ?_ ?_
  · refine ⟨?_, ?_, trivial⟩
    · exact sBin rfl rfl rfl hz rfl (Gd.none_ rfl) rfl (Src.out (t := 55) (by kernel_rfl) S55 rfl) (Src.const (.int .i64 5)) (fun w => by simp [go_sem])
    · exact sAs rfl rfl rfl hz rfl (Gd.none_ rfl) rfl (Src.dep (j := 0) (t := 119) (by kernel_rfl) (by kernel_rfl) rfl)
  intro a' γ' W' hz' hd' hC hk hh
  replace Cp1 := Cell.aft Cp1 hC rfl
  have tp2 := Cp2.lt
  replace Cp2 := Cell.aft Cp2 hC rfl
  have tp3 := Cp3.lt
  replace Cp3 := Cell.aft Cp3 hC rfl
  replace Cp4 := Cell.aft Cp4 hC rfl
  replace Cp5 := Cell.aft Cp5 hC rfl
  replace Cp6 := Cell.aft Cp6 hC rfl
  replace Cp7 := Cell.aft Cp7 hC rfl
  replace S5 := hk 5 _ (by kernel_rfl) S5
  replace S6 := hk 6 _ (by kernel_rfl) S6
  replace S7 := hk 7 _ (by kernel_rfl) S7
  replace S10 := hk 10 _ (by kernel_rfl) S10
  replace S11 := hk 11 _ (by kernel_rfl) S11
  replace S12 := hk 12 _ (by kernel_rfl) S12
  replace S13 := hk 13 _ (by kernel_rfl) S13
  replace S55 := hk 55 _ (by kernel_rfl) S55
  clear S90
  have S118 := gotV hz' 1 hh rfl rfl rfl rfl
  clear tp2 tp3
  replace HB := aft_call HB (RelC.below_nil hC)
  clear hC hk hh; replace hz := hz'; replace hd := hd'; clear hz' hd'
  refine wp_cond_false S118.ev ?_
  refine wp_seq ?_
  refine region_text (M := []) (
      rT (tV (.bool true)) ::
      rT (tV (.bool true)) ::
      []) hz hd (by kernel_rfl) ?_ ?_
  · refine ⟨?_, ?_, trivial⟩
    · exact sBin rfl rfl rfl hz rfl (Gd.none_ rfl) rfl (Src.out (t := 55) (by kernel_rfl) S55 rfl) (Src.const (.int .i64 6)) (fun w => by simp [go_sem])
    · exact sAs rfl rfl rfl hz rfl (Gd.none_ rfl) rfl (Src.dep (j := 0) (t := 127) (by kernel_rfl) (by kernel_rfl) rfl)
  intro a' γ' W' hz' hd' hC hk hh
  replace Cp1 := Cell.aft Cp1 hC rfl
  have tp2 := Cp2.lt
  replace Cp2 := Cell.aft Cp2 hC rfl
  have tp3 := Cp3.lt
  replace Cp3 := Cell.aft Cp3 hC rfl
  replace Cp4 := Cell.aft Cp4 hC rfl
  clear Cp5
  replace Cp6 := Cell.aft Cp6 hC rfl
  clear Cp7
  replace S5 := hk 5 _ (by kernel_rfl) S5
  replace S6 := hk 6 _ (by kernel_rfl) S6
  replace S7 := hk 7 _ (by kernel_rfl) S7
  replace S10 := hk 10 _ (by kernel_rfl) S10
  clear S11
  replace S12 := hk 12 _ (by kernel_rfl) S12
  clear S13
  clear S55
  clear S118
  have S126 := gotV hz' 1 hh rfl rfl rfl rfl
  clear tp2 tp3
  replace HB := aft_call HB (RelC.below_nil hC)
  clear hC hk hh; replace hz := hz'; replace hd := hd'; clear hz' hd'
  refine wp_cond_true S126.ev ?_
  refine wp_seq ?_
  refine region_text (M := []) (
      rT (tN B64 1000000 (xs.getD i 0)) ::
      rT (tV (.pointer (some ⟨p1, 3, none⟩))) ::
      rT (tV (.int .i64 os)) ::
      rT (tV (.int .i64 (sn : Int))) ::
      rT (tT [tN B64 17777216 (leftV (xs.getD i 0) (sn : Int)), tV (.bool (leftOk (xs.getD i 0) (sn : Int)))]) ::
      rT (tT [tN B64 17777216 (leftV (xs.getD i 0) (sn : Int)), tV (.bool (leftOk (xs.getD i 0) (sn : Int)))]) ::
      rT (tN B64 17777216 (leftV (xs.getD i 0) (sn : Int))) ::
      rT (tV (.bool (leftOk (xs.getD i 0) (sn : Int)))) ::
      rVar 8 25 1 ::
      rB 8 25 (tN B64 17777216 (leftV (xs.getD i 0) (sn : Int))) (some 8) 9 ::
      rT (tV (.bool (leftOk (xs.getD i 0) (sn : Int)))) ::
      []) hz hd (by kernel_rfl) ?_ ?_
  · refine ⟨?_, ?_, ?_, ?_, ?_, ?_, ?_, ?_, ?_, ?_, ?_, trivial⟩
    · exact sLoad rfl rfl rfl hz rfl (Gd.none_ rfl) rfl (Src.out (t := 10) (by kernel_rfl) S10 rfl) Cp4 rfl ld_n64
    · exact sFA rfl rfl rfl hz rfl (Gd.none_ rfl) rfl (Src.out (t := 5) (by kernel_rfl) S5 rfl) (fun w => by simp [go_sem])
    · exact sLoadF rfl rfl rfl hz rfl (Gd.none_ rfl) rfl (Src.dep (j := 1) (t := 130) (by kernel_rfl) (by kernel_rfl) rfl) Cp1 rfl rfl (fun w h => by simp [go_sem, h])
    · exact sBin rfl rfl rfl hz rfl (Gd.none_ rfl) rfl (Src.dep (j := 2) (t := 131) (by kernel_rfl) (by kernel_rfl) rfl) (Src.const (.int .i64 127)) (fun w => by simp [go_sem, es])
    · exact sCall rfl rfl rfl hz rfl (Gd.none_ rfl) rfl Try.func32 (by kernel_rfl) (by kernel_rfl) fun a γ w U => (by show Calls _ _ #[a.eval (.tmp 129), a.eval (.tmp 132)] _ _; rw [show a.eval (.tmp 132) = .int .i64 (sn : Int) from Src.at_ (Src.dep (j := 3) (t := 132) (by kernel_rfl) (by kernel_rfl) rfl) U]; exact c_left (Src.at_ (Src.dep (j := 0) (t := 129) (by kernel_rfl) (by kernel_rfl) rfl) U) (by decide) hs1 hs0)
    · exact sMv rfl rfl rfl hz rfl (Gd.none_ rfl) rfl (Src.dep (j := 4) (t := 133) (by kernel_rfl) (by kernel_rfl) rfl)
    · exact sExt rfl rfl rfl hz rfl (Gd.none_ rfl) rfl (Src.dep (j := 5) (t := 128) (by kernel_rfl) (by kernel_rfl) rfl) rfl
    · exact sExt rfl rfl rfl hz rfl (Gd.none_ rfl) rfl (Src.dep (j := 5) (t := 128) (by kernel_rfl) (by kernel_rfl) rfl) rfl
    · exact sAlloc rfl rfl rfl hz rfl rfl rfl rfl nd_slice al_n64
    · exact sStore rfl rfl rfl rfl rfl (by kernel_rfl) (by kernel_rfl) rfl (Src.dep (j := 6) (t := 134) (by kernel_rfl) (by kernel_rfl) rfl) st_n64
    · exact sAs rfl rfl rfl hz rfl (Gd.none_ rfl) rfl (Src.dep (j := 7) (t := 135) (by kernel_rfl) (by kernel_rfl) rfl)
  intro a' γ' W' hz' hd' hC hk hh
  replace Cp1 := Cell.aft Cp1 hC rfl
  have tp2 := Cp2.lt
  replace Cp2 := Cell.aft Cp2 hC rfl
  have tp3 := Cp3.lt
  replace Cp3 := Cell.aft Cp3 hC rfl
  replace Cp4 := Cell.aft Cp4 hC rfl
  replace Cp6 := Cell.aft Cp6 hC rfl
  replace S5 := hk 5 _ (by kernel_rfl) S5
  replace S6 := hk 6 _ (by kernel_rfl) S6
  replace S7 := hk 7 _ (by kernel_rfl) S7
  replace S10 := hk 10 _ (by kernel_rfl) S10
  replace S12 := hk 12 _ (by kernel_rfl) S12
  clear S126
  obtain ⟨p8, S21, Cp8, lp8, gp8⟩ := gotB hz' 9 hC hh rfl rfl rfl rfl rfl rfl
  have n_p8_p2 : p8 ≠ p2 := by omega
  have n_p8_p3 : p8 ≠ p3 := by omega
  clear lp8 gp8
  clear tp2 tp3
  replace HB := aft_call HB (RelC.below_nil hC)
  clear hC hk hh; replace hz := hz'; replace hd := hd'; clear hz' hd'
  refine wp_seq ?_
  refine region_text (M := []) (
      rT (tN B32 1000000 (xs.getD i 0)) ::
      rT (tV (.pointer (some ⟨p1, 3, none⟩))) ::
      rT (tV (.int .i64 os)) ::
      rT (tV (.int .i64 (sn : Int))) ::
      rT (tT [tN B32 17777216 (leftV (xs.getD i 0) (sn : Int)), tV (.bool (leftOk (xs.getD i 0) (sn : Int)))]) ::
      rT (tT [tN B32 17777216 (leftV (xs.getD i 0) (sn : Int)), tV (.bool (leftOk (xs.getD i 0) (sn : Int)))]) ::
      rT (tN B32 17777216 (leftV (xs.getD i 0) (sn : Int))) ::
      rT (tV (.bool (leftOk (xs.getD i 0) (sn : Int)))) ::
      rVar 8 44 1 ::
      rB 8 44 (tN B32 17777216 (leftV (xs.getD i 0) (sn : Int))) (some 8) 9 ::
      rT (tV (.bool (leftOk (xs.getD i 0) (sn : Int)))) ::
      []) hz hd (by kernel_rfl) ?_ ?_
  · refine ⟨?_, ?_, ?_, ?_, ?_, ?_, ?_, ?_, ?_, ?_, ?_, trivial⟩
    · exact sLoad rfl rfl rfl hz rfl (Gd.none_ rfl) rfl (Src.out (t := 12) (by kernel_rfl) S12 rfl) Cp6 rfl ld_n32
    · exact sFA rfl rfl rfl hz rfl (Gd.none_ rfl) rfl (Src.out (t := 5) (by kernel_rfl) S5 rfl) (fun w => by simp [go_sem])
    · exact sLoadF rfl rfl rfl hz rfl (Gd.none_ rfl) rfl (Src.dep (j := 1) (t := 138) (by kernel_rfl) (by kernel_rfl) rfl) Cp1 rfl rfl (fun w h => by simp [go_sem, h])
    · exact sBin rfl rfl rfl hz rfl (Gd.none_ rfl) rfl (Src.dep (j := 2) (t := 139) (by kernel_rfl) (by kernel_rfl) rfl) (Src.const (.int .i64 127)) (fun w => by simp [go_sem, es])
    · exact sCall rfl rfl rfl hz rfl (Gd.none_ rfl) rfl Try.func70 (by kernel_rfl) (by kernel_rfl) fun a γ w U => (by show Calls _ _ #[a.eval (.tmp 137), a.eval (.tmp 140)] _ _; rw [show a.eval (.tmp 140) = .int .i64 (sn : Int) from Src.at_ (Src.dep (j := 3) (t := 140) (by kernel_rfl) (by kernel_rfl) rfl) U]; exact d_left (Src.at_ (Src.dep (j := 0) (t := 137) (by kernel_rfl) (by kernel_rfl) rfl) U) (by decide) hs0)
    · exact sMv rfl rfl rfl hz rfl (Gd.none_ rfl) rfl (Src.dep (j := 4) (t := 141) (by kernel_rfl) (by kernel_rfl) rfl)
    · exact sExt rfl rfl rfl hz rfl (Gd.none_ rfl) rfl (Src.dep (j := 5) (t := 136) (by kernel_rfl) (by kernel_rfl) rfl) rfl
    · exact sExt rfl rfl rfl hz rfl (Gd.none_ rfl) rfl (Src.dep (j := 5) (t := 136) (by kernel_rfl) (by kernel_rfl) rfl) rfl
    · exact sAlloc rfl rfl rfl hz rfl rfl rfl rfl nd_slice al_n32
    · exact sStore rfl rfl rfl rfl rfl (by kernel_rfl) (by kernel_rfl) rfl (Src.dep (j := 6) (t := 142) (by kernel_rfl) (by kernel_rfl) rfl) st_n32
    · exact sAs rfl rfl rfl hz rfl (Gd.none_ rfl) rfl (Src.dep (j := 7) (t := 143) (by kernel_rfl) (by kernel_rfl) rfl)
  intro a' γ' W' hz' hd' hC hk hh
  replace Cp1 := Cell.aft Cp1 hC rfl
  have tp2 := Cp2.lt
  replace Cp2 := Cell.aft Cp2 hC rfl
  have tp3 := Cp3.lt
  replace Cp3 := Cell.aft Cp3 hC rfl
  replace Cp4 := Cell.aft Cp4 hC rfl
  replace Cp6 := Cell.aft Cp6 hC rfl
  replace Cp8 := Cell.aft Cp8 hC rfl
  replace S5 := hk 5 _ (by kernel_rfl) S5
  replace S6 := hk 6 _ (by kernel_rfl) S6
  replace S7 := hk 7 _ (by kernel_rfl) S7
  replace S10 := hk 10 _ (by kernel_rfl) S10
  replace S12 := hk 12 _ (by kernel_rfl) S12
  replace S21 := hk 21 _ (by kernel_rfl) S21
  obtain ⟨p9, S23, Cp9, lp9, gp9⟩ := gotB hz' 9 hC hh rfl rfl rfl rfl rfl rfl
  have n_p9_p2 : p9 ≠ p2 := by omega
  have n_p9_p3 : p9 ≠ p3 := by omega
  clear lp9 gp9
  clear tp2 tp3
  replace HB := aft_call HB (RelC.below_nil hC)
  clear hC hk hh; replace hz := hz'; replace hd := hd'; clear hz' hd'
  refine wp_seq ?_
  refine region_drawn (M := [p2, p3]) (
      rT (tN B64 17777216 (leftV (xs.getD i 0) (sn : Int))) ::
      rT (tN B32 17777216 (leftV (xs.getD i 0) (sn : Int))) ::
      rE 0 25 (tN B64 17777216 (leftV (xs.getD i 0) (sn : Int))) p2 ::
      rE 1 44 (tN B32 17777216 (leftV (xs.getD i 0) (sn : Int))) p3 ::
      []) hz hd (by kernel_rfl) (by kernel_rfl) ?_ ?_
  · refine ⟨?_, ?_, ?_, ?_, trivial⟩
    · exact sLoad rfl rfl rfl hz rfl (Gd.none_ rfl) rfl (Src.out (t := 21) (by kernel_rfl) S21 rfl) Cp8 (by simp [tagOf, n_p8_p2, n_p8_p3]) ld_n64
    · exact sLoad rfl rfl rfl hz rfl (Gd.none_ rfl) rfl (Src.out (t := 23) (by kernel_rfl) S23 rfl) Cp9 (by simp [tagOf, n_p9_p2, n_p9_p3]) ld_n32
    · exact sStoreE rfl rfl rfl rfl rfl (Src.out (t := 6) (by kernel_rfl) S6 rfl) (by simp [tagOf]) (Cp2.var tN_nd) (Src.dep (j := 0) (t := 144) (by kernel_rfl) (by kernel_rfl) rfl) st_n64
    · exact sStoreE rfl rfl rfl rfl rfl (Src.out (t := 7) (by kernel_rfl) S7 rfl) (by simp [tagOf, n_p3_p2]) (Cp3.var tN_nd) (Src.dep (j := 1) (t := 145) (by kernel_rfl) (by kernel_rfl) rfl) st_n32
  intro a' γ' W' hz' hd' hC hk hh
  replace Cp1 := Cell.aft Cp1 hC (by simp [tagOf, n_p1_p2, n_p1_p3])
  replace Cp2 := gotE (T := tN B64 17777216 (leftV (xs.getD i 0) (sn : Int))) (id := 25) (p := p2) 2 hh rfl rfl
  replace Cp3 := gotE (T := tN B32 17777216 (leftV (xs.getD i 0) (sn : Int))) (id := 44) (p := p3) 3 hh rfl rfl
  replace Cp4 := Cell.aft Cp4 hC (by simp [tagOf, n_p4_p2, n_p4_p3])
  replace Cp6 := Cell.aft Cp6 hC (by simp [tagOf, n_p6_p2, n_p6_p3])
  clear Cp8
  clear Cp9
  replace S5 := hk 5 _ (by kernel_rfl) S5
  replace S6 := hk 6 _ (by kernel_rfl) S6
  replace S7 := hk 7 _ (by kernel_rfl) S7
  replace S10 := hk 10 _ (by kernel_rfl) S10
  replace S12 := hk 12 _ (by kernel_rfl) S12
  clear S21
  clear S23
  replace HB := RelC.aftM HB hC (by intro m hm; simp at hm; rcases hm with rfl | rfl <;> assumption)
  clear hC hk hh; replace hz := hz'; replace hd := hd'; clear hz' hd'
  refine wp_ret ?_
  exact ret2n (by kernel_rfl) S6 S7 hd Cp2 Cp3 HB

set_option maxRecDepth 10000 in
set_option maxHeartbeats 2000000 in
theorem after7 {gl gm n cl cm ia ja i j sn : Nat} {ok oi oj os : Int} {xs : List Nat} {w : World} (HL : Rw B64 25 1000000 gl xs w) (HM : Rw B32 44 1000000 gm xs w) (hn0 : ¬ n = 0) (hi : i < xs.length) (hj : j < xs.length) (hi2 : i < n) (hj2 : j < n)
    (ei : bits .and .i64 oi 255 = (ia : Int)) (ej : bits .and .i64 oj 255 = (ja : Int)) (es : bits .and .i64 os 127 = (sn : Int)) (ri : (ia : Int).tmod (n : Int) = (i : Int)) (rj : (ja : Int).tmod (n : Int) = (j : Int)) (ek : bits .and .i64 ok 7 = 7) (hs0 : -9223372036854775808 ≤ (sn : Int)) (hs1 : (sn : Int) ≤ 9223372036854775807) :
    Calls Try.prog 44 #[.slice (some ⟨gl, 0, none⟩) n cl, .slice (some ⟨gm, 0, none⟩) n cm, .agg #[.int .i64 ok, .int .i64 oi, .int .i64 oj, .int .i64 os]] w (Ret (tT [tN B64 1000000 ((xs.getD i 0) / 2 ^ (sn : Int).toNat), tN B32 1000000 ((xs.getD i 0) / 2 ^ (sn : Int).toNat)]) w) := by
  refine enter Try.func44 rfl Try.ntmps44 (by simp) ?_
  intro a hz hd ha
  have S0 := ha 0 _ rfl
  have S1 := ha 1 _ rfl
  have S2 := ha 2 _ rfl
  clear ha
  have HB : Below w.heap.size w w := Below.refl _ _
  refine wp_seq ?_
  refine region_text (M := []) (
      rB 0 74 (tV (.agg #[.int .i64 ok, .int .i64 oi, .int .i64 oj, .int .i64 os])) none 0 ::
      rB 1 25 (tN B64 0 0) none 0 ::
      rB 2 44 (tN B32 0 0) none 0 ::
      []) hz hd (by kernel_rfl) ?_ ?_
  · refine ⟨?_, ?_, ?_, trivial⟩
    · exact sBox rfl rfl rfl hz rfl rfl rfl (Src.out (t := 2) (by kernel_rfl) S2 rfl) box_op
    · exact sNew rfl rfl rfl hz rfl rfl rfl (fun _ => tN_nil) al_n64
    · exact sNew rfl rfl rfl hz rfl rfl rfl (fun _ => tN_nil) al_n32
  intro a' γ' W' hz' hd' hC hk hh
  replace S0 := hk 0 _ (by kernel_rfl) S0
  replace S1 := hk 1 _ (by kernel_rfl) S1
  clear S2
  replace HL := Rw.aft HL hC rfl
  replace HM := Rw.aft HM hC rfl
  obtain ⟨p1, S5, Cp1, lp1, gp1⟩ := gotB hz' 0 hC hh rfl rfl rfl rfl rfl rfl
  obtain ⟨p2, S6, Cp2, lp2, gp2⟩ := gotB hz' 1 hC hh rfl rfl rfl rfl rfl rfl
  obtain ⟨p3, S7, Cp3, lp3, gp3⟩ := gotB hz' 2 hC hh rfl rfl rfl rfl rfl rfl
  have n_p1_p2 : p1 ≠ p2 := by intro e; rw [e, gp2] at gp1; omega
  have n_p1_p3 : p1 ≠ p3 := by intro e; rw [e, gp3] at gp1; omega
  have n_p2_p3 : p2 ≠ p3 := by intro e; rw [e, gp3] at gp2; omega
  have n_p3_p2 : p3 ≠ p2 := by intro e; rw [e, gp2] at gp3; omega
  have bp2 : w.heap.size ≤ p2 := Nat.le_trans HB.size lp2
  have bp3 : w.heap.size ≤ p3 := Nat.le_trans HB.size lp3
  clear lp1 gp1 lp2 gp2 lp3 gp3
  replace HB := aft_call HB (RelC.below_nil hC)
  clear hC hk hh; replace hz := hz'; replace hd := hd'; clear hz' hd'
  refine wp_seq ?_
  refine region_drawn (M := []) (
      rT (tV (.pointer (some ⟨p1, 1, none⟩))) ::
      rT (tV (.int .i64 oi)) ::
      rT (tV (.int .i64 (ia : Int))) ::
      rT (tV (.slice (some ⟨gl, 0, none⟩) n cl)) ::
      rT (tV (.int .i64 (n : Int))) ::
      rT (tV (.int .i64 (i : Int))) ::
      rT (tV (.pointer (some ⟨p1, 2, none⟩))) ::
      rT (tV (.int .i64 oj)) ::
      rT (tV (.int .i64 (ja : Int))) ::
      rT (tV (.slice (some ⟨gl, 0, none⟩) n cl)) ::
      rT (tV (.int .i64 (n : Int))) ::
      rT (tV (.int .i64 (j : Int))) ::
      rT (tV (.int .i64 (i : Int))) ::
      rT (tV (.int .i64 (j : Int))) ::
      []) hz hd (by kernel_rfl) (by kernel_rfl) ?_ ?_
  · refine ⟨?_, ?_, ?_, ?_, ?_, ?_, ?_, ?_, ?_, ?_, ?_, ?_, ?_, ?_, trivial⟩
    · exact sFA rfl rfl rfl hz rfl (Gd.none_ rfl) rfl (Src.out (t := 5) (by kernel_rfl) S5 rfl) (fun w => by simp [go_sem])
    · exact sLoadF rfl rfl rfl hz rfl (Gd.none_ rfl) rfl (Src.dep (j := 0) (t := 25) (by kernel_rfl) (by kernel_rfl) rfl) Cp1 rfl rfl (fun w h => by simp [go_sem, h])
    · exact sBin rfl rfl rfl hz rfl (Gd.none_ rfl) rfl (Src.dep (j := 1) (t := 26) (by kernel_rfl) (by kernel_rfl) rfl) (Src.const (.int .i64 255)) (fun w => by simp [go_sem, ei])
    · exact sMv rfl rfl rfl hz rfl (Gd.none_ rfl) rfl (Src.out (t := 0) (by kernel_rfl) S0 rfl)
    · exact sLen rfl rfl rfl hz rfl (Gd.none_ rfl) rfl (Src.dep (j := 3) (t := 28) (by kernel_rfl) (by kernel_rfl) rfl) (fun v w h => ⟨_, _, h⟩) len64
    · exact sBin rfl rfl rfl hz rfl (Gd.none_ rfl) rfl (Src.dep (j := 2) (t := 27) (by kernel_rfl) (by kernel_rfl) rfl) (Src.dep (j := 4) (t := 29) (by kernel_rfl) (by kernel_rfl) rfl) (fun w => by simp [go_sem, hn0, ri])
    · exact sFA rfl rfl rfl hz rfl (Gd.none_ rfl) rfl (Src.out (t := 5) (by kernel_rfl) S5 rfl) (fun w => by simp [go_sem])
    · exact sLoadF rfl rfl rfl hz rfl (Gd.none_ rfl) rfl (Src.dep (j := 6) (t := 31) (by kernel_rfl) (by kernel_rfl) rfl) Cp1 rfl rfl (fun w h => by simp [go_sem, h])
    · exact sBin rfl rfl rfl hz rfl (Gd.none_ rfl) rfl (Src.dep (j := 7) (t := 32) (by kernel_rfl) (by kernel_rfl) rfl) (Src.const (.int .i64 255)) (fun w => by simp [go_sem, ej])
    · exact sMv rfl rfl rfl hz rfl (Gd.none_ rfl) rfl (Src.out (t := 0) (by kernel_rfl) S0 rfl)
    · exact sLen rfl rfl rfl hz rfl (Gd.none_ rfl) rfl (Src.dep (j := 9) (t := 34) (by kernel_rfl) (by kernel_rfl) rfl) (fun v w h => ⟨_, _, h⟩) len64
    · exact sBin rfl rfl rfl hz rfl (Gd.none_ rfl) rfl (Src.dep (j := 8) (t := 33) (by kernel_rfl) (by kernel_rfl) rfl) (Src.dep (j := 10) (t := 35) (by kernel_rfl) (by kernel_rfl) rfl) (fun w => by simp [go_sem, hn0, rj])
    · exact sAs rfl rfl rfl hz rfl (Gd.none_ rfl) rfl (Src.dep (j := 5) (t := 30) (by kernel_rfl) (by kernel_rfl) rfl)
    · exact sAs rfl rfl rfl hz rfl (Gd.none_ rfl) rfl (Src.dep (j := 11) (t := 36) (by kernel_rfl) (by kernel_rfl) rfl)
  intro a' γ' W' hz' hd' hC hk hh
  replace Cp1 := Cell.aft Cp1 hC rfl
  have tp2 := Cp2.lt
  replace Cp2 := Cell.aft Cp2 hC rfl
  have tp3 := Cp3.lt
  replace Cp3 := Cell.aft Cp3 hC rfl
  replace S0 := hk 0 _ (by kernel_rfl) S0
  replace S1 := hk 1 _ (by kernel_rfl) S1
  replace S5 := hk 5 _ (by kernel_rfl) S5
  replace S6 := hk 6 _ (by kernel_rfl) S6
  replace S7 := hk 7 _ (by kernel_rfl) S7
  replace HL := Rw.aft HL hC rfl
  replace HM := Rw.aft HM hC rfl
  have S8 := gotV hz' 12 hh rfl rfl rfl rfl
  have S9 := gotV hz' 13 hh rfl rfl rfl rfl
  clear tp2 tp3
  replace HB := aft_call HB (RelC.below_nil hC)
  clear hC hk hh; replace hz := hz'; replace hd := hd'; clear hz' hd'
  refine wp_seq ?_
  refine region_drawn (M := []) (
      rT (tV (.slice (some ⟨gl, 0, none⟩) n cl)) ::
      rT (tV (.int .i64 (i : Int))) ::
      rT (tV (.pointer (some ⟨gl, i, none⟩))) ::
      rT (tN B64 1000000 (xs.getD i 0)) ::
      rT (tV (.slice (some ⟨gl, 0, none⟩) n cl)) ::
      rT (tV (.int .i64 (j : Int))) ::
      rT (tV (.pointer (some ⟨gl, j, none⟩))) ::
      rT (tN B64 1000000 (xs.getD j 0)) ::
      rT (tV (.slice (some ⟨gm, 0, none⟩) n cm)) ::
      rT (tV (.int .i64 (i : Int))) ::
      rT (tV (.pointer (some ⟨gm, i, none⟩))) ::
      rT (tN B32 1000000 (xs.getD i 0)) ::
      rT (tV (.slice (some ⟨gm, 0, none⟩) n cm)) ::
      rT (tV (.int .i64 (j : Int))) ::
      rT (tV (.pointer (some ⟨gm, j, none⟩))) ::
      rT (tN B32 1000000 (xs.getD j 0)) ::
      rVar 16 25 1 ::
      rVar 17 25 1 ::
      rVar 18 44 1 ::
      rVar 19 44 1 ::
      rB 16 25 (tN B64 1000000 (xs.getD i 0)) (some 16) 17 ::
      rB 17 25 (tN B64 1000000 (xs.getD j 0)) (some 17) 18 ::
      rB 18 44 (tN B32 1000000 (xs.getD i 0)) (some 18) 19 ::
      rB 19 44 (tN B32 1000000 (xs.getD j 0)) (some 19) 20 ::
      []) hz hd (by kernel_rfl) (by kernel_rfl) ?_ ?_
  · refine ⟨?_, ?_, ?_, ?_, ?_, ?_, ?_, ?_, ?_, ?_, ?_, ?_, ?_, ?_, ?_, ?_, ?_, ?_, ?_, ?_, ?_, ?_, ?_, ?_, trivial⟩
    · exact sMv rfl rfl rfl hz rfl (Gd.none_ rfl) rfl (Src.out (t := 0) (by kernel_rfl) S0 rfl)
    · exact sMv rfl rfl rfl hz rfl (Gd.none_ rfl) rfl (Src.out (t := 8) (by kernel_rfl) S8 rfl)
    · exact sIdx rfl rfl rfl hz rfl (Gd.none_ rfl) rfl (Src.dep (j := 0) (t := 37) (by kernel_rfl) (by kernel_rfl) rfl) (Src.dep (j := 1) (t := 38) (by kernel_rfl) (by kernel_rfl) rfl) (ia64 hi2)
    · exact sLoadRow rfl rfl rfl hz rfl (Gd.none_ rfl) rfl (Src.dep (j := 2) (t := 39) (by kernel_rfl) (by kernel_rfl) rfl) HL rfl hi ldr64
    · exact sMv rfl rfl rfl hz rfl (Gd.none_ rfl) rfl (Src.out (t := 0) (by kernel_rfl) S0 rfl)
    · exact sMv rfl rfl rfl hz rfl (Gd.none_ rfl) rfl (Src.out (t := 9) (by kernel_rfl) S9 rfl)
    · exact sIdx rfl rfl rfl hz rfl (Gd.none_ rfl) rfl (Src.dep (j := 4) (t := 41) (by kernel_rfl) (by kernel_rfl) rfl) (Src.dep (j := 5) (t := 42) (by kernel_rfl) (by kernel_rfl) rfl) (ia64 hj2)
    · exact sLoadRow rfl rfl rfl hz rfl (Gd.none_ rfl) rfl (Src.dep (j := 6) (t := 43) (by kernel_rfl) (by kernel_rfl) rfl) HL rfl hj ldr64
    · exact sMv rfl rfl rfl hz rfl (Gd.none_ rfl) rfl (Src.out (t := 1) (by kernel_rfl) S1 rfl)
    · exact sMv rfl rfl rfl hz rfl (Gd.none_ rfl) rfl (Src.out (t := 8) (by kernel_rfl) S8 rfl)
    · exact sIdx rfl rfl rfl hz rfl (Gd.none_ rfl) rfl (Src.dep (j := 8) (t := 45) (by kernel_rfl) (by kernel_rfl) rfl) (Src.dep (j := 9) (t := 46) (by kernel_rfl) (by kernel_rfl) rfl) (ia32 hi2)
    · exact sLoadRow rfl rfl rfl hz rfl (Gd.none_ rfl) rfl (Src.dep (j := 10) (t := 47) (by kernel_rfl) (by kernel_rfl) rfl) HM rfl hi ldr32
    · exact sMv rfl rfl rfl hz rfl (Gd.none_ rfl) rfl (Src.out (t := 1) (by kernel_rfl) S1 rfl)
    · exact sMv rfl rfl rfl hz rfl (Gd.none_ rfl) rfl (Src.out (t := 9) (by kernel_rfl) S9 rfl)
    · exact sIdx rfl rfl rfl hz rfl (Gd.none_ rfl) rfl (Src.dep (j := 12) (t := 49) (by kernel_rfl) (by kernel_rfl) rfl) (Src.dep (j := 13) (t := 50) (by kernel_rfl) (by kernel_rfl) rfl) (ia32 hj2)
    · exact sLoadRow rfl rfl rfl hz rfl (Gd.none_ rfl) rfl (Src.dep (j := 14) (t := 51) (by kernel_rfl) (by kernel_rfl) rfl) HM rfl hj ldr32
    · exact sAlloc rfl rfl rfl hz rfl rfl rfl rfl nd_slice al_n64
    · exact sAlloc rfl rfl rfl hz rfl rfl rfl rfl nd_slice al_n64
    · exact sAlloc rfl rfl rfl hz rfl rfl rfl rfl nd_slice al_n32
    · exact sAlloc rfl rfl rfl hz rfl rfl rfl rfl nd_slice al_n32
    · exact sStore rfl rfl rfl rfl rfl (by kernel_rfl) (by kernel_rfl) rfl (Src.dep (j := 3) (t := 40) (by kernel_rfl) (by kernel_rfl) rfl) st_n64
    · exact sStore rfl rfl rfl rfl rfl (by kernel_rfl) (by kernel_rfl) rfl (Src.dep (j := 7) (t := 44) (by kernel_rfl) (by kernel_rfl) rfl) st_n64
    · exact sStore rfl rfl rfl rfl rfl (by kernel_rfl) (by kernel_rfl) rfl (Src.dep (j := 11) (t := 48) (by kernel_rfl) (by kernel_rfl) rfl) st_n32
    · exact sStore rfl rfl rfl rfl rfl (by kernel_rfl) (by kernel_rfl) rfl (Src.dep (j := 15) (t := 52) (by kernel_rfl) (by kernel_rfl) rfl) st_n32
  intro a' γ' W' hz' hd' hC hk hh
  replace Cp1 := Cell.aft Cp1 hC rfl
  have tp2 := Cp2.lt
  replace Cp2 := Cell.aft Cp2 hC rfl
  have tp3 := Cp3.lt
  replace Cp3 := Cell.aft Cp3 hC rfl
  clear S0
  clear S1
  replace S5 := hk 5 _ (by kernel_rfl) S5
  replace S6 := hk 6 _ (by kernel_rfl) S6
  replace S7 := hk 7 _ (by kernel_rfl) S7
  clear S8
  clear S9
  clear HL
  clear HM
  obtain ⟨p4, S10, Cp4, lp4, gp4⟩ := gotB hz' 20 hC hh rfl rfl rfl rfl rfl rfl
  obtain ⟨p5, S11, Cp5, lp5, gp5⟩ := gotB hz' 21 hC hh rfl rfl rfl rfl rfl rfl
  obtain ⟨p6, S12, Cp6, lp6, gp6⟩ := gotB hz' 22 hC hh rfl rfl rfl rfl rfl rfl
  obtain ⟨p7, S13, Cp7, lp7, gp7⟩ := gotB hz' 23 hC hh rfl rfl rfl rfl rfl rfl
  have n_p4_p2 : p4 ≠ p2 := by omega
  have n_p4_p3 : p4 ≠ p3 := by omega
  have n_p5_p2 : p5 ≠ p2 := by omega
  have n_p5_p3 : p5 ≠ p3 := by omega
  have n_p6_p2 : p6 ≠ p2 := by omega
  have n_p6_p3 : p6 ≠ p3 := by omega
  have n_p7_p2 : p7 ≠ p2 := by omega
  have n_p7_p3 : p7 ≠ p3 := by omega
  clear lp4 gp4 lp5 gp5 lp6 gp6 lp7 gp7
  clear tp2 tp3
  replace HB := aft_call HB (RelC.below_nil hC)
  clear hC hk hh; replace hz := hz'; replace hd := hd'; clear hz' hd'
  refine wp_seq ?_
  refine wp_seq ?_
  refine region_text (M := []) (
      rT (tV (.pointer (some ⟨p1, 0, none⟩))) ::
      rT (tV (.int .i64 ok)) ::
      rT (tV (.int .i64 7)) ::
      []) hz hd (by kernel_rfl) ?_ ?_
  · refine ⟨?_, ?_, ?_, trivial⟩
    · exact sFA rfl rfl rfl hz rfl (Gd.none_ rfl) rfl (Src.out (t := 5) (by kernel_rfl) S5 rfl) (fun w => by simp [go_sem])
    · exact sLoadF rfl rfl rfl hz rfl (Gd.none_ rfl) rfl (Src.dep (j := 0) (t := 53) (by kernel_rfl) (by kernel_rfl) rfl) Cp1 rfl rfl (fun w h => by simp [go_sem, h])
    · exact sBin rfl rfl rfl hz rfl (Gd.none_ rfl) rfl (Src.dep (j := 1) (t := 54) (by kernel_rfl) (by kernel_rfl) rfl) (Src.const (.int .i64 7)) (fun w => by simp [go_sem, ek])
  intro a' γ' W' hz' hd' hC hk hh
  replace Cp1 := Cell.aft Cp1 hC rfl
  have tp2 := Cp2.lt
  replace Cp2 := Cell.aft Cp2 hC rfl
  have tp3 := Cp3.lt
  replace Cp3 := Cell.aft Cp3 hC rfl
  replace Cp4 := Cell.aft Cp4 hC rfl
  replace Cp5 := Cell.aft Cp5 hC rfl
  replace Cp6 := Cell.aft Cp6 hC rfl
  replace Cp7 := Cell.aft Cp7 hC rfl
  replace S5 := hk 5 _ (by kernel_rfl) S5
  replace S6 := hk 6 _ (by kernel_rfl) S6
  replace S7 := hk 7 _ (by kernel_rfl) S7
  replace S10 := hk 10 _ (by kernel_rfl) S10
  replace S11 := hk 11 _ (by kernel_rfl) S11
  replace S12 := hk 12 _ (by kernel_rfl) S12
  replace S13 := hk 13 _ (by kernel_rfl) S13
  have S55 := gotV hz' 2 hh rfl rfl rfl rfl
  clear tp2 tp3
  replace HB := aft_call HB (RelC.below_nil hC)
  clear hC hk hh; replace hz := hz'; replace hd := hd'; clear hz' hd'
  refine wp_block ?_
  refine wp_seq ?_
  refine region_text (M := []) (
      rT (tV (.bool false)) ::
      rT (tV (.bool false)) ::
      []) hz hd (by kernel_rfl) ?_ ?_
  · refine ⟨?_, ?_, trivial⟩
    · exact sBin rfl rfl rfl hz rfl (Gd.none_ rfl) rfl (Src.out (t := 55) (by kernel_rfl) S55 rfl) (Src.const (.int .i64 0)) (fun w => by simp [go_sem])
    · exact sAs rfl rfl rfl hz rfl (Gd.none_ rfl) rfl (Src.dep (j := 0) (t := 57) (by kernel_rfl) (by kernel_rfl) rfl)
  intro a' γ' W' hz' hd' hC hk hh
  replace Cp1 := Cell.aft Cp1 hC rfl
  have tp2 := Cp2.lt
  replace Cp2 := Cell.aft Cp2 hC rfl
  have tp3 := Cp3.lt
  replace Cp3 := Cell.aft Cp3 hC rfl
  replace Cp4 := Cell.aft Cp4 hC rfl
  replace Cp5 := Cell.aft Cp5 hC rfl
  replace Cp6 := Cell.aft Cp6 hC rfl
  replace Cp7 := Cell.aft Cp7 hC rfl
  replace S5 := hk 5 _ (by kernel_rfl) S5
  replace S6 := hk 6 _ (by kernel_rfl) S6
  replace S7 := hk 7 _ (by kernel_rfl) S7
  replace S10 := hk 10 _ (by kernel_rfl) S10
  replace S11 := hk 11 _ (by kernel_rfl) S11
  replace S12 := hk 12 _ (by kernel_rfl) S12
  replace S13 := hk 13 _ (by kernel_rfl) S13
  replace S55 := hk 55 _ (by kernel_rfl) S55
  have S56 := gotV hz' 1 hh rfl rfl rfl rfl
  clear tp2 tp3
  replace HB := aft_call HB (RelC.below_nil hC)
  clear hC hk hh; replace hz := hz'; replace hd := hd'; clear hz' hd'
  refine wp_cond_false S56.ev ?_
  refine wp_seq ?_
  refine region_text (M := []) (
      rT (tV (.bool false)) ::
      rT (tV (.bool false)) ::
      []) hz hd (by kernel_rfl) ?_ ?_
  · refine ⟨?_, ?_, trivial⟩
    · exact sBin rfl rfl rfl hz rfl (Gd.none_ rfl) rfl (Src.out (t := 55) (by kernel_rfl) S55 rfl) (Src.const (.int .i64 1)) (fun w => by simp [go_sem])
    · exact sAs rfl rfl rfl hz rfl (Gd.none_ rfl) rfl (Src.dep (j := 0) (t := 65) (by kernel_rfl) (by kernel_rfl) rfl)
  intro a' γ' W' hz' hd' hC hk hh
  replace Cp1 := Cell.aft Cp1 hC rfl
  have tp2 := Cp2.lt
  replace Cp2 := Cell.aft Cp2 hC rfl
  have tp3 := Cp3.lt
  replace Cp3 := Cell.aft Cp3 hC rfl
  replace Cp4 := Cell.aft Cp4 hC rfl
  replace Cp5 := Cell.aft Cp5 hC rfl
  replace Cp6 := Cell.aft Cp6 hC rfl
  replace Cp7 := Cell.aft Cp7 hC rfl
  replace S5 := hk 5 _ (by kernel_rfl) S5
  replace S6 := hk 6 _ (by kernel_rfl) S6
  replace S7 := hk 7 _ (by kernel_rfl) S7
  replace S10 := hk 10 _ (by kernel_rfl) S10
  replace S11 := hk 11 _ (by kernel_rfl) S11
  replace S12 := hk 12 _ (by kernel_rfl) S12
  replace S13 := hk 13 _ (by kernel_rfl) S13
  replace S55 := hk 55 _ (by kernel_rfl) S55
  clear S56
  have S64 := gotV hz' 1 hh rfl rfl rfl rfl
  clear tp2 tp3
  replace HB := aft_call HB (RelC.below_nil hC)
  clear hC hk hh; replace hz := hz'; replace hd := hd'; clear hz' hd'
  refine wp_cond_false S64.ev ?_
  refine wp_seq ?_
  refine region_text (M := []) (
      rT (tV (.bool false)) ::
      rT (tV (.bool false)) ::
      []) hz hd (by kernel_rfl) ?_ ?_
  · refine ⟨?_, ?_, trivial⟩
    · exact sBin rfl rfl rfl hz rfl (Gd.none_ rfl) rfl (Src.out (t := 55) (by kernel_rfl) S55 rfl) (Src.const (.int .i64 2)) (fun w => by simp [go_sem])
    · exact sAs rfl rfl rfl hz rfl (Gd.none_ rfl) rfl (Src.dep (j := 0) (t := 83) (by kernel_rfl) (by kernel_rfl) rfl)
  intro a' γ' W' hz' hd' hC hk hh
  replace Cp1 := Cell.aft Cp1 hC rfl
  have tp2 := Cp2.lt
  replace Cp2 := Cell.aft Cp2 hC rfl
  have tp3 := Cp3.lt
  replace Cp3 := Cell.aft Cp3 hC rfl
  replace Cp4 := Cell.aft Cp4 hC rfl
  replace Cp5 := Cell.aft Cp5 hC rfl
  replace Cp6 := Cell.aft Cp6 hC rfl
  replace Cp7 := Cell.aft Cp7 hC rfl
  replace S5 := hk 5 _ (by kernel_rfl) S5
  replace S6 := hk 6 _ (by kernel_rfl) S6
  replace S7 := hk 7 _ (by kernel_rfl) S7
  replace S10 := hk 10 _ (by kernel_rfl) S10
  replace S11 := hk 11 _ (by kernel_rfl) S11
  replace S12 := hk 12 _ (by kernel_rfl) S12
  replace S13 := hk 13 _ (by kernel_rfl) S13
  replace S55 := hk 55 _ (by kernel_rfl) S55
  clear S64
  have S82 := gotV hz' 1 hh rfl rfl rfl rfl
  clear tp2 tp3
  replace HB := aft_call HB (RelC.below_nil hC)
  clear hC hk hh; replace hz := hz'; replace hd := hd'; clear hz' hd'
  refine wp_cond_false S82.ev ?_
  refine wp_seq ?_
  refine wp_seq ?_
  refine region_text (M := []) (
      rT (tV (.bool false)) ::
      rT (tV (.bool false)) ::
      []) hz hd (by kernel_rfl) ?_ ?_
  · refine ⟨?_, ?_, trivial⟩
    · exact sBin rfl rfl rfl hz rfl (Gd.none_ rfl) rfl (Src.out (t := 55) (by kernel_rfl) S55 rfl) (Src.const (.int .i64 3)) (fun w => by simp [go_sem])
    · exact sAs rfl rfl rfl hz rfl (Gd.none_ rfl) rfl (Src.dep (j := 0) (t := 91) (by kernel_rfl) (by kernel_rfl) rfl)
  intro a' γ' W' hz' hd' hC hk hh
  replace Cp1 := Cell.aft Cp1 hC rfl
  have tp2 := Cp2.lt
  replace Cp2 := Cell.aft Cp2 hC rfl
  have tp3 := Cp3.lt
  replace Cp3 := Cell.aft Cp3 hC rfl
  replace Cp4 := Cell.aft Cp4 hC rfl
  replace Cp5 := Cell.aft Cp5 hC rfl
  replace Cp6 := Cell.aft Cp6 hC rfl
  replace Cp7 := Cell.aft Cp7 hC rfl
  replace S5 := hk 5 _ (by kernel_rfl) S5
  replace S6 := hk 6 _ (by kernel_rfl) S6
  replace S7 := hk 7 _ (by kernel_rfl) S7
  replace S10 := hk 10 _ (by kernel_rfl) S10
  replace S11 := hk 11 _ (by kernel_rfl) S11
  replace S12 := hk 12 _ (by kernel_rfl) S12
  replace S13 := hk 13 _ (by kernel_rfl) S13
  replace S55 := hk 55 _ (by kernel_rfl) S55
  clear S82
  have S90 := gotV hz' 1 hh rfl rfl rfl rfl
  clear tp2 tp3
  replace HB := aft_call HB (RelC.below_nil hC)
  clear hC hk hh; replace hz := hz'; replace hd := hd'; clear hz' hd'
  refine wp_cond_false S90.ev ?_
  refine region_text (M := []) (
      rT (tV (.bool false)) ::
      rT (tV (.bool false)) ::
      []) hz hd (by kernel_rfl) ?_ ?_
  · refine ⟨?_, ?_, trivial⟩
    · exact sBin rfl rfl rfl hz rfl (Gd.none_ rfl) rfl (Src.out (t := 55) (by kernel_rfl) S55 rfl) (Src.const (.int .i64 4)) (fun w => by simp [go_sem])
    · exact sAs rfl rfl rfl hz rfl (Gd.none_ rfl) rfl (Src.dep (j := 0) (t := 92) (by kernel_rfl) (by kernel_rfl) rfl)
  intro a' γ' W' hz' hd' hC hk hh
  replace Cp1 := Cell.aft Cp1 hC rfl
  have tp2 := Cp2.lt
  replace Cp2 := Cell.aft Cp2 hC rfl
  have tp3 := Cp3.lt
  replace Cp3 := Cell.aft Cp3 hC rfl
  replace Cp4 := Cell.aft Cp4 hC rfl
  replace Cp5 := Cell.aft Cp5 hC rfl
  replace Cp6 := Cell.aft Cp6 hC rfl
  replace Cp7 := Cell.aft Cp7 hC rfl
  replace S5 := hk 5 _ (by kernel_rfl) S5
  replace S6 := hk 6 _ (by kernel_rfl) S6
  replace S7 := hk 7 _ (by kernel_rfl) S7
  replace S10 := hk 10 _ (by kernel_rfl) S10
  replace S11 := hk 11 _ (by kernel_rfl) S11
  replace S12 := hk 12 _ (by kernel_rfl) S12
  replace S13 := hk 13 _ (by kernel_rfl) S13
  replace S55 := hk 55 _ (by kernel_rfl) S55
  clear S90
  have S90 := gotV hz' 1 hh rfl rfl rfl rfl
  clear tp2 tp3
  replace HB := aft_call HB (RelC.below_nil hC)
  clear hC hk hh; replace hz := hz'; replace hd := hd'; clear hz' hd'
  refine wp_cond_false S90.ev ?_
  refine wp_seq ?_
  refine region_text (M := []) (
      rT (tV (.bool false)) ::
      rT (tV (.bool false)) ::
      []) hz hd (by kernel_rfl) ?_ ?_
  · refine ⟨?_, ?_, trivial⟩
    · exact sBin rfl rfl rfl hz rfl (Gd.none_ rfl) rfl (Src.out (t := 55) (by kernel_rfl) S55 rfl) (Src.const (.int .i64 5)) (fun w => by simp [go_sem])
    · exact sAs rfl rfl rfl hz rfl (Gd.none_ rfl) rfl (Src.dep (j := 0) (t := 119) (by kernel_rfl) (by kernel_rfl) rfl)
  intro a' γ' W' hz' hd' hC hk hh
  replace Cp1 := Cell.aft Cp1 hC rfl
  have tp2 := Cp2.lt
  replace Cp2 := Cell.aft Cp2 hC rfl
  have tp3 := Cp3.lt
  replace Cp3 := Cell.aft Cp3 hC rfl
  replace Cp4 := Cell.aft Cp4 hC rfl
  replace Cp5 := Cell.aft Cp5 hC rfl
  replace Cp6 := Cell.aft Cp6 hC rfl
  replace Cp7 := Cell.aft Cp7 hC rfl
  replace S5 := hk 5 _ (by kernel_rfl) S5
  replace S6 := hk 6 _ (by kernel_rfl) S6
  replace S7 := hk 7 _ (by kernel_rfl) S7
  replace S10 := hk 10 _ (by kernel_rfl) S10
  replace S11 := hk 11 _ (by kernel_rfl) S11
  replace S12 := hk 12 _ (by kernel_rfl) S12
  replace S13 := hk 13 _ (by kernel_rfl) S13
  replace S55 := hk 55 _ (by kernel_rfl) S55
  clear S90
  have S118 := gotV hz' 1 hh rfl rfl rfl rfl
  clear tp2 tp3
  replace HB := aft_call HB (RelC.below_nil hC)
  clear hC hk hh; replace hz := hz'; replace hd := hd'; clear hz' hd'
  refine wp_cond_false S118.ev ?_
  refine wp_seq ?_
  refine region_text (M := []) (
      rT (tV (.bool false)) ::
      rT (tV (.bool false)) ::
      []) hz hd (by kernel_rfl) ?_ ?_
  · refine ⟨?_, ?_, trivial⟩
    · exact sBin rfl rfl rfl hz rfl (Gd.none_ rfl) rfl (Src.out (t := 55) (by kernel_rfl) S55 rfl) (Src.const (.int .i64 6)) (fun w => by simp [go_sem])
    · exact sAs rfl rfl rfl hz rfl (Gd.none_ rfl) rfl (Src.dep (j := 0) (t := 127) (by kernel_rfl) (by kernel_rfl) rfl)
  intro a' γ' W' hz' hd' hC hk hh
  replace Cp1 := Cell.aft Cp1 hC rfl
  have tp2 := Cp2.lt
  replace Cp2 := Cell.aft Cp2 hC rfl
  have tp3 := Cp3.lt
  replace Cp3 := Cell.aft Cp3 hC rfl
  replace Cp4 := Cell.aft Cp4 hC rfl
  clear Cp5
  replace Cp6 := Cell.aft Cp6 hC rfl
  clear Cp7
  replace S5 := hk 5 _ (by kernel_rfl) S5
  replace S6 := hk 6 _ (by kernel_rfl) S6
  replace S7 := hk 7 _ (by kernel_rfl) S7
  replace S10 := hk 10 _ (by kernel_rfl) S10
  clear S11
  replace S12 := hk 12 _ (by kernel_rfl) S12
  clear S13
  clear S55
  clear S118
  have S126 := gotV hz' 1 hh rfl rfl rfl rfl
  clear tp2 tp3
  replace HB := aft_call HB (RelC.below_nil hC)
  clear hC hk hh; replace hz := hz'; replace hd := hd'; clear hz' hd'
  refine wp_cond_false S126.ev ?_
  refine wp_skip ?_
  refine wp_seq ?_
  refine region_drawn (M := [p2, p3]) (
      rT (tN B64 1000000 (xs.getD i 0)) ::
      rT (tV (.pointer (some ⟨p1, 3, none⟩))) ::
      rT (tV (.int .i64 os)) ::
      rT (tV (.int .i64 (sn : Int))) ::
      rT (tN B64 1000000 ((xs.getD i 0) / 2 ^ (sn : Int).toNat)) ::
      rT (tN B32 1000000 (xs.getD i 0)) ::
      rT (tV (.pointer (some ⟨p1, 3, none⟩))) ::
      rT (tV (.int .i64 os)) ::
      rT (tV (.int .i64 (sn : Int))) ::
      rT (tN B32 1000000 ((xs.getD i 0) / 2 ^ (sn : Int).toNat)) ::
      rE 0 25 (tN B64 1000000 ((xs.getD i 0) / 2 ^ (sn : Int).toNat)) p2 ::
      rE 1 44 (tN B32 1000000 ((xs.getD i 0) / 2 ^ (sn : Int).toNat)) p3 ::
      []) hz hd (by kernel_rfl) (by kernel_rfl) ?_ ?_
  · refine ⟨?_, ?_, ?_, ?_, ?_, ?_, ?_, ?_, ?_, ?_, ?_, ?_, trivial⟩
    · exact sLoad rfl rfl rfl hz rfl (Gd.none_ rfl) rfl (Src.out (t := 10) (by kernel_rfl) S10 rfl) Cp4 (by simp [tagOf, n_p4_p2, n_p4_p3]) ld_n64
    · exact sFA rfl rfl rfl hz rfl (Gd.none_ rfl) rfl (Src.out (t := 5) (by kernel_rfl) S5 rfl) (fun w => by simp [go_sem])
    · exact sLoadF rfl rfl rfl hz rfl (Gd.none_ rfl) rfl (Src.dep (j := 1) (t := 147) (by kernel_rfl) (by kernel_rfl) rfl) Cp1 (by simp [tagOf, n_p1_p2, n_p1_p3]) rfl (fun w h => by simp [go_sem, h])
    · exact sBin rfl rfl rfl hz rfl (Gd.none_ rfl) rfl (Src.dep (j := 2) (t := 148) (by kernel_rfl) (by kernel_rfl) rfl) (Src.const (.int .i64 127)) (fun w => by simp [go_sem, es])
    · exact sCall rfl rfl rfl hz rfl (Gd.none_ rfl) rfl Try.func34 (by kernel_rfl) (by kernel_rfl) fun a γ w U => (by show Calls _ _ #[a.eval (.tmp 146), a.eval (.tmp 149)] _ _; rw [show a.eval (.tmp 149) = .int .i64 (sn : Int) from Src.at_ (Src.dep (j := 3) (t := 149) (by kernel_rfl) (by kernel_rfl) rfl) U]; exact c_right (Src.at_ (Src.dep (j := 0) (t := 146) (by kernel_rfl) (by kernel_rfl) rfl) U) (by decide) hs1)
    · exact sLoad rfl rfl rfl hz rfl (Gd.none_ rfl) rfl (Src.out (t := 12) (by kernel_rfl) S12 rfl) Cp6 (by simp [tagOf, n_p6_p2, n_p6_p3]) ld_n32
    · exact sFA rfl rfl rfl hz rfl (Gd.none_ rfl) rfl (Src.out (t := 5) (by kernel_rfl) S5 rfl) (fun w => by simp [go_sem])
    · exact sLoadF rfl rfl rfl hz rfl (Gd.none_ rfl) rfl (Src.dep (j := 6) (t := 152) (by kernel_rfl) (by kernel_rfl) rfl) Cp1 (by simp [tagOf, n_p1_p2, n_p1_p3]) rfl (fun w h => by simp [go_sem, h])
    · exact sBin rfl rfl rfl hz rfl (Gd.none_ rfl) rfl (Src.dep (j := 7) (t := 153) (by kernel_rfl) (by kernel_rfl) rfl) (Src.const (.int .i64 127)) (fun w => by simp [go_sem, es])
    · exact sCall rfl rfl rfl hz rfl (Gd.none_ rfl) rfl Try.func71 (by kernel_rfl) (by kernel_rfl) fun a γ w U => (by show Calls _ _ #[a.eval (.tmp 151), a.eval (.tmp 154)] _ _; rw [show a.eval (.tmp 154) = .int .i64 (sn : Int) from Src.at_ (Src.dep (j := 8) (t := 154) (by kernel_rfl) (by kernel_rfl) rfl) U]; exact d_right (Src.at_ (Src.dep (j := 5) (t := 151) (by kernel_rfl) (by kernel_rfl) rfl) U) (by decide) hs1)
    · exact sStoreE rfl rfl rfl rfl rfl (Src.out (t := 6) (by kernel_rfl) S6 rfl) (by simp [tagOf]) (Cp2.var tN_nd) (Src.dep (j := 4) (t := 150) (by kernel_rfl) (by kernel_rfl) rfl) st_n64
    · exact sStoreE rfl rfl rfl rfl rfl (Src.out (t := 7) (by kernel_rfl) S7 rfl) (by simp [tagOf, n_p3_p2]) (Cp3.var tN_nd) (Src.dep (j := 9) (t := 155) (by kernel_rfl) (by kernel_rfl) rfl) st_n32
  intro a' γ' W' hz' hd' hC hk hh
  clear Cp1
  replace Cp2 := gotE (T := tN B64 1000000 ((xs.getD i 0) / 2 ^ (sn : Int).toNat)) (id := 25) (p := p2) 10 hh rfl rfl
  replace Cp3 := gotE (T := tN B32 1000000 ((xs.getD i 0) / 2 ^ (sn : Int).toNat)) (id := 44) (p := p3) 11 hh rfl rfl
  clear Cp4
  clear Cp6
  clear S5
  replace S6 := hk 6 _ (by kernel_rfl) S6
  replace S7 := hk 7 _ (by kernel_rfl) S7
  clear S10
  clear S12
  clear S126
  replace HB := RelC.aftM HB hC (by intro m hm; simp at hm; rcases hm with rfl | rfl <;> assumption)
  clear hC hk hh; replace hz := hz'; replace hd := hd'; clear hz' hd'
  refine wp_ret ?_
  exact ret2n (by kernel_rfl) S6 S7 hd Cp2 Cp3 HB

end Go.Proofs.Ytijbhbjenddiaaa.Rg
