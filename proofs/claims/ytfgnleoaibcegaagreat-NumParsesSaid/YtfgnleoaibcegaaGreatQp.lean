/-
  Walks and plain laws, put together: VW VYP.
-/
import Derived.Test.YtfgnleoaibcegaaGreatQm
set_option linter.unusedVariables false
set_option linter.unusedSimpArgs false
namespace Go.Proofs.YtfgnleoaibcegaaGreat.Rg

open Go.RowKit

set_option maxRecDepth 10000 in
set_option maxHeartbeats 2000000 in
theorem numParses_ret {l : Nat} {L : List Nat} {w : World}  (hB : ∀ d ∈ L, d < 256) (hL : L.length ≤ 1000000000000000) (hl : 20000 ≤ l) (hl2 : l ≤ 30000) :
    Calls Tryz.prog 4 #[.string (strB L)] w (Ret (tV (.bool true)) w) := by
 refine enter Tryz.func4 rfl Tryz.ntmps4 (by simp) ?_
 intro a hz hd ha
 have S0 := ha 0 _ rfl
 clear ha
 have HB : Below w.heap.size w w := Below.refl _ _
 refine wp_seq ?_
 refine region_text (M := []) (
  rT (tV (.bool false)) ::
  []) hz hd (by kernel_rfl) ?_ ?_
 refine ⟨?_, trivial⟩
 exact zAs hz kc
 intro a' γ' W' hz' hd' hC hk hh
 replace S0 := kp hk S0
 have S2 := gotV hz' 0 hh rfl rfl rfl rfl
 replace HB := aft_call HB (RelC.below_nil hC)
 clear hC hk hh; replace hz := hz'; replace hd := hd'; clear hz' hd'
 refine wp_seq ?_
 refine region_text (M := []) (
  rT (tV (.string (strB L))) ::
  rT (tT [tQ B64 10000 (resX (parseR L)), tV (.int .i64 (resE (parseR L)))]) ::
  rT (tT [tQ B64 10000 (resX (parseR L)), tV (.int .i64 (resE (parseR L)))]) ::
  rT (tQ B64 10000 (resX (parseR L))) ::
  rT (tV (.int .i64 (resE (parseR L)))) ::
  rVar 5 28 2 ::
  rB 5 28 (tQ B64 10000 (resX (parseR L))) (some 5) 6 ::
  rT (tV (.int .i64 (resE (parseR L)))) ::
  []) hz hd (by kernel_rfl) ?_ ?_
 refine ⟨?_, ?_, ?_, ?_, ?_, ?_, ?_, ?_, trivial⟩
 exact zMv hz (sv S0)
 exact zC1 hz Tryz.func23 (sd 0 rfl) (k1 (fun _ => c_nparse hB hL))
 exact zMv hz (sd 1 rfl)
 exact zExt hz (sd 2 rfl)
 exact zExt hz (sd 2 rfl)
 exact zAl hz nd_rat al_r64
 exact zSt (sd 3 rfl) st_q64
 exact zAs hz (sd 4 rfl)
 intro a' γ' W' hz' hd' hC hk hh
 replace S0 := kp hk S0
 replace S2 := kp hk S2
 obtain ⟨p1, S3, Cp1, lp1, gp1⟩ := gotB hz' 6 hC hh rfl rfl rfl rfl rfl rfl
 have S4 := gotV hz' 7 hh rfl rfl rfl rfl
 clear lp1 gp1
 replace HB := aft_call HB (RelC.below_nil hC)
 clear hC hk hh; replace hz := hz'; replace hd := hd'; clear hz' hd'
 refine wp_seq ?_
 refine region_text (M := []) (
  rT (tV (.string (strB L))) ::
  rT (tT [tQ B32 l (resX (parseR L)), tV (.int .i64 (resE (parseR L)))]) ::
  rT (tT [tQ B32 l (resX (parseR L)), tV (.int .i64 (resE (parseR L)))]) ::
  rT (tQ B32 l (resX (parseR L))) ::
  rT (tV (.int .i64 (resE (parseR L)))) ::
  rVar 5 32 2 ::
  rB 5 32 (tQ B32 l (resX (parseR L))) (some 5) 6 ::
  rT (tV (.int .i64 (resE (parseR L)))) ::
  []) hz hd (by kernel_rfl) ?_ ?_
 refine ⟨?_, ?_, ?_, ?_, ?_, ?_, ?_, ?_, trivial⟩
 exact zMv hz (sv S0)
 exact zC1 hz Tryz.func24 (sd 0 rfl) (k1 (fun _ => d_nparse hB hL hl))
 exact zMv hz (sd 1 rfl)
 exact zExt hz (sd 2 rfl)
 exact zExt hz (sd 2 rfl)
 exact zAl hz nd_rat al_r32
 exact zSt (sd 3 rfl) st_q32
 exact zAs hz (sd 4 rfl)
 intro a' γ' W' hz' hd' hC hk hh
 replace Cp1 := kC hC Cp1
 clear S0
 replace S2 := kp hk S2
 replace S3 := kp hk S3
 replace S4 := kp hk S4
 obtain ⟨p2, S5, Cp2, lp2, gp2⟩ := gotB hz' 6 hC hh rfl rfl rfl rfl rfl rfl
 have S6 := gotV hz' 7 hh rfl rfl rfl rfl
 clear lp2 gp2
 replace HB := aft_call HB (RelC.below_nil hC)
 clear hC hk hh; replace hz := hz'; replace hd := hd'; clear hz' hd'
 refine wp_seq ?_
 refine region_text (M := []) (
  rT (tV (.int .i64 (resE (parseR L)))) ::
  rT (tV (.int .i64 (resE (parseR L)))) ::
  rT (tV (.int .i64 (resE (parseR L)))) ::
  rT (tV (.bool true)) ::
  rT (tV (.bool true)) ::
  rT (tQ B64 10000 (resX (parseR L))) ::
  rT (tQ B32 l (resX (parseR L))) ::
  rT (tV (.bool true)) ::
  rT (tV (.bool true)) ::
  rT (tV (.bool true)) ::
  rT (tV (.bool true)) ::
  rT (tV (.bool true)) ::
  rT (tV (.bool true)) ::
  []) hz hd (by kernel_rfl) ?_ ?_
 refine ⟨?_, ?_, ?_, ?_, ?_, ?_, ?_, ?_, ?_, ?_, ?_, ?_, ?_, trivial⟩
 exact zMv hz (sv S4)
 exact zC1 hz Tryz.func25 (sd 0 rfl) (k1 (fun _ => l_errno))
 exact zMv hz (sv S6)
 exact sBin rfl rfl rfl hz rfl (Gd.none_ rfl) rfl (sd 1 rfl) (sd 2 rfl) (fun w => by simp [go_sem])
 exact zMv hz (sd 3 rfl)
 exact zLd hz (sv S3) Cp1 ld_q64 (g := gT 4 rfl)
 exact zLd hz (sv S5) Cp2 ld_q32 (g := gT 4 rfl)
 exact zC2 hz Tryz.func26 (sd 5 rfl) (sd 6 rfl) (fun _ _ _ h0 h1 => l_same3 h0 h1 (by omega) (by omega)) (g := gT 4 rfl)
 exact zPT hz (sd 4 rfl) (sd 7 rfl)
 exact zMv hz (sd 8 rfl)
 exact zC0 hz Tryz.func12 (fun _ => l_started) (g := gT 9 rfl)
 exact zPT hz (sd 9 rfl) (sd 10 rfl)
 exact zAs hz (sd 11 rfl)
 intro a' γ' W' hz' hd' hC hk hh
 clear Cp1
 clear Cp2
 clear S2
 clear S3
 clear S4
 clear S5
 clear S6
 have S2 := gotV hz' 12 hh rfl rfl rfl rfl
 replace HB := aft_call HB (RelC.below_nil hC)
 clear hC hk hh; replace hz := hz'; replace hd := hd'; clear hz' hd'
 refine wp_ret ?_
 refine ret_to (T := tV (.bool true)) (ret1 (by kernel_rfl) S2 hd ⟨_, rfl, rfl, HB⟩) ?_
 exact fun _ _ h => h

end Go.Proofs.YtfgnleoaibcegaaGreat.Rg

namespace Go.Proofs.YtfgnleoaibcegaaGreat.Rg

open Go.RowKit Go.ChangeShapes Go.WideShapes Go.ChangeAt Go.Deep

theorem bytesL_len (s : ByteArray) : (bytesL s).length = s.data.toList.length := by unfold bytesL; rw [List.length_map]
theorem numParses_walk (s : ByteArray) (w : World) (h : s.data.toList.length ≤ reachBytes) : Calls Tryz.prog 4 #[.string s] w fun e w' => e = .returned (.bool true) ∧ Below w.heap.size w w' := by
  have e := numParses_ret (l := 20000) (L := bytesL s) (w := w) (bytesL_byte s) (by rw [bytesL_len]; refine Nat.le_trans h ?_; unfold reachBytes; decide) (by decide) (by decide)
  rw [strB_bytesL] at e
  exact ret_out3 e
end Go.Proofs.YtfgnleoaibcegaaGreat.Rg
