/-
  Walks and plain laws, put together: SH.
-/
import Derived.Test.YtijbhbjenddiaaaPd
set_option linter.unusedVariables false
set_option linter.unusedSimpArgs false
namespace Go.Proofs.Ytijbhbjenddiaaa.Rg
open Go.RowKit

theorem l_pair {l0 l1 l2 l3 x y : Nat} {v0 v1 v2 v3 : Value} {w : World} (h0 : (tN B64 l0 x).p v0 w) (h1 : (tN B64 l1 y).p v1 w) (h2 : (tN B32 l2 x).p v2 w) (h3 : (tN B32 l3 y).p v3 w) (b0 : l0 ≤ 10000000000) (b1 : l1 ≤ 10000000000) (b2 : l2 ≤ 10000000000) (b3 : l3 ≤ 10000000000) :
    Calls Try.prog 41 #[v0, v1, v2, v3] w (Ret (tV (.bool true)) w) := by
  have H0 := tN_le b0 _ _ h0; have H1 := tN_le b1 _ _ h1; have H2 := tN_le b2 _ _ h2; have H3 := tN_le b3 _ _ h3
  by_cases hlt : x < y
  · refine pair_less H0 H1 H2 H3 (decide_eq_false (by omega)) (by omega) ?_ (decide_eq_true (by omega)) (modOf_pos (by omega)) (decide_eq_false (by omega)) (by omega)
    unfold cmpI; rw [if_pos hlt]; rfl
  · have hc : decide (cmpI x y < 0) = false := by unfold cmpI; rw [if_neg hlt]; split <;> rfl
    by_cases hy : y = 0
    · subst hy
      exact pair_zero H0 H1 H2 H3 rfl hc rfl rfl rfl (Nat.div_zero x) (Nat.zero_le _)
    · exact pair_great H0 H1 H2 H3 (decide_eq_true (by omega)) hc (decide_eq_true (by omega)) (modOf_pos (by omega)) (decide_eq_false hy) (by omega) (by omega)

set_option maxRecDepth 10000 in
set_option maxHeartbeats 2000000 in
theorem natMakes_ret {n : Nat} {n1 : Nat} {l : List Nat} {s : ByteArray} {i : Int} {v1 : Value} {w : World} (h1 : (tBy n1 l).p v1 w) (hn : n < B64) (hi1 : i ≤ 9223372036854775807) :
    Calls Try.prog 6 #[.int .u64 (n : Int), v1, .string s, .int .i64 i] w (Ret (tV (.bool true)) w) := by
  refine enter Try.func6 rfl Try.ntmps6 (by simp) ?_
  intro a hz hd ha
  have S0 := ha 0 _ rfl
  have S1 := ha 1 _ rfl
  have H1 := h1
  have S2 := ha 2 _ rfl
  have S3 := ha 3 _ rfl
  clear ha
  have HB : Below w.heap.size w w := Below.refl _ _
  refine wp_seq ?_
  refine region_text (M := []) (
      rT (tV (.bool false)) ::
      []) hz hd (by kernel_rfl) ?_ ?_
  · refine ⟨?_, trivial⟩
    · exact sAs rfl rfl rfl hz rfl (Gd.none_ rfl) rfl (Src.const (.bool false))
  intro a' γ' W' hz' hd' hC hk hh
  replace S0 := hk 0 _ (by kernel_rfl) S0
  replace S1 := hk 1 _ (by kernel_rfl) S1
  replace H1 := Ty.aft _ H1 hC
  replace S2 := hk 2 _ (by kernel_rfl) S2
  replace S3 := hk 3 _ (by kernel_rfl) S3
  have S8 := gotV hz' 0 hh rfl rfl rfl rfl
  replace HB := aft_call HB (RelC.below_nil hC)
  clear hC hk hh; replace hz := hz'; replace hd := hd'; clear hz' hd'
  refine wp_seq ?_
  refine region_text (M := []) (
      rT (tBy n1 l) ::
      rT (tBy 600 (l.take 600)) ::
      rT (tBy 600 (l.take 600)) ::
      []) hz hd (by kernel_rfl) ?_ ?_
  · refine ⟨?_, ?_, ?_, trivial⟩
    · exact sMv rfl rfl rfl hz rfl (Gd.none_ rfl) rfl (Src.out (t := 1) (by kernel_rfl) S1 H1)
    · exact sCall rfl rfl rfl hz rfl (Gd.none_ rfl) rfl Try.func14 (by kernel_rfl) (by kernel_rfl) fun a γ w U => (by show Calls _ _ #[a.eval (.tmp 14)] _ _; exact l_cut (Src.at_ (Src.dep (j := 0) (t := 14) (by kernel_rfl) (by kernel_rfl) rfl) U))
    · exact sAs rfl rfl rfl hz rfl (Gd.none_ rfl) rfl (Src.dep (j := 1) (t := 15) (by kernel_rfl) (by kernel_rfl) rfl)
  intro a' γ' W' hz' hd' hC hk hh
  replace S0 := hk 0 _ (by kernel_rfl) S0
  clear S1 H1
  replace S2 := hk 2 _ (by kernel_rfl) S2
  replace S3 := hk 3 _ (by kernel_rfl) S3
  replace S8 := hk 8 _ (by kernel_rfl) S8
  obtain ⟨v1, S1, H1⟩ := got hz' 2 hh rfl rfl rfl rfl
  replace HB := aft_call HB (RelC.below_nil hC)
  clear hC hk hh; replace hz := hz'; replace hd := hd'; clear hz' hd'
  refine wp_seq ?_
  refine region_text (M := []) (
      rT (tBy 600 (l.take 600)) ::
      rT (tW (l.take 600)) ::
      rT (tW (l.take 600)) ::
      []) hz hd (by kernel_rfl) ?_ ?_
  · refine ⟨?_, ?_, ?_, trivial⟩
    · exact sMv rfl rfl rfl hz rfl (Gd.none_ rfl) rfl (Src.out (t := 1) (by kernel_rfl) S1 H1)
    · exact sCall rfl rfl rfl hz rfl (Gd.none_ rfl) rfl Try.func25 (by kernel_rfl) (by kernel_rfl) fun a γ w U => (by show Calls _ _ #[a.eval (.tmp 16)] _ _; exact l_wide (Src.at_ (Src.dep (j := 0) (t := 16) (by kernel_rfl) (by kernel_rfl) rfl) U))
    · exact sAs rfl rfl rfl hz rfl (Gd.none_ rfl) rfl (Src.dep (j := 1) (t := 17) (by kernel_rfl) (by kernel_rfl) rfl)
  intro a' γ' W' hz' hd' hC hk hh
  replace S0 := hk 0 _ (by kernel_rfl) S0
  replace S2 := hk 2 _ (by kernel_rfl) S2
  replace S3 := hk 3 _ (by kernel_rfl) S3
  replace S8 := hk 8 _ (by kernel_rfl) S8
  replace S1 := hk 1 _ (by kernel_rfl) S1
  replace H1 := Ty.aft _ H1 hC
  obtain ⟨v9, S9, H9⟩ := got hz' 2 hh rfl rfl rfl rfl
  replace HB := aft_call HB (RelC.below_nil hC)
  clear hC hk hh; replace hz := hz'; replace hd := hd'; clear hz' hd'
  refine wp_seq ?_
  refine region_text (M := []) (
      rT (tV (.string s)) ::
      rT (tT [tN B64 400 (parseV (bytesL s)), tV (.bool (parseOk (bytesL s)))]) ::
      rT (tT [tN B64 400 (parseV (bytesL s)), tV (.bool (parseOk (bytesL s)))]) ::
      rT (tN B64 400 (parseV (bytesL s))) ::
      rT (tV (.bool (parseOk (bytesL s)))) ::
      rVar 5 25 1 ::
      rB 5 25 (tN B64 400 (parseV (bytesL s))) (some 5) 6 ::
      rT (tV (.bool (parseOk (bytesL s)))) ::
      []) hz hd (by kernel_rfl) ?_ ?_
  · refine ⟨?_, ?_, ?_, ?_, ?_, ?_, ?_, ?_, trivial⟩
    · exact sMv rfl rfl rfl hz rfl (Gd.none_ rfl) rfl (Src.out (t := 2) (by kernel_rfl) S2 rfl)
    · exact sCall rfl rfl rfl hz rfl (Gd.none_ rfl) rfl Try.func24 (by kernel_rfl) (by kernel_rfl) fun a γ w U => (by show Calls _ _ #[a.eval (.tmp 19)] _ _; rw [show a.eval (.tmp 19) = .string s from Src.at_ (Src.dep (j := 0) (t := 19) (by kernel_rfl) (by kernel_rfl) rfl) U]; exact c_parse)
    · exact sMv rfl rfl rfl hz rfl (Gd.none_ rfl) rfl (Src.dep (j := 1) (t := 20) (by kernel_rfl) (by kernel_rfl) rfl)
    · exact sExt rfl rfl rfl hz rfl (Gd.none_ rfl) rfl (Src.dep (j := 2) (t := 18) (by kernel_rfl) (by kernel_rfl) rfl) rfl
    · exact sExt rfl rfl rfl hz rfl (Gd.none_ rfl) rfl (Src.dep (j := 2) (t := 18) (by kernel_rfl) (by kernel_rfl) rfl) rfl
    · exact sAlloc rfl rfl rfl hz rfl rfl rfl rfl nd_slice al_n64
    · exact sStore rfl rfl rfl rfl rfl (by kernel_rfl) (by kernel_rfl) rfl (Src.dep (j := 3) (t := 21) (by kernel_rfl) (by kernel_rfl) rfl) st_n64
    · exact sAs rfl rfl rfl hz rfl (Gd.none_ rfl) rfl (Src.dep (j := 4) (t := 22) (by kernel_rfl) (by kernel_rfl) rfl)
  intro a' γ' W' hz' hd' hC hk hh
  replace S0 := hk 0 _ (by kernel_rfl) S0
  replace S2 := hk 2 _ (by kernel_rfl) S2
  replace S3 := hk 3 _ (by kernel_rfl) S3
  replace S8 := hk 8 _ (by kernel_rfl) S8
  replace S1 := hk 1 _ (by kernel_rfl) S1
  replace H1 := Ty.aft _ H1 hC
  replace S9 := hk 9 _ (by kernel_rfl) S9
  replace H9 := Ty.aft _ H9 hC
  obtain ⟨p1, S10, Cp1, lp1⟩ := gotB hz' 6 hC hh rfl rfl rfl rfl rfl rfl
  clear lp1
  have S11 := gotV hz' 7 hh rfl rfl rfl rfl
  replace HB := aft_call HB (RelC.below_nil hC)
  clear hC hk hh; replace hz := hz'; replace hd := hd'; clear hz' hd'
  refine wp_seq ?_
  refine region_text (M := []) (
      rT (tV (.string s)) ::
      rT (tT [tN B32 400 (parseV (bytesL s)), tV (.bool (parseOk (bytesL s)))]) ::
      rT (tT [tN B32 400 (parseV (bytesL s)), tV (.bool (parseOk (bytesL s)))]) ::
      rT (tN B32 400 (parseV (bytesL s))) ::
      rT (tV (.bool (parseOk (bytesL s)))) ::
      rVar 5 44 1 ::
      rB 5 44 (tN B32 400 (parseV (bytesL s))) (some 5) 6 ::
      rT (tV (.bool (parseOk (bytesL s)))) ::
      []) hz hd (by kernel_rfl) ?_ ?_
  · refine ⟨?_, ?_, ?_, ?_, ?_, ?_, ?_, ?_, trivial⟩
    · exact sMv rfl rfl rfl hz rfl (Gd.none_ rfl) rfl (Src.out (t := 2) (by kernel_rfl) S2 rfl)
    · exact sCall rfl rfl rfl hz rfl (Gd.none_ rfl) rfl Try.func26 (by kernel_rfl) (by kernel_rfl) fun a γ w U => (by show Calls _ _ #[a.eval (.tmp 24)] _ _; rw [show a.eval (.tmp 24) = .string s from Src.at_ (Src.dep (j := 0) (t := 24) (by kernel_rfl) (by kernel_rfl) rfl) U]; exact d_parse)
    · exact sMv rfl rfl rfl hz rfl (Gd.none_ rfl) rfl (Src.dep (j := 1) (t := 25) (by kernel_rfl) (by kernel_rfl) rfl)
    · exact sExt rfl rfl rfl hz rfl (Gd.none_ rfl) rfl (Src.dep (j := 2) (t := 23) (by kernel_rfl) (by kernel_rfl) rfl) rfl
    · exact sExt rfl rfl rfl hz rfl (Gd.none_ rfl) rfl (Src.dep (j := 2) (t := 23) (by kernel_rfl) (by kernel_rfl) rfl) rfl
    · exact sAlloc rfl rfl rfl hz rfl rfl rfl rfl nd_slice al_n32
    · exact sStore rfl rfl rfl rfl rfl (by kernel_rfl) (by kernel_rfl) rfl (Src.dep (j := 3) (t := 26) (by kernel_rfl) (by kernel_rfl) rfl) st_n32
    · exact sAs rfl rfl rfl hz rfl (Gd.none_ rfl) rfl (Src.dep (j := 4) (t := 27) (by kernel_rfl) (by kernel_rfl) rfl)
  intro a' γ' W' hz' hd' hC hk hh
  replace Cp1 := Cell.aft Cp1 hC rfl
  replace S0 := hk 0 _ (by kernel_rfl) S0
  clear S2
  replace S3 := hk 3 _ (by kernel_rfl) S3
  replace S8 := hk 8 _ (by kernel_rfl) S8
  replace S1 := hk 1 _ (by kernel_rfl) S1
  replace H1 := Ty.aft _ H1 hC
  replace S9 := hk 9 _ (by kernel_rfl) S9
  replace H9 := Ty.aft _ H9 hC
  replace S10 := hk 10 _ (by kernel_rfl) S10
  replace S11 := hk 11 _ (by kernel_rfl) S11
  obtain ⟨p2, S12, Cp2, lp2⟩ := gotB hz' 6 hC hh rfl rfl rfl rfl rfl rfl
  clear lp2
  have S13 := gotV hz' 7 hh rfl rfl rfl rfl
  replace HB := aft_call HB (RelC.below_nil hC)
  clear hC hk hh; replace hz := hz'; replace hd := hd'; clear hz' hd'
  refine wp_seq ?_
  refine wp_seq ?_
  refine region_text (M := []) (
      rT (tV (.int .u64 (n : Int))) ::
      rT (tN B64 1 n) ::
      rT (tV (.int .u64 (n : Int))) ::
      rT (tN B32 2 n) ::
      rT (tV (.int .i64 i)) ::
      rT (tV (.bool true)) ::
      rT (tV (.bool false)) ::
      rT (tV (.bool false)) ::
      rT (tW (l.take 600)) ::
      rT (tN B64 600 (bev (l.take 600))) ::
      rT (tBy 600 (l.take 600)) ::
      rT (tN B32 600 (bev (l.take 600))) ::
      rT (tV (.int .i64 i)) ::
      rT (tV (.bool true)) ::
      rT (tV (.bool false)) ::
      rT (tV (.bool false)) ::
      rT (tV (.bool false)) ::
      rT (tV (.bool (parseOk (bytesL s)))) ::
      rT (tV (.bool (parseOk (bytesL s)))) ::
      rT (tV (.bool false)) ::
      rT (tV (.bool false)) ::
      rT (tV (.bool false)) ::
      rT (tN B64 400 (parseV (bytesL s))) ::
      rT (tN B32 400 (parseV (bytesL s))) ::
      rT (tV (.int .i64 i)) ::
      rT (tV (.bool true)) ::
      rT (tV (.bool false)) ::
      rT (tV (.bool false)) ::
      []) hz hd (by kernel_rfl) ?_ ?_
  · refine ⟨?_, ?_, ?_, ?_, ?_, ?_, ?_, ?_, ?_, ?_, ?_, ?_, ?_, ?_, ?_, ?_, ?_, ?_, ?_, ?_, ?_, ?_, ?_, ?_, ?_, ?_, ?_, ?_, trivial⟩
    · exact sMv rfl rfl rfl hz rfl (Gd.none_ rfl) rfl (Src.out (t := 0) (by kernel_rfl) S0 rfl)
    · exact sCall rfl rfl rfl hz rfl (Gd.none_ rfl) rfl Try.func28 (by kernel_rfl) (by kernel_rfl) fun a γ w U => (by show Calls _ _ #[a.eval (.tmp 28)] _ _; rw [show a.eval (.tmp 28) = .int .u64 (n : Int) from Src.at_ (Src.dep (j := 0) (t := 28) (by kernel_rfl) (by kernel_rfl) rfl) U]; exact c_of hn)
    · exact sMv rfl rfl rfl hz rfl (Gd.none_ rfl) rfl (Src.out (t := 0) (by kernel_rfl) S0 rfl)
    · exact sCall rfl rfl rfl hz rfl (Gd.none_ rfl) rfl Try.func29 (by kernel_rfl) (by kernel_rfl) fun a γ w U => (by show Calls _ _ #[a.eval (.tmp 30)] _ _; rw [show a.eval (.tmp 30) = .int .u64 (n : Int) from Src.at_ (Src.dep (j := 2) (t := 30) (by kernel_rfl) (by kernel_rfl) rfl) U]; exact d_of hn)
    · exact sMv rfl rfl rfl hz rfl (Gd.none_ rfl) rfl (Src.out (t := 3) (by kernel_rfl) S3 rfl)
    · exact sCall rfl rfl rfl hz rfl (Gd.none_ rfl) rfl Try.func27 (by kernel_rfl) (by kernel_rfl) fun a γ w U => (by show Calls _ _ #[a.eval (.tmp 29), a.eval (.tmp 31), a.eval (.tmp 32)] _ _; rw [show a.eval (.tmp 32) = .int .i64 i from Src.at_ (Src.dep (j := 4) (t := 32) (by kernel_rfl) (by kernel_rfl) rfl) U]; exact l_told (Src.at_ (Src.dep (j := 1) (t := 29) (by kernel_rfl) (by kernel_rfl) rfl) U) (Src.at_ (Src.dep (j := 3) (t := 31) (by kernel_rfl) (by kernel_rfl) rfl) U) (by decide) (by decide) hi1)
    · exact sNot (b := true) rfl rfl rfl hz rfl (Gd.none_ rfl) rfl (Src.dep (j := 5) (t := 33) (by kernel_rfl) (by kernel_rfl) rfl)
    · exact sMv rfl rfl rfl hz rfl (Gd.none_ rfl) rfl (Src.dep (j := 6) (t := 34) (by kernel_rfl) (by kernel_rfl) rfl)
    · exact sMv rfl rfl rfl hz rfl (Gd.yes rfl rfl (Src.dep (j := 7) (t := 35) (by kernel_rfl) (by kernel_rfl) rfl) rfl) rfl (Src.out (t := 9) (by kernel_rfl) S9 H9)
    · exact sCall rfl rfl rfl hz rfl (Gd.yes rfl rfl (Src.dep (j := 7) (t := 35) (by kernel_rfl) (by kernel_rfl) rfl) rfl) rfl Try.func13 (by kernel_rfl) (by kernel_rfl) fun a γ w U => (by show Calls _ _ #[a.eval (.tmp 36)] _ _; exact c_fb (tW_by _ _ (Src.at_ (Src.dep (j := 8) (t := 36) (by kernel_rfl) (by kernel_rfl) rfl) U)) (by decide))
    · exact sMv rfl rfl rfl hz rfl (Gd.yes rfl rfl (Src.dep (j := 7) (t := 35) (by kernel_rfl) (by kernel_rfl) rfl) rfl) rfl (Src.out (t := 1) (by kernel_rfl) S1 H1)
    · exact sCall rfl rfl rfl hz rfl (Gd.yes rfl rfl (Src.dep (j := 7) (t := 35) (by kernel_rfl) (by kernel_rfl) rfl) rfl) rfl Try.func30 (by kernel_rfl) (by kernel_rfl) fun a γ w U => (by show Calls _ _ #[a.eval (.tmp 38)] _ _; exact d_fb (Src.at_ (Src.dep (j := 10) (t := 38) (by kernel_rfl) (by kernel_rfl) rfl) U) (by decide))
    · exact sMv rfl rfl rfl hz rfl (Gd.yes rfl rfl (Src.dep (j := 7) (t := 35) (by kernel_rfl) (by kernel_rfl) rfl) rfl) rfl (Src.out (t := 3) (by kernel_rfl) S3 rfl)
    · exact sCall rfl rfl rfl hz rfl (Gd.yes rfl rfl (Src.dep (j := 7) (t := 35) (by kernel_rfl) (by kernel_rfl) rfl) rfl) rfl Try.func27 (by kernel_rfl) (by kernel_rfl) fun a γ w U => (by show Calls _ _ #[a.eval (.tmp 37), a.eval (.tmp 39), a.eval (.tmp 40)] _ _; rw [show a.eval (.tmp 40) = .int .i64 i from Src.at_ (Src.dep (j := 12) (t := 40) (by kernel_rfl) (by kernel_rfl) rfl) U]; exact l_told (Src.at_ (Src.dep (j := 9) (t := 37) (by kernel_rfl) (by kernel_rfl) rfl) U) (Src.at_ (Src.dep (j := 11) (t := 39) (by kernel_rfl) (by kernel_rfl) rfl) U) (by decide) (by decide) hi1)
    · exact sNot (b := true) rfl rfl rfl hz rfl (Gd.yes rfl rfl (Src.dep (j := 7) (t := 35) (by kernel_rfl) (by kernel_rfl) rfl) rfl) rfl (Src.dep (j := 13) (t := 41) (by kernel_rfl) (by kernel_rfl) rfl)
    · exact sPickF rfl rfl rfl hz rfl (Gd.none_ rfl) rfl (Src.dep (j := 7) (t := 35) (by kernel_rfl) (by kernel_rfl) rfl) (Src.dep (j := 14) (t := 42) (by kernel_rfl) (by kernel_rfl) rfl)
    · exact sMv rfl rfl rfl hz rfl (Gd.none_ rfl) rfl (Src.dep (j := 15) (t := 43) (by kernel_rfl) (by kernel_rfl) rfl)
    · exact sMv rfl rfl rfl hz rfl (Gd.yes rfl rfl (Src.dep (j := 16) (t := 44) (by kernel_rfl) (by kernel_rfl) rfl) rfl) rfl (Src.out (t := 11) (by kernel_rfl) S11 rfl)
    · exact sMv rfl rfl rfl hz rfl (Gd.yes rfl rfl (Src.dep (j := 16) (t := 44) (by kernel_rfl) (by kernel_rfl) rfl) rfl) rfl (Src.out (t := 13) (by kernel_rfl) S13 rfl)
    · exact sBin rfl rfl rfl hz rfl (Gd.yes rfl rfl (Src.dep (j := 16) (t := 44) (by kernel_rfl) (by kernel_rfl) rfl) rfl) rfl (Src.dep (j := 17) (t := 45) (by kernel_rfl) (by kernel_rfl) rfl) (Src.dep (j := 18) (t := 46) (by kernel_rfl) (by kernel_rfl) rfl) (fun w => by simp [go_sem])
    · exact sPickF rfl rfl rfl hz rfl (Gd.none_ rfl) rfl (Src.dep (j := 16) (t := 44) (by kernel_rfl) (by kernel_rfl) rfl) (Src.dep (j := 19) (t := 47) (by kernel_rfl) (by kernel_rfl) rfl)
    · exact sMv rfl rfl rfl hz rfl (Gd.none_ rfl) rfl (Src.dep (j := 20) (t := 48) (by kernel_rfl) (by kernel_rfl) rfl)
    · exact sLoad rfl rfl rfl hz rfl (Gd.yes rfl rfl (Src.dep (j := 21) (t := 49) (by kernel_rfl) (by kernel_rfl) rfl) rfl) rfl (Src.out (t := 10) (by kernel_rfl) S10 rfl) Cp1 rfl ld_n64
    · exact sLoad rfl rfl rfl hz rfl (Gd.yes rfl rfl (Src.dep (j := 21) (t := 49) (by kernel_rfl) (by kernel_rfl) rfl) rfl) rfl (Src.out (t := 12) (by kernel_rfl) S12 rfl) Cp2 rfl ld_n32
    · exact sMv rfl rfl rfl hz rfl (Gd.yes rfl rfl (Src.dep (j := 21) (t := 49) (by kernel_rfl) (by kernel_rfl) rfl) rfl) rfl (Src.out (t := 3) (by kernel_rfl) S3 rfl)
    · exact sCall rfl rfl rfl hz rfl (Gd.yes rfl rfl (Src.dep (j := 21) (t := 49) (by kernel_rfl) (by kernel_rfl) rfl) rfl) rfl Try.func27 (by kernel_rfl) (by kernel_rfl) fun a γ w U => (by show Calls _ _ #[a.eval (.tmp 50), a.eval (.tmp 51), a.eval (.tmp 52)] _ _; rw [show a.eval (.tmp 52) = .int .i64 i from Src.at_ (Src.dep (j := 24) (t := 52) (by kernel_rfl) (by kernel_rfl) rfl) U]; exact l_told (Src.at_ (Src.dep (j := 22) (t := 50) (by kernel_rfl) (by kernel_rfl) rfl) U) (Src.at_ (Src.dep (j := 23) (t := 51) (by kernel_rfl) (by kernel_rfl) rfl) U) (by decide) (by decide) hi1)
    · exact sNot (b := true) rfl rfl rfl hz rfl (Gd.yes rfl rfl (Src.dep (j := 21) (t := 49) (by kernel_rfl) (by kernel_rfl) rfl) rfl) rfl (Src.dep (j := 25) (t := 53) (by kernel_rfl) (by kernel_rfl) rfl)
    · exact sPickF rfl rfl rfl hz rfl (Gd.none_ rfl) rfl (Src.dep (j := 21) (t := 49) (by kernel_rfl) (by kernel_rfl) rfl) (Src.dep (j := 26) (t := 54) (by kernel_rfl) (by kernel_rfl) rfl)
  intro a' γ' W' hz' hd' hC hk hh
  clear Cp1
  clear Cp2
  clear S0
  replace S3 := hk 3 _ (by kernel_rfl) S3
  replace S8 := hk 8 _ (by kernel_rfl) S8
  replace S1 := hk 1 _ (by kernel_rfl) S1
  replace H1 := Ty.aft _ H1 hC
  replace S9 := hk 9 _ (by kernel_rfl) S9
  replace H9 := Ty.aft _ H9 hC
  clear S10
  clear S11
  clear S12
  clear S13
  have S55 := gotV hz' 27 hh rfl rfl rfl rfl
  replace HB := aft_call HB (RelC.below_nil hC)
  clear hC hk hh; replace hz := hz'; replace hd := hd'; clear hz' hd'
  refine wp_cond_false S55.ev ?_
  refine wp_skip ?_
  refine wp_seq ?_
  refine region_text (M := []) (
      rT (tW (l.take 600)) ::
      rT (tBy 600 (l.take 600)) ::
      rT (tV (.bool true)) ::
      rT (tV (.bool true)) ::
      rT (tN B64 0 0) ::
      rT (tN B32 0 0) ::
      rT (tV (.int .i64 i)) ::
      rT (tV (.bool true)) ::
      rT (tV (.bool true)) ::
      rT (tV (.bool true)) ::
      rT (tV (.bool true)) ::
      rT (tV (.bool true)) ::
      rT (tV (.bool true)) ::
      []) hz hd (by kernel_rfl) ?_ ?_
  · refine ⟨?_, ?_, ?_, ?_, ?_, ?_, ?_, ?_, ?_, ?_, ?_, ?_, ?_, trivial⟩
    · exact sMv rfl rfl rfl hz rfl (Gd.none_ rfl) rfl (Src.out (t := 9) (by kernel_rfl) S9 H9)
    · exact sMv rfl rfl rfl hz rfl (Gd.none_ rfl) rfl (Src.out (t := 1) (by kernel_rfl) S1 H1)
    · exact sCall rfl rfl rfl hz rfl (Gd.none_ rfl) rfl Try.func31 (by kernel_rfl) (by kernel_rfl) fun a γ w U => (by show Calls _ _ #[a.eval (.tmp 56), a.eval (.tmp 57)] _ _; exact l_kept (Src.at_ (Src.dep (j := 0) (t := 56) (by kernel_rfl) (by kernel_rfl) rfl) U) (Src.at_ (Src.dep (j := 1) (t := 57) (by kernel_rfl) (by kernel_rfl) rfl) U) (by rw [List.length_take]; omega))
    · exact sMv rfl rfl rfl hz rfl (Gd.none_ rfl) rfl (Src.dep (j := 2) (t := 58) (by kernel_rfl) (by kernel_rfl) rfl)
    · exact sBuild0 rfl rfl rfl hz rfl (Gd.yes rfl rfl (Src.dep (j := 3) (t := 59) (by kernel_rfl) (by kernel_rfl) rfl) rfl) rfl bd_n64 (fun _ => tN_nil)
    · exact sBuild0 rfl rfl rfl hz rfl (Gd.yes rfl rfl (Src.dep (j := 3) (t := 59) (by kernel_rfl) (by kernel_rfl) rfl) rfl) rfl bd_n32 (fun _ => tN_nil)
    · exact sMv rfl rfl rfl hz rfl (Gd.yes rfl rfl (Src.dep (j := 3) (t := 59) (by kernel_rfl) (by kernel_rfl) rfl) rfl) rfl (Src.out (t := 3) (by kernel_rfl) S3 rfl)
    · exact sCall rfl rfl rfl hz rfl (Gd.yes rfl rfl (Src.dep (j := 3) (t := 59) (by kernel_rfl) (by kernel_rfl) rfl) rfl) rfl Try.func27 (by kernel_rfl) (by kernel_rfl) fun a γ w U => (by show Calls _ _ #[a.eval (.tmp 60), a.eval (.tmp 61), a.eval (.tmp 62)] _ _; rw [show a.eval (.tmp 62) = .int .i64 i from Src.at_ (Src.dep (j := 6) (t := 62) (by kernel_rfl) (by kernel_rfl) rfl) U]; exact l_told (Src.at_ (Src.dep (j := 4) (t := 60) (by kernel_rfl) (by kernel_rfl) rfl) U) (Src.at_ (Src.dep (j := 5) (t := 61) (by kernel_rfl) (by kernel_rfl) rfl) U) (by decide) (by decide) hi1)
    · exact sPickT rfl rfl rfl hz rfl (Gd.none_ rfl) rfl (Src.dep (j := 3) (t := 59) (by kernel_rfl) (by kernel_rfl) rfl) (Src.dep (j := 7) (t := 63) (by kernel_rfl) (by kernel_rfl) rfl)
    · exact sMv rfl rfl rfl hz rfl (Gd.none_ rfl) rfl (Src.dep (j := 8) (t := 64) (by kernel_rfl) (by kernel_rfl) rfl)
    · exact sCall rfl rfl rfl hz rfl (Gd.yes rfl rfl (Src.dep (j := 9) (t := 65) (by kernel_rfl) (by kernel_rfl) rfl) rfl) rfl Try.func21 (by kernel_rfl) (by kernel_rfl) fun a γ w U => (by show Calls _ _ #[] _ _; exact l_started)
    · exact sPickT rfl rfl rfl hz rfl (Gd.none_ rfl) rfl (Src.dep (j := 9) (t := 65) (by kernel_rfl) (by kernel_rfl) rfl) (Src.dep (j := 10) (t := 66) (by kernel_rfl) (by kernel_rfl) rfl)
    · exact sAs rfl rfl rfl hz rfl (Gd.none_ rfl) rfl (Src.dep (j := 11) (t := 67) (by kernel_rfl) (by kernel_rfl) rfl)
  intro a' γ' W' hz' hd' hC hk hh
  clear S3
  clear S8
  clear S1 H1
  clear S9 H9
  clear S55
  have S8 := gotV hz' 12 hh rfl rfl rfl rfl
  replace HB := aft_call HB (RelC.below_nil hC)
  clear hC hk hh; replace hz := hz'; replace hd := hd'; clear hz' hd'
  refine wp_ret ?_
  exact ret1 (by kernel_rfl) S8 hd ⟨_, rfl, rfl, HB⟩

set_option maxRecDepth 10000 in
set_option maxHeartbeats 2000000 in
theorem reck_low {n0 n1 : Nat} {la lb : List Nat} {n k : Int} {v0 v1 : Value} {w : World} (h0 : (tBy n0 la).p v0 w) (h1 : (tBy n1 lb).p v1 w) (e1 : ¬ 20000 < n) (hi0 : -9223372036854775808 ≤ n) (hi1 : n ≤ 9223372036854775807) (hk0 : -9223372036854775808 ≤ k.tmod 2000) (hk1 : k.tmod 2000 ≤ 9223372036854775807) (ek : IntKind.i64.wrap (k.tmod 2000) = k.tmod 2000) :
    Calls Try.prog 11 #[v0, v1, .int .i64 n, .int .i64 k] w (Ret (tV (.bool true)) w) := by
  refine enter Try.func11 rfl Try.ntmps11 (by simp) ?_
  intro a hz hd ha
  have S0 := ha 0 _ rfl
  have H0 := h0
  have S1 := ha 1 _ rfl
  have H1 := h1
  have S2 := ha 2 _ rfl
  have S3 := ha 3 _ rfl
  clear ha
  have HB : Below w.heap.size w w := Below.refl _ _
  refine wp_seq ?_
  refine region_text (M := []) (
      rT (tV (.bool false)) ::
      []) hz hd (by kernel_rfl) ?_ ?_
  · refine ⟨?_, trivial⟩
    · exact sAs rfl rfl rfl hz rfl (Gd.none_ rfl) rfl (Src.const (.bool false))
  intro a' γ' W' hz' hd' hC hk hh
  replace S0 := hk 0 _ (by kernel_rfl) S0
  replace H0 := Ty.aft _ H0 hC
  replace S1 := hk 1 _ (by kernel_rfl) S1
  replace H1 := Ty.aft _ H1 hC
  replace S2 := hk 2 _ (by kernel_rfl) S2
  replace S3 := hk 3 _ (by kernel_rfl) S3
  have S8 := gotV hz' 0 hh rfl rfl rfl rfl
  replace HB := aft_call HB (RelC.below_nil hC)
  clear hC hk hh; replace hz := hz'; replace hd := hd'; clear hz' hd'
  refine wp_seq ?_
  refine region_text (M := []) (
      rT (tBy n0 la) ::
      rT (tBy 600 (la.take 600)) ::
      rT (tBy n1 lb) ::
      rT (tBy 600 (lb.take 600)) ::
      rT (tBy 600 (la.take 600)) ::
      rT (tBy 600 (lb.take 600)) ::
      []) hz hd (by kernel_rfl) ?_ ?_
  · refine ⟨?_, ?_, ?_, ?_, ?_, ?_, trivial⟩
    · exact sMv rfl rfl rfl hz rfl (Gd.none_ rfl) rfl (Src.out (t := 0) (by kernel_rfl) S0 H0)
    · exact sCall rfl rfl rfl hz rfl (Gd.none_ rfl) rfl Try.func14 (by kernel_rfl) (by kernel_rfl) fun a γ w U => (by show Calls _ _ #[a.eval (.tmp 14)] _ _; exact l_cut (Src.at_ (Src.dep (j := 0) (t := 14) (by kernel_rfl) (by kernel_rfl) rfl) U))
    · exact sMv rfl rfl rfl hz rfl (Gd.none_ rfl) rfl (Src.out (t := 1) (by kernel_rfl) S1 H1)
    · exact sCall rfl rfl rfl hz rfl (Gd.none_ rfl) rfl Try.func14 (by kernel_rfl) (by kernel_rfl) fun a γ w U => (by show Calls _ _ #[a.eval (.tmp 16)] _ _; exact l_cut (Src.at_ (Src.dep (j := 2) (t := 16) (by kernel_rfl) (by kernel_rfl) rfl) U))
    · exact sAs rfl rfl rfl hz rfl (Gd.none_ rfl) rfl (Src.dep (j := 1) (t := 15) (by kernel_rfl) (by kernel_rfl) rfl)
    · exact sAs rfl rfl rfl hz rfl (Gd.none_ rfl) rfl (Src.dep (j := 3) (t := 17) (by kernel_rfl) (by kernel_rfl) rfl)
  intro a' γ' W' hz' hd' hC hk hh
  clear S0 H0
  clear S1 H1
  replace S2 := hk 2 _ (by kernel_rfl) S2
  replace S3 := hk 3 _ (by kernel_rfl) S3
  replace S8 := hk 8 _ (by kernel_rfl) S8
  obtain ⟨v0, S0, H0⟩ := got hz' 4 hh rfl rfl rfl rfl
  obtain ⟨v1, S1, H1⟩ := got hz' 5 hh rfl rfl rfl rfl
  replace HB := aft_call HB (RelC.below_nil hC)
  clear hC hk hh; replace hz := hz'; replace hd := hd'; clear hz' hd'
  refine wp_seq ?_
  refine region_text (M := []) (
      rT (tBy 600 (la.take 600)) ::
      rT (tN B64 600 (bev (la.take 600))) ::
      rT (tBy 600 (lb.take 600)) ::
      rT (tN B64 600 (bev (lb.take 600))) ::
      rVar 4 25 1 ::
      rVar 5 25 1 ::
      rB 4 25 (tN B64 600 (bev (la.take 600))) (some 4) 5 ::
      rB 5 25 (tN B64 600 (bev (lb.take 600))) (some 5) 6 ::
      []) hz hd (by kernel_rfl) ?_ ?_
  · refine ⟨?_, ?_, ?_, ?_, ?_, ?_, ?_, ?_, trivial⟩
    · exact sMv rfl rfl rfl hz rfl (Gd.none_ rfl) rfl (Src.out (t := 0) (by kernel_rfl) S0 H0)
    · exact sCall rfl rfl rfl hz rfl (Gd.none_ rfl) rfl Try.func13 (by kernel_rfl) (by kernel_rfl) fun a γ w U => (by show Calls _ _ #[a.eval (.tmp 18)] _ _; exact c_fb ((Src.at_ (Src.dep (j := 0) (t := 18) (by kernel_rfl) (by kernel_rfl) rfl) U)) (by decide))
    · exact sMv rfl rfl rfl hz rfl (Gd.none_ rfl) rfl (Src.out (t := 1) (by kernel_rfl) S1 H1)
    · exact sCall rfl rfl rfl hz rfl (Gd.none_ rfl) rfl Try.func13 (by kernel_rfl) (by kernel_rfl) fun a γ w U => (by show Calls _ _ #[a.eval (.tmp 20)] _ _; exact c_fb ((Src.at_ (Src.dep (j := 2) (t := 20) (by kernel_rfl) (by kernel_rfl) rfl) U)) (by decide))
    · exact sAlloc rfl rfl rfl hz rfl rfl rfl rfl nd_slice al_n64
    · exact sAlloc rfl rfl rfl hz rfl rfl rfl rfl nd_slice al_n64
    · exact sStore rfl rfl rfl rfl rfl (by kernel_rfl) (by kernel_rfl) rfl (Src.dep (j := 1) (t := 19) (by kernel_rfl) (by kernel_rfl) rfl) st_n64
    · exact sStore rfl rfl rfl rfl rfl (by kernel_rfl) (by kernel_rfl) rfl (Src.dep (j := 3) (t := 21) (by kernel_rfl) (by kernel_rfl) rfl) st_n64
  intro a' γ' W' hz' hd' hC hk hh
  replace S2 := hk 2 _ (by kernel_rfl) S2
  replace S3 := hk 3 _ (by kernel_rfl) S3
  replace S8 := hk 8 _ (by kernel_rfl) S8
  replace S0 := hk 0 _ (by kernel_rfl) S0
  replace H0 := Ty.aft _ H0 hC
  replace S1 := hk 1 _ (by kernel_rfl) S1
  replace H1 := Ty.aft _ H1 hC
  obtain ⟨p1, S9, Cp1, lp1⟩ := gotB hz' 6 hC hh rfl rfl rfl rfl rfl rfl
  clear lp1
  obtain ⟨p2, S10, Cp2, lp2⟩ := gotB hz' 7 hC hh rfl rfl rfl rfl rfl rfl
  clear lp2
  replace HB := aft_call HB (RelC.below_nil hC)
  clear hC hk hh; replace hz := hz'; replace hd := hd'; clear hz' hd'
  refine wp_seq ?_
  refine region_text (M := []) (
      rT (tBy 600 (la.take 600)) ::
      rT (tN B32 600 (bev (la.take 600))) ::
      rT (tBy 600 (lb.take 600)) ::
      rT (tN B32 600 (bev (lb.take 600))) ::
      rVar 4 44 1 ::
      rVar 5 44 1 ::
      rB 4 44 (tN B32 600 (bev (la.take 600))) (some 4) 5 ::
      rB 5 44 (tN B32 600 (bev (lb.take 600))) (some 5) 6 ::
      []) hz hd (by kernel_rfl) ?_ ?_
  · refine ⟨?_, ?_, ?_, ?_, ?_, ?_, ?_, ?_, trivial⟩
    · exact sMv rfl rfl rfl hz rfl (Gd.none_ rfl) rfl (Src.out (t := 0) (by kernel_rfl) S0 H0)
    · exact sCall rfl rfl rfl hz rfl (Gd.none_ rfl) rfl Try.func30 (by kernel_rfl) (by kernel_rfl) fun a γ w U => (by show Calls _ _ #[a.eval (.tmp 22)] _ _; exact d_fb (Src.at_ (Src.dep (j := 0) (t := 22) (by kernel_rfl) (by kernel_rfl) rfl) U) (by decide))
    · exact sMv rfl rfl rfl hz rfl (Gd.none_ rfl) rfl (Src.out (t := 1) (by kernel_rfl) S1 H1)
    · exact sCall rfl rfl rfl hz rfl (Gd.none_ rfl) rfl Try.func30 (by kernel_rfl) (by kernel_rfl) fun a γ w U => (by show Calls _ _ #[a.eval (.tmp 24)] _ _; exact d_fb (Src.at_ (Src.dep (j := 2) (t := 24) (by kernel_rfl) (by kernel_rfl) rfl) U) (by decide))
    · exact sAlloc rfl rfl rfl hz rfl rfl rfl rfl nd_slice al_n32
    · exact sAlloc rfl rfl rfl hz rfl rfl rfl rfl nd_slice al_n32
    · exact sStore rfl rfl rfl rfl rfl (by kernel_rfl) (by kernel_rfl) rfl (Src.dep (j := 1) (t := 23) (by kernel_rfl) (by kernel_rfl) rfl) st_n32
    · exact sStore rfl rfl rfl rfl rfl (by kernel_rfl) (by kernel_rfl) rfl (Src.dep (j := 3) (t := 25) (by kernel_rfl) (by kernel_rfl) rfl) st_n32
  intro a' γ' W' hz' hd' hC hk hh
  replace Cp1 := Cell.aft Cp1 hC rfl
  replace Cp2 := Cell.aft Cp2 hC rfl
  replace S2 := hk 2 _ (by kernel_rfl) S2
  replace S3 := hk 3 _ (by kernel_rfl) S3
  replace S8 := hk 8 _ (by kernel_rfl) S8
  clear S0 H0
  clear S1 H1
  replace S9 := hk 9 _ (by kernel_rfl) S9
  replace S10 := hk 10 _ (by kernel_rfl) S10
  obtain ⟨p3, S11, Cp3, lp3⟩ := gotB hz' 6 hC hh rfl rfl rfl rfl rfl rfl
  clear lp3
  obtain ⟨p4, S12, Cp4, lp4⟩ := gotB hz' 7 hC hh rfl rfl rfl rfl rfl rfl
  clear lp4
  replace HB := aft_call HB (RelC.below_nil hC)
  clear hC hk hh; replace hz := hz'; replace hd := hd'; clear hz' hd'
  refine wp_seq ?_
  refine wp_seq ?_
  refine region_text (M := []) (
      rT (tV (.int .i64 0)) ::
      []) hz hd (by kernel_rfl) ?_ ?_
  · refine ⟨?_, trivial⟩
    · exact sAs rfl rfl rfl hz rfl (Gd.none_ rfl) rfl (Src.const (.int .i64 0))
  intro a' γ' W' hz' hd' hC hk hh
  replace Cp1 := Cell.aft Cp1 hC rfl
  replace Cp2 := Cell.aft Cp2 hC rfl
  replace Cp3 := Cell.aft Cp3 hC rfl
  replace Cp4 := Cell.aft Cp4 hC rfl
  replace S2 := hk 2 _ (by kernel_rfl) S2
  replace S3 := hk 3 _ (by kernel_rfl) S3
  replace S8 := hk 8 _ (by kernel_rfl) S8
  replace S9 := hk 9 _ (by kernel_rfl) S9
  replace S10 := hk 10 _ (by kernel_rfl) S10
  replace S11 := hk 11 _ (by kernel_rfl) S11
  replace S12 := hk 12 _ (by kernel_rfl) S12
  have S13 := gotV hz' 0 hh rfl rfl rfl rfl
  replace HB := aft_call HB (RelC.below_nil hC)
  clear hC hk hh; replace hz := hz'; replace hd := hd'; clear hz' hd'
  refine wp_block ?_
  refine wp_loop_rounds 3 ?_
  show Code.wp _ _ _ _ _
  refine wp_seq ?_
  refine wp_seq ?_
  refine region_text (M := []) (
      rT (tV (.int .i64 0)) ::
      rT (tV (.bool true)) ::
      []) hz hd (by kernel_rfl) ?_ ?_
  · refine ⟨?_, ?_, trivial⟩
    · exact sMv rfl rfl rfl hz rfl (Gd.none_ rfl) rfl (Src.out (t := 13) (by kernel_rfl) S13 rfl)
    · exact sBin rfl rfl rfl hz rfl (Gd.none_ rfl) rfl (Src.dep (j := 0) (t := 26) (by kernel_rfl) (by kernel_rfl) rfl) (Src.const (.int .i64 2)) (fun w => by simp [go_sem])
  intro a' γ' W' hz' hd' hC hk hh
  replace Cp1 := Cell.aft Cp1 hC rfl
  replace Cp2 := Cell.aft Cp2 hC rfl
  replace Cp3 := Cell.aft Cp3 hC rfl
  replace Cp4 := Cell.aft Cp4 hC rfl
  replace S2 := hk 2 _ (by kernel_rfl) S2
  replace S3 := hk 3 _ (by kernel_rfl) S3
  replace S8 := hk 8 _ (by kernel_rfl) S8
  replace S9 := hk 9 _ (by kernel_rfl) S9
  replace S10 := hk 10 _ (by kernel_rfl) S10
  replace S11 := hk 11 _ (by kernel_rfl) S11
  replace S12 := hk 12 _ (by kernel_rfl) S12
  replace S13 := hk 13 _ (by kernel_rfl) S13
  have S26 := gotV hz' 0 hh rfl rfl rfl rfl
  have S27 := gotV hz' 1 hh rfl rfl rfl rfl
  replace HB := aft_call HB (RelC.below_nil hC)
  clear hC hk hh; replace hz := hz'; replace hd := hd'; clear hz' hd'
  refine wp_cond_true S27.ev ?_
  refine wp_skip ?_
  refine wp_seq ?_
  refine wp_block ?_
  refine wp_seq ?_
  refine region_text (M := []) (
      rT (tN B64 600 (bev (la.take 600))) ::
      rT (tN B64 600 (bev (lb.take 600))) ::
      rT (tN B32 600 (bev (la.take 600))) ::
      rT (tN B32 600 (bev (lb.take 600))) ::
      rT (tV (.bool true)) ::
      rT (tV (.bool false)) ::
      rT (tV (.bool false)) ::
      rT (tN B64 600 (bev (lb.take 600))) ::
      rT (tN B64 600 (bev (la.take 600))) ::
      rT (tN B32 600 (bev (lb.take 600))) ::
      rT (tN B32 600 (bev (la.take 600))) ::
      rT (tV (.bool true)) ::
      rT (tV (.bool false)) ::
      rT (tV (.bool false)) ::
      rT (tV (.bool false)) ::
      rT (tN B64 600 (bev (la.take 600))) ::
      rT (tN B64 600 (bev (la.take 600))) ::
      rT (tN B32 600 (bev (la.take 600))) ::
      rT (tN B32 600 (bev (la.take 600))) ::
      rT (tV (.bool true)) ::
      rT (tV (.bool false)) ::
      rT (tV (.bool false)) ::
      []) hz hd (by kernel_rfl) ?_ ?_
  · refine ⟨?_, ?_, ?_, ?_, ?_, ?_, ?_, ?_, ?_, ?_, ?_, ?_, ?_, ?_, ?_, ?_, ?_, ?_, ?_, ?_, ?_, ?_, trivial⟩
    · exact sLoad rfl rfl rfl hz rfl (Gd.none_ rfl) rfl (Src.out (t := 9) (by kernel_rfl) S9 rfl) Cp1 rfl ld_n64
    · exact sLoad rfl rfl rfl hz rfl (Gd.none_ rfl) rfl (Src.out (t := 10) (by kernel_rfl) S10 rfl) Cp2 rfl ld_n64
    · exact sLoad rfl rfl rfl hz rfl (Gd.none_ rfl) rfl (Src.out (t := 11) (by kernel_rfl) S11 rfl) Cp3 rfl ld_n32
    · exact sLoad rfl rfl rfl hz rfl (Gd.none_ rfl) rfl (Src.out (t := 12) (by kernel_rfl) S12 rfl) Cp4 rfl ld_n32
    · exact sCall rfl rfl rfl hz rfl (Gd.none_ rfl) rfl Try.func41 (by kernel_rfl) (by kernel_rfl) fun a γ w U => (by show Calls _ _ #[a.eval (.tmp 30), a.eval (.tmp 31), a.eval (.tmp 32), a.eval (.tmp 33)] _ _; exact l_pair (Src.at_ (Src.dep (j := 0) (t := 30) (by kernel_rfl) (by kernel_rfl) rfl) U) (Src.at_ (Src.dep (j := 1) (t := 31) (by kernel_rfl) (by kernel_rfl) rfl) U) (Src.at_ (Src.dep (j := 2) (t := 32) (by kernel_rfl) (by kernel_rfl) rfl) U) (Src.at_ (Src.dep (j := 3) (t := 33) (by kernel_rfl) (by kernel_rfl) rfl) U) (by decide) (by decide) (by decide) (by decide))
    · exact sNot (b := true) rfl rfl rfl hz rfl (Gd.none_ rfl) rfl (Src.dep (j := 4) (t := 34) (by kernel_rfl) (by kernel_rfl) rfl)
    · exact sMv rfl rfl rfl hz rfl (Gd.none_ rfl) rfl (Src.dep (j := 5) (t := 35) (by kernel_rfl) (by kernel_rfl) rfl)
    · exact sLoad rfl rfl rfl hz rfl (Gd.yes rfl rfl (Src.dep (j := 6) (t := 36) (by kernel_rfl) (by kernel_rfl) rfl) rfl) rfl (Src.out (t := 10) (by kernel_rfl) S10 rfl) Cp2 rfl ld_n64
    · exact sLoad rfl rfl rfl hz rfl (Gd.yes rfl rfl (Src.dep (j := 6) (t := 36) (by kernel_rfl) (by kernel_rfl) rfl) rfl) rfl (Src.out (t := 9) (by kernel_rfl) S9 rfl) Cp1 rfl ld_n64
    · exact sLoad rfl rfl rfl hz rfl (Gd.yes rfl rfl (Src.dep (j := 6) (t := 36) (by kernel_rfl) (by kernel_rfl) rfl) rfl) rfl (Src.out (t := 12) (by kernel_rfl) S12 rfl) Cp4 rfl ld_n32
    · exact sLoad rfl rfl rfl hz rfl (Gd.yes rfl rfl (Src.dep (j := 6) (t := 36) (by kernel_rfl) (by kernel_rfl) rfl) rfl) rfl (Src.out (t := 11) (by kernel_rfl) S11 rfl) Cp3 rfl ld_n32
    · exact sCall rfl rfl rfl hz rfl (Gd.yes rfl rfl (Src.dep (j := 6) (t := 36) (by kernel_rfl) (by kernel_rfl) rfl) rfl) rfl Try.func41 (by kernel_rfl) (by kernel_rfl) fun a γ w U => (by show Calls _ _ #[a.eval (.tmp 37), a.eval (.tmp 38), a.eval (.tmp 39), a.eval (.tmp 40)] _ _; exact l_pair (Src.at_ (Src.dep (j := 7) (t := 37) (by kernel_rfl) (by kernel_rfl) rfl) U) (Src.at_ (Src.dep (j := 8) (t := 38) (by kernel_rfl) (by kernel_rfl) rfl) U) (Src.at_ (Src.dep (j := 9) (t := 39) (by kernel_rfl) (by kernel_rfl) rfl) U) (Src.at_ (Src.dep (j := 10) (t := 40) (by kernel_rfl) (by kernel_rfl) rfl) U) (by decide) (by decide) (by decide) (by decide))
    · exact sNot (b := true) rfl rfl rfl hz rfl (Gd.yes rfl rfl (Src.dep (j := 6) (t := 36) (by kernel_rfl) (by kernel_rfl) rfl) rfl) rfl (Src.dep (j := 11) (t := 41) (by kernel_rfl) (by kernel_rfl) rfl)
    · exact sPickF rfl rfl rfl hz rfl (Gd.none_ rfl) rfl (Src.dep (j := 6) (t := 36) (by kernel_rfl) (by kernel_rfl) rfl) (Src.dep (j := 12) (t := 42) (by kernel_rfl) (by kernel_rfl) rfl)
    · exact sMv rfl rfl rfl hz rfl (Gd.none_ rfl) rfl (Src.dep (j := 13) (t := 43) (by kernel_rfl) (by kernel_rfl) rfl)
    · exact sLoad rfl rfl rfl hz rfl (Gd.yes rfl rfl (Src.dep (j := 14) (t := 44) (by kernel_rfl) (by kernel_rfl) rfl) rfl) rfl (Src.out (t := 9) (by kernel_rfl) S9 rfl) Cp1 rfl ld_n64
    · exact sLoad rfl rfl rfl hz rfl (Gd.yes rfl rfl (Src.dep (j := 14) (t := 44) (by kernel_rfl) (by kernel_rfl) rfl) rfl) rfl (Src.out (t := 9) (by kernel_rfl) S9 rfl) Cp1 rfl ld_n64
    · exact sLoad rfl rfl rfl hz rfl (Gd.yes rfl rfl (Src.dep (j := 14) (t := 44) (by kernel_rfl) (by kernel_rfl) rfl) rfl) rfl (Src.out (t := 11) (by kernel_rfl) S11 rfl) Cp3 rfl ld_n32
    · exact sLoad rfl rfl rfl hz rfl (Gd.yes rfl rfl (Src.dep (j := 14) (t := 44) (by kernel_rfl) (by kernel_rfl) rfl) rfl) rfl (Src.out (t := 11) (by kernel_rfl) S11 rfl) Cp3 rfl ld_n32
    · exact sCall rfl rfl rfl hz rfl (Gd.yes rfl rfl (Src.dep (j := 14) (t := 44) (by kernel_rfl) (by kernel_rfl) rfl) rfl) rfl Try.func41 (by kernel_rfl) (by kernel_rfl) fun a γ w U => (by show Calls _ _ #[a.eval (.tmp 45), a.eval (.tmp 46), a.eval (.tmp 47), a.eval (.tmp 48)] _ _; exact l_pair (Src.at_ (Src.dep (j := 15) (t := 45) (by kernel_rfl) (by kernel_rfl) rfl) U) (Src.at_ (Src.dep (j := 16) (t := 46) (by kernel_rfl) (by kernel_rfl) rfl) U) (Src.at_ (Src.dep (j := 17) (t := 47) (by kernel_rfl) (by kernel_rfl) rfl) U) (Src.at_ (Src.dep (j := 18) (t := 48) (by kernel_rfl) (by kernel_rfl) rfl) U) (by decide) (by decide) (by decide) (by decide))
    · exact sNot (b := true) rfl rfl rfl hz rfl (Gd.yes rfl rfl (Src.dep (j := 14) (t := 44) (by kernel_rfl) (by kernel_rfl) rfl) rfl) rfl (Src.dep (j := 19) (t := 49) (by kernel_rfl) (by kernel_rfl) rfl)
    · exact sPickF rfl rfl rfl hz rfl (Gd.none_ rfl) rfl (Src.dep (j := 14) (t := 44) (by kernel_rfl) (by kernel_rfl) rfl) (Src.dep (j := 20) (t := 50) (by kernel_rfl) (by kernel_rfl) rfl)
  intro a' γ' W' hz' hd' hC hk hh
  replace Cp1 := Cell.aft Cp1 hC rfl
  replace Cp2 := Cell.aft Cp2 hC rfl
  replace Cp3 := Cell.aft Cp3 hC rfl
  replace Cp4 := Cell.aft Cp4 hC rfl
  replace S2 := hk 2 _ (by kernel_rfl) S2
  replace S3 := hk 3 _ (by kernel_rfl) S3
  replace S8 := hk 8 _ (by kernel_rfl) S8
  replace S9 := hk 9 _ (by kernel_rfl) S9
  replace S10 := hk 10 _ (by kernel_rfl) S10
  replace S11 := hk 11 _ (by kernel_rfl) S11
  replace S12 := hk 12 _ (by kernel_rfl) S12
  replace S13 := hk 13 _ (by kernel_rfl) S13
  replace S26 := hk 26 _ (by kernel_rfl) S26
  replace S27 := hk 27 _ (by kernel_rfl) S27
  obtain ⟨v30, S30, H30⟩ := got hz' 0 hh rfl rfl rfl rfl
  obtain ⟨v31, S31, H31⟩ := got hz' 1 hh rfl rfl rfl rfl
  obtain ⟨v32, S32, H32⟩ := got hz' 2 hh rfl rfl rfl rfl
  obtain ⟨v33, S33, H33⟩ := got hz' 3 hh rfl rfl rfl rfl
  have S34 := gotV hz' 4 hh rfl rfl rfl rfl
  have S35 := gotV hz' 5 hh rfl rfl rfl rfl
  have S36 := gotV hz' 6 hh rfl rfl rfl rfl
  obtain ⟨v37, S37, H37⟩ := got hz' 7 hh rfl rfl rfl rfl
  obtain ⟨v38, S38, H38⟩ := got hz' 8 hh rfl rfl rfl rfl
  obtain ⟨v39, S39, H39⟩ := got hz' 9 hh rfl rfl rfl rfl
  obtain ⟨v40, S40, H40⟩ := got hz' 10 hh rfl rfl rfl rfl
  have S41 := gotV hz' 11 hh rfl rfl rfl rfl
  have S42 := gotV hz' 12 hh rfl rfl rfl rfl
  have S43 := gotV hz' 13 hh rfl rfl rfl rfl
  have S44 := gotV hz' 14 hh rfl rfl rfl rfl
  obtain ⟨v45, S45, H45⟩ := got hz' 15 hh rfl rfl rfl rfl
  obtain ⟨v46, S46, H46⟩ := got hz' 16 hh rfl rfl rfl rfl
  obtain ⟨v47, S47, H47⟩ := got hz' 17 hh rfl rfl rfl rfl
  obtain ⟨v48, S48, H48⟩ := got hz' 18 hh rfl rfl rfl rfl
  have S49 := gotV hz' 19 hh rfl rfl rfl rfl
  have S50 := gotV hz' 20 hh rfl rfl rfl rfl
  have S51 := gotV hz' 21 hh rfl rfl rfl rfl
  replace HB := aft_call HB (RelC.below_nil hC)
  clear hC hk hh; replace hz := hz'; replace hd := hd'; clear hz' hd'
  refine wp_cond_false S51.ev ?_
  refine wp_skip ?_
  refine region_text (M := []) (
      rT (tV (.int .i64 0)) ::
      rT (tV (.int .i64 1)) ::
      rT (tV (.int .i64 1)) ::
      []) hz hd (by kernel_rfl) ?_ ?_
  · refine ⟨?_, ?_, ?_, trivial⟩
    · exact sMv rfl rfl rfl hz rfl (Gd.none_ rfl) rfl (Src.out (t := 13) (by kernel_rfl) S13 rfl)
    · exact sBin rfl rfl rfl hz rfl (Gd.none_ rfl) rfl (Src.dep (j := 0) (t := 28) (by kernel_rfl) (by kernel_rfl) rfl) (Src.const (.int .i64 1)) (fun w => by kernel_rfl)
    · exact sAs rfl rfl rfl hz rfl (Gd.none_ rfl) rfl (Src.dep (j := 1) (t := 29) (by kernel_rfl) (by kernel_rfl) rfl)
  intro a' γ' W' hz' hd' hC hk hh
  replace Cp1 := Cell.aft Cp1 hC rfl
  replace Cp2 := Cell.aft Cp2 hC rfl
  replace Cp3 := Cell.aft Cp3 hC rfl
  replace Cp4 := Cell.aft Cp4 hC rfl
  replace S2 := hk 2 _ (by kernel_rfl) S2
  replace S3 := hk 3 _ (by kernel_rfl) S3
  replace S8 := hk 8 _ (by kernel_rfl) S8
  replace S9 := hk 9 _ (by kernel_rfl) S9
  replace S10 := hk 10 _ (by kernel_rfl) S10
  replace S11 := hk 11 _ (by kernel_rfl) S11
  replace S12 := hk 12 _ (by kernel_rfl) S12
  clear S13
  replace S26 := hk 26 _ (by kernel_rfl) S26
  replace S27 := hk 27 _ (by kernel_rfl) S27
  replace S30 := hk 30 _ (by kernel_rfl) S30
  replace H30 := Ty.aft _ H30 hC
  replace S31 := hk 31 _ (by kernel_rfl) S31
  replace H31 := Ty.aft _ H31 hC
  replace S32 := hk 32 _ (by kernel_rfl) S32
  replace H32 := Ty.aft _ H32 hC
  replace S33 := hk 33 _ (by kernel_rfl) S33
  replace H33 := Ty.aft _ H33 hC
  replace S34 := hk 34 _ (by kernel_rfl) S34
  replace S35 := hk 35 _ (by kernel_rfl) S35
  replace S36 := hk 36 _ (by kernel_rfl) S36
  replace S37 := hk 37 _ (by kernel_rfl) S37
  replace H37 := Ty.aft _ H37 hC
  replace S38 := hk 38 _ (by kernel_rfl) S38
  replace H38 := Ty.aft _ H38 hC
  replace S39 := hk 39 _ (by kernel_rfl) S39
  replace H39 := Ty.aft _ H39 hC
  replace S40 := hk 40 _ (by kernel_rfl) S40
  replace H40 := Ty.aft _ H40 hC
  replace S41 := hk 41 _ (by kernel_rfl) S41
  replace S42 := hk 42 _ (by kernel_rfl) S42
  replace S43 := hk 43 _ (by kernel_rfl) S43
  replace S44 := hk 44 _ (by kernel_rfl) S44
  replace S45 := hk 45 _ (by kernel_rfl) S45
  replace H45 := Ty.aft _ H45 hC
  replace S46 := hk 46 _ (by kernel_rfl) S46
  replace H46 := Ty.aft _ H46 hC
  replace S47 := hk 47 _ (by kernel_rfl) S47
  replace H47 := Ty.aft _ H47 hC
  replace S48 := hk 48 _ (by kernel_rfl) S48
  replace H48 := Ty.aft _ H48 hC
  replace S49 := hk 49 _ (by kernel_rfl) S49
  replace S50 := hk 50 _ (by kernel_rfl) S50
  replace S51 := hk 51 _ (by kernel_rfl) S51
  have S28 := gotV hz' 0 hh rfl rfl rfl rfl
  have S29 := gotV hz' 1 hh rfl rfl rfl rfl
  have S13 := gotV hz' 2 hh rfl rfl rfl rfl
  replace HB := aft_call HB (RelC.below_nil hC)
  clear hC hk hh; replace hz := hz'; replace hd := hd'; clear hz' hd'
  show Code.wp _ _ _ _ _
  refine wp_seq ?_
  refine wp_seq ?_
  refine region_text (M := []) (
      rT (tV (.int .i64 1)) ::
      rT (tV (.bool true)) ::
      []) hz hd (by kernel_rfl) ?_ ?_
  · refine ⟨?_, ?_, trivial⟩
    · exact sMv rfl rfl rfl hz rfl (Gd.none_ rfl) rfl (Src.out (t := 13) (by kernel_rfl) S13 rfl)
    · exact sBin rfl rfl rfl hz rfl (Gd.none_ rfl) rfl (Src.dep (j := 0) (t := 26) (by kernel_rfl) (by kernel_rfl) rfl) (Src.const (.int .i64 2)) (fun w => by simp [go_sem])
  intro a' γ' W' hz' hd' hC hk hh
  replace Cp1 := Cell.aft Cp1 hC rfl
  replace Cp2 := Cell.aft Cp2 hC rfl
  replace Cp3 := Cell.aft Cp3 hC rfl
  replace Cp4 := Cell.aft Cp4 hC rfl
  replace S2 := hk 2 _ (by kernel_rfl) S2
  replace S3 := hk 3 _ (by kernel_rfl) S3
  replace S8 := hk 8 _ (by kernel_rfl) S8
  replace S9 := hk 9 _ (by kernel_rfl) S9
  replace S10 := hk 10 _ (by kernel_rfl) S10
  replace S11 := hk 11 _ (by kernel_rfl) S11
  replace S12 := hk 12 _ (by kernel_rfl) S12
  clear S26
  clear S27
  replace S30 := hk 30 _ (by kernel_rfl) S30
  replace H30 := Ty.aft _ H30 hC
  replace S31 := hk 31 _ (by kernel_rfl) S31
  replace H31 := Ty.aft _ H31 hC
  replace S32 := hk 32 _ (by kernel_rfl) S32
  replace H32 := Ty.aft _ H32 hC
  replace S33 := hk 33 _ (by kernel_rfl) S33
  replace H33 := Ty.aft _ H33 hC
  replace S34 := hk 34 _ (by kernel_rfl) S34
  replace S35 := hk 35 _ (by kernel_rfl) S35
  replace S36 := hk 36 _ (by kernel_rfl) S36
  replace S37 := hk 37 _ (by kernel_rfl) S37
  replace H37 := Ty.aft _ H37 hC
  replace S38 := hk 38 _ (by kernel_rfl) S38
  replace H38 := Ty.aft _ H38 hC
  replace S39 := hk 39 _ (by kernel_rfl) S39
  replace H39 := Ty.aft _ H39 hC
  replace S40 := hk 40 _ (by kernel_rfl) S40
  replace H40 := Ty.aft _ H40 hC
  replace S41 := hk 41 _ (by kernel_rfl) S41
  replace S42 := hk 42 _ (by kernel_rfl) S42
  replace S43 := hk 43 _ (by kernel_rfl) S43
  replace S44 := hk 44 _ (by kernel_rfl) S44
  replace S45 := hk 45 _ (by kernel_rfl) S45
  replace H45 := Ty.aft _ H45 hC
  replace S46 := hk 46 _ (by kernel_rfl) S46
  replace H46 := Ty.aft _ H46 hC
  replace S47 := hk 47 _ (by kernel_rfl) S47
  replace H47 := Ty.aft _ H47 hC
  replace S48 := hk 48 _ (by kernel_rfl) S48
  replace H48 := Ty.aft _ H48 hC
  replace S49 := hk 49 _ (by kernel_rfl) S49
  replace S50 := hk 50 _ (by kernel_rfl) S50
  replace S51 := hk 51 _ (by kernel_rfl) S51
  replace S28 := hk 28 _ (by kernel_rfl) S28
  replace S29 := hk 29 _ (by kernel_rfl) S29
  replace S13 := hk 13 _ (by kernel_rfl) S13
  have S26 := gotV hz' 0 hh rfl rfl rfl rfl
  have S27 := gotV hz' 1 hh rfl rfl rfl rfl
  replace HB := aft_call HB (RelC.below_nil hC)
  clear hC hk hh; replace hz := hz'; replace hd := hd'; clear hz' hd'
  refine wp_cond_true S27.ev ?_
  refine wp_skip ?_
  refine wp_seq ?_
  refine wp_block ?_
  refine wp_seq ?_
  refine region_text (M := []) (
      rT (tN B64 600 (bev (la.take 600))) ::
      rT (tN B64 600 (bev (lb.take 600))) ::
      rT (tN B32 600 (bev (la.take 600))) ::
      rT (tN B32 600 (bev (lb.take 600))) ::
      rT (tV (.bool true)) ::
      rT (tV (.bool false)) ::
      rT (tV (.bool false)) ::
      rT (tN B64 600 (bev (lb.take 600))) ::
      rT (tN B64 600 (bev (la.take 600))) ::
      rT (tN B32 600 (bev (lb.take 600))) ::
      rT (tN B32 600 (bev (la.take 600))) ::
      rT (tV (.bool true)) ::
      rT (tV (.bool false)) ::
      rT (tV (.bool false)) ::
      rT (tV (.bool false)) ::
      rT (tN B64 600 (bev (la.take 600))) ::
      rT (tN B64 600 (bev (la.take 600))) ::
      rT (tN B32 600 (bev (la.take 600))) ::
      rT (tN B32 600 (bev (la.take 600))) ::
      rT (tV (.bool true)) ::
      rT (tV (.bool false)) ::
      rT (tV (.bool false)) ::
      []) hz hd (by kernel_rfl) ?_ ?_
  · refine ⟨?_, ?_, ?_, ?_, ?_, ?_, ?_, ?_, ?_, ?_, ?_, ?_, ?_, ?_, ?_, ?_, ?_, ?_, ?_, ?_, ?_, ?_, trivial⟩
    · exact sLoad rfl rfl rfl hz rfl (Gd.none_ rfl) rfl (Src.out (t := 9) (by kernel_rfl) S9 rfl) Cp1 rfl ld_n64
    · exact sLoad rfl rfl rfl hz rfl (Gd.none_ rfl) rfl (Src.out (t := 10) (by kernel_rfl) S10 rfl) Cp2 rfl ld_n64
    · exact sLoad rfl rfl rfl hz rfl (Gd.none_ rfl) rfl (Src.out (t := 11) (by kernel_rfl) S11 rfl) Cp3 rfl ld_n32
    · exact sLoad rfl rfl rfl hz rfl (Gd.none_ rfl) rfl (Src.out (t := 12) (by kernel_rfl) S12 rfl) Cp4 rfl ld_n32
    · exact sCall rfl rfl rfl hz rfl (Gd.none_ rfl) rfl Try.func41 (by kernel_rfl) (by kernel_rfl) fun a γ w U => (by show Calls _ _ #[a.eval (.tmp 30), a.eval (.tmp 31), a.eval (.tmp 32), a.eval (.tmp 33)] _ _; exact l_pair (Src.at_ (Src.dep (j := 0) (t := 30) (by kernel_rfl) (by kernel_rfl) rfl) U) (Src.at_ (Src.dep (j := 1) (t := 31) (by kernel_rfl) (by kernel_rfl) rfl) U) (Src.at_ (Src.dep (j := 2) (t := 32) (by kernel_rfl) (by kernel_rfl) rfl) U) (Src.at_ (Src.dep (j := 3) (t := 33) (by kernel_rfl) (by kernel_rfl) rfl) U) (by decide) (by decide) (by decide) (by decide))
    · exact sNot (b := true) rfl rfl rfl hz rfl (Gd.none_ rfl) rfl (Src.dep (j := 4) (t := 34) (by kernel_rfl) (by kernel_rfl) rfl)
    · exact sMv rfl rfl rfl hz rfl (Gd.none_ rfl) rfl (Src.dep (j := 5) (t := 35) (by kernel_rfl) (by kernel_rfl) rfl)
    · exact sLoad rfl rfl rfl hz rfl (Gd.yes rfl rfl (Src.dep (j := 6) (t := 36) (by kernel_rfl) (by kernel_rfl) rfl) rfl) rfl (Src.out (t := 10) (by kernel_rfl) S10 rfl) Cp2 rfl ld_n64
    · exact sLoad rfl rfl rfl hz rfl (Gd.yes rfl rfl (Src.dep (j := 6) (t := 36) (by kernel_rfl) (by kernel_rfl) rfl) rfl) rfl (Src.out (t := 9) (by kernel_rfl) S9 rfl) Cp1 rfl ld_n64
    · exact sLoad rfl rfl rfl hz rfl (Gd.yes rfl rfl (Src.dep (j := 6) (t := 36) (by kernel_rfl) (by kernel_rfl) rfl) rfl) rfl (Src.out (t := 12) (by kernel_rfl) S12 rfl) Cp4 rfl ld_n32
    · exact sLoad rfl rfl rfl hz rfl (Gd.yes rfl rfl (Src.dep (j := 6) (t := 36) (by kernel_rfl) (by kernel_rfl) rfl) rfl) rfl (Src.out (t := 11) (by kernel_rfl) S11 rfl) Cp3 rfl ld_n32
    · exact sCall rfl rfl rfl hz rfl (Gd.yes rfl rfl (Src.dep (j := 6) (t := 36) (by kernel_rfl) (by kernel_rfl) rfl) rfl) rfl Try.func41 (by kernel_rfl) (by kernel_rfl) fun a γ w U => (by show Calls _ _ #[a.eval (.tmp 37), a.eval (.tmp 38), a.eval (.tmp 39), a.eval (.tmp 40)] _ _; exact l_pair (Src.at_ (Src.dep (j := 7) (t := 37) (by kernel_rfl) (by kernel_rfl) rfl) U) (Src.at_ (Src.dep (j := 8) (t := 38) (by kernel_rfl) (by kernel_rfl) rfl) U) (Src.at_ (Src.dep (j := 9) (t := 39) (by kernel_rfl) (by kernel_rfl) rfl) U) (Src.at_ (Src.dep (j := 10) (t := 40) (by kernel_rfl) (by kernel_rfl) rfl) U) (by decide) (by decide) (by decide) (by decide))
    · exact sNot (b := true) rfl rfl rfl hz rfl (Gd.yes rfl rfl (Src.dep (j := 6) (t := 36) (by kernel_rfl) (by kernel_rfl) rfl) rfl) rfl (Src.dep (j := 11) (t := 41) (by kernel_rfl) (by kernel_rfl) rfl)
    · exact sPickF rfl rfl rfl hz rfl (Gd.none_ rfl) rfl (Src.dep (j := 6) (t := 36) (by kernel_rfl) (by kernel_rfl) rfl) (Src.dep (j := 12) (t := 42) (by kernel_rfl) (by kernel_rfl) rfl)
    · exact sMv rfl rfl rfl hz rfl (Gd.none_ rfl) rfl (Src.dep (j := 13) (t := 43) (by kernel_rfl) (by kernel_rfl) rfl)
    · exact sLoad rfl rfl rfl hz rfl (Gd.yes rfl rfl (Src.dep (j := 14) (t := 44) (by kernel_rfl) (by kernel_rfl) rfl) rfl) rfl (Src.out (t := 9) (by kernel_rfl) S9 rfl) Cp1 rfl ld_n64
    · exact sLoad rfl rfl rfl hz rfl (Gd.yes rfl rfl (Src.dep (j := 14) (t := 44) (by kernel_rfl) (by kernel_rfl) rfl) rfl) rfl (Src.out (t := 9) (by kernel_rfl) S9 rfl) Cp1 rfl ld_n64
    · exact sLoad rfl rfl rfl hz rfl (Gd.yes rfl rfl (Src.dep (j := 14) (t := 44) (by kernel_rfl) (by kernel_rfl) rfl) rfl) rfl (Src.out (t := 11) (by kernel_rfl) S11 rfl) Cp3 rfl ld_n32
    · exact sLoad rfl rfl rfl hz rfl (Gd.yes rfl rfl (Src.dep (j := 14) (t := 44) (by kernel_rfl) (by kernel_rfl) rfl) rfl) rfl (Src.out (t := 11) (by kernel_rfl) S11 rfl) Cp3 rfl ld_n32
    · exact sCall rfl rfl rfl hz rfl (Gd.yes rfl rfl (Src.dep (j := 14) (t := 44) (by kernel_rfl) (by kernel_rfl) rfl) rfl) rfl Try.func41 (by kernel_rfl) (by kernel_rfl) fun a γ w U => (by show Calls _ _ #[a.eval (.tmp 45), a.eval (.tmp 46), a.eval (.tmp 47), a.eval (.tmp 48)] _ _; exact l_pair (Src.at_ (Src.dep (j := 15) (t := 45) (by kernel_rfl) (by kernel_rfl) rfl) U) (Src.at_ (Src.dep (j := 16) (t := 46) (by kernel_rfl) (by kernel_rfl) rfl) U) (Src.at_ (Src.dep (j := 17) (t := 47) (by kernel_rfl) (by kernel_rfl) rfl) U) (Src.at_ (Src.dep (j := 18) (t := 48) (by kernel_rfl) (by kernel_rfl) rfl) U) (by decide) (by decide) (by decide) (by decide))
    · exact sNot (b := true) rfl rfl rfl hz rfl (Gd.yes rfl rfl (Src.dep (j := 14) (t := 44) (by kernel_rfl) (by kernel_rfl) rfl) rfl) rfl (Src.dep (j := 19) (t := 49) (by kernel_rfl) (by kernel_rfl) rfl)
    · exact sPickF rfl rfl rfl hz rfl (Gd.none_ rfl) rfl (Src.dep (j := 14) (t := 44) (by kernel_rfl) (by kernel_rfl) rfl) (Src.dep (j := 20) (t := 50) (by kernel_rfl) (by kernel_rfl) rfl)
  intro a' γ' W' hz' hd' hC hk hh
  replace Cp1 := Cell.aft Cp1 hC rfl
  replace Cp2 := Cell.aft Cp2 hC rfl
  replace Cp3 := Cell.aft Cp3 hC rfl
  replace Cp4 := Cell.aft Cp4 hC rfl
  replace S2 := hk 2 _ (by kernel_rfl) S2
  replace S3 := hk 3 _ (by kernel_rfl) S3
  replace S8 := hk 8 _ (by kernel_rfl) S8
  replace S9 := hk 9 _ (by kernel_rfl) S9
  replace S10 := hk 10 _ (by kernel_rfl) S10
  replace S11 := hk 11 _ (by kernel_rfl) S11
  replace S12 := hk 12 _ (by kernel_rfl) S12
  clear S30 H30
  clear S31 H31
  clear S32 H32
  clear S33 H33
  clear S34
  clear S35
  clear S36
  clear S37 H37
  clear S38 H38
  clear S39 H39
  clear S40 H40
  clear S41
  clear S42
  clear S43
  clear S44
  clear S45 H45
  clear S46 H46
  clear S47 H47
  clear S48 H48
  clear S49
  clear S50
  clear S51
  replace S28 := hk 28 _ (by kernel_rfl) S28
  replace S29 := hk 29 _ (by kernel_rfl) S29
  replace S13 := hk 13 _ (by kernel_rfl) S13
  replace S26 := hk 26 _ (by kernel_rfl) S26
  replace S27 := hk 27 _ (by kernel_rfl) S27
  obtain ⟨v30, S30, H30⟩ := got hz' 0 hh rfl rfl rfl rfl
  obtain ⟨v31, S31, H31⟩ := got hz' 1 hh rfl rfl rfl rfl
  obtain ⟨v32, S32, H32⟩ := got hz' 2 hh rfl rfl rfl rfl
  obtain ⟨v33, S33, H33⟩ := got hz' 3 hh rfl rfl rfl rfl
  have S34 := gotV hz' 4 hh rfl rfl rfl rfl
  have S35 := gotV hz' 5 hh rfl rfl rfl rfl
  have S36 := gotV hz' 6 hh rfl rfl rfl rfl
  obtain ⟨v37, S37, H37⟩ := got hz' 7 hh rfl rfl rfl rfl
  obtain ⟨v38, S38, H38⟩ := got hz' 8 hh rfl rfl rfl rfl
  obtain ⟨v39, S39, H39⟩ := got hz' 9 hh rfl rfl rfl rfl
  obtain ⟨v40, S40, H40⟩ := got hz' 10 hh rfl rfl rfl rfl
  have S41 := gotV hz' 11 hh rfl rfl rfl rfl
  have S42 := gotV hz' 12 hh rfl rfl rfl rfl
  have S43 := gotV hz' 13 hh rfl rfl rfl rfl
  have S44 := gotV hz' 14 hh rfl rfl rfl rfl
  obtain ⟨v45, S45, H45⟩ := got hz' 15 hh rfl rfl rfl rfl
  obtain ⟨v46, S46, H46⟩ := got hz' 16 hh rfl rfl rfl rfl
  obtain ⟨v47, S47, H47⟩ := got hz' 17 hh rfl rfl rfl rfl
  obtain ⟨v48, S48, H48⟩ := got hz' 18 hh rfl rfl rfl rfl
  have S49 := gotV hz' 19 hh rfl rfl rfl rfl
  have S50 := gotV hz' 20 hh rfl rfl rfl rfl
  have S51 := gotV hz' 21 hh rfl rfl rfl rfl
  replace HB := aft_call HB (RelC.below_nil hC)
  clear hC hk hh; replace hz := hz'; replace hd := hd'; clear hz' hd'
  refine wp_cond_false S51.ev ?_
  refine wp_skip ?_
  refine region_text (M := []) (
      rT (tV (.int .i64 1)) ::
      rT (tV (.int .i64 2)) ::
      rT (tV (.int .i64 2)) ::
      []) hz hd (by kernel_rfl) ?_ ?_
  · refine ⟨?_, ?_, ?_, trivial⟩
    · exact sMv rfl rfl rfl hz rfl (Gd.none_ rfl) rfl (Src.out (t := 13) (by kernel_rfl) S13 rfl)
    · exact sBin rfl rfl rfl hz rfl (Gd.none_ rfl) rfl (Src.dep (j := 0) (t := 28) (by kernel_rfl) (by kernel_rfl) rfl) (Src.const (.int .i64 1)) (fun w => by kernel_rfl)
    · exact sAs rfl rfl rfl hz rfl (Gd.none_ rfl) rfl (Src.dep (j := 1) (t := 29) (by kernel_rfl) (by kernel_rfl) rfl)
  intro a' γ' W' hz' hd' hC hk hh
  replace Cp1 := Cell.aft Cp1 hC rfl
  replace Cp2 := Cell.aft Cp2 hC rfl
  replace Cp3 := Cell.aft Cp3 hC rfl
  replace Cp4 := Cell.aft Cp4 hC rfl
  replace S2 := hk 2 _ (by kernel_rfl) S2
  replace S3 := hk 3 _ (by kernel_rfl) S3
  replace S8 := hk 8 _ (by kernel_rfl) S8
  replace S9 := hk 9 _ (by kernel_rfl) S9
  replace S10 := hk 10 _ (by kernel_rfl) S10
  replace S11 := hk 11 _ (by kernel_rfl) S11
  replace S12 := hk 12 _ (by kernel_rfl) S12
  clear S28
  clear S29
  clear S13
  replace S26 := hk 26 _ (by kernel_rfl) S26
  replace S27 := hk 27 _ (by kernel_rfl) S27
  replace S30 := hk 30 _ (by kernel_rfl) S30
  replace H30 := Ty.aft _ H30 hC
  replace S31 := hk 31 _ (by kernel_rfl) S31
  replace H31 := Ty.aft _ H31 hC
  replace S32 := hk 32 _ (by kernel_rfl) S32
  replace H32 := Ty.aft _ H32 hC
  replace S33 := hk 33 _ (by kernel_rfl) S33
  replace H33 := Ty.aft _ H33 hC
  replace S34 := hk 34 _ (by kernel_rfl) S34
  replace S35 := hk 35 _ (by kernel_rfl) S35
  replace S36 := hk 36 _ (by kernel_rfl) S36
  replace S37 := hk 37 _ (by kernel_rfl) S37
  replace H37 := Ty.aft _ H37 hC
  replace S38 := hk 38 _ (by kernel_rfl) S38
  replace H38 := Ty.aft _ H38 hC
  replace S39 := hk 39 _ (by kernel_rfl) S39
  replace H39 := Ty.aft _ H39 hC
  replace S40 := hk 40 _ (by kernel_rfl) S40
  replace H40 := Ty.aft _ H40 hC
  replace S41 := hk 41 _ (by kernel_rfl) S41
  replace S42 := hk 42 _ (by kernel_rfl) S42
  replace S43 := hk 43 _ (by kernel_rfl) S43
  replace S44 := hk 44 _ (by kernel_rfl) S44
  replace S45 := hk 45 _ (by kernel_rfl) S45
  replace H45 := Ty.aft _ H45 hC
  replace S46 := hk 46 _ (by kernel_rfl) S46
  replace H46 := Ty.aft _ H46 hC
  replace S47 := hk 47 _ (by kernel_rfl) S47
  replace H47 := Ty.aft _ H47 hC
  replace S48 := hk 48 _ (by kernel_rfl) S48
  replace H48 := Ty.aft _ H48 hC
  replace S49 := hk 49 _ (by kernel_rfl) S49
  replace S50 := hk 50 _ (by kernel_rfl) S50
  replace S51 := hk 51 _ (by kernel_rfl) S51
  have S28 := gotV hz' 0 hh rfl rfl rfl rfl
  have S29 := gotV hz' 1 hh rfl rfl rfl rfl
  have S13 := gotV hz' 2 hh rfl rfl rfl rfl
  replace HB := aft_call HB (RelC.below_nil hC)
  clear hC hk hh; replace hz := hz'; replace hd := hd'; clear hz' hd'
  show Code.wp _ _ _ _ _
  refine wp_seq ?_
  refine wp_seq ?_
  refine region_text (M := []) (
      rT (tV (.int .i64 2)) ::
      rT (tV (.bool false)) ::
      []) hz hd (by kernel_rfl) ?_ ?_
  · refine ⟨?_, ?_, trivial⟩
    · exact sMv rfl rfl rfl hz rfl (Gd.none_ rfl) rfl (Src.out (t := 13) (by kernel_rfl) S13 rfl)
    · exact sBin rfl rfl rfl hz rfl (Gd.none_ rfl) rfl (Src.dep (j := 0) (t := 26) (by kernel_rfl) (by kernel_rfl) rfl) (Src.const (.int .i64 2)) (fun w => by simp [go_sem])
  intro a' γ' W' hz' hd' hC hk hh
  replace Cp1 := Cell.aft Cp1 hC rfl
  replace Cp2 := Cell.aft Cp2 hC rfl
  replace Cp3 := Cell.aft Cp3 hC rfl
  replace Cp4 := Cell.aft Cp4 hC rfl
  replace S2 := hk 2 _ (by kernel_rfl) S2
  replace S3 := hk 3 _ (by kernel_rfl) S3
  replace S8 := hk 8 _ (by kernel_rfl) S8
  replace S9 := hk 9 _ (by kernel_rfl) S9
  replace S10 := hk 10 _ (by kernel_rfl) S10
  replace S11 := hk 11 _ (by kernel_rfl) S11
  replace S12 := hk 12 _ (by kernel_rfl) S12
  clear S26
  clear S27
  replace S30 := hk 30 _ (by kernel_rfl) S30
  replace H30 := Ty.aft _ H30 hC
  replace S31 := hk 31 _ (by kernel_rfl) S31
  replace H31 := Ty.aft _ H31 hC
  replace S32 := hk 32 _ (by kernel_rfl) S32
  replace H32 := Ty.aft _ H32 hC
  replace S33 := hk 33 _ (by kernel_rfl) S33
  replace H33 := Ty.aft _ H33 hC
  replace S34 := hk 34 _ (by kernel_rfl) S34
  replace S35 := hk 35 _ (by kernel_rfl) S35
  replace S36 := hk 36 _ (by kernel_rfl) S36
  replace S37 := hk 37 _ (by kernel_rfl) S37
  replace H37 := Ty.aft _ H37 hC
  replace S38 := hk 38 _ (by kernel_rfl) S38
  replace H38 := Ty.aft _ H38 hC
  replace S39 := hk 39 _ (by kernel_rfl) S39
  replace H39 := Ty.aft _ H39 hC
  replace S40 := hk 40 _ (by kernel_rfl) S40
  replace H40 := Ty.aft _ H40 hC
  replace S41 := hk 41 _ (by kernel_rfl) S41
  replace S42 := hk 42 _ (by kernel_rfl) S42
  replace S43 := hk 43 _ (by kernel_rfl) S43
  replace S44 := hk 44 _ (by kernel_rfl) S44
  replace S45 := hk 45 _ (by kernel_rfl) S45
  replace H45 := Ty.aft _ H45 hC
  replace S46 := hk 46 _ (by kernel_rfl) S46
  replace H46 := Ty.aft _ H46 hC
  replace S47 := hk 47 _ (by kernel_rfl) S47
  replace H47 := Ty.aft _ H47 hC
  replace S48 := hk 48 _ (by kernel_rfl) S48
  replace H48 := Ty.aft _ H48 hC
  replace S49 := hk 49 _ (by kernel_rfl) S49
  replace S50 := hk 50 _ (by kernel_rfl) S50
  replace S51 := hk 51 _ (by kernel_rfl) S51
  replace S28 := hk 28 _ (by kernel_rfl) S28
  replace S29 := hk 29 _ (by kernel_rfl) S29
  replace S13 := hk 13 _ (by kernel_rfl) S13
  have S26 := gotV hz' 0 hh rfl rfl rfl rfl
  have S27 := gotV hz' 1 hh rfl rfl rfl rfl
  replace HB := aft_call HB (RelC.below_nil hC)
  clear hC hk hh; replace hz := hz'; replace hd := hd'; clear hz' hd'
  refine wp_cond_false S27.ev ?_
  refine wp_exit ?_
  refine wp_seq ?_
  refine wp_seq ?_
  refine region_text (M := []) (
      rT (tV (.int .i64 n)) ::
      rT (tV (.bool false)) ::
      rT (tV (.bool false)) ::
      rT tAny ::
      rT tAny ::
      rT (tV (.bool false)) ::
      []) hz hd (by kernel_rfl) ?_ ?_
  · refine ⟨?_, ?_, ?_, ?_, ?_, ?_, trivial⟩
    · exact sMv rfl rfl rfl hz rfl (Gd.none_ rfl) rfl (Src.out (t := 2) (by kernel_rfl) S2 rfl)
    · exact sBin rfl rfl rfl hz rfl (Gd.none_ rfl) rfl (Src.dep (j := 0) (t := 52) (by kernel_rfl) (by kernel_rfl) rfl) (Src.const (.int .i64 20000)) (fun w => by simp [go_sem, e1] at *)
    · exact sMv rfl rfl rfl hz rfl (Gd.none_ rfl) rfl (Src.dep (j := 1) (t := 53) (by kernel_rfl) (by kernel_rfl) rfl)
    · exact sSkip rfl rfl rfl hz rfl (Gd.no rfl rfl (Src.dep (j := 2) (t := 54) (by kernel_rfl) (by kernel_rfl) rfl) rfl)
    · exact sSkip rfl rfl rfl hz rfl (Gd.no rfl rfl (Src.dep (j := 2) (t := 54) (by kernel_rfl) (by kernel_rfl) rfl) rfl)
    · exact sPickF rfl rfl rfl hz rfl (Gd.none_ rfl) rfl (Src.dep (j := 2) (t := 54) (by kernel_rfl) (by kernel_rfl) rfl) (Src.const (.bool false))
  intro a' γ' W' hz' hd' hC hk hh
  replace Cp1 := Cell.aft Cp1 hC rfl
  replace Cp2 := Cell.aft Cp2 hC rfl
  replace Cp3 := Cell.aft Cp3 hC rfl
  replace Cp4 := Cell.aft Cp4 hC rfl
  replace S2 := hk 2 _ (by kernel_rfl) S2
  replace S3 := hk 3 _ (by kernel_rfl) S3
  replace S8 := hk 8 _ (by kernel_rfl) S8
  replace S9 := hk 9 _ (by kernel_rfl) S9
  replace S10 := hk 10 _ (by kernel_rfl) S10
  replace S11 := hk 11 _ (by kernel_rfl) S11
  replace S12 := hk 12 _ (by kernel_rfl) S12
  clear S30 H30
  clear S31 H31
  clear S32 H32
  clear S33 H33
  clear S34
  clear S35
  clear S36
  clear S37 H37
  clear S38 H38
  clear S39 H39
  clear S40 H40
  clear S41
  clear S42
  clear S43
  clear S44
  clear S45 H45
  clear S46 H46
  clear S47 H47
  clear S48 H48
  clear S49
  clear S50
  clear S51
  clear S28
  clear S29
  clear S13
  clear S26
  clear S27
  have S57 := gotV hz' 5 hh rfl rfl rfl rfl
  replace HB := aft_call HB (RelC.below_nil hC)
  clear hC hk hh; replace hz := hz'; replace hd := hd'; clear hz' hd'
  refine wp_cond_false S57.ev ?_
  refine wp_skip ?_
  refine wp_seq ?_
  refine region_text (M := []) (
      rT (tN B64 600 (bev (la.take 600))) ::
      rT (tN B32 600 (bev (la.take 600))) ::
      rT (tV (.int .i64 n)) ::
      rT (tV (.bool true)) ::
      rT (tV (.bool true)) ::
      rT (tN B64 600 (bev (la.take 600))) ::
      rT (tN B32 600 (bev (la.take 600))) ::
      rT (tV (.int .i64 k)) ::
      rT (tV (.int .i64 (k.tmod 2000))) ::
      rT (tV (.bool true)) ::
      rT (tV (.bool true)) ::
      rT (tV (.bool true)) ::
      rT (tN B64 600 (bev (la.take 600))) ::
      rT (tN B32 600 (bev (la.take 600))) ::
      rT (tV (.bool true)) ::
      rT (tV (.bool true)) ::
      rT (tV (.bool true)) ::
      rT (tN B64 600 (bev (lb.take 600))) ::
      rT (tN B32 600 (bev (lb.take 600))) ::
      rT (tV (.bool true)) ::
      rT (tV (.bool true)) ::
      rT (tV (.bool true)) ::
      rT (tV (.bool true)) ::
      rT (tV (.bool true)) ::
      rT (tV (.bool true)) ::
      []) hz hd (by kernel_rfl) ?_ ?_
  · refine ⟨?_, ?_, ?_, ?_, ?_, ?_, ?_, ?_, ?_, ?_, ?_, ?_, ?_, ?_, ?_, ?_, ?_, ?_, ?_, ?_, ?_, ?_, ?_, ?_, ?_, trivial⟩
    · exact sLoad rfl rfl rfl hz rfl (Gd.none_ rfl) rfl (Src.out (t := 9) (by kernel_rfl) S9 rfl) Cp1 rfl ld_n64
    · exact sLoad rfl rfl rfl hz rfl (Gd.none_ rfl) rfl (Src.out (t := 11) (by kernel_rfl) S11 rfl) Cp3 rfl ld_n32
    · exact sMv rfl rfl rfl hz rfl (Gd.none_ rfl) rfl (Src.out (t := 2) (by kernel_rfl) S2 rfl)
    · exact sCall rfl rfl rfl hz rfl (Gd.none_ rfl) rfl Try.func42 (by kernel_rfl) (by kernel_rfl) fun a γ w U => (by show Calls _ _ #[a.eval (.tmp 60), a.eval (.tmp 61), a.eval (.tmp 62)] _ _; rw [show a.eval (.tmp 62) = .int .i64 n from Src.at_ (Src.dep (j := 2) (t := 62) (by kernel_rfl) (by kernel_rfl) rfl) U]; exact l_moved (Src.at_ (Src.dep (j := 0) (t := 60) (by kernel_rfl) (by kernel_rfl) rfl) U) (Src.at_ (Src.dep (j := 1) (t := 61) (by kernel_rfl) (by kernel_rfl) rfl) U) (by decide) (by decide) hi1 hi0)
    · exact sMv rfl rfl rfl hz rfl (Gd.none_ rfl) rfl (Src.dep (j := 3) (t := 63) (by kernel_rfl) (by kernel_rfl) rfl)
    · exact sLoad rfl rfl rfl hz rfl (Gd.yes rfl rfl (Src.dep (j := 4) (t := 64) (by kernel_rfl) (by kernel_rfl) rfl) rfl) rfl (Src.out (t := 9) (by kernel_rfl) S9 rfl) Cp1 rfl ld_n64
    · exact sLoad rfl rfl rfl hz rfl (Gd.yes rfl rfl (Src.dep (j := 4) (t := 64) (by kernel_rfl) (by kernel_rfl) rfl) rfl) rfl (Src.out (t := 11) (by kernel_rfl) S11 rfl) Cp3 rfl ld_n32
    · exact sMv rfl rfl rfl hz rfl (Gd.yes rfl rfl (Src.dep (j := 4) (t := 64) (by kernel_rfl) (by kernel_rfl) rfl) rfl) rfl (Src.out (t := 3) (by kernel_rfl) S3 rfl)
    · exact sBin rfl rfl rfl hz rfl (Gd.yes rfl rfl (Src.dep (j := 4) (t := 64) (by kernel_rfl) (by kernel_rfl) rfl) rfl) rfl (Src.dep (j := 7) (t := 67) (by kernel_rfl) (by kernel_rfl) rfl) (Src.const (.int .i64 2000)) (fun w => by simp [go_sem, ek])
    · exact sCall rfl rfl rfl hz rfl (Gd.yes rfl rfl (Src.dep (j := 4) (t := 64) (by kernel_rfl) (by kernel_rfl) rfl) rfl) rfl Try.func42 (by kernel_rfl) (by kernel_rfl) fun a γ w U => (by show Calls _ _ #[a.eval (.tmp 65), a.eval (.tmp 66), a.eval (.tmp 68)] _ _; rw [show a.eval (.tmp 68) = .int .i64 (k.tmod 2000) from Src.at_ (Src.dep (j := 8) (t := 68) (by kernel_rfl) (by kernel_rfl) rfl) U]; exact l_moved (Src.at_ (Src.dep (j := 5) (t := 65) (by kernel_rfl) (by kernel_rfl) rfl) U) (Src.at_ (Src.dep (j := 6) (t := 66) (by kernel_rfl) (by kernel_rfl) rfl) U) (by decide) (by decide) hk1 hk0)
    · exact sPickT rfl rfl rfl hz rfl (Gd.none_ rfl) rfl (Src.dep (j := 4) (t := 64) (by kernel_rfl) (by kernel_rfl) rfl) (Src.dep (j := 9) (t := 69) (by kernel_rfl) (by kernel_rfl) rfl)
    · exact sMv rfl rfl rfl hz rfl (Gd.none_ rfl) rfl (Src.dep (j := 10) (t := 70) (by kernel_rfl) (by kernel_rfl) rfl)
    · exact sLoad rfl rfl rfl hz rfl (Gd.yes rfl rfl (Src.dep (j := 11) (t := 71) (by kernel_rfl) (by kernel_rfl) rfl) rfl) rfl (Src.out (t := 9) (by kernel_rfl) S9 rfl) Cp1 rfl ld_n64
    · exact sLoad rfl rfl rfl hz rfl (Gd.yes rfl rfl (Src.dep (j := 11) (t := 71) (by kernel_rfl) (by kernel_rfl) rfl) rfl) rfl (Src.out (t := 11) (by kernel_rfl) S11 rfl) Cp3 rfl ld_n32
    · exact sCall rfl rfl rfl hz rfl (Gd.yes rfl rfl (Src.dep (j := 11) (t := 71) (by kernel_rfl) (by kernel_rfl) rfl) rfl) rfl Try.func43 (by kernel_rfl) (by kernel_rfl) fun a γ w U => (by show Calls _ _ #[a.eval (.tmp 72), a.eval (.tmp 73)] _ _; exact l_same (Src.at_ (Src.dep (j := 12) (t := 72) (by kernel_rfl) (by kernel_rfl) rfl) U) (Src.at_ (Src.dep (j := 13) (t := 73) (by kernel_rfl) (by kernel_rfl) rfl) U) (by decide) (by decide))
    · exact sPickT rfl rfl rfl hz rfl (Gd.none_ rfl) rfl (Src.dep (j := 11) (t := 71) (by kernel_rfl) (by kernel_rfl) rfl) (Src.dep (j := 14) (t := 74) (by kernel_rfl) (by kernel_rfl) rfl)
    · exact sMv rfl rfl rfl hz rfl (Gd.none_ rfl) rfl (Src.dep (j := 15) (t := 75) (by kernel_rfl) (by kernel_rfl) rfl)
    · exact sLoad rfl rfl rfl hz rfl (Gd.yes rfl rfl (Src.dep (j := 16) (t := 76) (by kernel_rfl) (by kernel_rfl) rfl) rfl) rfl (Src.out (t := 10) (by kernel_rfl) S10 rfl) Cp2 rfl ld_n64
    · exact sLoad rfl rfl rfl hz rfl (Gd.yes rfl rfl (Src.dep (j := 16) (t := 76) (by kernel_rfl) (by kernel_rfl) rfl) rfl) rfl (Src.out (t := 12) (by kernel_rfl) S12 rfl) Cp4 rfl ld_n32
    · exact sCall rfl rfl rfl hz rfl (Gd.yes rfl rfl (Src.dep (j := 16) (t := 76) (by kernel_rfl) (by kernel_rfl) rfl) rfl) rfl Try.func43 (by kernel_rfl) (by kernel_rfl) fun a γ w U => (by show Calls _ _ #[a.eval (.tmp 77), a.eval (.tmp 78)] _ _; exact l_same (Src.at_ (Src.dep (j := 17) (t := 77) (by kernel_rfl) (by kernel_rfl) rfl) U) (Src.at_ (Src.dep (j := 18) (t := 78) (by kernel_rfl) (by kernel_rfl) rfl) U) (by decide) (by decide))
    · exact sPickT rfl rfl rfl hz rfl (Gd.none_ rfl) rfl (Src.dep (j := 16) (t := 76) (by kernel_rfl) (by kernel_rfl) rfl) (Src.dep (j := 19) (t := 79) (by kernel_rfl) (by kernel_rfl) rfl)
    · exact sMv rfl rfl rfl hz rfl (Gd.none_ rfl) rfl (Src.dep (j := 20) (t := 80) (by kernel_rfl) (by kernel_rfl) rfl)
    · exact sCall rfl rfl rfl hz rfl (Gd.yes rfl rfl (Src.dep (j := 21) (t := 81) (by kernel_rfl) (by kernel_rfl) rfl) rfl) rfl Try.func21 (by kernel_rfl) (by kernel_rfl) fun a γ w U => (by show Calls _ _ #[] _ _; exact l_started)
    · exact sPickT rfl rfl rfl hz rfl (Gd.none_ rfl) rfl (Src.dep (j := 21) (t := 81) (by kernel_rfl) (by kernel_rfl) rfl) (Src.dep (j := 22) (t := 82) (by kernel_rfl) (by kernel_rfl) rfl)
    · exact sAs rfl rfl rfl hz rfl (Gd.none_ rfl) rfl (Src.dep (j := 23) (t := 83) (by kernel_rfl) (by kernel_rfl) rfl)
  intro a' γ' W' hz' hd' hC hk hh
  clear Cp1
  clear Cp2
  clear Cp3
  clear Cp4
  clear S2
  clear S3
  clear S8
  clear S9
  clear S10
  clear S11
  clear S12
  clear S57
  have S8 := gotV hz' 24 hh rfl rfl rfl rfl
  replace HB := aft_call HB (RelC.below_nil hC)
  clear hC hk hh; replace hz := hz'; replace hd := hd'; clear hz' hd'
  refine wp_ret ?_
  exact ret1 (by kernel_rfl) S8 hd ⟨_, rfl, rfl, HB⟩

set_option maxRecDepth 10000 in
set_option maxHeartbeats 2000000 in
theorem reck_great {n0 n1 : Nat} {la lb : List Nat} {n k : Int} {v0 v1 : Value} {w : World} (h0 : (tBy n0 la).p v0 w) (h1 : (tBy n1 lb).p v1 w) (e1 : 20000 < n) (e2 : ¬ n ≤ 16777216) (hi0 : -9223372036854775808 ≤ n) (hi1 : n ≤ 9223372036854775807) (hk0 : -9223372036854775808 ≤ k.tmod 2000) (hk1 : k.tmod 2000 ≤ 9223372036854775807) (ek : IntKind.i64.wrap (k.tmod 2000) = k.tmod 2000) :
    Calls Try.prog 11 #[v0, v1, .int .i64 n, .int .i64 k] w (Ret (tV (.bool true)) w) := by
  refine enter Try.func11 rfl Try.ntmps11 (by simp) ?_
  intro a hz hd ha
  have S0 := ha 0 _ rfl
  have H0 := h0
  have S1 := ha 1 _ rfl
  have H1 := h1
  have S2 := ha 2 _ rfl
  have S3 := ha 3 _ rfl
  clear ha
  have HB : Below w.heap.size w w := Below.refl _ _
  refine wp_seq ?_
  refine region_text (M := []) (
      rT (tV (.bool false)) ::
      []) hz hd (by kernel_rfl) ?_ ?_
  · refine ⟨?_, trivial⟩
    · exact sAs rfl rfl rfl hz rfl (Gd.none_ rfl) rfl (Src.const (.bool false))
  intro a' γ' W' hz' hd' hC hk hh
  replace S0 := hk 0 _ (by kernel_rfl) S0
  replace H0 := Ty.aft _ H0 hC
  replace S1 := hk 1 _ (by kernel_rfl) S1
  replace H1 := Ty.aft _ H1 hC
  replace S2 := hk 2 _ (by kernel_rfl) S2
  replace S3 := hk 3 _ (by kernel_rfl) S3
  have S8 := gotV hz' 0 hh rfl rfl rfl rfl
  replace HB := aft_call HB (RelC.below_nil hC)
  clear hC hk hh; replace hz := hz'; replace hd := hd'; clear hz' hd'
  refine wp_seq ?_
  refine region_text (M := []) (
      rT (tBy n0 la) ::
      rT (tBy 600 (la.take 600)) ::
      rT (tBy n1 lb) ::
      rT (tBy 600 (lb.take 600)) ::
      rT (tBy 600 (la.take 600)) ::
      rT (tBy 600 (lb.take 600)) ::
      []) hz hd (by kernel_rfl) ?_ ?_
  · refine ⟨?_, ?_, ?_, ?_, ?_, ?_, trivial⟩
    · exact sMv rfl rfl rfl hz rfl (Gd.none_ rfl) rfl (Src.out (t := 0) (by kernel_rfl) S0 H0)
    · exact sCall rfl rfl rfl hz rfl (Gd.none_ rfl) rfl Try.func14 (by kernel_rfl) (by kernel_rfl) fun a γ w U => (by show Calls _ _ #[a.eval (.tmp 14)] _ _; exact l_cut (Src.at_ (Src.dep (j := 0) (t := 14) (by kernel_rfl) (by kernel_rfl) rfl) U))
    · exact sMv rfl rfl rfl hz rfl (Gd.none_ rfl) rfl (Src.out (t := 1) (by kernel_rfl) S1 H1)
    · exact sCall rfl rfl rfl hz rfl (Gd.none_ rfl) rfl Try.func14 (by kernel_rfl) (by kernel_rfl) fun a γ w U => (by show Calls _ _ #[a.eval (.tmp 16)] _ _; exact l_cut (Src.at_ (Src.dep (j := 2) (t := 16) (by kernel_rfl) (by kernel_rfl) rfl) U))
    · exact sAs rfl rfl rfl hz rfl (Gd.none_ rfl) rfl (Src.dep (j := 1) (t := 15) (by kernel_rfl) (by kernel_rfl) rfl)
    · exact sAs rfl rfl rfl hz rfl (Gd.none_ rfl) rfl (Src.dep (j := 3) (t := 17) (by kernel_rfl) (by kernel_rfl) rfl)
  intro a' γ' W' hz' hd' hC hk hh
  clear S0 H0
  clear S1 H1
  replace S2 := hk 2 _ (by kernel_rfl) S2
  replace S3 := hk 3 _ (by kernel_rfl) S3
  replace S8 := hk 8 _ (by kernel_rfl) S8
  obtain ⟨v0, S0, H0⟩ := got hz' 4 hh rfl rfl rfl rfl
  obtain ⟨v1, S1, H1⟩ := got hz' 5 hh rfl rfl rfl rfl
  replace HB := aft_call HB (RelC.below_nil hC)
  clear hC hk hh; replace hz := hz'; replace hd := hd'; clear hz' hd'
  refine wp_seq ?_
  refine region_text (M := []) (
      rT (tBy 600 (la.take 600)) ::
      rT (tN B64 600 (bev (la.take 600))) ::
      rT (tBy 600 (lb.take 600)) ::
      rT (tN B64 600 (bev (lb.take 600))) ::
      rVar 4 25 1 ::
      rVar 5 25 1 ::
      rB 4 25 (tN B64 600 (bev (la.take 600))) (some 4) 5 ::
      rB 5 25 (tN B64 600 (bev (lb.take 600))) (some 5) 6 ::
      []) hz hd (by kernel_rfl) ?_ ?_
  · refine ⟨?_, ?_, ?_, ?_, ?_, ?_, ?_, ?_, trivial⟩
    · exact sMv rfl rfl rfl hz rfl (Gd.none_ rfl) rfl (Src.out (t := 0) (by kernel_rfl) S0 H0)
    · exact sCall rfl rfl rfl hz rfl (Gd.none_ rfl) rfl Try.func13 (by kernel_rfl) (by kernel_rfl) fun a γ w U => (by show Calls _ _ #[a.eval (.tmp 18)] _ _; exact c_fb ((Src.at_ (Src.dep (j := 0) (t := 18) (by kernel_rfl) (by kernel_rfl) rfl) U)) (by decide))
    · exact sMv rfl rfl rfl hz rfl (Gd.none_ rfl) rfl (Src.out (t := 1) (by kernel_rfl) S1 H1)
    · exact sCall rfl rfl rfl hz rfl (Gd.none_ rfl) rfl Try.func13 (by kernel_rfl) (by kernel_rfl) fun a γ w U => (by show Calls _ _ #[a.eval (.tmp 20)] _ _; exact c_fb ((Src.at_ (Src.dep (j := 2) (t := 20) (by kernel_rfl) (by kernel_rfl) rfl) U)) (by decide))
    · exact sAlloc rfl rfl rfl hz rfl rfl rfl rfl nd_slice al_n64
    · exact sAlloc rfl rfl rfl hz rfl rfl rfl rfl nd_slice al_n64
    · exact sStore rfl rfl rfl rfl rfl (by kernel_rfl) (by kernel_rfl) rfl (Src.dep (j := 1) (t := 19) (by kernel_rfl) (by kernel_rfl) rfl) st_n64
    · exact sStore rfl rfl rfl rfl rfl (by kernel_rfl) (by kernel_rfl) rfl (Src.dep (j := 3) (t := 21) (by kernel_rfl) (by kernel_rfl) rfl) st_n64
  intro a' γ' W' hz' hd' hC hk hh
  replace S2 := hk 2 _ (by kernel_rfl) S2
  replace S3 := hk 3 _ (by kernel_rfl) S3
  replace S8 := hk 8 _ (by kernel_rfl) S8
  replace S0 := hk 0 _ (by kernel_rfl) S0
  replace H0 := Ty.aft _ H0 hC
  replace S1 := hk 1 _ (by kernel_rfl) S1
  replace H1 := Ty.aft _ H1 hC
  obtain ⟨p1, S9, Cp1, lp1⟩ := gotB hz' 6 hC hh rfl rfl rfl rfl rfl rfl
  clear lp1
  obtain ⟨p2, S10, Cp2, lp2⟩ := gotB hz' 7 hC hh rfl rfl rfl rfl rfl rfl
  clear lp2
  replace HB := aft_call HB (RelC.below_nil hC)
  clear hC hk hh; replace hz := hz'; replace hd := hd'; clear hz' hd'
  refine wp_seq ?_
  refine region_text (M := []) (
      rT (tBy 600 (la.take 600)) ::
      rT (tN B32 600 (bev (la.take 600))) ::
      rT (tBy 600 (lb.take 600)) ::
      rT (tN B32 600 (bev (lb.take 600))) ::
      rVar 4 44 1 ::
      rVar 5 44 1 ::
      rB 4 44 (tN B32 600 (bev (la.take 600))) (some 4) 5 ::
      rB 5 44 (tN B32 600 (bev (lb.take 600))) (some 5) 6 ::
      []) hz hd (by kernel_rfl) ?_ ?_
  · refine ⟨?_, ?_, ?_, ?_, ?_, ?_, ?_, ?_, trivial⟩
    · exact sMv rfl rfl rfl hz rfl (Gd.none_ rfl) rfl (Src.out (t := 0) (by kernel_rfl) S0 H0)
    · exact sCall rfl rfl rfl hz rfl (Gd.none_ rfl) rfl Try.func30 (by kernel_rfl) (by kernel_rfl) fun a γ w U => (by show Calls _ _ #[a.eval (.tmp 22)] _ _; exact d_fb (Src.at_ (Src.dep (j := 0) (t := 22) (by kernel_rfl) (by kernel_rfl) rfl) U) (by decide))
    · exact sMv rfl rfl rfl hz rfl (Gd.none_ rfl) rfl (Src.out (t := 1) (by kernel_rfl) S1 H1)
    · exact sCall rfl rfl rfl hz rfl (Gd.none_ rfl) rfl Try.func30 (by kernel_rfl) (by kernel_rfl) fun a γ w U => (by show Calls _ _ #[a.eval (.tmp 24)] _ _; exact d_fb (Src.at_ (Src.dep (j := 2) (t := 24) (by kernel_rfl) (by kernel_rfl) rfl) U) (by decide))
    · exact sAlloc rfl rfl rfl hz rfl rfl rfl rfl nd_slice al_n32
    · exact sAlloc rfl rfl rfl hz rfl rfl rfl rfl nd_slice al_n32
    · exact sStore rfl rfl rfl rfl rfl (by kernel_rfl) (by kernel_rfl) rfl (Src.dep (j := 1) (t := 23) (by kernel_rfl) (by kernel_rfl) rfl) st_n32
    · exact sStore rfl rfl rfl rfl rfl (by kernel_rfl) (by kernel_rfl) rfl (Src.dep (j := 3) (t := 25) (by kernel_rfl) (by kernel_rfl) rfl) st_n32
  intro a' γ' W' hz' hd' hC hk hh
  replace Cp1 := Cell.aft Cp1 hC rfl
  replace Cp2 := Cell.aft Cp2 hC rfl
  replace S2 := hk 2 _ (by kernel_rfl) S2
  replace S3 := hk 3 _ (by kernel_rfl) S3
  replace S8 := hk 8 _ (by kernel_rfl) S8
  clear S0 H0
  clear S1 H1
  replace S9 := hk 9 _ (by kernel_rfl) S9
  replace S10 := hk 10 _ (by kernel_rfl) S10
  obtain ⟨p3, S11, Cp3, lp3⟩ := gotB hz' 6 hC hh rfl rfl rfl rfl rfl rfl
  clear lp3
  obtain ⟨p4, S12, Cp4, lp4⟩ := gotB hz' 7 hC hh rfl rfl rfl rfl rfl rfl
  clear lp4
  replace HB := aft_call HB (RelC.below_nil hC)
  clear hC hk hh; replace hz := hz'; replace hd := hd'; clear hz' hd'
  refine wp_seq ?_
  refine wp_seq ?_
  refine region_text (M := []) (
      rT (tV (.int .i64 0)) ::
      []) hz hd (by kernel_rfl) ?_ ?_
  · refine ⟨?_, trivial⟩
    · exact sAs rfl rfl rfl hz rfl (Gd.none_ rfl) rfl (Src.const (.int .i64 0))
  intro a' γ' W' hz' hd' hC hk hh
  replace Cp1 := Cell.aft Cp1 hC rfl
  replace Cp2 := Cell.aft Cp2 hC rfl
  replace Cp3 := Cell.aft Cp3 hC rfl
  replace Cp4 := Cell.aft Cp4 hC rfl
  replace S2 := hk 2 _ (by kernel_rfl) S2
  replace S3 := hk 3 _ (by kernel_rfl) S3
  replace S8 := hk 8 _ (by kernel_rfl) S8
  replace S9 := hk 9 _ (by kernel_rfl) S9
  replace S10 := hk 10 _ (by kernel_rfl) S10
  replace S11 := hk 11 _ (by kernel_rfl) S11
  replace S12 := hk 12 _ (by kernel_rfl) S12
  have S13 := gotV hz' 0 hh rfl rfl rfl rfl
  replace HB := aft_call HB (RelC.below_nil hC)
  clear hC hk hh; replace hz := hz'; replace hd := hd'; clear hz' hd'
  refine wp_block ?_
  refine wp_loop_rounds 3 ?_
  show Code.wp _ _ _ _ _
  refine wp_seq ?_
  refine wp_seq ?_
  refine region_text (M := []) (
      rT (tV (.int .i64 0)) ::
      rT (tV (.bool true)) ::
      []) hz hd (by kernel_rfl) ?_ ?_
  · refine ⟨?_, ?_, trivial⟩
    · exact sMv rfl rfl rfl hz rfl (Gd.none_ rfl) rfl (Src.out (t := 13) (by kernel_rfl) S13 rfl)
    · exact sBin rfl rfl rfl hz rfl (Gd.none_ rfl) rfl (Src.dep (j := 0) (t := 26) (by kernel_rfl) (by kernel_rfl) rfl) (Src.const (.int .i64 2)) (fun w => by simp [go_sem])
  intro a' γ' W' hz' hd' hC hk hh
  replace Cp1 := Cell.aft Cp1 hC rfl
  replace Cp2 := Cell.aft Cp2 hC rfl
  replace Cp3 := Cell.aft Cp3 hC rfl
  replace Cp4 := Cell.aft Cp4 hC rfl
  replace S2 := hk 2 _ (by kernel_rfl) S2
  replace S3 := hk 3 _ (by kernel_rfl) S3
  replace S8 := hk 8 _ (by kernel_rfl) S8
  replace S9 := hk 9 _ (by kernel_rfl) S9
  replace S10 := hk 10 _ (by kernel_rfl) S10
  replace S11 := hk 11 _ (by kernel_rfl) S11
  replace S12 := hk 12 _ (by kernel_rfl) S12
  replace S13 := hk 13 _ (by kernel_rfl) S13
  have S26 := gotV hz' 0 hh rfl rfl rfl rfl
  have S27 := gotV hz' 1 hh rfl rfl rfl rfl
  replace HB := aft_call HB (RelC.below_nil hC)
  clear hC hk hh; replace hz := hz'; replace hd := hd'; clear hz' hd'
  refine wp_cond_true S27.ev ?_
  refine wp_skip ?_
  refine wp_seq ?_
  refine wp_block ?_
  refine wp_seq ?_
  refine region_text (M := []) (
      rT (tN B64 600 (bev (la.take 600))) ::
      rT (tN B64 600 (bev (lb.take 600))) ::
      rT (tN B32 600 (bev (la.take 600))) ::
      rT (tN B32 600 (bev (lb.take 600))) ::
      rT (tV (.bool true)) ::
      rT (tV (.bool false)) ::
      rT (tV (.bool false)) ::
      rT (tN B64 600 (bev (lb.take 600))) ::
      rT (tN B64 600 (bev (la.take 600))) ::
      rT (tN B32 600 (bev (lb.take 600))) ::
      rT (tN B32 600 (bev (la.take 600))) ::
      rT (tV (.bool true)) ::
      rT (tV (.bool false)) ::
      rT (tV (.bool false)) ::
      rT (tV (.bool false)) ::
      rT (tN B64 600 (bev (la.take 600))) ::
      rT (tN B64 600 (bev (la.take 600))) ::
      rT (tN B32 600 (bev (la.take 600))) ::
      rT (tN B32 600 (bev (la.take 600))) ::
      rT (tV (.bool true)) ::
      rT (tV (.bool false)) ::
      rT (tV (.bool false)) ::
      []) hz hd (by kernel_rfl) ?_ ?_
  · refine ⟨?_, ?_, ?_, ?_, ?_, ?_, ?_, ?_, ?_, ?_, ?_, ?_, ?_, ?_, ?_, ?_, ?_, ?_, ?_, ?_, ?_, ?_, trivial⟩
    · exact sLoad rfl rfl rfl hz rfl (Gd.none_ rfl) rfl (Src.out (t := 9) (by kernel_rfl) S9 rfl) Cp1 rfl ld_n64
    · exact sLoad rfl rfl rfl hz rfl (Gd.none_ rfl) rfl (Src.out (t := 10) (by kernel_rfl) S10 rfl) Cp2 rfl ld_n64
    · exact sLoad rfl rfl rfl hz rfl (Gd.none_ rfl) rfl (Src.out (t := 11) (by kernel_rfl) S11 rfl) Cp3 rfl ld_n32
    · exact sLoad rfl rfl rfl hz rfl (Gd.none_ rfl) rfl (Src.out (t := 12) (by kernel_rfl) S12 rfl) Cp4 rfl ld_n32
    · exact sCall rfl rfl rfl hz rfl (Gd.none_ rfl) rfl Try.func41 (by kernel_rfl) (by kernel_rfl) fun a γ w U => (by show Calls _ _ #[a.eval (.tmp 30), a.eval (.tmp 31), a.eval (.tmp 32), a.eval (.tmp 33)] _ _; exact l_pair (Src.at_ (Src.dep (j := 0) (t := 30) (by kernel_rfl) (by kernel_rfl) rfl) U) (Src.at_ (Src.dep (j := 1) (t := 31) (by kernel_rfl) (by kernel_rfl) rfl) U) (Src.at_ (Src.dep (j := 2) (t := 32) (by kernel_rfl) (by kernel_rfl) rfl) U) (Src.at_ (Src.dep (j := 3) (t := 33) (by kernel_rfl) (by kernel_rfl) rfl) U) (by decide) (by decide) (by decide) (by decide))
    · exact sNot (b := true) rfl rfl rfl hz rfl (Gd.none_ rfl) rfl (Src.dep (j := 4) (t := 34) (by kernel_rfl) (by kernel_rfl) rfl)
    · exact sMv rfl rfl rfl hz rfl (Gd.none_ rfl) rfl (Src.dep (j := 5) (t := 35) (by kernel_rfl) (by kernel_rfl) rfl)
    · exact sLoad rfl rfl rfl hz rfl (Gd.yes rfl rfl (Src.dep (j := 6) (t := 36) (by kernel_rfl) (by kernel_rfl) rfl) rfl) rfl (Src.out (t := 10) (by kernel_rfl) S10 rfl) Cp2 rfl ld_n64
    · exact sLoad rfl rfl rfl hz rfl (Gd.yes rfl rfl (Src.dep (j := 6) (t := 36) (by kernel_rfl) (by kernel_rfl) rfl) rfl) rfl (Src.out (t := 9) (by kernel_rfl) S9 rfl) Cp1 rfl ld_n64
    · exact sLoad rfl rfl rfl hz rfl (Gd.yes rfl rfl (Src.dep (j := 6) (t := 36) (by kernel_rfl) (by kernel_rfl) rfl) rfl) rfl (Src.out (t := 12) (by kernel_rfl) S12 rfl) Cp4 rfl ld_n32
    · exact sLoad rfl rfl rfl hz rfl (Gd.yes rfl rfl (Src.dep (j := 6) (t := 36) (by kernel_rfl) (by kernel_rfl) rfl) rfl) rfl (Src.out (t := 11) (by kernel_rfl) S11 rfl) Cp3 rfl ld_n32
    · exact sCall rfl rfl rfl hz rfl (Gd.yes rfl rfl (Src.dep (j := 6) (t := 36) (by kernel_rfl) (by kernel_rfl) rfl) rfl) rfl Try.func41 (by kernel_rfl) (by kernel_rfl) fun a γ w U => (by show Calls _ _ #[a.eval (.tmp 37), a.eval (.tmp 38), a.eval (.tmp 39), a.eval (.tmp 40)] _ _; exact l_pair (Src.at_ (Src.dep (j := 7) (t := 37) (by kernel_rfl) (by kernel_rfl) rfl) U) (Src.at_ (Src.dep (j := 8) (t := 38) (by kernel_rfl) (by kernel_rfl) rfl) U) (Src.at_ (Src.dep (j := 9) (t := 39) (by kernel_rfl) (by kernel_rfl) rfl) U) (Src.at_ (Src.dep (j := 10) (t := 40) (by kernel_rfl) (by kernel_rfl) rfl) U) (by decide) (by decide) (by decide) (by decide))
    · exact sNot (b := true) rfl rfl rfl hz rfl (Gd.yes rfl rfl (Src.dep (j := 6) (t := 36) (by kernel_rfl) (by kernel_rfl) rfl) rfl) rfl (Src.dep (j := 11) (t := 41) (by kernel_rfl) (by kernel_rfl) rfl)
    · exact sPickF rfl rfl rfl hz rfl (Gd.none_ rfl) rfl (Src.dep (j := 6) (t := 36) (by kernel_rfl) (by kernel_rfl) rfl) (Src.dep (j := 12) (t := 42) (by kernel_rfl) (by kernel_rfl) rfl)
    · exact sMv rfl rfl rfl hz rfl (Gd.none_ rfl) rfl (Src.dep (j := 13) (t := 43) (by kernel_rfl) (by kernel_rfl) rfl)
    · exact sLoad rfl rfl rfl hz rfl (Gd.yes rfl rfl (Src.dep (j := 14) (t := 44) (by kernel_rfl) (by kernel_rfl) rfl) rfl) rfl (Src.out (t := 9) (by kernel_rfl) S9 rfl) Cp1 rfl ld_n64
    · exact sLoad rfl rfl rfl hz rfl (Gd.yes rfl rfl (Src.dep (j := 14) (t := 44) (by kernel_rfl) (by kernel_rfl) rfl) rfl) rfl (Src.out (t := 9) (by kernel_rfl) S9 rfl) Cp1 rfl ld_n64
    · exact sLoad rfl rfl rfl hz rfl (Gd.yes rfl rfl (Src.dep (j := 14) (t := 44) (by kernel_rfl) (by kernel_rfl) rfl) rfl) rfl (Src.out (t := 11) (by kernel_rfl) S11 rfl) Cp3 rfl ld_n32
    · exact sLoad rfl rfl rfl hz rfl (Gd.yes rfl rfl (Src.dep (j := 14) (t := 44) (by kernel_rfl) (by kernel_rfl) rfl) rfl) rfl (Src.out (t := 11) (by kernel_rfl) S11 rfl) Cp3 rfl ld_n32
    · exact sCall rfl rfl rfl hz rfl (Gd.yes rfl rfl (Src.dep (j := 14) (t := 44) (by kernel_rfl) (by kernel_rfl) rfl) rfl) rfl Try.func41 (by kernel_rfl) (by kernel_rfl) fun a γ w U => (by show Calls _ _ #[a.eval (.tmp 45), a.eval (.tmp 46), a.eval (.tmp 47), a.eval (.tmp 48)] _ _; exact l_pair (Src.at_ (Src.dep (j := 15) (t := 45) (by kernel_rfl) (by kernel_rfl) rfl) U) (Src.at_ (Src.dep (j := 16) (t := 46) (by kernel_rfl) (by kernel_rfl) rfl) U) (Src.at_ (Src.dep (j := 17) (t := 47) (by kernel_rfl) (by kernel_rfl) rfl) U) (Src.at_ (Src.dep (j := 18) (t := 48) (by kernel_rfl) (by kernel_rfl) rfl) U) (by decide) (by decide) (by decide) (by decide))
    · exact sNot (b := true) rfl rfl rfl hz rfl (Gd.yes rfl rfl (Src.dep (j := 14) (t := 44) (by kernel_rfl) (by kernel_rfl) rfl) rfl) rfl (Src.dep (j := 19) (t := 49) (by kernel_rfl) (by kernel_rfl) rfl)
    · exact sPickF rfl rfl rfl hz rfl (Gd.none_ rfl) rfl (Src.dep (j := 14) (t := 44) (by kernel_rfl) (by kernel_rfl) rfl) (Src.dep (j := 20) (t := 50) (by kernel_rfl) (by kernel_rfl) rfl)
  intro a' γ' W' hz' hd' hC hk hh
  replace Cp1 := Cell.aft Cp1 hC rfl
  replace Cp2 := Cell.aft Cp2 hC rfl
  replace Cp3 := Cell.aft Cp3 hC rfl
  replace Cp4 := Cell.aft Cp4 hC rfl
  replace S2 := hk 2 _ (by kernel_rfl) S2
  replace S3 := hk 3 _ (by kernel_rfl) S3
  replace S8 := hk 8 _ (by kernel_rfl) S8
  replace S9 := hk 9 _ (by kernel_rfl) S9
  replace S10 := hk 10 _ (by kernel_rfl) S10
  replace S11 := hk 11 _ (by kernel_rfl) S11
  replace S12 := hk 12 _ (by kernel_rfl) S12
  replace S13 := hk 13 _ (by kernel_rfl) S13
  replace S26 := hk 26 _ (by kernel_rfl) S26
  replace S27 := hk 27 _ (by kernel_rfl) S27
  obtain ⟨v30, S30, H30⟩ := got hz' 0 hh rfl rfl rfl rfl
  obtain ⟨v31, S31, H31⟩ := got hz' 1 hh rfl rfl rfl rfl
  obtain ⟨v32, S32, H32⟩ := got hz' 2 hh rfl rfl rfl rfl
  obtain ⟨v33, S33, H33⟩ := got hz' 3 hh rfl rfl rfl rfl
  have S34 := gotV hz' 4 hh rfl rfl rfl rfl
  have S35 := gotV hz' 5 hh rfl rfl rfl rfl
  have S36 := gotV hz' 6 hh rfl rfl rfl rfl
  obtain ⟨v37, S37, H37⟩ := got hz' 7 hh rfl rfl rfl rfl
  obtain ⟨v38, S38, H38⟩ := got hz' 8 hh rfl rfl rfl rfl
  obtain ⟨v39, S39, H39⟩ := got hz' 9 hh rfl rfl rfl rfl
  obtain ⟨v40, S40, H40⟩ := got hz' 10 hh rfl rfl rfl rfl
  have S41 := gotV hz' 11 hh rfl rfl rfl rfl
  have S42 := gotV hz' 12 hh rfl rfl rfl rfl
  have S43 := gotV hz' 13 hh rfl rfl rfl rfl
  have S44 := gotV hz' 14 hh rfl rfl rfl rfl
  obtain ⟨v45, S45, H45⟩ := got hz' 15 hh rfl rfl rfl rfl
  obtain ⟨v46, S46, H46⟩ := got hz' 16 hh rfl rfl rfl rfl
  obtain ⟨v47, S47, H47⟩ := got hz' 17 hh rfl rfl rfl rfl
  obtain ⟨v48, S48, H48⟩ := got hz' 18 hh rfl rfl rfl rfl
  have S49 := gotV hz' 19 hh rfl rfl rfl rfl
  have S50 := gotV hz' 20 hh rfl rfl rfl rfl
  have S51 := gotV hz' 21 hh rfl rfl rfl rfl
  replace HB := aft_call HB (RelC.below_nil hC)
  clear hC hk hh; replace hz := hz'; replace hd := hd'; clear hz' hd'
  refine wp_cond_false S51.ev ?_
  refine wp_skip ?_
  refine region_text (M := []) (
      rT (tV (.int .i64 0)) ::
      rT (tV (.int .i64 1)) ::
      rT (tV (.int .i64 1)) ::
      []) hz hd (by kernel_rfl) ?_ ?_
  · refine ⟨?_, ?_, ?_, trivial⟩
    · exact sMv rfl rfl rfl hz rfl (Gd.none_ rfl) rfl (Src.out (t := 13) (by kernel_rfl) S13 rfl)
    · exact sBin rfl rfl rfl hz rfl (Gd.none_ rfl) rfl (Src.dep (j := 0) (t := 28) (by kernel_rfl) (by kernel_rfl) rfl) (Src.const (.int .i64 1)) (fun w => by kernel_rfl)
    · exact sAs rfl rfl rfl hz rfl (Gd.none_ rfl) rfl (Src.dep (j := 1) (t := 29) (by kernel_rfl) (by kernel_rfl) rfl)
  intro a' γ' W' hz' hd' hC hk hh
  replace Cp1 := Cell.aft Cp1 hC rfl
  replace Cp2 := Cell.aft Cp2 hC rfl
  replace Cp3 := Cell.aft Cp3 hC rfl
  replace Cp4 := Cell.aft Cp4 hC rfl
  replace S2 := hk 2 _ (by kernel_rfl) S2
  replace S3 := hk 3 _ (by kernel_rfl) S3
  replace S8 := hk 8 _ (by kernel_rfl) S8
  replace S9 := hk 9 _ (by kernel_rfl) S9
  replace S10 := hk 10 _ (by kernel_rfl) S10
  replace S11 := hk 11 _ (by kernel_rfl) S11
  replace S12 := hk 12 _ (by kernel_rfl) S12
  clear S13
  replace S26 := hk 26 _ (by kernel_rfl) S26
  replace S27 := hk 27 _ (by kernel_rfl) S27
  replace S30 := hk 30 _ (by kernel_rfl) S30
  replace H30 := Ty.aft _ H30 hC
  replace S31 := hk 31 _ (by kernel_rfl) S31
  replace H31 := Ty.aft _ H31 hC
  replace S32 := hk 32 _ (by kernel_rfl) S32
  replace H32 := Ty.aft _ H32 hC
  replace S33 := hk 33 _ (by kernel_rfl) S33
  replace H33 := Ty.aft _ H33 hC
  replace S34 := hk 34 _ (by kernel_rfl) S34
  replace S35 := hk 35 _ (by kernel_rfl) S35
  replace S36 := hk 36 _ (by kernel_rfl) S36
  replace S37 := hk 37 _ (by kernel_rfl) S37
  replace H37 := Ty.aft _ H37 hC
  replace S38 := hk 38 _ (by kernel_rfl) S38
  replace H38 := Ty.aft _ H38 hC
  replace S39 := hk 39 _ (by kernel_rfl) S39
  replace H39 := Ty.aft _ H39 hC
  replace S40 := hk 40 _ (by kernel_rfl) S40
  replace H40 := Ty.aft _ H40 hC
  replace S41 := hk 41 _ (by kernel_rfl) S41
  replace S42 := hk 42 _ (by kernel_rfl) S42
  replace S43 := hk 43 _ (by kernel_rfl) S43
  replace S44 := hk 44 _ (by kernel_rfl) S44
  replace S45 := hk 45 _ (by kernel_rfl) S45
  replace H45 := Ty.aft _ H45 hC
  replace S46 := hk 46 _ (by kernel_rfl) S46
  replace H46 := Ty.aft _ H46 hC
  replace S47 := hk 47 _ (by kernel_rfl) S47
  replace H47 := Ty.aft _ H47 hC
  replace S48 := hk 48 _ (by kernel_rfl) S48
  replace H48 := Ty.aft _ H48 hC
  replace S49 := hk 49 _ (by kernel_rfl) S49
  replace S50 := hk 50 _ (by kernel_rfl) S50
  replace S51 := hk 51 _ (by kernel_rfl) S51
  have S28 := gotV hz' 0 hh rfl rfl rfl rfl
  have S29 := gotV hz' 1 hh rfl rfl rfl rfl
  have S13 := gotV hz' 2 hh rfl rfl rfl rfl
  replace HB := aft_call HB (RelC.below_nil hC)
  clear hC hk hh; replace hz := hz'; replace hd := hd'; clear hz' hd'
  show Code.wp _ _ _ _ _
  refine wp_seq ?_
  refine wp_seq ?_
  refine region_text (M := []) (
      rT (tV (.int .i64 1)) ::
      rT (tV (.bool true)) ::
      []) hz hd (by kernel_rfl) ?_ ?_
  · refine ⟨?_, ?_, trivial⟩
    · exact sMv rfl rfl rfl hz rfl (Gd.none_ rfl) rfl (Src.out (t := 13) (by kernel_rfl) S13 rfl)
    · exact sBin rfl rfl rfl hz rfl (Gd.none_ rfl) rfl (Src.dep (j := 0) (t := 26) (by kernel_rfl) (by kernel_rfl) rfl) (Src.const (.int .i64 2)) (fun w => by simp [go_sem])
  intro a' γ' W' hz' hd' hC hk hh
  replace Cp1 := Cell.aft Cp1 hC rfl
  replace Cp2 := Cell.aft Cp2 hC rfl
  replace Cp3 := Cell.aft Cp3 hC rfl
  replace Cp4 := Cell.aft Cp4 hC rfl
  replace S2 := hk 2 _ (by kernel_rfl) S2
  replace S3 := hk 3 _ (by kernel_rfl) S3
  replace S8 := hk 8 _ (by kernel_rfl) S8
  replace S9 := hk 9 _ (by kernel_rfl) S9
  replace S10 := hk 10 _ (by kernel_rfl) S10
  replace S11 := hk 11 _ (by kernel_rfl) S11
  replace S12 := hk 12 _ (by kernel_rfl) S12
  clear S26
  clear S27
  replace S30 := hk 30 _ (by kernel_rfl) S30
  replace H30 := Ty.aft _ H30 hC
  replace S31 := hk 31 _ (by kernel_rfl) S31
  replace H31 := Ty.aft _ H31 hC
  replace S32 := hk 32 _ (by kernel_rfl) S32
  replace H32 := Ty.aft _ H32 hC
  replace S33 := hk 33 _ (by kernel_rfl) S33
  replace H33 := Ty.aft _ H33 hC
  replace S34 := hk 34 _ (by kernel_rfl) S34
  replace S35 := hk 35 _ (by kernel_rfl) S35
  replace S36 := hk 36 _ (by kernel_rfl) S36
  replace S37 := hk 37 _ (by kernel_rfl) S37
  replace H37 := Ty.aft _ H37 hC
  replace S38 := hk 38 _ (by kernel_rfl) S38
  replace H38 := Ty.aft _ H38 hC
  replace S39 := hk 39 _ (by kernel_rfl) S39
  replace H39 := Ty.aft _ H39 hC
  replace S40 := hk 40 _ (by kernel_rfl) S40
  replace H40 := Ty.aft _ H40 hC
  replace S41 := hk 41 _ (by kernel_rfl) S41
  replace S42 := hk 42 _ (by kernel_rfl) S42
  replace S43 := hk 43 _ (by kernel_rfl) S43
  replace S44 := hk 44 _ (by kernel_rfl) S44
  replace S45 := hk 45 _ (by kernel_rfl) S45
  replace H45 := Ty.aft _ H45 hC
  replace S46 := hk 46 _ (by kernel_rfl) S46
  replace H46 := Ty.aft _ H46 hC
  replace S47 := hk 47 _ (by kernel_rfl) S47
  replace H47 := Ty.aft _ H47 hC
  replace S48 := hk 48 _ (by kernel_rfl) S48
  replace H48 := Ty.aft _ H48 hC
  replace S49 := hk 49 _ (by kernel_rfl) S49
  replace S50 := hk 50 _ (by kernel_rfl) S50
  replace S51 := hk 51 _ (by kernel_rfl) S51
  replace S28 := hk 28 _ (by kernel_rfl) S28
  replace S29 := hk 29 _ (by kernel_rfl) S29
  replace S13 := hk 13 _ (by kernel_rfl) S13
  have S26 := gotV hz' 0 hh rfl rfl rfl rfl
  have S27 := gotV hz' 1 hh rfl rfl rfl rfl
  replace HB := aft_call HB (RelC.below_nil hC)
  clear hC hk hh; replace hz := hz'; replace hd := hd'; clear hz' hd'
  refine wp_cond_true S27.ev ?_
  refine wp_skip ?_
  refine wp_seq ?_
  refine wp_block ?_
  refine wp_seq ?_
  refine region_text (M := []) (
      rT (tN B64 600 (bev (la.take 600))) ::
      rT (tN B64 600 (bev (lb.take 600))) ::
      rT (tN B32 600 (bev (la.take 600))) ::
      rT (tN B32 600 (bev (lb.take 600))) ::
      rT (tV (.bool true)) ::
      rT (tV (.bool false)) ::
      rT (tV (.bool false)) ::
      rT (tN B64 600 (bev (lb.take 600))) ::
      rT (tN B64 600 (bev (la.take 600))) ::
      rT (tN B32 600 (bev (lb.take 600))) ::
      rT (tN B32 600 (bev (la.take 600))) ::
      rT (tV (.bool true)) ::
      rT (tV (.bool false)) ::
      rT (tV (.bool false)) ::
      rT (tV (.bool false)) ::
      rT (tN B64 600 (bev (la.take 600))) ::
      rT (tN B64 600 (bev (la.take 600))) ::
      rT (tN B32 600 (bev (la.take 600))) ::
      rT (tN B32 600 (bev (la.take 600))) ::
      rT (tV (.bool true)) ::
      rT (tV (.bool false)) ::
      rT (tV (.bool false)) ::
      []) hz hd (by kernel_rfl) ?_ ?_
  · refine ⟨?_, ?_, ?_, ?_, ?_, ?_, ?_, ?_, ?_, ?_, ?_, ?_, ?_, ?_, ?_, ?_, ?_, ?_, ?_, ?_, ?_, ?_, trivial⟩
    · exact sLoad rfl rfl rfl hz rfl (Gd.none_ rfl) rfl (Src.out (t := 9) (by kernel_rfl) S9 rfl) Cp1 rfl ld_n64
    · exact sLoad rfl rfl rfl hz rfl (Gd.none_ rfl) rfl (Src.out (t := 10) (by kernel_rfl) S10 rfl) Cp2 rfl ld_n64
    · exact sLoad rfl rfl rfl hz rfl (Gd.none_ rfl) rfl (Src.out (t := 11) (by kernel_rfl) S11 rfl) Cp3 rfl ld_n32
    · exact sLoad rfl rfl rfl hz rfl (Gd.none_ rfl) rfl (Src.out (t := 12) (by kernel_rfl) S12 rfl) Cp4 rfl ld_n32
    · exact sCall rfl rfl rfl hz rfl (Gd.none_ rfl) rfl Try.func41 (by kernel_rfl) (by kernel_rfl) fun a γ w U => (by show Calls _ _ #[a.eval (.tmp 30), a.eval (.tmp 31), a.eval (.tmp 32), a.eval (.tmp 33)] _ _; exact l_pair (Src.at_ (Src.dep (j := 0) (t := 30) (by kernel_rfl) (by kernel_rfl) rfl) U) (Src.at_ (Src.dep (j := 1) (t := 31) (by kernel_rfl) (by kernel_rfl) rfl) U) (Src.at_ (Src.dep (j := 2) (t := 32) (by kernel_rfl) (by kernel_rfl) rfl) U) (Src.at_ (Src.dep (j := 3) (t := 33) (by kernel_rfl) (by kernel_rfl) rfl) U) (by decide) (by decide) (by decide) (by decide))
    · exact sNot (b := true) rfl rfl rfl hz rfl (Gd.none_ rfl) rfl (Src.dep (j := 4) (t := 34) (by kernel_rfl) (by kernel_rfl) rfl)
    · exact sMv rfl rfl rfl hz rfl (Gd.none_ rfl) rfl (Src.dep (j := 5) (t := 35) (by kernel_rfl) (by kernel_rfl) rfl)
    · exact sLoad rfl rfl rfl hz rfl (Gd.yes rfl rfl (Src.dep (j := 6) (t := 36) (by kernel_rfl) (by kernel_rfl) rfl) rfl) rfl (Src.out (t := 10) (by kernel_rfl) S10 rfl) Cp2 rfl ld_n64
    · exact sLoad rfl rfl rfl hz rfl (Gd.yes rfl rfl (Src.dep (j := 6) (t := 36) (by kernel_rfl) (by kernel_rfl) rfl) rfl) rfl (Src.out (t := 9) (by kernel_rfl) S9 rfl) Cp1 rfl ld_n64
    · exact sLoad rfl rfl rfl hz rfl (Gd.yes rfl rfl (Src.dep (j := 6) (t := 36) (by kernel_rfl) (by kernel_rfl) rfl) rfl) rfl (Src.out (t := 12) (by kernel_rfl) S12 rfl) Cp4 rfl ld_n32
    · exact sLoad rfl rfl rfl hz rfl (Gd.yes rfl rfl (Src.dep (j := 6) (t := 36) (by kernel_rfl) (by kernel_rfl) rfl) rfl) rfl (Src.out (t := 11) (by kernel_rfl) S11 rfl) Cp3 rfl ld_n32
    · exact sCall rfl rfl rfl hz rfl (Gd.yes rfl rfl (Src.dep (j := 6) (t := 36) (by kernel_rfl) (by kernel_rfl) rfl) rfl) rfl Try.func41 (by kernel_rfl) (by kernel_rfl) fun a γ w U => (by show Calls _ _ #[a.eval (.tmp 37), a.eval (.tmp 38), a.eval (.tmp 39), a.eval (.tmp 40)] _ _; exact l_pair (Src.at_ (Src.dep (j := 7) (t := 37) (by kernel_rfl) (by kernel_rfl) rfl) U) (Src.at_ (Src.dep (j := 8) (t := 38) (by kernel_rfl) (by kernel_rfl) rfl) U) (Src.at_ (Src.dep (j := 9) (t := 39) (by kernel_rfl) (by kernel_rfl) rfl) U) (Src.at_ (Src.dep (j := 10) (t := 40) (by kernel_rfl) (by kernel_rfl) rfl) U) (by decide) (by decide) (by decide) (by decide))
    · exact sNot (b := true) rfl rfl rfl hz rfl (Gd.yes rfl rfl (Src.dep (j := 6) (t := 36) (by kernel_rfl) (by kernel_rfl) rfl) rfl) rfl (Src.dep (j := 11) (t := 41) (by kernel_rfl) (by kernel_rfl) rfl)
    · exact sPickF rfl rfl rfl hz rfl (Gd.none_ rfl) rfl (Src.dep (j := 6) (t := 36) (by kernel_rfl) (by kernel_rfl) rfl) (Src.dep (j := 12) (t := 42) (by kernel_rfl) (by kernel_rfl) rfl)
    · exact sMv rfl rfl rfl hz rfl (Gd.none_ rfl) rfl (Src.dep (j := 13) (t := 43) (by kernel_rfl) (by kernel_rfl) rfl)
    · exact sLoad rfl rfl rfl hz rfl (Gd.yes rfl rfl (Src.dep (j := 14) (t := 44) (by kernel_rfl) (by kernel_rfl) rfl) rfl) rfl (Src.out (t := 9) (by kernel_rfl) S9 rfl) Cp1 rfl ld_n64
    · exact sLoad rfl rfl rfl hz rfl (Gd.yes rfl rfl (Src.dep (j := 14) (t := 44) (by kernel_rfl) (by kernel_rfl) rfl) rfl) rfl (Src.out (t := 9) (by kernel_rfl) S9 rfl) Cp1 rfl ld_n64
    · exact sLoad rfl rfl rfl hz rfl (Gd.yes rfl rfl (Src.dep (j := 14) (t := 44) (by kernel_rfl) (by kernel_rfl) rfl) rfl) rfl (Src.out (t := 11) (by kernel_rfl) S11 rfl) Cp3 rfl ld_n32
    · exact sLoad rfl rfl rfl hz rfl (Gd.yes rfl rfl (Src.dep (j := 14) (t := 44) (by kernel_rfl) (by kernel_rfl) rfl) rfl) rfl (Src.out (t := 11) (by kernel_rfl) S11 rfl) Cp3 rfl ld_n32
    · exact sCall rfl rfl rfl hz rfl (Gd.yes rfl rfl (Src.dep (j := 14) (t := 44) (by kernel_rfl) (by kernel_rfl) rfl) rfl) rfl Try.func41 (by kernel_rfl) (by kernel_rfl) fun a γ w U => (by show Calls _ _ #[a.eval (.tmp 45), a.eval (.tmp 46), a.eval (.tmp 47), a.eval (.tmp 48)] _ _; exact l_pair (Src.at_ (Src.dep (j := 15) (t := 45) (by kernel_rfl) (by kernel_rfl) rfl) U) (Src.at_ (Src.dep (j := 16) (t := 46) (by kernel_rfl) (by kernel_rfl) rfl) U) (Src.at_ (Src.dep (j := 17) (t := 47) (by kernel_rfl) (by kernel_rfl) rfl) U) (Src.at_ (Src.dep (j := 18) (t := 48) (by kernel_rfl) (by kernel_rfl) rfl) U) (by decide) (by decide) (by decide) (by decide))
    · exact sNot (b := true) rfl rfl rfl hz rfl (Gd.yes rfl rfl (Src.dep (j := 14) (t := 44) (by kernel_rfl) (by kernel_rfl) rfl) rfl) rfl (Src.dep (j := 19) (t := 49) (by kernel_rfl) (by kernel_rfl) rfl)
    · exact sPickF rfl rfl rfl hz rfl (Gd.none_ rfl) rfl (Src.dep (j := 14) (t := 44) (by kernel_rfl) (by kernel_rfl) rfl) (Src.dep (j := 20) (t := 50) (by kernel_rfl) (by kernel_rfl) rfl)
  intro a' γ' W' hz' hd' hC hk hh
  replace Cp1 := Cell.aft Cp1 hC rfl
  replace Cp2 := Cell.aft Cp2 hC rfl
  replace Cp3 := Cell.aft Cp3 hC rfl
  replace Cp4 := Cell.aft Cp4 hC rfl
  replace S2 := hk 2 _ (by kernel_rfl) S2
  replace S3 := hk 3 _ (by kernel_rfl) S3
  replace S8 := hk 8 _ (by kernel_rfl) S8
  replace S9 := hk 9 _ (by kernel_rfl) S9
  replace S10 := hk 10 _ (by kernel_rfl) S10
  replace S11 := hk 11 _ (by kernel_rfl) S11
  replace S12 := hk 12 _ (by kernel_rfl) S12
  clear S30 H30
  clear S31 H31
  clear S32 H32
  clear S33 H33
  clear S34
  clear S35
  clear S36
  clear S37 H37
  clear S38 H38
  clear S39 H39
  clear S40 H40
  clear S41
  clear S42
  clear S43
  clear S44
  clear S45 H45
  clear S46 H46
  clear S47 H47
  clear S48 H48
  clear S49
  clear S50
  clear S51
  replace S28 := hk 28 _ (by kernel_rfl) S28
  replace S29 := hk 29 _ (by kernel_rfl) S29
  replace S13 := hk 13 _ (by kernel_rfl) S13
  replace S26 := hk 26 _ (by kernel_rfl) S26
  replace S27 := hk 27 _ (by kernel_rfl) S27
  obtain ⟨v30, S30, H30⟩ := got hz' 0 hh rfl rfl rfl rfl
  obtain ⟨v31, S31, H31⟩ := got hz' 1 hh rfl rfl rfl rfl
  obtain ⟨v32, S32, H32⟩ := got hz' 2 hh rfl rfl rfl rfl
  obtain ⟨v33, S33, H33⟩ := got hz' 3 hh rfl rfl rfl rfl
  have S34 := gotV hz' 4 hh rfl rfl rfl rfl
  have S35 := gotV hz' 5 hh rfl rfl rfl rfl
  have S36 := gotV hz' 6 hh rfl rfl rfl rfl
  obtain ⟨v37, S37, H37⟩ := got hz' 7 hh rfl rfl rfl rfl
  obtain ⟨v38, S38, H38⟩ := got hz' 8 hh rfl rfl rfl rfl
  obtain ⟨v39, S39, H39⟩ := got hz' 9 hh rfl rfl rfl rfl
  obtain ⟨v40, S40, H40⟩ := got hz' 10 hh rfl rfl rfl rfl
  have S41 := gotV hz' 11 hh rfl rfl rfl rfl
  have S42 := gotV hz' 12 hh rfl rfl rfl rfl
  have S43 := gotV hz' 13 hh rfl rfl rfl rfl
  have S44 := gotV hz' 14 hh rfl rfl rfl rfl
  obtain ⟨v45, S45, H45⟩ := got hz' 15 hh rfl rfl rfl rfl
  obtain ⟨v46, S46, H46⟩ := got hz' 16 hh rfl rfl rfl rfl
  obtain ⟨v47, S47, H47⟩ := got hz' 17 hh rfl rfl rfl rfl
  obtain ⟨v48, S48, H48⟩ := got hz' 18 hh rfl rfl rfl rfl
  have S49 := gotV hz' 19 hh rfl rfl rfl rfl
  have S50 := gotV hz' 20 hh rfl rfl rfl rfl
  have S51 := gotV hz' 21 hh rfl rfl rfl rfl
  replace HB := aft_call HB (RelC.below_nil hC)
  clear hC hk hh; replace hz := hz'; replace hd := hd'; clear hz' hd'
  refine wp_cond_false S51.ev ?_
  refine wp_skip ?_
  refine region_text (M := []) (
      rT (tV (.int .i64 1)) ::
      rT (tV (.int .i64 2)) ::
      rT (tV (.int .i64 2)) ::
      []) hz hd (by kernel_rfl) ?_ ?_
  · refine ⟨?_, ?_, ?_, trivial⟩
    · exact sMv rfl rfl rfl hz rfl (Gd.none_ rfl) rfl (Src.out (t := 13) (by kernel_rfl) S13 rfl)
    · exact sBin rfl rfl rfl hz rfl (Gd.none_ rfl) rfl (Src.dep (j := 0) (t := 28) (by kernel_rfl) (by kernel_rfl) rfl) (Src.const (.int .i64 1)) (fun w => by kernel_rfl)
    · exact sAs rfl rfl rfl hz rfl (Gd.none_ rfl) rfl (Src.dep (j := 1) (t := 29) (by kernel_rfl) (by kernel_rfl) rfl)
  intro a' γ' W' hz' hd' hC hk hh
  replace Cp1 := Cell.aft Cp1 hC rfl
  replace Cp2 := Cell.aft Cp2 hC rfl
  replace Cp3 := Cell.aft Cp3 hC rfl
  replace Cp4 := Cell.aft Cp4 hC rfl
  replace S2 := hk 2 _ (by kernel_rfl) S2
  replace S3 := hk 3 _ (by kernel_rfl) S3
  replace S8 := hk 8 _ (by kernel_rfl) S8
  replace S9 := hk 9 _ (by kernel_rfl) S9
  replace S10 := hk 10 _ (by kernel_rfl) S10
  replace S11 := hk 11 _ (by kernel_rfl) S11
  replace S12 := hk 12 _ (by kernel_rfl) S12
  clear S28
  clear S29
  clear S13
  replace S26 := hk 26 _ (by kernel_rfl) S26
  replace S27 := hk 27 _ (by kernel_rfl) S27
  replace S30 := hk 30 _ (by kernel_rfl) S30
  replace H30 := Ty.aft _ H30 hC
  replace S31 := hk 31 _ (by kernel_rfl) S31
  replace H31 := Ty.aft _ H31 hC
  replace S32 := hk 32 _ (by kernel_rfl) S32
  replace H32 := Ty.aft _ H32 hC
  replace S33 := hk 33 _ (by kernel_rfl) S33
  replace H33 := Ty.aft _ H33 hC
  replace S34 := hk 34 _ (by kernel_rfl) S34
  replace S35 := hk 35 _ (by kernel_rfl) S35
  replace S36 := hk 36 _ (by kernel_rfl) S36
  replace S37 := hk 37 _ (by kernel_rfl) S37
  replace H37 := Ty.aft _ H37 hC
  replace S38 := hk 38 _ (by kernel_rfl) S38
  replace H38 := Ty.aft _ H38 hC
  replace S39 := hk 39 _ (by kernel_rfl) S39
  replace H39 := Ty.aft _ H39 hC
  replace S40 := hk 40 _ (by kernel_rfl) S40
  replace H40 := Ty.aft _ H40 hC
  replace S41 := hk 41 _ (by kernel_rfl) S41
  replace S42 := hk 42 _ (by kernel_rfl) S42
  replace S43 := hk 43 _ (by kernel_rfl) S43
  replace S44 := hk 44 _ (by kernel_rfl) S44
  replace S45 := hk 45 _ (by kernel_rfl) S45
  replace H45 := Ty.aft _ H45 hC
  replace S46 := hk 46 _ (by kernel_rfl) S46
  replace H46 := Ty.aft _ H46 hC
  replace S47 := hk 47 _ (by kernel_rfl) S47
  replace H47 := Ty.aft _ H47 hC
  replace S48 := hk 48 _ (by kernel_rfl) S48
  replace H48 := Ty.aft _ H48 hC
  replace S49 := hk 49 _ (by kernel_rfl) S49
  replace S50 := hk 50 _ (by kernel_rfl) S50
  replace S51 := hk 51 _ (by kernel_rfl) S51
  have S28 := gotV hz' 0 hh rfl rfl rfl rfl
  have S29 := gotV hz' 1 hh rfl rfl rfl rfl
  have S13 := gotV hz' 2 hh rfl rfl rfl rfl
  replace HB := aft_call HB (RelC.below_nil hC)
  clear hC hk hh; replace hz := hz'; replace hd := hd'; clear hz' hd'
  show Code.wp _ _ _ _ _
  refine wp_seq ?_
  refine wp_seq ?_
  refine region_text (M := []) (
      rT (tV (.int .i64 2)) ::
      rT (tV (.bool false)) ::
      []) hz hd (by kernel_rfl) ?_ ?_
  · refine ⟨?_, ?_, trivial⟩
    · exact sMv rfl rfl rfl hz rfl (Gd.none_ rfl) rfl (Src.out (t := 13) (by kernel_rfl) S13 rfl)
    · exact sBin rfl rfl rfl hz rfl (Gd.none_ rfl) rfl (Src.dep (j := 0) (t := 26) (by kernel_rfl) (by kernel_rfl) rfl) (Src.const (.int .i64 2)) (fun w => by simp [go_sem])
  intro a' γ' W' hz' hd' hC hk hh
  replace Cp1 := Cell.aft Cp1 hC rfl
  replace Cp2 := Cell.aft Cp2 hC rfl
  replace Cp3 := Cell.aft Cp3 hC rfl
  replace Cp4 := Cell.aft Cp4 hC rfl
  replace S2 := hk 2 _ (by kernel_rfl) S2
  replace S3 := hk 3 _ (by kernel_rfl) S3
  replace S8 := hk 8 _ (by kernel_rfl) S8
  replace S9 := hk 9 _ (by kernel_rfl) S9
  replace S10 := hk 10 _ (by kernel_rfl) S10
  replace S11 := hk 11 _ (by kernel_rfl) S11
  replace S12 := hk 12 _ (by kernel_rfl) S12
  clear S26
  clear S27
  replace S30 := hk 30 _ (by kernel_rfl) S30
  replace H30 := Ty.aft _ H30 hC
  replace S31 := hk 31 _ (by kernel_rfl) S31
  replace H31 := Ty.aft _ H31 hC
  replace S32 := hk 32 _ (by kernel_rfl) S32
  replace H32 := Ty.aft _ H32 hC
  replace S33 := hk 33 _ (by kernel_rfl) S33
  replace H33 := Ty.aft _ H33 hC
  replace S34 := hk 34 _ (by kernel_rfl) S34
  replace S35 := hk 35 _ (by kernel_rfl) S35
  replace S36 := hk 36 _ (by kernel_rfl) S36
  replace S37 := hk 37 _ (by kernel_rfl) S37
  replace H37 := Ty.aft _ H37 hC
  replace S38 := hk 38 _ (by kernel_rfl) S38
  replace H38 := Ty.aft _ H38 hC
  replace S39 := hk 39 _ (by kernel_rfl) S39
  replace H39 := Ty.aft _ H39 hC
  replace S40 := hk 40 _ (by kernel_rfl) S40
  replace H40 := Ty.aft _ H40 hC
  replace S41 := hk 41 _ (by kernel_rfl) S41
  replace S42 := hk 42 _ (by kernel_rfl) S42
  replace S43 := hk 43 _ (by kernel_rfl) S43
  replace S44 := hk 44 _ (by kernel_rfl) S44
  replace S45 := hk 45 _ (by kernel_rfl) S45
  replace H45 := Ty.aft _ H45 hC
  replace S46 := hk 46 _ (by kernel_rfl) S46
  replace H46 := Ty.aft _ H46 hC
  replace S47 := hk 47 _ (by kernel_rfl) S47
  replace H47 := Ty.aft _ H47 hC
  replace S48 := hk 48 _ (by kernel_rfl) S48
  replace H48 := Ty.aft _ H48 hC
  replace S49 := hk 49 _ (by kernel_rfl) S49
  replace S50 := hk 50 _ (by kernel_rfl) S50
  replace S51 := hk 51 _ (by kernel_rfl) S51
  replace S28 := hk 28 _ (by kernel_rfl) S28
  replace S29 := hk 29 _ (by kernel_rfl) S29
  replace S13 := hk 13 _ (by kernel_rfl) S13
  have S26 := gotV hz' 0 hh rfl rfl rfl rfl
  have S27 := gotV hz' 1 hh rfl rfl rfl rfl
  replace HB := aft_call HB (RelC.below_nil hC)
  clear hC hk hh; replace hz := hz'; replace hd := hd'; clear hz' hd'
  refine wp_cond_false S27.ev ?_
  refine wp_exit ?_
  refine wp_seq ?_
  refine wp_seq ?_
  refine region_text (M := []) (
      rT (tV (.int .i64 n)) ::
      rT (tV (.bool true)) ::
      rT (tV (.bool true)) ::
      rT (tV (.int .i64 n)) ::
      rT (tV (.bool false)) ::
      rT (tV (.bool false)) ::
      []) hz hd (by kernel_rfl) ?_ ?_
  · refine ⟨?_, ?_, ?_, ?_, ?_, ?_, trivial⟩
    · exact sMv rfl rfl rfl hz rfl (Gd.none_ rfl) rfl (Src.out (t := 2) (by kernel_rfl) S2 rfl)
    · exact sBin rfl rfl rfl hz rfl (Gd.none_ rfl) rfl (Src.dep (j := 0) (t := 52) (by kernel_rfl) (by kernel_rfl) rfl) (Src.const (.int .i64 20000)) (fun w => by simp [go_sem, e1] at *)
    · exact sMv rfl rfl rfl hz rfl (Gd.none_ rfl) rfl (Src.dep (j := 1) (t := 53) (by kernel_rfl) (by kernel_rfl) rfl)
    · exact sMv rfl rfl rfl hz rfl (Gd.yes rfl rfl (Src.dep (j := 2) (t := 54) (by kernel_rfl) (by kernel_rfl) rfl) rfl) rfl (Src.out (t := 2) (by kernel_rfl) S2 rfl)
    · exact sBin rfl rfl rfl hz rfl (Gd.yes rfl rfl (Src.dep (j := 2) (t := 54) (by kernel_rfl) (by kernel_rfl) rfl) rfl) rfl (Src.dep (j := 3) (t := 55) (by kernel_rfl) (by kernel_rfl) rfl) (Src.const (.int .i64 16777216)) (fun w => by simp [go_sem, e2] at *)
    · exact sPickT rfl rfl rfl hz rfl (Gd.none_ rfl) rfl (Src.dep (j := 2) (t := 54) (by kernel_rfl) (by kernel_rfl) rfl) (Src.dep (j := 4) (t := 56) (by kernel_rfl) (by kernel_rfl) rfl)
  intro a' γ' W' hz' hd' hC hk hh
  replace Cp1 := Cell.aft Cp1 hC rfl
  replace Cp2 := Cell.aft Cp2 hC rfl
  replace Cp3 := Cell.aft Cp3 hC rfl
  replace Cp4 := Cell.aft Cp4 hC rfl
  replace S2 := hk 2 _ (by kernel_rfl) S2
  replace S3 := hk 3 _ (by kernel_rfl) S3
  replace S8 := hk 8 _ (by kernel_rfl) S8
  replace S9 := hk 9 _ (by kernel_rfl) S9
  replace S10 := hk 10 _ (by kernel_rfl) S10
  replace S11 := hk 11 _ (by kernel_rfl) S11
  replace S12 := hk 12 _ (by kernel_rfl) S12
  clear S30 H30
  clear S31 H31
  clear S32 H32
  clear S33 H33
  clear S34
  clear S35
  clear S36
  clear S37 H37
  clear S38 H38
  clear S39 H39
  clear S40 H40
  clear S41
  clear S42
  clear S43
  clear S44
  clear S45 H45
  clear S46 H46
  clear S47 H47
  clear S48 H48
  clear S49
  clear S50
  clear S51
  clear S28
  clear S29
  clear S13
  clear S26
  clear S27
  have S57 := gotV hz' 5 hh rfl rfl rfl rfl
  replace HB := aft_call HB (RelC.below_nil hC)
  clear hC hk hh; replace hz := hz'; replace hd := hd'; clear hz' hd'
  refine wp_cond_false S57.ev ?_
  refine wp_skip ?_
  refine wp_seq ?_
  refine region_text (M := []) (
      rT (tN B64 600 (bev (la.take 600))) ::
      rT (tN B32 600 (bev (la.take 600))) ::
      rT (tV (.int .i64 n)) ::
      rT (tV (.bool true)) ::
      rT (tV (.bool true)) ::
      rT (tN B64 600 (bev (la.take 600))) ::
      rT (tN B32 600 (bev (la.take 600))) ::
      rT (tV (.int .i64 k)) ::
      rT (tV (.int .i64 (k.tmod 2000))) ::
      rT (tV (.bool true)) ::
      rT (tV (.bool true)) ::
      rT (tV (.bool true)) ::
      rT (tN B64 600 (bev (la.take 600))) ::
      rT (tN B32 600 (bev (la.take 600))) ::
      rT (tV (.bool true)) ::
      rT (tV (.bool true)) ::
      rT (tV (.bool true)) ::
      rT (tN B64 600 (bev (lb.take 600))) ::
      rT (tN B32 600 (bev (lb.take 600))) ::
      rT (tV (.bool true)) ::
      rT (tV (.bool true)) ::
      rT (tV (.bool true)) ::
      rT (tV (.bool true)) ::
      rT (tV (.bool true)) ::
      rT (tV (.bool true)) ::
      []) hz hd (by kernel_rfl) ?_ ?_
  · refine ⟨?_, ?_, ?_, ?_, ?_, ?_, ?_, ?_, ?_, ?_, ?_, ?_, ?_, ?_, ?_, ?_, ?_, ?_, ?_, ?_, ?_, ?_, ?_, ?_, ?_, trivial⟩
    · exact sLoad rfl rfl rfl hz rfl (Gd.none_ rfl) rfl (Src.out (t := 9) (by kernel_rfl) S9 rfl) Cp1 rfl ld_n64
    · exact sLoad rfl rfl rfl hz rfl (Gd.none_ rfl) rfl (Src.out (t := 11) (by kernel_rfl) S11 rfl) Cp3 rfl ld_n32
    · exact sMv rfl rfl rfl hz rfl (Gd.none_ rfl) rfl (Src.out (t := 2) (by kernel_rfl) S2 rfl)
    · exact sCall rfl rfl rfl hz rfl (Gd.none_ rfl) rfl Try.func42 (by kernel_rfl) (by kernel_rfl) fun a γ w U => (by show Calls _ _ #[a.eval (.tmp 60), a.eval (.tmp 61), a.eval (.tmp 62)] _ _; rw [show a.eval (.tmp 62) = .int .i64 n from Src.at_ (Src.dep (j := 2) (t := 62) (by kernel_rfl) (by kernel_rfl) rfl) U]; exact l_moved (Src.at_ (Src.dep (j := 0) (t := 60) (by kernel_rfl) (by kernel_rfl) rfl) U) (Src.at_ (Src.dep (j := 1) (t := 61) (by kernel_rfl) (by kernel_rfl) rfl) U) (by decide) (by decide) hi1 hi0)
    · exact sMv rfl rfl rfl hz rfl (Gd.none_ rfl) rfl (Src.dep (j := 3) (t := 63) (by kernel_rfl) (by kernel_rfl) rfl)
    · exact sLoad rfl rfl rfl hz rfl (Gd.yes rfl rfl (Src.dep (j := 4) (t := 64) (by kernel_rfl) (by kernel_rfl) rfl) rfl) rfl (Src.out (t := 9) (by kernel_rfl) S9 rfl) Cp1 rfl ld_n64
    · exact sLoad rfl rfl rfl hz rfl (Gd.yes rfl rfl (Src.dep (j := 4) (t := 64) (by kernel_rfl) (by kernel_rfl) rfl) rfl) rfl (Src.out (t := 11) (by kernel_rfl) S11 rfl) Cp3 rfl ld_n32
    · exact sMv rfl rfl rfl hz rfl (Gd.yes rfl rfl (Src.dep (j := 4) (t := 64) (by kernel_rfl) (by kernel_rfl) rfl) rfl) rfl (Src.out (t := 3) (by kernel_rfl) S3 rfl)
    · exact sBin rfl rfl rfl hz rfl (Gd.yes rfl rfl (Src.dep (j := 4) (t := 64) (by kernel_rfl) (by kernel_rfl) rfl) rfl) rfl (Src.dep (j := 7) (t := 67) (by kernel_rfl) (by kernel_rfl) rfl) (Src.const (.int .i64 2000)) (fun w => by simp [go_sem, ek])
    · exact sCall rfl rfl rfl hz rfl (Gd.yes rfl rfl (Src.dep (j := 4) (t := 64) (by kernel_rfl) (by kernel_rfl) rfl) rfl) rfl Try.func42 (by kernel_rfl) (by kernel_rfl) fun a γ w U => (by show Calls _ _ #[a.eval (.tmp 65), a.eval (.tmp 66), a.eval (.tmp 68)] _ _; rw [show a.eval (.tmp 68) = .int .i64 (k.tmod 2000) from Src.at_ (Src.dep (j := 8) (t := 68) (by kernel_rfl) (by kernel_rfl) rfl) U]; exact l_moved (Src.at_ (Src.dep (j := 5) (t := 65) (by kernel_rfl) (by kernel_rfl) rfl) U) (Src.at_ (Src.dep (j := 6) (t := 66) (by kernel_rfl) (by kernel_rfl) rfl) U) (by decide) (by decide) hk1 hk0)
    · exact sPickT rfl rfl rfl hz rfl (Gd.none_ rfl) rfl (Src.dep (j := 4) (t := 64) (by kernel_rfl) (by kernel_rfl) rfl) (Src.dep (j := 9) (t := 69) (by kernel_rfl) (by kernel_rfl) rfl)
    · exact sMv rfl rfl rfl hz rfl (Gd.none_ rfl) rfl (Src.dep (j := 10) (t := 70) (by kernel_rfl) (by kernel_rfl) rfl)
    · exact sLoad rfl rfl rfl hz rfl (Gd.yes rfl rfl (Src.dep (j := 11) (t := 71) (by kernel_rfl) (by kernel_rfl) rfl) rfl) rfl (Src.out (t := 9) (by kernel_rfl) S9 rfl) Cp1 rfl ld_n64
    · exact sLoad rfl rfl rfl hz rfl (Gd.yes rfl rfl (Src.dep (j := 11) (t := 71) (by kernel_rfl) (by kernel_rfl) rfl) rfl) rfl (Src.out (t := 11) (by kernel_rfl) S11 rfl) Cp3 rfl ld_n32
    · exact sCall rfl rfl rfl hz rfl (Gd.yes rfl rfl (Src.dep (j := 11) (t := 71) (by kernel_rfl) (by kernel_rfl) rfl) rfl) rfl Try.func43 (by kernel_rfl) (by kernel_rfl) fun a γ w U => (by show Calls _ _ #[a.eval (.tmp 72), a.eval (.tmp 73)] _ _; exact l_same (Src.at_ (Src.dep (j := 12) (t := 72) (by kernel_rfl) (by kernel_rfl) rfl) U) (Src.at_ (Src.dep (j := 13) (t := 73) (by kernel_rfl) (by kernel_rfl) rfl) U) (by decide) (by decide))
    · exact sPickT rfl rfl rfl hz rfl (Gd.none_ rfl) rfl (Src.dep (j := 11) (t := 71) (by kernel_rfl) (by kernel_rfl) rfl) (Src.dep (j := 14) (t := 74) (by kernel_rfl) (by kernel_rfl) rfl)
    · exact sMv rfl rfl rfl hz rfl (Gd.none_ rfl) rfl (Src.dep (j := 15) (t := 75) (by kernel_rfl) (by kernel_rfl) rfl)
    · exact sLoad rfl rfl rfl hz rfl (Gd.yes rfl rfl (Src.dep (j := 16) (t := 76) (by kernel_rfl) (by kernel_rfl) rfl) rfl) rfl (Src.out (t := 10) (by kernel_rfl) S10 rfl) Cp2 rfl ld_n64
    · exact sLoad rfl rfl rfl hz rfl (Gd.yes rfl rfl (Src.dep (j := 16) (t := 76) (by kernel_rfl) (by kernel_rfl) rfl) rfl) rfl (Src.out (t := 12) (by kernel_rfl) S12 rfl) Cp4 rfl ld_n32
    · exact sCall rfl rfl rfl hz rfl (Gd.yes rfl rfl (Src.dep (j := 16) (t := 76) (by kernel_rfl) (by kernel_rfl) rfl) rfl) rfl Try.func43 (by kernel_rfl) (by kernel_rfl) fun a γ w U => (by show Calls _ _ #[a.eval (.tmp 77), a.eval (.tmp 78)] _ _; exact l_same (Src.at_ (Src.dep (j := 17) (t := 77) (by kernel_rfl) (by kernel_rfl) rfl) U) (Src.at_ (Src.dep (j := 18) (t := 78) (by kernel_rfl) (by kernel_rfl) rfl) U) (by decide) (by decide))
    · exact sPickT rfl rfl rfl hz rfl (Gd.none_ rfl) rfl (Src.dep (j := 16) (t := 76) (by kernel_rfl) (by kernel_rfl) rfl) (Src.dep (j := 19) (t := 79) (by kernel_rfl) (by kernel_rfl) rfl)
    · exact sMv rfl rfl rfl hz rfl (Gd.none_ rfl) rfl (Src.dep (j := 20) (t := 80) (by kernel_rfl) (by kernel_rfl) rfl)
    · exact sCall rfl rfl rfl hz rfl (Gd.yes rfl rfl (Src.dep (j := 21) (t := 81) (by kernel_rfl) (by kernel_rfl) rfl) rfl) rfl Try.func21 (by kernel_rfl) (by kernel_rfl) fun a γ w U => (by show Calls _ _ #[] _ _; exact l_started)
    · exact sPickT rfl rfl rfl hz rfl (Gd.none_ rfl) rfl (Src.dep (j := 21) (t := 81) (by kernel_rfl) (by kernel_rfl) rfl) (Src.dep (j := 22) (t := 82) (by kernel_rfl) (by kernel_rfl) rfl)
    · exact sAs rfl rfl rfl hz rfl (Gd.none_ rfl) rfl (Src.dep (j := 23) (t := 83) (by kernel_rfl) (by kernel_rfl) rfl)
  intro a' γ' W' hz' hd' hC hk hh
  clear Cp1
  clear Cp2
  clear Cp3
  clear Cp4
  clear S2
  clear S3
  clear S8
  clear S9
  clear S10
  clear S11
  clear S12
  clear S57
  have S8 := gotV hz' 24 hh rfl rfl rfl rfl
  replace HB := aft_call HB (RelC.below_nil hC)
  clear hC hk hh; replace hz := hz'; replace hd := hd'; clear hz' hd'
  refine wp_ret ?_
  exact ret1 (by kernel_rfl) S8 hd ⟨_, rfl, rfl, HB⟩

set_option maxRecDepth 10000 in
set_option maxHeartbeats 2000000 in
theorem reck_mid {n0 n1 : Nat} {la lb : List Nat} {n k : Int} {v0 v1 : Value} {w : World} (h0 : (tBy n0 la).p v0 w) (h1 : (tBy n1 lb).p v1 w) (e1 : 20000 < n) (e2 : n ≤ 16777216) (hr0 : -9223372036854775808 ≤ n.tmod 20000) (hr1 : n.tmod 20000 ≤ 9223372036854775807) (er : IntKind.i64.wrap (n.tmod 20000) = n.tmod 20000) (hi0 : -9223372036854775808 ≤ n) (hi1 : n ≤ 9223372036854775807) (hk0 : -9223372036854775808 ≤ k.tmod 2000) (hk1 : k.tmod 2000 ≤ 9223372036854775807) (ek : IntKind.i64.wrap (k.tmod 2000) = k.tmod 2000) :
    Calls Try.prog 11 #[v0, v1, .int .i64 n, .int .i64 k] w (Ret (tV (.bool true)) w) := by
  refine enter Try.func11 rfl Try.ntmps11 (by simp) ?_
  intro a hz hd ha
  have S0 := ha 0 _ rfl
  have H0 := h0
  have S1 := ha 1 _ rfl
  have H1 := h1
  have S2 := ha 2 _ rfl
  have S3 := ha 3 _ rfl
  clear ha
  have HB : Below w.heap.size w w := Below.refl _ _
  refine wp_seq ?_
  refine region_text (M := []) (
      rT (tV (.bool false)) ::
      []) hz hd (by kernel_rfl) ?_ ?_
  · refine ⟨?_, trivial⟩
    · exact sAs rfl rfl rfl hz rfl (Gd.none_ rfl) rfl (Src.const (.bool false))
  intro a' γ' W' hz' hd' hC hk hh
  replace S0 := hk 0 _ (by kernel_rfl) S0
  replace H0 := Ty.aft _ H0 hC
  replace S1 := hk 1 _ (by kernel_rfl) S1
  replace H1 := Ty.aft _ H1 hC
  replace S2 := hk 2 _ (by kernel_rfl) S2
  replace S3 := hk 3 _ (by kernel_rfl) S3
  have S8 := gotV hz' 0 hh rfl rfl rfl rfl
  replace HB := aft_call HB (RelC.below_nil hC)
  clear hC hk hh; replace hz := hz'; replace hd := hd'; clear hz' hd'
  refine wp_seq ?_
  refine region_text (M := []) (
      rT (tBy n0 la) ::
      rT (tBy 600 (la.take 600)) ::
      rT (tBy n1 lb) ::
      rT (tBy 600 (lb.take 600)) ::
      rT (tBy 600 (la.take 600)) ::
      rT (tBy 600 (lb.take 600)) ::
      []) hz hd (by kernel_rfl) ?_ ?_
  · refine ⟨?_, ?_, ?_, ?_, ?_, ?_, trivial⟩
    · exact sMv rfl rfl rfl hz rfl (Gd.none_ rfl) rfl (Src.out (t := 0) (by kernel_rfl) S0 H0)
    · exact sCall rfl rfl rfl hz rfl (Gd.none_ rfl) rfl Try.func14 (by kernel_rfl) (by kernel_rfl) fun a γ w U => (by show Calls _ _ #[a.eval (.tmp 14)] _ _; exact l_cut (Src.at_ (Src.dep (j := 0) (t := 14) (by kernel_rfl) (by kernel_rfl) rfl) U))
    · exact sMv rfl rfl rfl hz rfl (Gd.none_ rfl) rfl (Src.out (t := 1) (by kernel_rfl) S1 H1)
    · exact sCall rfl rfl rfl hz rfl (Gd.none_ rfl) rfl Try.func14 (by kernel_rfl) (by kernel_rfl) fun a γ w U => (by show Calls _ _ #[a.eval (.tmp 16)] _ _; exact l_cut (Src.at_ (Src.dep (j := 2) (t := 16) (by kernel_rfl) (by kernel_rfl) rfl) U))
    · exact sAs rfl rfl rfl hz rfl (Gd.none_ rfl) rfl (Src.dep (j := 1) (t := 15) (by kernel_rfl) (by kernel_rfl) rfl)
    · exact sAs rfl rfl rfl hz rfl (Gd.none_ rfl) rfl (Src.dep (j := 3) (t := 17) (by kernel_rfl) (by kernel_rfl) rfl)
  intro a' γ' W' hz' hd' hC hk hh
  clear S0 H0
  clear S1 H1
  replace S2 := hk 2 _ (by kernel_rfl) S2
  replace S3 := hk 3 _ (by kernel_rfl) S3
  replace S8 := hk 8 _ (by kernel_rfl) S8
  obtain ⟨v0, S0, H0⟩ := got hz' 4 hh rfl rfl rfl rfl
  obtain ⟨v1, S1, H1⟩ := got hz' 5 hh rfl rfl rfl rfl
  replace HB := aft_call HB (RelC.below_nil hC)
  clear hC hk hh; replace hz := hz'; replace hd := hd'; clear hz' hd'
  refine wp_seq ?_
  refine region_text (M := []) (
      rT (tBy 600 (la.take 600)) ::
      rT (tN B64 600 (bev (la.take 600))) ::
      rT (tBy 600 (lb.take 600)) ::
      rT (tN B64 600 (bev (lb.take 600))) ::
      rVar 4 25 1 ::
      rVar 5 25 1 ::
      rB 4 25 (tN B64 600 (bev (la.take 600))) (some 4) 5 ::
      rB 5 25 (tN B64 600 (bev (lb.take 600))) (some 5) 6 ::
      []) hz hd (by kernel_rfl) ?_ ?_
  · refine ⟨?_, ?_, ?_, ?_, ?_, ?_, ?_, ?_, trivial⟩
    · exact sMv rfl rfl rfl hz rfl (Gd.none_ rfl) rfl (Src.out (t := 0) (by kernel_rfl) S0 H0)
    · exact sCall rfl rfl rfl hz rfl (Gd.none_ rfl) rfl Try.func13 (by kernel_rfl) (by kernel_rfl) fun a γ w U => (by show Calls _ _ #[a.eval (.tmp 18)] _ _; exact c_fb ((Src.at_ (Src.dep (j := 0) (t := 18) (by kernel_rfl) (by kernel_rfl) rfl) U)) (by decide))
    · exact sMv rfl rfl rfl hz rfl (Gd.none_ rfl) rfl (Src.out (t := 1) (by kernel_rfl) S1 H1)
    · exact sCall rfl rfl rfl hz rfl (Gd.none_ rfl) rfl Try.func13 (by kernel_rfl) (by kernel_rfl) fun a γ w U => (by show Calls _ _ #[a.eval (.tmp 20)] _ _; exact c_fb ((Src.at_ (Src.dep (j := 2) (t := 20) (by kernel_rfl) (by kernel_rfl) rfl) U)) (by decide))
    · exact sAlloc rfl rfl rfl hz rfl rfl rfl rfl nd_slice al_n64
    · exact sAlloc rfl rfl rfl hz rfl rfl rfl rfl nd_slice al_n64
    · exact sStore rfl rfl rfl rfl rfl (by kernel_rfl) (by kernel_rfl) rfl (Src.dep (j := 1) (t := 19) (by kernel_rfl) (by kernel_rfl) rfl) st_n64
    · exact sStore rfl rfl rfl rfl rfl (by kernel_rfl) (by kernel_rfl) rfl (Src.dep (j := 3) (t := 21) (by kernel_rfl) (by kernel_rfl) rfl) st_n64
  intro a' γ' W' hz' hd' hC hk hh
  replace S2 := hk 2 _ (by kernel_rfl) S2
  replace S3 := hk 3 _ (by kernel_rfl) S3
  replace S8 := hk 8 _ (by kernel_rfl) S8
  replace S0 := hk 0 _ (by kernel_rfl) S0
  replace H0 := Ty.aft _ H0 hC
  replace S1 := hk 1 _ (by kernel_rfl) S1
  replace H1 := Ty.aft _ H1 hC
  obtain ⟨p1, S9, Cp1, lp1⟩ := gotB hz' 6 hC hh rfl rfl rfl rfl rfl rfl
  clear lp1
  obtain ⟨p2, S10, Cp2, lp2⟩ := gotB hz' 7 hC hh rfl rfl rfl rfl rfl rfl
  clear lp2
  replace HB := aft_call HB (RelC.below_nil hC)
  clear hC hk hh; replace hz := hz'; replace hd := hd'; clear hz' hd'
  refine wp_seq ?_
  refine region_text (M := []) (
      rT (tBy 600 (la.take 600)) ::
      rT (tN B32 600 (bev (la.take 600))) ::
      rT (tBy 600 (lb.take 600)) ::
      rT (tN B32 600 (bev (lb.take 600))) ::
      rVar 4 44 1 ::
      rVar 5 44 1 ::
      rB 4 44 (tN B32 600 (bev (la.take 600))) (some 4) 5 ::
      rB 5 44 (tN B32 600 (bev (lb.take 600))) (some 5) 6 ::
      []) hz hd (by kernel_rfl) ?_ ?_
  · refine ⟨?_, ?_, ?_, ?_, ?_, ?_, ?_, ?_, trivial⟩
    · exact sMv rfl rfl rfl hz rfl (Gd.none_ rfl) rfl (Src.out (t := 0) (by kernel_rfl) S0 H0)
    · exact sCall rfl rfl rfl hz rfl (Gd.none_ rfl) rfl Try.func30 (by kernel_rfl) (by kernel_rfl) fun a γ w U => (by show Calls _ _ #[a.eval (.tmp 22)] _ _; exact d_fb (Src.at_ (Src.dep (j := 0) (t := 22) (by kernel_rfl) (by kernel_rfl) rfl) U) (by decide))
    · exact sMv rfl rfl rfl hz rfl (Gd.none_ rfl) rfl (Src.out (t := 1) (by kernel_rfl) S1 H1)
    · exact sCall rfl rfl rfl hz rfl (Gd.none_ rfl) rfl Try.func30 (by kernel_rfl) (by kernel_rfl) fun a γ w U => (by show Calls _ _ #[a.eval (.tmp 24)] _ _; exact d_fb (Src.at_ (Src.dep (j := 2) (t := 24) (by kernel_rfl) (by kernel_rfl) rfl) U) (by decide))
    · exact sAlloc rfl rfl rfl hz rfl rfl rfl rfl nd_slice al_n32
    · exact sAlloc rfl rfl rfl hz rfl rfl rfl rfl nd_slice al_n32
    · exact sStore rfl rfl rfl rfl rfl (by kernel_rfl) (by kernel_rfl) rfl (Src.dep (j := 1) (t := 23) (by kernel_rfl) (by kernel_rfl) rfl) st_n32
    · exact sStore rfl rfl rfl rfl rfl (by kernel_rfl) (by kernel_rfl) rfl (Src.dep (j := 3) (t := 25) (by kernel_rfl) (by kernel_rfl) rfl) st_n32
  intro a' γ' W' hz' hd' hC hk hh
  replace Cp1 := Cell.aft Cp1 hC rfl
  replace Cp2 := Cell.aft Cp2 hC rfl
  replace S2 := hk 2 _ (by kernel_rfl) S2
  replace S3 := hk 3 _ (by kernel_rfl) S3
  replace S8 := hk 8 _ (by kernel_rfl) S8
  clear S0 H0
  clear S1 H1
  replace S9 := hk 9 _ (by kernel_rfl) S9
  replace S10 := hk 10 _ (by kernel_rfl) S10
  obtain ⟨p3, S11, Cp3, lp3⟩ := gotB hz' 6 hC hh rfl rfl rfl rfl rfl rfl
  clear lp3
  obtain ⟨p4, S12, Cp4, lp4⟩ := gotB hz' 7 hC hh rfl rfl rfl rfl rfl rfl
  clear lp4
  replace HB := aft_call HB (RelC.below_nil hC)
  clear hC hk hh; replace hz := hz'; replace hd := hd'; clear hz' hd'
  refine wp_seq ?_
  refine wp_seq ?_
  refine region_text (M := []) (
      rT (tV (.int .i64 0)) ::
      []) hz hd (by kernel_rfl) ?_ ?_
  · refine ⟨?_, trivial⟩
    · exact sAs rfl rfl rfl hz rfl (Gd.none_ rfl) rfl (Src.const (.int .i64 0))
  intro a' γ' W' hz' hd' hC hk hh
  replace Cp1 := Cell.aft Cp1 hC rfl
  replace Cp2 := Cell.aft Cp2 hC rfl
  replace Cp3 := Cell.aft Cp3 hC rfl
  replace Cp4 := Cell.aft Cp4 hC rfl
  replace S2 := hk 2 _ (by kernel_rfl) S2
  replace S3 := hk 3 _ (by kernel_rfl) S3
  replace S8 := hk 8 _ (by kernel_rfl) S8
  replace S9 := hk 9 _ (by kernel_rfl) S9
  replace S10 := hk 10 _ (by kernel_rfl) S10
  replace S11 := hk 11 _ (by kernel_rfl) S11
  replace S12 := hk 12 _ (by kernel_rfl) S12
  have S13 := gotV hz' 0 hh rfl rfl rfl rfl
  replace HB := aft_call HB (RelC.below_nil hC)
  clear hC hk hh; replace hz := hz'; replace hd := hd'; clear hz' hd'
  refine wp_block ?_
  refine wp_loop_rounds 3 ?_
  show Code.wp _ _ _ _ _
  refine wp_seq ?_
  refine wp_seq ?_
  refine region_text (M := []) (
      rT (tV (.int .i64 0)) ::
      rT (tV (.bool true)) ::
      []) hz hd (by kernel_rfl) ?_ ?_
  · refine ⟨?_, ?_, trivial⟩
    · exact sMv rfl rfl rfl hz rfl (Gd.none_ rfl) rfl (Src.out (t := 13) (by kernel_rfl) S13 rfl)
    · exact sBin rfl rfl rfl hz rfl (Gd.none_ rfl) rfl (Src.dep (j := 0) (t := 26) (by kernel_rfl) (by kernel_rfl) rfl) (Src.const (.int .i64 2)) (fun w => by simp [go_sem])
  intro a' γ' W' hz' hd' hC hk hh
  replace Cp1 := Cell.aft Cp1 hC rfl
  replace Cp2 := Cell.aft Cp2 hC rfl
  replace Cp3 := Cell.aft Cp3 hC rfl
  replace Cp4 := Cell.aft Cp4 hC rfl
  replace S2 := hk 2 _ (by kernel_rfl) S2
  replace S3 := hk 3 _ (by kernel_rfl) S3
  replace S8 := hk 8 _ (by kernel_rfl) S8
  replace S9 := hk 9 _ (by kernel_rfl) S9
  replace S10 := hk 10 _ (by kernel_rfl) S10
  replace S11 := hk 11 _ (by kernel_rfl) S11
  replace S12 := hk 12 _ (by kernel_rfl) S12
  replace S13 := hk 13 _ (by kernel_rfl) S13
  have S26 := gotV hz' 0 hh rfl rfl rfl rfl
  have S27 := gotV hz' 1 hh rfl rfl rfl rfl
  replace HB := aft_call HB (RelC.below_nil hC)
  clear hC hk hh; replace hz := hz'; replace hd := hd'; clear hz' hd'
  refine wp_cond_true S27.ev ?_
  refine wp_skip ?_
  refine wp_seq ?_
  refine wp_block ?_
  refine wp_seq ?_
  refine region_text (M := []) (
      rT (tN B64 600 (bev (la.take 600))) ::
      rT (tN B64 600 (bev (lb.take 600))) ::
      rT (tN B32 600 (bev (la.take 600))) ::
      rT (tN B32 600 (bev (lb.take 600))) ::
      rT (tV (.bool true)) ::
      rT (tV (.bool false)) ::
      rT (tV (.bool false)) ::
      rT (tN B64 600 (bev (lb.take 600))) ::
      rT (tN B64 600 (bev (la.take 600))) ::
      rT (tN B32 600 (bev (lb.take 600))) ::
      rT (tN B32 600 (bev (la.take 600))) ::
      rT (tV (.bool true)) ::
      rT (tV (.bool false)) ::
      rT (tV (.bool false)) ::
      rT (tV (.bool false)) ::
      rT (tN B64 600 (bev (la.take 600))) ::
      rT (tN B64 600 (bev (la.take 600))) ::
      rT (tN B32 600 (bev (la.take 600))) ::
      rT (tN B32 600 (bev (la.take 600))) ::
      rT (tV (.bool true)) ::
      rT (tV (.bool false)) ::
      rT (tV (.bool false)) ::
      []) hz hd (by kernel_rfl) ?_ ?_
  · refine ⟨?_, ?_, ?_, ?_, ?_, ?_, ?_, ?_, ?_, ?_, ?_, ?_, ?_, ?_, ?_, ?_, ?_, ?_, ?_, ?_, ?_, ?_, trivial⟩
    · exact sLoad rfl rfl rfl hz rfl (Gd.none_ rfl) rfl (Src.out (t := 9) (by kernel_rfl) S9 rfl) Cp1 rfl ld_n64
    · exact sLoad rfl rfl rfl hz rfl (Gd.none_ rfl) rfl (Src.out (t := 10) (by kernel_rfl) S10 rfl) Cp2 rfl ld_n64
    · exact sLoad rfl rfl rfl hz rfl (Gd.none_ rfl) rfl (Src.out (t := 11) (by kernel_rfl) S11 rfl) Cp3 rfl ld_n32
    · exact sLoad rfl rfl rfl hz rfl (Gd.none_ rfl) rfl (Src.out (t := 12) (by kernel_rfl) S12 rfl) Cp4 rfl ld_n32
    · exact sCall rfl rfl rfl hz rfl (Gd.none_ rfl) rfl Try.func41 (by kernel_rfl) (by kernel_rfl) fun a γ w U => (by show Calls _ _ #[a.eval (.tmp 30), a.eval (.tmp 31), a.eval (.tmp 32), a.eval (.tmp 33)] _ _; exact l_pair (Src.at_ (Src.dep (j := 0) (t := 30) (by kernel_rfl) (by kernel_rfl) rfl) U) (Src.at_ (Src.dep (j := 1) (t := 31) (by kernel_rfl) (by kernel_rfl) rfl) U) (Src.at_ (Src.dep (j := 2) (t := 32) (by kernel_rfl) (by kernel_rfl) rfl) U) (Src.at_ (Src.dep (j := 3) (t := 33) (by kernel_rfl) (by kernel_rfl) rfl) U) (by decide) (by decide) (by decide) (by decide))
    · exact sNot (b := true) rfl rfl rfl hz rfl (Gd.none_ rfl) rfl (Src.dep (j := 4) (t := 34) (by kernel_rfl) (by kernel_rfl) rfl)
    · exact sMv rfl rfl rfl hz rfl (Gd.none_ rfl) rfl (Src.dep (j := 5) (t := 35) (by kernel_rfl) (by kernel_rfl) rfl)
    · exact sLoad rfl rfl rfl hz rfl (Gd.yes rfl rfl (Src.dep (j := 6) (t := 36) (by kernel_rfl) (by kernel_rfl) rfl) rfl) rfl (Src.out (t := 10) (by kernel_rfl) S10 rfl) Cp2 rfl ld_n64
    · exact sLoad rfl rfl rfl hz rfl (Gd.yes rfl rfl (Src.dep (j := 6) (t := 36) (by kernel_rfl) (by kernel_rfl) rfl) rfl) rfl (Src.out (t := 9) (by kernel_rfl) S9 rfl) Cp1 rfl ld_n64
    · exact sLoad rfl rfl rfl hz rfl (Gd.yes rfl rfl (Src.dep (j := 6) (t := 36) (by kernel_rfl) (by kernel_rfl) rfl) rfl) rfl (Src.out (t := 12) (by kernel_rfl) S12 rfl) Cp4 rfl ld_n32
    · exact sLoad rfl rfl rfl hz rfl (Gd.yes rfl rfl (Src.dep (j := 6) (t := 36) (by kernel_rfl) (by kernel_rfl) rfl) rfl) rfl (Src.out (t := 11) (by kernel_rfl) S11 rfl) Cp3 rfl ld_n32
    · exact sCall rfl rfl rfl hz rfl (Gd.yes rfl rfl (Src.dep (j := 6) (t := 36) (by kernel_rfl) (by kernel_rfl) rfl) rfl) rfl Try.func41 (by kernel_rfl) (by kernel_rfl) fun a γ w U => (by show Calls _ _ #[a.eval (.tmp 37), a.eval (.tmp 38), a.eval (.tmp 39), a.eval (.tmp 40)] _ _; exact l_pair (Src.at_ (Src.dep (j := 7) (t := 37) (by kernel_rfl) (by kernel_rfl) rfl) U) (Src.at_ (Src.dep (j := 8) (t := 38) (by kernel_rfl) (by kernel_rfl) rfl) U) (Src.at_ (Src.dep (j := 9) (t := 39) (by kernel_rfl) (by kernel_rfl) rfl) U) (Src.at_ (Src.dep (j := 10) (t := 40) (by kernel_rfl) (by kernel_rfl) rfl) U) (by decide) (by decide) (by decide) (by decide))
    · exact sNot (b := true) rfl rfl rfl hz rfl (Gd.yes rfl rfl (Src.dep (j := 6) (t := 36) (by kernel_rfl) (by kernel_rfl) rfl) rfl) rfl (Src.dep (j := 11) (t := 41) (by kernel_rfl) (by kernel_rfl) rfl)
    · exact sPickF rfl rfl rfl hz rfl (Gd.none_ rfl) rfl (Src.dep (j := 6) (t := 36) (by kernel_rfl) (by kernel_rfl) rfl) (Src.dep (j := 12) (t := 42) (by kernel_rfl) (by kernel_rfl) rfl)
    · exact sMv rfl rfl rfl hz rfl (Gd.none_ rfl) rfl (Src.dep (j := 13) (t := 43) (by kernel_rfl) (by kernel_rfl) rfl)
    · exact sLoad rfl rfl rfl hz rfl (Gd.yes rfl rfl (Src.dep (j := 14) (t := 44) (by kernel_rfl) (by kernel_rfl) rfl) rfl) rfl (Src.out (t := 9) (by kernel_rfl) S9 rfl) Cp1 rfl ld_n64
    · exact sLoad rfl rfl rfl hz rfl (Gd.yes rfl rfl (Src.dep (j := 14) (t := 44) (by kernel_rfl) (by kernel_rfl) rfl) rfl) rfl (Src.out (t := 9) (by kernel_rfl) S9 rfl) Cp1 rfl ld_n64
    · exact sLoad rfl rfl rfl hz rfl (Gd.yes rfl rfl (Src.dep (j := 14) (t := 44) (by kernel_rfl) (by kernel_rfl) rfl) rfl) rfl (Src.out (t := 11) (by kernel_rfl) S11 rfl) Cp3 rfl ld_n32
    · exact sLoad rfl rfl rfl hz rfl (Gd.yes rfl rfl (Src.dep (j := 14) (t := 44) (by kernel_rfl) (by kernel_rfl) rfl) rfl) rfl (Src.out (t := 11) (by kernel_rfl) S11 rfl) Cp3 rfl ld_n32
    · exact sCall rfl rfl rfl hz rfl (Gd.yes rfl rfl (Src.dep (j := 14) (t := 44) (by kernel_rfl) (by kernel_rfl) rfl) rfl) rfl Try.func41 (by kernel_rfl) (by kernel_rfl) fun a γ w U => (by show Calls _ _ #[a.eval (.tmp 45), a.eval (.tmp 46), a.eval (.tmp 47), a.eval (.tmp 48)] _ _; exact l_pair (Src.at_ (Src.dep (j := 15) (t := 45) (by kernel_rfl) (by kernel_rfl) rfl) U) (Src.at_ (Src.dep (j := 16) (t := 46) (by kernel_rfl) (by kernel_rfl) rfl) U) (Src.at_ (Src.dep (j := 17) (t := 47) (by kernel_rfl) (by kernel_rfl) rfl) U) (Src.at_ (Src.dep (j := 18) (t := 48) (by kernel_rfl) (by kernel_rfl) rfl) U) (by decide) (by decide) (by decide) (by decide))
    · exact sNot (b := true) rfl rfl rfl hz rfl (Gd.yes rfl rfl (Src.dep (j := 14) (t := 44) (by kernel_rfl) (by kernel_rfl) rfl) rfl) rfl (Src.dep (j := 19) (t := 49) (by kernel_rfl) (by kernel_rfl) rfl)
    · exact sPickF rfl rfl rfl hz rfl (Gd.none_ rfl) rfl (Src.dep (j := 14) (t := 44) (by kernel_rfl) (by kernel_rfl) rfl) (Src.dep (j := 20) (t := 50) (by kernel_rfl) (by kernel_rfl) rfl)
  intro a' γ' W' hz' hd' hC hk hh
  replace Cp1 := Cell.aft Cp1 hC rfl
  replace Cp2 := Cell.aft Cp2 hC rfl
  replace Cp3 := Cell.aft Cp3 hC rfl
  replace Cp4 := Cell.aft Cp4 hC rfl
  replace S2 := hk 2 _ (by kernel_rfl) S2
  replace S3 := hk 3 _ (by kernel_rfl) S3
  replace S8 := hk 8 _ (by kernel_rfl) S8
  replace S9 := hk 9 _ (by kernel_rfl) S9
  replace S10 := hk 10 _ (by kernel_rfl) S10
  replace S11 := hk 11 _ (by kernel_rfl) S11
  replace S12 := hk 12 _ (by kernel_rfl) S12
  replace S13 := hk 13 _ (by kernel_rfl) S13
  replace S26 := hk 26 _ (by kernel_rfl) S26
  replace S27 := hk 27 _ (by kernel_rfl) S27
  obtain ⟨v30, S30, H30⟩ := got hz' 0 hh rfl rfl rfl rfl
  obtain ⟨v31, S31, H31⟩ := got hz' 1 hh rfl rfl rfl rfl
  obtain ⟨v32, S32, H32⟩ := got hz' 2 hh rfl rfl rfl rfl
  obtain ⟨v33, S33, H33⟩ := got hz' 3 hh rfl rfl rfl rfl
  have S34 := gotV hz' 4 hh rfl rfl rfl rfl
  have S35 := gotV hz' 5 hh rfl rfl rfl rfl
  have S36 := gotV hz' 6 hh rfl rfl rfl rfl
  obtain ⟨v37, S37, H37⟩ := got hz' 7 hh rfl rfl rfl rfl
  obtain ⟨v38, S38, H38⟩ := got hz' 8 hh rfl rfl rfl rfl
  obtain ⟨v39, S39, H39⟩ := got hz' 9 hh rfl rfl rfl rfl
  obtain ⟨v40, S40, H40⟩ := got hz' 10 hh rfl rfl rfl rfl
  have S41 := gotV hz' 11 hh rfl rfl rfl rfl
  have S42 := gotV hz' 12 hh rfl rfl rfl rfl
  have S43 := gotV hz' 13 hh rfl rfl rfl rfl
  have S44 := gotV hz' 14 hh rfl rfl rfl rfl
  obtain ⟨v45, S45, H45⟩ := got hz' 15 hh rfl rfl rfl rfl
  obtain ⟨v46, S46, H46⟩ := got hz' 16 hh rfl rfl rfl rfl
  obtain ⟨v47, S47, H47⟩ := got hz' 17 hh rfl rfl rfl rfl
  obtain ⟨v48, S48, H48⟩ := got hz' 18 hh rfl rfl rfl rfl
  have S49 := gotV hz' 19 hh rfl rfl rfl rfl
  have S50 := gotV hz' 20 hh rfl rfl rfl rfl
  have S51 := gotV hz' 21 hh rfl rfl rfl rfl
  replace HB := aft_call HB (RelC.below_nil hC)
  clear hC hk hh; replace hz := hz'; replace hd := hd'; clear hz' hd'
  refine wp_cond_false S51.ev ?_
  refine wp_skip ?_
  refine region_text (M := []) (
      rT (tV (.int .i64 0)) ::
      rT (tV (.int .i64 1)) ::
      rT (tV (.int .i64 1)) ::
      []) hz hd (by kernel_rfl) ?_ ?_
  · refine ⟨?_, ?_, ?_, trivial⟩
    · exact sMv rfl rfl rfl hz rfl (Gd.none_ rfl) rfl (Src.out (t := 13) (by kernel_rfl) S13 rfl)
    · exact sBin rfl rfl rfl hz rfl (Gd.none_ rfl) rfl (Src.dep (j := 0) (t := 28) (by kernel_rfl) (by kernel_rfl) rfl) (Src.const (.int .i64 1)) (fun w => by kernel_rfl)
    · exact sAs rfl rfl rfl hz rfl (Gd.none_ rfl) rfl (Src.dep (j := 1) (t := 29) (by kernel_rfl) (by kernel_rfl) rfl)
  intro a' γ' W' hz' hd' hC hk hh
  replace Cp1 := Cell.aft Cp1 hC rfl
  replace Cp2 := Cell.aft Cp2 hC rfl
  replace Cp3 := Cell.aft Cp3 hC rfl
  replace Cp4 := Cell.aft Cp4 hC rfl
  replace S2 := hk 2 _ (by kernel_rfl) S2
  replace S3 := hk 3 _ (by kernel_rfl) S3
  replace S8 := hk 8 _ (by kernel_rfl) S8
  replace S9 := hk 9 _ (by kernel_rfl) S9
  replace S10 := hk 10 _ (by kernel_rfl) S10
  replace S11 := hk 11 _ (by kernel_rfl) S11
  replace S12 := hk 12 _ (by kernel_rfl) S12
  clear S13
  replace S26 := hk 26 _ (by kernel_rfl) S26
  replace S27 := hk 27 _ (by kernel_rfl) S27
  replace S30 := hk 30 _ (by kernel_rfl) S30
  replace H30 := Ty.aft _ H30 hC
  replace S31 := hk 31 _ (by kernel_rfl) S31
  replace H31 := Ty.aft _ H31 hC
  replace S32 := hk 32 _ (by kernel_rfl) S32
  replace H32 := Ty.aft _ H32 hC
  replace S33 := hk 33 _ (by kernel_rfl) S33
  replace H33 := Ty.aft _ H33 hC
  replace S34 := hk 34 _ (by kernel_rfl) S34
  replace S35 := hk 35 _ (by kernel_rfl) S35
  replace S36 := hk 36 _ (by kernel_rfl) S36
  replace S37 := hk 37 _ (by kernel_rfl) S37
  replace H37 := Ty.aft _ H37 hC
  replace S38 := hk 38 _ (by kernel_rfl) S38
  replace H38 := Ty.aft _ H38 hC
  replace S39 := hk 39 _ (by kernel_rfl) S39
  replace H39 := Ty.aft _ H39 hC
  replace S40 := hk 40 _ (by kernel_rfl) S40
  replace H40 := Ty.aft _ H40 hC
  replace S41 := hk 41 _ (by kernel_rfl) S41
  replace S42 := hk 42 _ (by kernel_rfl) S42
  replace S43 := hk 43 _ (by kernel_rfl) S43
  replace S44 := hk 44 _ (by kernel_rfl) S44
  replace S45 := hk 45 _ (by kernel_rfl) S45
  replace H45 := Ty.aft _ H45 hC
  replace S46 := hk 46 _ (by kernel_rfl) S46
  replace H46 := Ty.aft _ H46 hC
  replace S47 := hk 47 _ (by kernel_rfl) S47
  replace H47 := Ty.aft _ H47 hC
  replace S48 := hk 48 _ (by kernel_rfl) S48
  replace H48 := Ty.aft _ H48 hC
  replace S49 := hk 49 _ (by kernel_rfl) S49
  replace S50 := hk 50 _ (by kernel_rfl) S50
  replace S51 := hk 51 _ (by kernel_rfl) S51
  have S28 := gotV hz' 0 hh rfl rfl rfl rfl
  have S29 := gotV hz' 1 hh rfl rfl rfl rfl
  have S13 := gotV hz' 2 hh rfl rfl rfl rfl
  replace HB := aft_call HB (RelC.below_nil hC)
  clear hC hk hh; replace hz := hz'; replace hd := hd'; clear hz' hd'
  show Code.wp _ _ _ _ _
  refine wp_seq ?_
  refine wp_seq ?_
  refine region_text (M := []) (
      rT (tV (.int .i64 1)) ::
      rT (tV (.bool true)) ::
      []) hz hd (by kernel_rfl) ?_ ?_
  · refine ⟨?_, ?_, trivial⟩
    · exact sMv rfl rfl rfl hz rfl (Gd.none_ rfl) rfl (Src.out (t := 13) (by kernel_rfl) S13 rfl)
    · exact sBin rfl rfl rfl hz rfl (Gd.none_ rfl) rfl (Src.dep (j := 0) (t := 26) (by kernel_rfl) (by kernel_rfl) rfl) (Src.const (.int .i64 2)) (fun w => by simp [go_sem])
  intro a' γ' W' hz' hd' hC hk hh
  replace Cp1 := Cell.aft Cp1 hC rfl
  replace Cp2 := Cell.aft Cp2 hC rfl
  replace Cp3 := Cell.aft Cp3 hC rfl
  replace Cp4 := Cell.aft Cp4 hC rfl
  replace S2 := hk 2 _ (by kernel_rfl) S2
  replace S3 := hk 3 _ (by kernel_rfl) S3
  replace S8 := hk 8 _ (by kernel_rfl) S8
  replace S9 := hk 9 _ (by kernel_rfl) S9
  replace S10 := hk 10 _ (by kernel_rfl) S10
  replace S11 := hk 11 _ (by kernel_rfl) S11
  replace S12 := hk 12 _ (by kernel_rfl) S12
  clear S26
  clear S27
  replace S30 := hk 30 _ (by kernel_rfl) S30
  replace H30 := Ty.aft _ H30 hC
  replace S31 := hk 31 _ (by kernel_rfl) S31
  replace H31 := Ty.aft _ H31 hC
  replace S32 := hk 32 _ (by kernel_rfl) S32
  replace H32 := Ty.aft _ H32 hC
  replace S33 := hk 33 _ (by kernel_rfl) S33
  replace H33 := Ty.aft _ H33 hC
  replace S34 := hk 34 _ (by kernel_rfl) S34
  replace S35 := hk 35 _ (by kernel_rfl) S35
  replace S36 := hk 36 _ (by kernel_rfl) S36
  replace S37 := hk 37 _ (by kernel_rfl) S37
  replace H37 := Ty.aft _ H37 hC
  replace S38 := hk 38 _ (by kernel_rfl) S38
  replace H38 := Ty.aft _ H38 hC
  replace S39 := hk 39 _ (by kernel_rfl) S39
  replace H39 := Ty.aft _ H39 hC
  replace S40 := hk 40 _ (by kernel_rfl) S40
  replace H40 := Ty.aft _ H40 hC
  replace S41 := hk 41 _ (by kernel_rfl) S41
  replace S42 := hk 42 _ (by kernel_rfl) S42
  replace S43 := hk 43 _ (by kernel_rfl) S43
  replace S44 := hk 44 _ (by kernel_rfl) S44
  replace S45 := hk 45 _ (by kernel_rfl) S45
  replace H45 := Ty.aft _ H45 hC
  replace S46 := hk 46 _ (by kernel_rfl) S46
  replace H46 := Ty.aft _ H46 hC
  replace S47 := hk 47 _ (by kernel_rfl) S47
  replace H47 := Ty.aft _ H47 hC
  replace S48 := hk 48 _ (by kernel_rfl) S48
  replace H48 := Ty.aft _ H48 hC
  replace S49 := hk 49 _ (by kernel_rfl) S49
  replace S50 := hk 50 _ (by kernel_rfl) S50
  replace S51 := hk 51 _ (by kernel_rfl) S51
  replace S28 := hk 28 _ (by kernel_rfl) S28
  replace S29 := hk 29 _ (by kernel_rfl) S29
  replace S13 := hk 13 _ (by kernel_rfl) S13
  have S26 := gotV hz' 0 hh rfl rfl rfl rfl
  have S27 := gotV hz' 1 hh rfl rfl rfl rfl
  replace HB := aft_call HB (RelC.below_nil hC)
  clear hC hk hh; replace hz := hz'; replace hd := hd'; clear hz' hd'
  refine wp_cond_true S27.ev ?_
  refine wp_skip ?_
  refine wp_seq ?_
  refine wp_block ?_
  refine wp_seq ?_
  refine region_text (M := []) (
      rT (tN B64 600 (bev (la.take 600))) ::
      rT (tN B64 600 (bev (lb.take 600))) ::
      rT (tN B32 600 (bev (la.take 600))) ::
      rT (tN B32 600 (bev (lb.take 600))) ::
      rT (tV (.bool true)) ::
      rT (tV (.bool false)) ::
      rT (tV (.bool false)) ::
      rT (tN B64 600 (bev (lb.take 600))) ::
      rT (tN B64 600 (bev (la.take 600))) ::
      rT (tN B32 600 (bev (lb.take 600))) ::
      rT (tN B32 600 (bev (la.take 600))) ::
      rT (tV (.bool true)) ::
      rT (tV (.bool false)) ::
      rT (tV (.bool false)) ::
      rT (tV (.bool false)) ::
      rT (tN B64 600 (bev (la.take 600))) ::
      rT (tN B64 600 (bev (la.take 600))) ::
      rT (tN B32 600 (bev (la.take 600))) ::
      rT (tN B32 600 (bev (la.take 600))) ::
      rT (tV (.bool true)) ::
      rT (tV (.bool false)) ::
      rT (tV (.bool false)) ::
      []) hz hd (by kernel_rfl) ?_ ?_
  · refine ⟨?_, ?_, ?_, ?_, ?_, ?_, ?_, ?_, ?_, ?_, ?_, ?_, ?_, ?_, ?_, ?_, ?_, ?_, ?_, ?_, ?_, ?_, trivial⟩
    · exact sLoad rfl rfl rfl hz rfl (Gd.none_ rfl) rfl (Src.out (t := 9) (by kernel_rfl) S9 rfl) Cp1 rfl ld_n64
    · exact sLoad rfl rfl rfl hz rfl (Gd.none_ rfl) rfl (Src.out (t := 10) (by kernel_rfl) S10 rfl) Cp2 rfl ld_n64
    · exact sLoad rfl rfl rfl hz rfl (Gd.none_ rfl) rfl (Src.out (t := 11) (by kernel_rfl) S11 rfl) Cp3 rfl ld_n32
    · exact sLoad rfl rfl rfl hz rfl (Gd.none_ rfl) rfl (Src.out (t := 12) (by kernel_rfl) S12 rfl) Cp4 rfl ld_n32
    · exact sCall rfl rfl rfl hz rfl (Gd.none_ rfl) rfl Try.func41 (by kernel_rfl) (by kernel_rfl) fun a γ w U => (by show Calls _ _ #[a.eval (.tmp 30), a.eval (.tmp 31), a.eval (.tmp 32), a.eval (.tmp 33)] _ _; exact l_pair (Src.at_ (Src.dep (j := 0) (t := 30) (by kernel_rfl) (by kernel_rfl) rfl) U) (Src.at_ (Src.dep (j := 1) (t := 31) (by kernel_rfl) (by kernel_rfl) rfl) U) (Src.at_ (Src.dep (j := 2) (t := 32) (by kernel_rfl) (by kernel_rfl) rfl) U) (Src.at_ (Src.dep (j := 3) (t := 33) (by kernel_rfl) (by kernel_rfl) rfl) U) (by decide) (by decide) (by decide) (by decide))
    · exact sNot (b := true) rfl rfl rfl hz rfl (Gd.none_ rfl) rfl (Src.dep (j := 4) (t := 34) (by kernel_rfl) (by kernel_rfl) rfl)
    · exact sMv rfl rfl rfl hz rfl (Gd.none_ rfl) rfl (Src.dep (j := 5) (t := 35) (by kernel_rfl) (by kernel_rfl) rfl)
    · exact sLoad rfl rfl rfl hz rfl (Gd.yes rfl rfl (Src.dep (j := 6) (t := 36) (by kernel_rfl) (by kernel_rfl) rfl) rfl) rfl (Src.out (t := 10) (by kernel_rfl) S10 rfl) Cp2 rfl ld_n64
    · exact sLoad rfl rfl rfl hz rfl (Gd.yes rfl rfl (Src.dep (j := 6) (t := 36) (by kernel_rfl) (by kernel_rfl) rfl) rfl) rfl (Src.out (t := 9) (by kernel_rfl) S9 rfl) Cp1 rfl ld_n64
    · exact sLoad rfl rfl rfl hz rfl (Gd.yes rfl rfl (Src.dep (j := 6) (t := 36) (by kernel_rfl) (by kernel_rfl) rfl) rfl) rfl (Src.out (t := 12) (by kernel_rfl) S12 rfl) Cp4 rfl ld_n32
    · exact sLoad rfl rfl rfl hz rfl (Gd.yes rfl rfl (Src.dep (j := 6) (t := 36) (by kernel_rfl) (by kernel_rfl) rfl) rfl) rfl (Src.out (t := 11) (by kernel_rfl) S11 rfl) Cp3 rfl ld_n32
    · exact sCall rfl rfl rfl hz rfl (Gd.yes rfl rfl (Src.dep (j := 6) (t := 36) (by kernel_rfl) (by kernel_rfl) rfl) rfl) rfl Try.func41 (by kernel_rfl) (by kernel_rfl) fun a γ w U => (by show Calls _ _ #[a.eval (.tmp 37), a.eval (.tmp 38), a.eval (.tmp 39), a.eval (.tmp 40)] _ _; exact l_pair (Src.at_ (Src.dep (j := 7) (t := 37) (by kernel_rfl) (by kernel_rfl) rfl) U) (Src.at_ (Src.dep (j := 8) (t := 38) (by kernel_rfl) (by kernel_rfl) rfl) U) (Src.at_ (Src.dep (j := 9) (t := 39) (by kernel_rfl) (by kernel_rfl) rfl) U) (Src.at_ (Src.dep (j := 10) (t := 40) (by kernel_rfl) (by kernel_rfl) rfl) U) (by decide) (by decide) (by decide) (by decide))
    · exact sNot (b := true) rfl rfl rfl hz rfl (Gd.yes rfl rfl (Src.dep (j := 6) (t := 36) (by kernel_rfl) (by kernel_rfl) rfl) rfl) rfl (Src.dep (j := 11) (t := 41) (by kernel_rfl) (by kernel_rfl) rfl)
    · exact sPickF rfl rfl rfl hz rfl (Gd.none_ rfl) rfl (Src.dep (j := 6) (t := 36) (by kernel_rfl) (by kernel_rfl) rfl) (Src.dep (j := 12) (t := 42) (by kernel_rfl) (by kernel_rfl) rfl)
    · exact sMv rfl rfl rfl hz rfl (Gd.none_ rfl) rfl (Src.dep (j := 13) (t := 43) (by kernel_rfl) (by kernel_rfl) rfl)
    · exact sLoad rfl rfl rfl hz rfl (Gd.yes rfl rfl (Src.dep (j := 14) (t := 44) (by kernel_rfl) (by kernel_rfl) rfl) rfl) rfl (Src.out (t := 9) (by kernel_rfl) S9 rfl) Cp1 rfl ld_n64
    · exact sLoad rfl rfl rfl hz rfl (Gd.yes rfl rfl (Src.dep (j := 14) (t := 44) (by kernel_rfl) (by kernel_rfl) rfl) rfl) rfl (Src.out (t := 9) (by kernel_rfl) S9 rfl) Cp1 rfl ld_n64
    · exact sLoad rfl rfl rfl hz rfl (Gd.yes rfl rfl (Src.dep (j := 14) (t := 44) (by kernel_rfl) (by kernel_rfl) rfl) rfl) rfl (Src.out (t := 11) (by kernel_rfl) S11 rfl) Cp3 rfl ld_n32
    · exact sLoad rfl rfl rfl hz rfl (Gd.yes rfl rfl (Src.dep (j := 14) (t := 44) (by kernel_rfl) (by kernel_rfl) rfl) rfl) rfl (Src.out (t := 11) (by kernel_rfl) S11 rfl) Cp3 rfl ld_n32
    · exact sCall rfl rfl rfl hz rfl (Gd.yes rfl rfl (Src.dep (j := 14) (t := 44) (by kernel_rfl) (by kernel_rfl) rfl) rfl) rfl Try.func41 (by kernel_rfl) (by kernel_rfl) fun a γ w U => (by show Calls _ _ #[a.eval (.tmp 45), a.eval (.tmp 46), a.eval (.tmp 47), a.eval (.tmp 48)] _ _; exact l_pair (Src.at_ (Src.dep (j := 15) (t := 45) (by kernel_rfl) (by kernel_rfl) rfl) U) (Src.at_ (Src.dep (j := 16) (t := 46) (by kernel_rfl) (by kernel_rfl) rfl) U) (Src.at_ (Src.dep (j := 17) (t := 47) (by kernel_rfl) (by kernel_rfl) rfl) U) (Src.at_ (Src.dep (j := 18) (t := 48) (by kernel_rfl) (by kernel_rfl) rfl) U) (by decide) (by decide) (by decide) (by decide))
    · exact sNot (b := true) rfl rfl rfl hz rfl (Gd.yes rfl rfl (Src.dep (j := 14) (t := 44) (by kernel_rfl) (by kernel_rfl) rfl) rfl) rfl (Src.dep (j := 19) (t := 49) (by kernel_rfl) (by kernel_rfl) rfl)
    · exact sPickF rfl rfl rfl hz rfl (Gd.none_ rfl) rfl (Src.dep (j := 14) (t := 44) (by kernel_rfl) (by kernel_rfl) rfl) (Src.dep (j := 20) (t := 50) (by kernel_rfl) (by kernel_rfl) rfl)
  intro a' γ' W' hz' hd' hC hk hh
  replace Cp1 := Cell.aft Cp1 hC rfl
  replace Cp2 := Cell.aft Cp2 hC rfl
  replace Cp3 := Cell.aft Cp3 hC rfl
  replace Cp4 := Cell.aft Cp4 hC rfl
  replace S2 := hk 2 _ (by kernel_rfl) S2
  replace S3 := hk 3 _ (by kernel_rfl) S3
  replace S8 := hk 8 _ (by kernel_rfl) S8
  replace S9 := hk 9 _ (by kernel_rfl) S9
  replace S10 := hk 10 _ (by kernel_rfl) S10
  replace S11 := hk 11 _ (by kernel_rfl) S11
  replace S12 := hk 12 _ (by kernel_rfl) S12
  clear S30 H30
  clear S31 H31
  clear S32 H32
  clear S33 H33
  clear S34
  clear S35
  clear S36
  clear S37 H37
  clear S38 H38
  clear S39 H39
  clear S40 H40
  clear S41
  clear S42
  clear S43
  clear S44
  clear S45 H45
  clear S46 H46
  clear S47 H47
  clear S48 H48
  clear S49
  clear S50
  clear S51
  replace S28 := hk 28 _ (by kernel_rfl) S28
  replace S29 := hk 29 _ (by kernel_rfl) S29
  replace S13 := hk 13 _ (by kernel_rfl) S13
  replace S26 := hk 26 _ (by kernel_rfl) S26
  replace S27 := hk 27 _ (by kernel_rfl) S27
  obtain ⟨v30, S30, H30⟩ := got hz' 0 hh rfl rfl rfl rfl
  obtain ⟨v31, S31, H31⟩ := got hz' 1 hh rfl rfl rfl rfl
  obtain ⟨v32, S32, H32⟩ := got hz' 2 hh rfl rfl rfl rfl
  obtain ⟨v33, S33, H33⟩ := got hz' 3 hh rfl rfl rfl rfl
  have S34 := gotV hz' 4 hh rfl rfl rfl rfl
  have S35 := gotV hz' 5 hh rfl rfl rfl rfl
  have S36 := gotV hz' 6 hh rfl rfl rfl rfl
  obtain ⟨v37, S37, H37⟩ := got hz' 7 hh rfl rfl rfl rfl
  obtain ⟨v38, S38, H38⟩ := got hz' 8 hh rfl rfl rfl rfl
  obtain ⟨v39, S39, H39⟩ := got hz' 9 hh rfl rfl rfl rfl
  obtain ⟨v40, S40, H40⟩ := got hz' 10 hh rfl rfl rfl rfl
  have S41 := gotV hz' 11 hh rfl rfl rfl rfl
  have S42 := gotV hz' 12 hh rfl rfl rfl rfl
  have S43 := gotV hz' 13 hh rfl rfl rfl rfl
  have S44 := gotV hz' 14 hh rfl rfl rfl rfl
  obtain ⟨v45, S45, H45⟩ := got hz' 15 hh rfl rfl rfl rfl
  obtain ⟨v46, S46, H46⟩ := got hz' 16 hh rfl rfl rfl rfl
  obtain ⟨v47, S47, H47⟩ := got hz' 17 hh rfl rfl rfl rfl
  obtain ⟨v48, S48, H48⟩ := got hz' 18 hh rfl rfl rfl rfl
  have S49 := gotV hz' 19 hh rfl rfl rfl rfl
  have S50 := gotV hz' 20 hh rfl rfl rfl rfl
  have S51 := gotV hz' 21 hh rfl rfl rfl rfl
  replace HB := aft_call HB (RelC.below_nil hC)
  clear hC hk hh; replace hz := hz'; replace hd := hd'; clear hz' hd'
  refine wp_cond_false S51.ev ?_
  refine wp_skip ?_
  refine region_text (M := []) (
      rT (tV (.int .i64 1)) ::
      rT (tV (.int .i64 2)) ::
      rT (tV (.int .i64 2)) ::
      []) hz hd (by kernel_rfl) ?_ ?_
  · refine ⟨?_, ?_, ?_, trivial⟩
    · exact sMv rfl rfl rfl hz rfl (Gd.none_ rfl) rfl (Src.out (t := 13) (by kernel_rfl) S13 rfl)
    · exact sBin rfl rfl rfl hz rfl (Gd.none_ rfl) rfl (Src.dep (j := 0) (t := 28) (by kernel_rfl) (by kernel_rfl) rfl) (Src.const (.int .i64 1)) (fun w => by kernel_rfl)
    · exact sAs rfl rfl rfl hz rfl (Gd.none_ rfl) rfl (Src.dep (j := 1) (t := 29) (by kernel_rfl) (by kernel_rfl) rfl)
  intro a' γ' W' hz' hd' hC hk hh
  replace Cp1 := Cell.aft Cp1 hC rfl
  replace Cp2 := Cell.aft Cp2 hC rfl
  replace Cp3 := Cell.aft Cp3 hC rfl
  replace Cp4 := Cell.aft Cp4 hC rfl
  replace S2 := hk 2 _ (by kernel_rfl) S2
  replace S3 := hk 3 _ (by kernel_rfl) S3
  replace S8 := hk 8 _ (by kernel_rfl) S8
  replace S9 := hk 9 _ (by kernel_rfl) S9
  replace S10 := hk 10 _ (by kernel_rfl) S10
  replace S11 := hk 11 _ (by kernel_rfl) S11
  replace S12 := hk 12 _ (by kernel_rfl) S12
  clear S28
  clear S29
  clear S13
  replace S26 := hk 26 _ (by kernel_rfl) S26
  replace S27 := hk 27 _ (by kernel_rfl) S27
  replace S30 := hk 30 _ (by kernel_rfl) S30
  replace H30 := Ty.aft _ H30 hC
  replace S31 := hk 31 _ (by kernel_rfl) S31
  replace H31 := Ty.aft _ H31 hC
  replace S32 := hk 32 _ (by kernel_rfl) S32
  replace H32 := Ty.aft _ H32 hC
  replace S33 := hk 33 _ (by kernel_rfl) S33
  replace H33 := Ty.aft _ H33 hC
  replace S34 := hk 34 _ (by kernel_rfl) S34
  replace S35 := hk 35 _ (by kernel_rfl) S35
  replace S36 := hk 36 _ (by kernel_rfl) S36
  replace S37 := hk 37 _ (by kernel_rfl) S37
  replace H37 := Ty.aft _ H37 hC
  replace S38 := hk 38 _ (by kernel_rfl) S38
  replace H38 := Ty.aft _ H38 hC
  replace S39 := hk 39 _ (by kernel_rfl) S39
  replace H39 := Ty.aft _ H39 hC
  replace S40 := hk 40 _ (by kernel_rfl) S40
  replace H40 := Ty.aft _ H40 hC
  replace S41 := hk 41 _ (by kernel_rfl) S41
  replace S42 := hk 42 _ (by kernel_rfl) S42
  replace S43 := hk 43 _ (by kernel_rfl) S43
  replace S44 := hk 44 _ (by kernel_rfl) S44
  replace S45 := hk 45 _ (by kernel_rfl) S45
  replace H45 := Ty.aft _ H45 hC
  replace S46 := hk 46 _ (by kernel_rfl) S46
  replace H46 := Ty.aft _ H46 hC
  replace S47 := hk 47 _ (by kernel_rfl) S47
  replace H47 := Ty.aft _ H47 hC
  replace S48 := hk 48 _ (by kernel_rfl) S48
  replace H48 := Ty.aft _ H48 hC
  replace S49 := hk 49 _ (by kernel_rfl) S49
  replace S50 := hk 50 _ (by kernel_rfl) S50
  replace S51 := hk 51 _ (by kernel_rfl) S51
  have S28 := gotV hz' 0 hh rfl rfl rfl rfl
  have S29 := gotV hz' 1 hh rfl rfl rfl rfl
  have S13 := gotV hz' 2 hh rfl rfl rfl rfl
  replace HB := aft_call HB (RelC.below_nil hC)
  clear hC hk hh; replace hz := hz'; replace hd := hd'; clear hz' hd'
  show Code.wp _ _ _ _ _
  refine wp_seq ?_
  refine wp_seq ?_
  refine region_text (M := []) (
      rT (tV (.int .i64 2)) ::
      rT (tV (.bool false)) ::
      []) hz hd (by kernel_rfl) ?_ ?_
  · refine ⟨?_, ?_, trivial⟩
    · exact sMv rfl rfl rfl hz rfl (Gd.none_ rfl) rfl (Src.out (t := 13) (by kernel_rfl) S13 rfl)
    · exact sBin rfl rfl rfl hz rfl (Gd.none_ rfl) rfl (Src.dep (j := 0) (t := 26) (by kernel_rfl) (by kernel_rfl) rfl) (Src.const (.int .i64 2)) (fun w => by simp [go_sem])
  intro a' γ' W' hz' hd' hC hk hh
  replace Cp1 := Cell.aft Cp1 hC rfl
  replace Cp2 := Cell.aft Cp2 hC rfl
  replace Cp3 := Cell.aft Cp3 hC rfl
  replace Cp4 := Cell.aft Cp4 hC rfl
  replace S2 := hk 2 _ (by kernel_rfl) S2
  replace S3 := hk 3 _ (by kernel_rfl) S3
  replace S8 := hk 8 _ (by kernel_rfl) S8
  replace S9 := hk 9 _ (by kernel_rfl) S9
  replace S10 := hk 10 _ (by kernel_rfl) S10
  replace S11 := hk 11 _ (by kernel_rfl) S11
  replace S12 := hk 12 _ (by kernel_rfl) S12
  clear S26
  clear S27
  replace S30 := hk 30 _ (by kernel_rfl) S30
  replace H30 := Ty.aft _ H30 hC
  replace S31 := hk 31 _ (by kernel_rfl) S31
  replace H31 := Ty.aft _ H31 hC
  replace S32 := hk 32 _ (by kernel_rfl) S32
  replace H32 := Ty.aft _ H32 hC
  replace S33 := hk 33 _ (by kernel_rfl) S33
  replace H33 := Ty.aft _ H33 hC
  replace S34 := hk 34 _ (by kernel_rfl) S34
  replace S35 := hk 35 _ (by kernel_rfl) S35
  replace S36 := hk 36 _ (by kernel_rfl) S36
  replace S37 := hk 37 _ (by kernel_rfl) S37
  replace H37 := Ty.aft _ H37 hC
  replace S38 := hk 38 _ (by kernel_rfl) S38
  replace H38 := Ty.aft _ H38 hC
  replace S39 := hk 39 _ (by kernel_rfl) S39
  replace H39 := Ty.aft _ H39 hC
  replace S40 := hk 40 _ (by kernel_rfl) S40
  replace H40 := Ty.aft _ H40 hC
  replace S41 := hk 41 _ (by kernel_rfl) S41
  replace S42 := hk 42 _ (by kernel_rfl) S42
  replace S43 := hk 43 _ (by kernel_rfl) S43
  replace S44 := hk 44 _ (by kernel_rfl) S44
  replace S45 := hk 45 _ (by kernel_rfl) S45
  replace H45 := Ty.aft _ H45 hC
  replace S46 := hk 46 _ (by kernel_rfl) S46
  replace H46 := Ty.aft _ H46 hC
  replace S47 := hk 47 _ (by kernel_rfl) S47
  replace H47 := Ty.aft _ H47 hC
  replace S48 := hk 48 _ (by kernel_rfl) S48
  replace H48 := Ty.aft _ H48 hC
  replace S49 := hk 49 _ (by kernel_rfl) S49
  replace S50 := hk 50 _ (by kernel_rfl) S50
  replace S51 := hk 51 _ (by kernel_rfl) S51
  replace S28 := hk 28 _ (by kernel_rfl) S28
  replace S29 := hk 29 _ (by kernel_rfl) S29
  replace S13 := hk 13 _ (by kernel_rfl) S13
  have S26 := gotV hz' 0 hh rfl rfl rfl rfl
  have S27 := gotV hz' 1 hh rfl rfl rfl rfl
  replace HB := aft_call HB (RelC.below_nil hC)
  clear hC hk hh; replace hz := hz'; replace hd := hd'; clear hz' hd'
  refine wp_cond_false S27.ev ?_
  refine wp_exit ?_
  refine wp_seq ?_
  refine wp_seq ?_
  refine region_text (M := []) (
      rT (tV (.int .i64 n)) ::
      rT (tV (.bool true)) ::
      rT (tV (.bool true)) ::
      rT (tV (.int .i64 n)) ::
      rT (tV (.bool true)) ::
      rT (tV (.bool true)) ::
      []) hz hd (by kernel_rfl) ?_ ?_
  · refine ⟨?_, ?_, ?_, ?_, ?_, ?_, trivial⟩
    · exact sMv rfl rfl rfl hz rfl (Gd.none_ rfl) rfl (Src.out (t := 2) (by kernel_rfl) S2 rfl)
    · exact sBin rfl rfl rfl hz rfl (Gd.none_ rfl) rfl (Src.dep (j := 0) (t := 52) (by kernel_rfl) (by kernel_rfl) rfl) (Src.const (.int .i64 20000)) (fun w => by simp [go_sem, e1] at *)
    · exact sMv rfl rfl rfl hz rfl (Gd.none_ rfl) rfl (Src.dep (j := 1) (t := 53) (by kernel_rfl) (by kernel_rfl) rfl)
    · exact sMv rfl rfl rfl hz rfl (Gd.yes rfl rfl (Src.dep (j := 2) (t := 54) (by kernel_rfl) (by kernel_rfl) rfl) rfl) rfl (Src.out (t := 2) (by kernel_rfl) S2 rfl)
    · exact sBin rfl rfl rfl hz rfl (Gd.yes rfl rfl (Src.dep (j := 2) (t := 54) (by kernel_rfl) (by kernel_rfl) rfl) rfl) rfl (Src.dep (j := 3) (t := 55) (by kernel_rfl) (by kernel_rfl) rfl) (Src.const (.int .i64 16777216)) (fun w => by simp [go_sem, e2] at *)
    · exact sPickT rfl rfl rfl hz rfl (Gd.none_ rfl) rfl (Src.dep (j := 2) (t := 54) (by kernel_rfl) (by kernel_rfl) rfl) (Src.dep (j := 4) (t := 56) (by kernel_rfl) (by kernel_rfl) rfl)
  intro a' γ' W' hz' hd' hC hk hh
  replace Cp1 := Cell.aft Cp1 hC rfl
  replace Cp2 := Cell.aft Cp2 hC rfl
  replace Cp3 := Cell.aft Cp3 hC rfl
  replace Cp4 := Cell.aft Cp4 hC rfl
  replace S2 := hk 2 _ (by kernel_rfl) S2
  replace S3 := hk 3 _ (by kernel_rfl) S3
  replace S8 := hk 8 _ (by kernel_rfl) S8
  replace S9 := hk 9 _ (by kernel_rfl) S9
  replace S10 := hk 10 _ (by kernel_rfl) S10
  replace S11 := hk 11 _ (by kernel_rfl) S11
  replace S12 := hk 12 _ (by kernel_rfl) S12
  clear S30 H30
  clear S31 H31
  clear S32 H32
  clear S33 H33
  clear S34
  clear S35
  clear S36
  clear S37 H37
  clear S38 H38
  clear S39 H39
  clear S40 H40
  clear S41
  clear S42
  clear S43
  clear S44
  clear S45 H45
  clear S46 H46
  clear S47 H47
  clear S48 H48
  clear S49
  clear S50
  clear S51
  clear S28
  clear S29
  clear S13
  clear S26
  clear S27
  have S57 := gotV hz' 5 hh rfl rfl rfl rfl
  replace HB := aft_call HB (RelC.below_nil hC)
  clear hC hk hh; replace hz := hz'; replace hd := hd'; clear hz' hd'
  refine wp_cond_true S57.ev ?_
  refine region_text (M := []) (
      rT (tV (.int .i64 n)) ::
      rT (tV (.int .i64 (n.tmod 20000))) ::
      rT (tV (.int .i64 (n.tmod 20000))) ::
      []) hz hd (by kernel_rfl) ?_ ?_
  · refine ⟨?_, ?_, ?_, trivial⟩
    · exact sMv rfl rfl rfl hz rfl (Gd.none_ rfl) rfl (Src.out (t := 2) (by kernel_rfl) S2 rfl)
    · exact sBin rfl rfl rfl hz rfl (Gd.none_ rfl) rfl (Src.dep (j := 0) (t := 58) (by kernel_rfl) (by kernel_rfl) rfl) (Src.const (.int .i64 20000)) (fun w => by simp [go_sem, er])
    · exact sAs rfl rfl rfl hz rfl (Gd.none_ rfl) rfl (Src.dep (j := 1) (t := 59) (by kernel_rfl) (by kernel_rfl) rfl)
  intro a' γ' W' hz' hd' hC hk hh
  replace Cp1 := Cell.aft Cp1 hC rfl
  replace Cp2 := Cell.aft Cp2 hC rfl
  replace Cp3 := Cell.aft Cp3 hC rfl
  replace Cp4 := Cell.aft Cp4 hC rfl
  clear S2
  replace S3 := hk 3 _ (by kernel_rfl) S3
  replace S8 := hk 8 _ (by kernel_rfl) S8
  replace S9 := hk 9 _ (by kernel_rfl) S9
  replace S10 := hk 10 _ (by kernel_rfl) S10
  replace S11 := hk 11 _ (by kernel_rfl) S11
  replace S12 := hk 12 _ (by kernel_rfl) S12
  clear S57
  have S2 := gotV hz' 2 hh rfl rfl rfl rfl
  replace HB := aft_call HB (RelC.below_nil hC)
  clear hC hk hh; replace hz := hz'; replace hd := hd'; clear hz' hd'
  refine wp_seq ?_
  refine region_text (M := []) (
      rT (tN B64 600 (bev (la.take 600))) ::
      rT (tN B32 600 (bev (la.take 600))) ::
      rT (tV (.int .i64 (n.tmod 20000))) ::
      rT (tV (.bool true)) ::
      rT (tV (.bool true)) ::
      rT (tN B64 600 (bev (la.take 600))) ::
      rT (tN B32 600 (bev (la.take 600))) ::
      rT (tV (.int .i64 k)) ::
      rT (tV (.int .i64 (k.tmod 2000))) ::
      rT (tV (.bool true)) ::
      rT (tV (.bool true)) ::
      rT (tV (.bool true)) ::
      rT (tN B64 600 (bev (la.take 600))) ::
      rT (tN B32 600 (bev (la.take 600))) ::
      rT (tV (.bool true)) ::
      rT (tV (.bool true)) ::
      rT (tV (.bool true)) ::
      rT (tN B64 600 (bev (lb.take 600))) ::
      rT (tN B32 600 (bev (lb.take 600))) ::
      rT (tV (.bool true)) ::
      rT (tV (.bool true)) ::
      rT (tV (.bool true)) ::
      rT (tV (.bool true)) ::
      rT (tV (.bool true)) ::
      rT (tV (.bool true)) ::
      []) hz hd (by kernel_rfl) ?_ ?_
  · refine ⟨?_, ?_, ?_, ?_, ?_, ?_, ?_, ?_, ?_, ?_, ?_, ?_, ?_, ?_, ?_, ?_, ?_, ?_, ?_, ?_, ?_, ?_, ?_, ?_, ?_, trivial⟩
    · exact sLoad rfl rfl rfl hz rfl (Gd.none_ rfl) rfl (Src.out (t := 9) (by kernel_rfl) S9 rfl) Cp1 rfl ld_n64
    · exact sLoad rfl rfl rfl hz rfl (Gd.none_ rfl) rfl (Src.out (t := 11) (by kernel_rfl) S11 rfl) Cp3 rfl ld_n32
    · exact sMv rfl rfl rfl hz rfl (Gd.none_ rfl) rfl (Src.out (t := 2) (by kernel_rfl) S2 rfl)
    · exact sCall rfl rfl rfl hz rfl (Gd.none_ rfl) rfl Try.func42 (by kernel_rfl) (by kernel_rfl) fun a γ w U => (by show Calls _ _ #[a.eval (.tmp 60), a.eval (.tmp 61), a.eval (.tmp 62)] _ _; rw [show a.eval (.tmp 62) = .int .i64 (n.tmod 20000) from Src.at_ (Src.dep (j := 2) (t := 62) (by kernel_rfl) (by kernel_rfl) rfl) U]; exact l_moved (Src.at_ (Src.dep (j := 0) (t := 60) (by kernel_rfl) (by kernel_rfl) rfl) U) (Src.at_ (Src.dep (j := 1) (t := 61) (by kernel_rfl) (by kernel_rfl) rfl) U) (by decide) (by decide) hr1 hr0)
    · exact sMv rfl rfl rfl hz rfl (Gd.none_ rfl) rfl (Src.dep (j := 3) (t := 63) (by kernel_rfl) (by kernel_rfl) rfl)
    · exact sLoad rfl rfl rfl hz rfl (Gd.yes rfl rfl (Src.dep (j := 4) (t := 64) (by kernel_rfl) (by kernel_rfl) rfl) rfl) rfl (Src.out (t := 9) (by kernel_rfl) S9 rfl) Cp1 rfl ld_n64
    · exact sLoad rfl rfl rfl hz rfl (Gd.yes rfl rfl (Src.dep (j := 4) (t := 64) (by kernel_rfl) (by kernel_rfl) rfl) rfl) rfl (Src.out (t := 11) (by kernel_rfl) S11 rfl) Cp3 rfl ld_n32
    · exact sMv rfl rfl rfl hz rfl (Gd.yes rfl rfl (Src.dep (j := 4) (t := 64) (by kernel_rfl) (by kernel_rfl) rfl) rfl) rfl (Src.out (t := 3) (by kernel_rfl) S3 rfl)
    · exact sBin rfl rfl rfl hz rfl (Gd.yes rfl rfl (Src.dep (j := 4) (t := 64) (by kernel_rfl) (by kernel_rfl) rfl) rfl) rfl (Src.dep (j := 7) (t := 67) (by kernel_rfl) (by kernel_rfl) rfl) (Src.const (.int .i64 2000)) (fun w => by simp [go_sem, ek])
    · exact sCall rfl rfl rfl hz rfl (Gd.yes rfl rfl (Src.dep (j := 4) (t := 64) (by kernel_rfl) (by kernel_rfl) rfl) rfl) rfl Try.func42 (by kernel_rfl) (by kernel_rfl) fun a γ w U => (by show Calls _ _ #[a.eval (.tmp 65), a.eval (.tmp 66), a.eval (.tmp 68)] _ _; rw [show a.eval (.tmp 68) = .int .i64 (k.tmod 2000) from Src.at_ (Src.dep (j := 8) (t := 68) (by kernel_rfl) (by kernel_rfl) rfl) U]; exact l_moved (Src.at_ (Src.dep (j := 5) (t := 65) (by kernel_rfl) (by kernel_rfl) rfl) U) (Src.at_ (Src.dep (j := 6) (t := 66) (by kernel_rfl) (by kernel_rfl) rfl) U) (by decide) (by decide) hk1 hk0)
    · exact sPickT rfl rfl rfl hz rfl (Gd.none_ rfl) rfl (Src.dep (j := 4) (t := 64) (by kernel_rfl) (by kernel_rfl) rfl) (Src.dep (j := 9) (t := 69) (by kernel_rfl) (by kernel_rfl) rfl)
    · exact sMv rfl rfl rfl hz rfl (Gd.none_ rfl) rfl (Src.dep (j := 10) (t := 70) (by kernel_rfl) (by kernel_rfl) rfl)
    · exact sLoad rfl rfl rfl hz rfl (Gd.yes rfl rfl (Src.dep (j := 11) (t := 71) (by kernel_rfl) (by kernel_rfl) rfl) rfl) rfl (Src.out (t := 9) (by kernel_rfl) S9 rfl) Cp1 rfl ld_n64
    · exact sLoad rfl rfl rfl hz rfl (Gd.yes rfl rfl (Src.dep (j := 11) (t := 71) (by kernel_rfl) (by kernel_rfl) rfl) rfl) rfl (Src.out (t := 11) (by kernel_rfl) S11 rfl) Cp3 rfl ld_n32
    · exact sCall rfl rfl rfl hz rfl (Gd.yes rfl rfl (Src.dep (j := 11) (t := 71) (by kernel_rfl) (by kernel_rfl) rfl) rfl) rfl Try.func43 (by kernel_rfl) (by kernel_rfl) fun a γ w U => (by show Calls _ _ #[a.eval (.tmp 72), a.eval (.tmp 73)] _ _; exact l_same (Src.at_ (Src.dep (j := 12) (t := 72) (by kernel_rfl) (by kernel_rfl) rfl) U) (Src.at_ (Src.dep (j := 13) (t := 73) (by kernel_rfl) (by kernel_rfl) rfl) U) (by decide) (by decide))
    · exact sPickT rfl rfl rfl hz rfl (Gd.none_ rfl) rfl (Src.dep (j := 11) (t := 71) (by kernel_rfl) (by kernel_rfl) rfl) (Src.dep (j := 14) (t := 74) (by kernel_rfl) (by kernel_rfl) rfl)
    · exact sMv rfl rfl rfl hz rfl (Gd.none_ rfl) rfl (Src.dep (j := 15) (t := 75) (by kernel_rfl) (by kernel_rfl) rfl)
    · exact sLoad rfl rfl rfl hz rfl (Gd.yes rfl rfl (Src.dep (j := 16) (t := 76) (by kernel_rfl) (by kernel_rfl) rfl) rfl) rfl (Src.out (t := 10) (by kernel_rfl) S10 rfl) Cp2 rfl ld_n64
    · exact sLoad rfl rfl rfl hz rfl (Gd.yes rfl rfl (Src.dep (j := 16) (t := 76) (by kernel_rfl) (by kernel_rfl) rfl) rfl) rfl (Src.out (t := 12) (by kernel_rfl) S12 rfl) Cp4 rfl ld_n32
    · exact sCall rfl rfl rfl hz rfl (Gd.yes rfl rfl (Src.dep (j := 16) (t := 76) (by kernel_rfl) (by kernel_rfl) rfl) rfl) rfl Try.func43 (by kernel_rfl) (by kernel_rfl) fun a γ w U => (by show Calls _ _ #[a.eval (.tmp 77), a.eval (.tmp 78)] _ _; exact l_same (Src.at_ (Src.dep (j := 17) (t := 77) (by kernel_rfl) (by kernel_rfl) rfl) U) (Src.at_ (Src.dep (j := 18) (t := 78) (by kernel_rfl) (by kernel_rfl) rfl) U) (by decide) (by decide))
    · exact sPickT rfl rfl rfl hz rfl (Gd.none_ rfl) rfl (Src.dep (j := 16) (t := 76) (by kernel_rfl) (by kernel_rfl) rfl) (Src.dep (j := 19) (t := 79) (by kernel_rfl) (by kernel_rfl) rfl)
    · exact sMv rfl rfl rfl hz rfl (Gd.none_ rfl) rfl (Src.dep (j := 20) (t := 80) (by kernel_rfl) (by kernel_rfl) rfl)
    · exact sCall rfl rfl rfl hz rfl (Gd.yes rfl rfl (Src.dep (j := 21) (t := 81) (by kernel_rfl) (by kernel_rfl) rfl) rfl) rfl Try.func21 (by kernel_rfl) (by kernel_rfl) fun a γ w U => (by show Calls _ _ #[] _ _; exact l_started)
    · exact sPickT rfl rfl rfl hz rfl (Gd.none_ rfl) rfl (Src.dep (j := 21) (t := 81) (by kernel_rfl) (by kernel_rfl) rfl) (Src.dep (j := 22) (t := 82) (by kernel_rfl) (by kernel_rfl) rfl)
    · exact sAs rfl rfl rfl hz rfl (Gd.none_ rfl) rfl (Src.dep (j := 23) (t := 83) (by kernel_rfl) (by kernel_rfl) rfl)
  intro a' γ' W' hz' hd' hC hk hh
  clear Cp1
  clear Cp2
  clear Cp3
  clear Cp4
  clear S3
  clear S8
  clear S9
  clear S10
  clear S11
  clear S12
  clear S2
  have S8 := gotV hz' 24 hh rfl rfl rfl rfl
  replace HB := aft_call HB (RelC.below_nil hC)
  clear hC hk hh; replace hz := hz'; replace hd := hd'; clear hz' hd'
  refine wp_ret ?_
  exact ret1 (by kernel_rfl) S8 hd ⟨_, rfl, rfl, HB⟩

theorem tmod_fits {k m : Int} (hm : 0 < m) (hm2 : m ≤ 100000) : -9223372036854775808 ≤ k.tmod m ∧ k.tmod m ≤ 9223372036854775807 ∧ IntKind.i64.wrap (k.tmod m) = k.tmod m := by
  have h1 := Int.tmod_lt_of_pos k hm
  have h2 : -m < k.tmod m := by
    have := Int.tmod_lt_of_pos (-k) hm
    rw [Int.neg_tmod] at this; omega
  refine ⟨by omega, by omega, ?_⟩
  rw [IntKind.wrap_i64]; omega
theorem reckons_ret {n0 n1 : Nat} {la lb : List Nat} {n k : Int} {v0 v1 : Value} {w : World} (h0 : (tBy n0 la).p v0 w) (h1 : (tBy n1 lb).p v1 w) (hi0 : -9223372036854775808 ≤ n) (hi1 : n ≤ 9223372036854775807) :
    Calls Try.prog 11 #[v0, v1, .int .i64 n, .int .i64 k] w (Ret (tV (.bool true)) w) := by
  obtain ⟨k1, k2, k3⟩ := tmod_fits (k := k) (m := 2000) (by decide) (by decide)
  obtain ⟨r1, r2, r3⟩ := tmod_fits (k := n) (m := 20000) (by decide) (by decide)
  by_cases e1 : 20000 < n
  · by_cases e2 : n ≤ 16777216
    · exact reck_mid h0 h1 e1 e2 r1 r2 r3 hi0 hi1 k1 k2 k3
    · exact reck_great h0 h1 e1 e2 hi0 hi1 k1 k2 k3
  · exact reck_low h0 h1 e1 hi0 hi1 k1 k2 k3
end Go.Proofs.Ytijbhbjenddiaaa.Rg
namespace Go.Proofs.Ytijbhbjenddiaaa
open Go.RowKit Rg
theorem by_in {w : World} {A : Option Addr} {n c : Nat} {l : List Int} (h : InI .u8 1 1 w A n c l) : (tBy n (l.map Int.toNat)).p (.slice A n c) w := ⟨A, n, c, rfl, bat_in h, h.le, Nat.le_refl _⟩
theorem ret_out {P : Program} {f : FuncId} {args : Array Value} {w : World} {v : Value} (h : Calls P f args w (Ret (tV v) w)) : Calls P f args w fun e w' => e = .returned v ∧ Below w.heap.size w w' := by
  refine h.mono ?_
  rintro e w' ⟨u, rfl, rfl, hb⟩
  exact ⟨rfl, hb⟩
theorem natMakes_walk (a0 : Int) (A1 : Option Addr) (n1 c1 : Nat) (l1 : List Int) (s : ByteArray) (a3 : Int) (w : World) (h0 : (Lit.int .u64 a0).wf = true) (h1 : InI .u8 1 1 w A1 n1 c1 l1) (h2 : s.data.toList.length ≤ reachBytes) (h3 : (Lit.int .i64 a3).wf = true) :
    Calls Try.prog 6 #[.int .u64 a0, .slice A1 n1 c1, .string s, .int .i64 a3] w fun e w' => e = .returned (.bool true) ∧ Below w.heap.size w w' := by
  simp [Lit.wf, IntKind.min, IntKind.max, IntKind.signed, IntKind.bits] at h0 h3
  obtain ⟨k, rfl⟩ := Int.eq_ofNat_of_zero_le (show 0 ≤ a0 by omega)
  exact ret_out (natMakes_ret (by_in h1) (by rw [B64_eq]; omega) (by omega))
theorem natReckons_walk (A0 : Option Addr) (n0 c0 : Nat) (l0 : List Int) (A1 : Option Addr) (n1 c1 : Nat) (l1 : List Int) (a2 a3 : Int) (w : World) (h0 : InI .u8 1 1 w A0 n0 c0 l0) (h1 : InI .u8 1 1 w A1 n1 c1 l1) (h2 : (Lit.int .i64 a2).wf = true) (h3 : (Lit.int .i64 a3).wf = true) :
    Calls Try.prog 11 #[.slice A0 n0 c0, .slice A1 n1 c1, .int .i64 a2, .int .i64 a3] w fun e w' => e = .returned (.bool true) ∧ Below w.heap.size w w' := by
  simp [Lit.wf, IntKind.min, IntKind.max, IntKind.signed, IntKind.bits] at h2 h3
  exact ret_out (reckons_ret (by_in h0) (by_in h1) (by omega) (by omega))
end Go.Proofs.Ytijbhbjenddiaaa
