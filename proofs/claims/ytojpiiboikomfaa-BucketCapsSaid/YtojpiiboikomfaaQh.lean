/-
  Walks and plain laws, put together: OD OG.
-/
import Derived.Test.YtojpiiboikomfaaQg
set_option linter.unusedVariables false
set_option linter.unusedSimpArgs false
namespace Go.Proofs.Ytojpiiboikomfaa.Rg

open Go.RowKit

section

variable {P : Program} {ops : Array Oper} {Q : Exit → Act → World → Prop} {a0 : Act} {M : List Nat} {W : World} {rels : List Rel} {i : Nat} {o : Oper} {N d : Nat} {x y : Operand}
theorem zNil {p off : Nat} (hz : a0.tmps.size = N) (s : Src ops a0 M W rels i o x (tV (.pointer (some ⟨p, off, none⟩)))) (g : Gd ops a0 M W rels i o true := by exact Gd.none_ rfl) (hop : o.op = .nilCheck x := by rfl)
    (ho : ops[i]? = some o := by rfl) (hr : rels[i]? = some (rT (tV (.pointer (some ⟨p, off, none⟩)))) := by rfl) (hd : o.dst = some d := by rfl) (hlt : decide (d < N) = true := by rfl) : StepOk P ops a0 M W Q rels i o :=
  sOp ho hr hd hz hlt g fun a γ w U => by
    have e : a.eval x = .pointer (some ⟨p, off, none⟩) := s a γ w U
    refine ⟨_, ?_, rfl⟩
    unfold execOp; rw [hop]; simp only [e, Sem.run_pure]
theorem zB2min {u v z : Value} {ts : Array TypeId} (hz : a0.tmps.size = N) (hop : o.op = .call { callee := .builtin .min, args := #[x, y], argTypes := ts }) (s1 : Src ops a0 M W rels i o x (tV u)) (s2 : Src ops a0 M W rels i o y (tV v)) (h : ∀ w, (Builtin.min2 u v).run P w = .ok z w) (g : Gd ops a0 M W rels i o true := by exact Gd.none_ rfl)
    (ho : ops[i]? = some o := by rfl) (hr : rels[i]? = some (rT (tV z)) := by rfl) (hd : o.dst = some d := by rfl) (hlt : decide (d < N) = true := by rfl) : StepOk P ops a0 M W Q rels i o :=
  sOp ho hr hd hz hlt g fun a γ w U => by
    have e1 : a.eval x = u := s1 a γ w U
    have e2 : a.eval y = v := s2 a γ w U
    refine ⟨z, ?_, rfl⟩
    generalize a.eval = ρ at e1 e2 ⊢
    unfold execOp; rw [hop]; simp [go_sem, e1, e2, Builtin.min_, h]
end
def AllC : List Ty → List Ty → Prop
  | [], [] => True
  | T :: Ts, U :: Us => (∀ v w, T.p v w → U.p v w) ∧ AllC Ts Us
  | _, _ => False
theorem AllC.to : ∀ {Ts Us : List Ty} {vs : List Value} {w : World}, AllC Ts Us → AllT Ts vs w → AllT Us vs w
  | [], [], _, _, _, h => h
  | _ :: _, _ :: _, [], _, _, h => h.elim
  | _ :: _, _ :: _, _ :: _, _, c, h => ⟨c.1 _ _ h.1, AllC.to c.2 h.2⟩
  | [], _ :: _, _, _, c, _ => c.elim
  | _ :: _, [], _, _, c, _ => c.elim
theorem tO_to {Ts Us : List Ty} {ks : List Nat} (c : AllC Ts Us) : ∀ v w, (tO Ts ks).p v w → (tO Us ks).p v w := by
  rintro v w ⟨vs, e, h, h2⟩
  exact ⟨vs, e, AllC.to c h, h2⟩
theorem idT {T : Ty} : ∀ v w, T.p v w → T.p v w := fun _ _ h => h
/-- A bucket as it lies. -/
def BKo (l : Nat) (t : Int) (h b r : Rat) : Ty := tO [tV (.int .i64 t), tQ B64 (l + 41) h, tQ B64 42 b, tQ B64 l r] [1, 2, 2, 2]
theorem run_min62 (n : Int) (w : World) : (Builtin.min2 (.int .i64 n) (.int .i64 4611686018427387904)).run Try.prog w = .ok (.int .i64 (mnT n)) w := by
  simp [go_sem, Builtin.min2, mnT]
section

variable {l m : Nat} {t n : Int} {h b r x : Rat}
theorem at_to (I : BInv l t h b r) (e : x = atH t h b r n) : ∀ v w, (tQ B64 m x).p v w → (tQ B64 (l + 41) (atH t h b r n)).p v w := fun v w hv => by
  obtain ⟨h1, h2⟩ := (I.at_ n).bits
  exact qO_fit (by decide) (tQ_eq e _ _ hv) h1 h2
end

theorem bk_sub {l : Nat} {t n : Int} {h b r : Rat} {ox oy : Operand} {id : TypeId} (I : BInv l t h b r) (ht : mnT n > t) (w : World) : (do eqGuard .sub id ox oy (.int .i64 (mnT n)) (.int .i64 t); binOp .sub id (.int .i64 (mnT n)) (.int .i64 t) : Sem Value).run Try.prog w = .ok (.int .i64 (mnT n - t)) w := by
  have hm := mnT_le n
  have := I.t0
  have e : IntKind.i64.wrap (mnT n - t) = mnT n - t := by rw [IntKind.wrap_i64]; omega
  simp [go_sem, e]
theorem at_new {l : Nat} {t n : Int} {h b r : Rat} (I : BInv l t h b r) (ht : mnT n > t) (hc : ¬ b < h + mulI r (mnT n - t)) : atH t h b r n = h + mulI r (mnT n - t) := by
  have e : mulI r (mnT n - t) = r * ((mnT n - t : Int) : Rat) := by unfold mulI; rw [if_pos (by omega)]
  rw [e] at hc ⊢
  exact atH_new ht hc
theorem at_cap {l : Nat} {t n : Int} {h b r : Rat} (I : BInv l t h b r) (ht : mnT n > t) (hc : b < h + mulI r (mnT n - t)) : atH t h b r n = b := by
  have e : mulI r (mnT n - t) = r * ((mnT n - t : Int) : Rat) := by unfold mulI; rw [if_pos (by omega)]
  rw [e] at hc
  exact atH_cap ht hc

set_option maxRecDepth 10000 in
set_option maxHeartbeats 2000000 in
theorem c_bwhole {n : Int} {w : World}  (hn : n < 9223372036854775808) :
    Calls Try.prog 32 #[.int .i64 n] w (Ret (tQ B64 63 (ofQ n 1)) w) := by
 refine enter Try.func32 rfl Try.ntmps32 (by simp) ?_
 intro a hz hd ha
 have S0 := ha 0 _ rfl
 clear ha
 have HB : Below w.heap.size w w := Below.refl _ _
 refine wp_seq ?_
 refine region_text (M := []) (
  rB 0 55 (tQ B64 1 0) none 0 ::
  []) hz hd (by kernel_rfl) ?_ ?_
 refine ⟨?_, trivial⟩
 exact zNew hz (fun _ => tQ_nil) al_r64
 intro a' γ' W' hz' hd' hC hk hh
 replace S0 := kp hk S0
 obtain ⟨p1, S2, Cp1, lp1, gp1⟩ := gotB hz' 0 hC hh rfl rfl rfl rfl rfl rfl
 have bp1 : w.heap.size ≤ p1 := Nat.le_trans HB.size lp1
 clear lp1 gp1
 replace HB := aft_call HB (RelC.below_nil hC)
 clear hC hk hh; replace hz := hz'; replace hd := hd'; clear hz' hd'
 refine wp_seq ?_
 refine region_text (M := []) (
  rT (tV (.int .i64 n)) ::
  rT (tT [tQ B64 63 (ofQ n 1), tV (.bool (decide (OfOk n 1)))]) ::
  rT (tT [tQ B64 63 (ofQ n 1), tV (.bool (decide (OfOk n 1)))]) ::
  rT (tQ B64 63 (ofQ n 1)) ::
  rT (tV (.bool (decide (OfOk n 1)))) ::
  rVar 5 55 2 ::
  rB 5 55 (tQ B64 63 (ofQ n 1)) (some 5) 6 ::
  rT (tV (.bool (decide (OfOk n 1)))) ::
  []) hz hd (by kernel_rfl) ?_ ?_
 refine ⟨?_, ?_, ?_, ?_, ?_, ?_, ?_, ?_, trivial⟩
 exact zMv hz (sv S0)
 exact zC2 hz Try.func68 (sd 0 rfl) (kc (v := .int .i64 1)) (k11 (fun _ => cq_of (a := n) (b := 1) (by omega) (by omega)))
 exact zMv hz (sd 1 rfl)
 exact zExt hz (sd 2 rfl)
 exact zExt hz (sd 2 rfl)
 exact zAl hz nd_rat al_r64
 exact zSt (sd 3 rfl) st_q64
 exact zAs hz (sd 4 rfl)
 intro a' γ' W' hz' hd' hC hk hh
 have ep1 := Cp1.lt
 have tp1 := Cp1.lt
 replace Cp1 := kC hC Cp1
 clear S0
 replace S2 := kp hk S2
 obtain ⟨p2, S3, Cp2, lp2, gp2⟩ := gotB hz' 6 hC hh rfl rfl rfl rfl rfl rfl
 have n_p2_p1 : p2 ≠ p1 := by omega
 have n_p1_p2 : p1 ≠ p2 := by have := ep1; omega
 have bp2 : w.heap.size ≤ p2 := Nat.le_trans HB.size lp2
 clear lp2 gp2
 clear tp1
 clear ep1
 replace HB := aft_call HB (RelC.below_nil hC)
 clear hC hk hh; replace hz := hz'; replace hd := hd'; clear hz' hd'
 refine wp_seq ?_
 refine region_text (M := [p1]) (
  rT (tQ B64 63 (ofQ n 1)) ::
  rE 0 55 (tQ B64 63 (ofQ n 1)) p1 ::
  []) hz hd (by kernel_rfl) ?_ ?_
 refine ⟨?_, ?_, trivial⟩
 exact zLd hz (sv S3) Cp2 ld_q64 (by simp [tagOf, n_p2_p1])
 exact zSE rfl (sv S2) (by simp [tagOf]) (Cp1.var tQ_nd) (sd 0 rfl) st_q64
 intro a' γ' W' hz' hd' hC hk hh
 replace Cp1 := gotE (T := tQ B64 63 (ofQ n 1)) (id := 55) (p := p1) 1 hh rfl rfl
 have tp2 := Cp2.lt
 clear Cp2
 replace S2 := kp hk S2
 clear S3
 clear tp2
 replace HB := RelC.aftM HB hC (by intro m hm; simp at hm; rcases hm with rfl <;> assumption)
 clear hC hk hh; replace hz := hz'; replace hd := hd'; clear hz' hd'
 refine wp_ret ?_
 refine ret_to (T := tQ B64 63 (ofQ n 1)) (ret1_q64 (by kernel_rfl) S2 hd Cp1 HB) ?_
 exact fun _ _ h => h

set_option maxRecDepth 10000 in
set_option maxHeartbeats 2000000 in
theorem c_at {l pb : Nat} {t : Int} {h b r : Rat} {n : Int} {w : World} (hc : Cell 80 (BKo l t h b r) pb w) (I : BInv l t h b r) (hl : l ≤ 100000)  :
    Calls Try.prog 23 #[.pointer (some ⟨pb, 0, none⟩), .int .i64 n] w (RetM (tQ B64 (l + 41) (atH t h b r n)) pb 80 (BKo l (TT t n) (atH t h b r n) b r) w) := by
 refine enter Try.func23 rfl Try.ntmps23 (by simp) ?_
 intro a hz hd ha
 have S0 := ha 0 _ rfl
 have S1 := ha 1 _ rfl
 clear ha
 have HB : ButB pb w w := ButB.refl _ _
 have Cpb : Cell 80 (tO [tV (.int .i64 t), tQ B64 (l + 41) h, tQ B64 42 b, tQ B64 l r] [1, 2, 2, 2]) pb w := hc
 have hm := mnT_le n
 have ht0 := I.t0
 have ht1 := I.t1
 refine wp_seq ?_
 refine region_text (M := []) (
  rB 0 55 (tQ B64 1 0) none 0 ::
  []) hz hd (by kernel_rfl) ?_ ?_
 refine ⟨?_, trivial⟩
 exact zNew hz (fun _ => tQ_nil) al_r64
 intro a' γ' W' hz' hd' hC hk hh
 have epb := Cpb.lt
 have tpb := Cpb.lt
 replace Cpb := kC hC Cpb
 replace S0 := kp hk S0
 replace S1 := kp hk S1
 obtain ⟨p1, S4, Cp1, lp1, gp1⟩ := gotB hz' 0 hC hh rfl rfl rfl rfl rfl rfl
 have n_pb_p1 : pb ≠ p1 := by have := epb; omega
 have bp1 : w.heap.size ≤ p1 := Nat.le_trans HB.size lp1
 have n_p1_pb : p1 ≠ pb := by omega
 have n_pb_p1 := Ne.symm n_p1_pb
 clear tpb
 clear lp1 gp1
 clear epb
 replace HB := ButB.aft HB hC (by simp)
 clear hC hk hh; replace hz := hz'; replace hd := hd'; clear hz' hd'
 refine wp_seq ?_
 refine region_text (M := []) (
  rT (tV (.int .i64 n)) ::
  rT (tV (.int .i64 (mnT n))) ::
  rT (tV (.int .i64 (mnT n))) ::
  []) hz hd (by kernel_rfl) ?_ ?_
 refine ⟨?_, ?_, ?_, trivial⟩
 exact zMv hz (sv S1)
 exact zB2min hz rfl (sd 0 rfl) (kc (v := .int .i64 4611686018427387904)) (fun w => run_min62 n w)
 exact zAs hz (sd 1 rfl)
 intro a' γ' W' hz' hd' hC hk hh
 replace Cpb := kC hC Cpb
 have tp1 := Cp1.lt
 replace Cp1 := kC hC Cp1
 replace S0 := kp hk S0
 clear S1
 replace S4 := kp hk S4
 have S1 := gotV hz' 2 hh rfl rfl rfl rfl
 clear tp1
 replace HB := ButB.aft HB hC (by simp)
 clear hC hk hh; replace hz := hz'; replace hd := hd'; clear hz' hd'
 refine wp_seq ?_
 refine wp_seq ?_
 refine region_text (M := []) (
  rT (tV (.int .i64 (mnT n))) ::
  rT (tV (.pointer (some ⟨pb, 0, none⟩))) ::
  rT (tV (.pointer (some ⟨pb, 0, none⟩))) ::
  rT (tV (.pointer (some ⟨pb, 0, none⟩))) ::
  rT (tV (.pointer (some ⟨pb, 0, none⟩))) ::
  rT (tV (.int .i64 t)) ::
  rT (tV (.bool (decide (mnT n > t)))) ::
  []) hz hd (by kernel_rfl) ?_ ?_
 refine ⟨?_, ?_, ?_, ?_, ?_, ?_, ?_, trivial⟩
 exact zMv hz (sv S1)
 exact zMv hz (sv S0)
 exact zNil hz (sd 1 rfl)
 exact zFAo hz rfl rfl (sd 2 rfl) (fun w => by simp [go_sem])
 exact zFAo hz rfl rfl (sd 3 rfl) (fun w => by simp [go_sem])
 exact zLdO 0 hz (sd 4 rfl) (cl0 Cpb) ldo_int
 exact sBin rfl rfl rfl hz rfl (Gd.none_ rfl) rfl (sd 0 rfl) (sd 5 rfl) (fun w => run_gtr)
 intro a' γ' W' hz' hd' hC hk hh
 replace Cpb := kC hC Cpb
 have tp1 := Cp1.lt
 replace Cp1 := kC hC Cp1
 replace S0 := kp hk S0
 replace S4 := kp hk S4
 replace S1 := kp hk S1
 have S15 := gotV hz' 6 hh rfl rfl rfl rfl
 clear tp1
 replace HB := ButB.aft HB hC (by simp)
 clear hC hk hh; replace hz := hz'; replace hd := hd'; clear hz' hd'
 by_cases hc2 : mnT n > t
 rw [decide_eq_true hc2] at S15
 refine wp_cond_true S15.ev ?_
 refine wp_seq ?_
 refine wp_seq ?_
 refine region_drawn (M := []) (
  rT (tV (.pointer (some ⟨pb, 0, none⟩))) ::
  rT (tV (.pointer (some ⟨pb, 0, none⟩))) ::
  rT (tV (.pointer (some ⟨pb, 0, none⟩))) ::
  rT (tV (.pointer (some ⟨pb, 1, none⟩))) ::
  rT (tQ B64 (l + 41) h) ::
  rT (tV (.pointer (some ⟨pb, 0, none⟩))) ::
  rT (tV (.pointer (some ⟨pb, 0, none⟩))) ::
  rT (tV (.pointer (some ⟨pb, 3, none⟩))) ::
  rT (tQ B64 42 b) ::
  rT (tV (.int .i64 (cmpQ h b))) ::
  rT (tV (.bool (decide (h < b)))) ::
  []) hz hd (by kernel_rfl) (by kernel_rfl) ?_ ?_
 refine ⟨?_, ?_, ?_, ?_, ?_, ?_, ?_, ?_, ?_, ?_, ?_, trivial⟩
 exact zMv hz (sv S0)
 exact zNil hz (sd 0 rfl)
 exact zFAo hz rfl rfl (sd 1 rfl) (fun w => by simp [go_sem])
 exact zFAo hz rfl rfl (sd 2 rfl) (fun w => by simp [go_sem])
 exact zLdO 1 hz (sd 3 rfl) (cl0 Cpb) ldo_q64
 exact zMv hz (sv S0)
 exact zNil hz (sd 5 rfl)
 exact zFAo hz rfl rfl (sd 6 rfl) (fun w => by simp [go_sem])
 exact zLdO 2 hz (sd 7 rfl) (cl0 Cpb) ldo_q64
 exact zC2 hz Try.func30 (sd 4 rfl) (sd 8 rfl) (fun _ _ _ h0 h1 => cq_cmp h0 h1 (by omega) (by decide))
 exact sBin rfl rfl rfl hz rfl (Gd.none_ rfl) rfl (sd 9 rfl) kc (fun w => run_cQ_lss h b w)
 intro a' γ' W' hz' hd' hC hk hh
 replace Cpb := kC hC Cpb
 have tp1 := Cp1.lt
 replace Cp1 := kC hC Cp1
 replace S0 := kp hk S0
 replace S4 := kp hk S4
 replace S1 := kp hk S1
 clear S15
 have S26 := gotV hz' 10 hh rfl rfl rfl rfl
 clear tp1
 replace HB := ButB.aft HB hC (by simp)
 clear hC hk hh; replace hz := hz'; replace hd := hd'; clear hz' hd'
 by_cases hc3 : h < b
 rw [decide_eq_true hc3] at S26
 refine wp_cond_true S26.ev ?_
 refine wp_seq ?_
 refine region_drawn (M := []) (
  rT (tV (.pointer (some ⟨pb, 0, none⟩))) ::
  rT (tV (.pointer (some ⟨pb, 0, none⟩))) ::
  rT (tV (.pointer (some ⟨pb, 5, none⟩))) ::
  rT (tQ B64 l r) ::
  rT (tV (.int .i64 (mnT n))) ::
  rT (tV (.pointer (some ⟨pb, 0, none⟩))) ::
  rT (tV (.pointer (some ⟨pb, 0, none⟩))) ::
  rT (tV (.pointer (some ⟨pb, 0, none⟩))) ::
  rT (tV (.pointer (some ⟨pb, 0, none⟩))) ::
  rT (tV (.int .i64 t)) ::
  rT (tV (.int .i64 (mnT n - t))) ::
  rT (tT [tQ B64 (l + 64) (mulI r (mnT n - t)), tV (.bool (decide (0 ≤ mnT n - t)))]) ::
  rT (tT [tQ B64 (l + 64) (mulI r (mnT n - t)), tV (.bool (decide (0 ≤ mnT n - t)))]) ::
  rT (tQ B64 (l + 64) (mulI r (mnT n - t))) ::
  rT (tV (.bool (decide (0 ≤ mnT n - t)))) ::
  rVar 15 55 2 ::
  rB 15 55 (tQ B64 (l + 64) (mulI r (mnT n - t))) (some 15) 16 ::
  rT (tV (.bool (decide (0 ≤ mnT n - t)))) ::
  []) hz hd (by kernel_rfl) (by kernel_rfl) ?_ ?_
 refine ⟨?_, ?_, ?_, ?_, ?_, ?_, ?_, ?_, ?_, ?_, ?_, ?_, ?_, ?_, ?_, ?_, ?_, ?_, trivial⟩
 exact zMv hz (sv S0)
 exact zNil hz (sd 0 rfl)
 exact zFAo hz rfl rfl (sd 1 rfl) (fun w => by simp [go_sem])
 exact zLdO 3 hz (sd 2 rfl) (cl0 Cpb) ldo_q64
 exact zMv hz (sv S1)
 exact zMv hz (sv S0)
 exact zNil hz (sd 5 rfl)
 exact zFAo hz rfl rfl (sd 6 rfl) (fun w => by simp [go_sem])
 exact zFAo hz rfl rfl (sd 7 rfl) (fun w => by simp [go_sem])
 exact zLdO 0 hz (sd 8 rfl) (cl0 Cpb) ldo_int
 exact sBin rfl rfl rfl hz rfl (Gd.none_ rfl) rfl (sd 4 rfl) (sd 9 rfl) (fun w => bk_sub I hc2 w)
 exact zC2 hz Try.func50 (sd 3 rfl) (sd 10 rfl) (k01 (fun _ _ h0 => cq_mulint (n := (mnT n - t)) h0 (by omega) (by omega)))
 exact zMv hz (sd 11 rfl)
 exact zExt hz (sd 12 rfl)
 exact zExt hz (sd 12 rfl)
 exact zAl hz nd_rat al_r64
 exact zSt (sd 13 rfl) st_q64
 exact zAs hz (sd 14 rfl)
 intro a' γ' W' hz' hd' hC hk hh
 have epb := Cpb.lt
 have ep1 := Cp1.lt
 have tpb := Cpb.lt
 replace Cpb := kC hC Cpb
 have tp1 := Cp1.lt
 replace Cp1 := kC hC Cp1
 replace S0 := kp hk S0
 replace S4 := kp hk S4
 replace S1 := kp hk S1
 clear S26
 obtain ⟨p4, S5, Cp4, lp4, gp4⟩ := gotB hz' 16 hC hh rfl rfl rfl rfl rfl rfl
 have n_p4_p1 : p4 ≠ p1 := by omega
 have n_pb_p4 : pb ≠ p4 := by have := epb; omega
 have n_p1_p4 : p1 ≠ p4 := by have := ep1; omega
 have bp4 : w.heap.size ≤ p4 := Nat.le_trans HB.size lp4
 have n_p4_pb : p4 ≠ pb := by omega
 have n_pb_p4 := Ne.symm n_p4_pb
 clear tpb
 clear lp4 gp4
 clear tp1
 clear epb ep1
 replace HB := ButB.aft HB hC (by simp)
 clear hC hk hh; replace hz := hz'; replace hd := hd'; clear hz' hd'
 refine wp_seq ?_
 refine region_drawn (M := [pb]) (
  rT (tV (.pointer (some ⟨pb, 0, none⟩))) ::
  rT (tV (.pointer (some ⟨pb, 0, none⟩))) ::
  rT (tV (.pointer (some ⟨pb, 0, none⟩))) ::
  rT (tV (.pointer (some ⟨pb, 0, none⟩))) ::
  rT (tV (.pointer (some ⟨pb, 1, none⟩))) ::
  rT (tQ B64 (l + 41) h) ::
  rT (tQ B64 (l + 64) (mulI r (mnT n - t))) ::
  rT (tQ B64 ((l + 41) + (l + 64) + 1) (h + (mulI r (mnT n - t)))) ::
  rT (tV (.pointer (some ⟨pb, 0, none⟩))) ::
  rT (tV (.pointer (some ⟨pb, 0, none⟩))) ::
  rT (tV (.pointer (some ⟨pb, 1, none⟩))) ::
  rE 0 80 (tO [tV (.int .i64 t), tQ B64 ((l + 41) + (l + 64) + 1) (h + (mulI r (mnT n - t))), tQ B64 42 b, tQ B64 l r] [1, 2, 2, 2]) pb ::
  []) hz hd (by kernel_rfl) (by kernel_rfl) ?_ ?_
 refine ⟨?_, ?_, ?_, ?_, ?_, ?_, ?_, ?_, ?_, ?_, ?_, ?_, trivial⟩
 exact zMv hz (sv S0)
 exact zMv hz (sv S0)
 exact zNil hz (sd 1 rfl)
 exact zFAo hz rfl rfl (sd 2 rfl) (fun w => by simp [go_sem])
 exact zFAo hz rfl rfl (sd 3 rfl) (fun w => by simp [go_sem])
 exact zLdO 1 hz (sd 4 rfl) (clM (k := 0) Cpb (by simp [tagOf])) ldo_q64
 exact zLd hz (sv S5) Cp4 ld_q64 (by simp [tagOf, n_p4_pb])
 exact zC2 hz Try.func51 (sd 5 rfl) (sd 6 rfl) (fun _ _ _ h0 h1 => cq_add h0 h1 (by omega) (by omega))
 exact zNil hz (sd 0 rfl)
 exact zFAo hz rfl rfl (sd 8 rfl) (fun w => by simp [go_sem])
 exact zFAo hz rfl rfl (sd 9 rfl) (fun w => by simp [go_sem])
 exact zStO 1 rfl (sd 10 rfl) (by simp [tagOf]) (clM (k := 0) Cpb (by simp [tagOf])) Cpb.lt (sd 7 rfl) sto_q64 (nd_c nd_int (nd_c nd_q (nd_c nd_q (nd_c nd_q nd_nil))))
 intro a' γ' W' hz' hd' hC hk hh
 replace Cpb := gotE (T := tO [tV (.int .i64 t), tQ B64 ((l + 41) + (l + 64) + 1) (h + (mulI r (mnT n - t))), tQ B64 42 b, tQ B64 l r] [1, 2, 2, 2]) (id := 80) (p := pb) 11 hh rfl rfl
 have tp1 := Cp1.lt
 replace Cp1 := kC hC Cp1 (by simp [tagOf, n_p1_pb])
 have tp4 := Cp4.lt
 clear Cp4
 replace S0 := kp hk S0
 replace S4 := kp hk S4
 replace S1 := kp hk S1
 clear S5
 clear tp1 tp4
 replace HB := ButB.aft HB hC (by intro m hm; simp at hm; rcases hm with rfl <;> first | exact .inr rfl | exact .inl (by assumption))
 clear hC hk hh; replace hz := hz'; replace hd := hd'; clear hz' hd'
 refine wp_seq ?_
 refine region_drawn (M := []) (
  rT (tV (.pointer (some ⟨pb, 0, none⟩))) ::
  rT (tV (.pointer (some ⟨pb, 0, none⟩))) ::
  rT (tV (.pointer (some ⟨pb, 0, none⟩))) ::
  rT (tV (.pointer (some ⟨pb, 1, none⟩))) ::
  rT (tQ B64 ((l + 41) + (l + 64) + 1) (h + (mulI r (mnT n - t)))) ::
  rT (tV (.pointer (some ⟨pb, 0, none⟩))) ::
  rT (tV (.pointer (some ⟨pb, 0, none⟩))) ::
  rT (tV (.pointer (some ⟨pb, 3, none⟩))) ::
  rT (tQ B64 42 b) ::
  rT (tV (.int .i64 (cmpQ (h + (mulI r (mnT n - t))) b))) ::
  rT (tV (.bool (decide (b < h + (mulI r (mnT n - t)))))) ::
  []) hz hd (by kernel_rfl) (by kernel_rfl) ?_ ?_
 refine ⟨?_, ?_, ?_, ?_, ?_, ?_, ?_, ?_, ?_, ?_, ?_, trivial⟩
 exact zMv hz (sv S0)
 exact zNil hz (sd 0 rfl)
 exact zFAo hz rfl rfl (sd 1 rfl) (fun w => by simp [go_sem])
 exact zFAo hz rfl rfl (sd 2 rfl) (fun w => by simp [go_sem])
 exact zLdO 1 hz (sd 3 rfl) (cl0 Cpb) ldo_q64
 exact zMv hz (sv S0)
 exact zNil hz (sd 5 rfl)
 exact zFAo hz rfl rfl (sd 6 rfl) (fun w => by simp [go_sem])
 exact zLdO 2 hz (sd 7 rfl) (cl0 Cpb) ldo_q64
 exact zC2 hz Try.func30 (sd 4 rfl) (sd 8 rfl) (fun _ _ _ h0 h1 => cq_cmp h0 h1 (by omega) (by decide))
 exact sBin rfl rfl rfl hz rfl (Gd.none_ rfl) rfl (sd 9 rfl) kc (fun w => run_cQ_gtr (h + (mulI r (mnT n - t))) b w)
 intro a' γ' W' hz' hd' hC hk hh
 replace Cpb := kC hC Cpb
 have tp1 := Cp1.lt
 replace Cp1 := kC hC Cp1
 replace S0 := kp hk S0
 replace S4 := kp hk S4
 replace S1 := kp hk S1
 have S63 := gotV hz' 10 hh rfl rfl rfl rfl
 clear tp1
 replace HB := ButB.aft HB hC (by simp)
 clear hC hk hh; replace hz := hz'; replace hd := hd'; clear hz' hd'
 by_cases hc5 : b < h + (mulI r (mnT n - t))
 rw [decide_eq_true hc5] at S63
 refine wp_cond_true S63.ev ?_
 refine region_text (M := [pb]) (
  rT (tV (.pointer (some ⟨pb, 0, none⟩))) ::
  rT (tV (.pointer (some ⟨pb, 0, none⟩))) ::
  rT (tV (.pointer (some ⟨pb, 0, none⟩))) ::
  rT (tV (.pointer (some ⟨pb, 3, none⟩))) ::
  rT (tQ B64 42 b) ::
  rT (tV (.pointer (some ⟨pb, 0, none⟩))) ::
  rT (tV (.pointer (some ⟨pb, 0, none⟩))) ::
  rT (tV (.pointer (some ⟨pb, 1, none⟩))) ::
  rE 0 80 (tO [tV (.int .i64 t), tQ B64 42 b, tQ B64 42 b, tQ B64 l r] [1, 2, 2, 2]) pb ::
  []) hz hd (by kernel_rfl) ?_ ?_
 refine ⟨?_, ?_, ?_, ?_, ?_, ?_, ?_, ?_, ?_, trivial⟩
 exact zMv hz (sv S0)
 exact zMv hz (sv S0)
 exact zNil hz (sd 1 rfl)
 exact zFAo hz rfl rfl (sd 2 rfl) (fun w => by simp [go_sem])
 exact zLdO 2 hz (sd 3 rfl) (clM (k := 0) Cpb (by simp [tagOf])) ldo_q64
 exact zNil hz (sd 0 rfl)
 exact zFAo hz rfl rfl (sd 5 rfl) (fun w => by simp [go_sem])
 exact zFAo hz rfl rfl (sd 6 rfl) (fun w => by simp [go_sem])
 exact zStO 1 rfl (sd 7 rfl) (by simp [tagOf]) (clM (k := 0) Cpb (by simp [tagOf])) Cpb.lt (sd 4 rfl) sto_q64 (nd_c nd_int (nd_c nd_q (nd_c nd_q (nd_c nd_q nd_nil))))
 intro a' γ' W' hz' hd' hC hk hh
 replace Cpb := gotE (T := tO [tV (.int .i64 t), tQ B64 42 b, tQ B64 42 b, tQ B64 l r] [1, 2, 2, 2]) (id := 80) (p := pb) 8 hh rfl rfl
 have tp1 := Cp1.lt
 replace Cp1 := kC hC Cp1 (by simp [tagOf, n_p1_pb])
 replace S0 := kp hk S0
 replace S4 := kp hk S4
 replace S1 := kp hk S1
 clear S63
 clear tp1
 replace HB := ButB.aft HB hC (by intro m hm; simp at hm; rcases hm with rfl <;> first | exact .inr rfl | exact .inl (by assumption))
 clear hC hk hh; replace hz := hz'; replace hd := hd'; clear hz' hd'
 refine region_text (M := [pb]) (
  rT (tV (.pointer (some ⟨pb, 0, none⟩))) ::
  rT (tV (.int .i64 (mnT n))) ::
  rT (tV (.pointer (some ⟨pb, 0, none⟩))) ::
  rT (tV (.pointer (some ⟨pb, 0, none⟩))) ::
  rT (tV (.pointer (some ⟨pb, 0, none⟩))) ::
  rE 0 80 (tO [tV (.int .i64 (mnT n)), tQ B64 42 b, tQ B64 42 b, tQ B64 l r] [1, 2, 2, 2]) pb ::
  []) hz hd (by kernel_rfl) ?_ ?_
 refine ⟨?_, ?_, ?_, ?_, ?_, ?_, trivial⟩
 exact zMv hz (sv S0)
 exact zMv hz (sv S1)
 exact zNil hz (sd 0 rfl)
 exact zFAo hz rfl rfl (sd 2 rfl) (fun w => by simp [go_sem])
 exact zFAo hz rfl rfl (sd 3 rfl) (fun w => by simp [go_sem])
 exact zStO 0 rfl (sd 4 rfl) (by simp [tagOf]) (clM (k := 0) Cpb (by simp [tagOf])) Cpb.lt (sd 1 rfl) sto_int (nd_c nd_int (nd_c nd_q (nd_c nd_q (nd_c nd_q nd_nil))))
 intro a' γ' W' hz' hd' hC hk hh
 replace Cpb := gotE (T := tO [tV (.int .i64 (mnT n)), tQ B64 42 b, tQ B64 42 b, tQ B64 l r] [1, 2, 2, 2]) (id := 80) (p := pb) 5 hh rfl rfl
 have tp1 := Cp1.lt
 replace Cp1 := kC hC Cp1 (by simp [tagOf, n_p1_pb])
 replace S0 := kp hk S0
 replace S4 := kp hk S4
 clear S1
 clear tp1
 replace HB := ButB.aft HB hC (by intro m hm; simp at hm; rcases hm with rfl <;> first | exact .inr rfl | exact .inl (by assumption))
 clear hC hk hh; replace hz := hz'; replace hd := hd'; clear hz' hd'
 refine wp_seq ?_
 refine region_text (M := [p1]) (
  rT (tV (.pointer (some ⟨pb, 0, none⟩))) ::
  rT (tV (.pointer (some ⟨pb, 0, none⟩))) ::
  rT (tV (.pointer (some ⟨pb, 0, none⟩))) ::
  rT (tV (.pointer (some ⟨pb, 1, none⟩))) ::
  rT (tQ B64 42 b) ::
  rE 0 55 (tQ B64 42 b) p1 ::
  []) hz hd (by kernel_rfl) ?_ ?_
 refine ⟨?_, ?_, ?_, ?_, ?_, ?_, trivial⟩
 exact zMv hz (sv S0)
 exact zNil hz (sd 0 rfl)
 exact zFAo hz rfl rfl (sd 1 rfl) (fun w => by simp [go_sem])
 exact zFAo hz rfl rfl (sd 2 rfl) (fun w => by simp [go_sem])
 exact zLdO 1 hz (sd 3 rfl) (cl0 Cpb (by simp [tagOf, n_pb_p1])) ldo_q64
 exact zSE rfl (sv S4) (by simp [tagOf]) (Cp1.var tQ_nd) (sd 4 rfl) st_q64
 intro a' γ' W' hz' hd' hC hk hh
 replace Cpb := kC hC Cpb (by simp [tagOf, n_pb_p1])
 replace Cp1 := gotE (T := tQ B64 42 b) (id := 55) (p := p1) 5 hh rfl rfl
 clear S0
 replace S4 := kp hk S4
 replace HB := ButB.aft HB hC (by intro m hm; simp at hm; rcases hm with rfl <;> first | exact .inr rfl | exact .inl (by assumption))
 clear hC hk hh; replace hz := hz'; replace hd := hd'; clear hz' hd'
 refine wp_ret ?_
 refine retM_to (T := tQ B64 42 b) (T' := tO [tV (.int .i64 (mnT n)), tQ B64 42 b, tQ B64 42 b, tQ B64 l r] [1, 2, 2, 2]) (p := pb) (sid := 80) (ret1_q64 (by kernel_rfl) S4 hd Cp1 (Below.refl _ _)) Cpb HB ?_ ?_
 exact at_to I (at_cap I hc2 hc5).symm
 exact tO_to ⟨tV_to (by rw [TT_new hc2]), at_to I (at_cap I hc2 hc5).symm, idT, idT, trivial⟩
 rw [decide_eq_false hc5] at S63
 refine wp_cond_false S63.ev ?_
 refine wp_skip ?_
 refine region_text (M := [pb]) (
  rT (tV (.pointer (some ⟨pb, 0, none⟩))) ::
  rT (tV (.int .i64 (mnT n))) ::
  rT (tV (.pointer (some ⟨pb, 0, none⟩))) ::
  rT (tV (.pointer (some ⟨pb, 0, none⟩))) ::
  rT (tV (.pointer (some ⟨pb, 0, none⟩))) ::
  rE 0 80 (tO [tV (.int .i64 (mnT n)), tQ B64 ((l + 41) + (l + 64) + 1) (h + (mulI r (mnT n - t))), tQ B64 42 b, tQ B64 l r] [1, 2, 2, 2]) pb ::
  []) hz hd (by kernel_rfl) ?_ ?_
 refine ⟨?_, ?_, ?_, ?_, ?_, ?_, trivial⟩
 exact zMv hz (sv S0)
 exact zMv hz (sv S1)
 exact zNil hz (sd 0 rfl)
 exact zFAo hz rfl rfl (sd 2 rfl) (fun w => by simp [go_sem])
 exact zFAo hz rfl rfl (sd 3 rfl) (fun w => by simp [go_sem])
 exact zStO 0 rfl (sd 4 rfl) (by simp [tagOf]) (clM (k := 0) Cpb (by simp [tagOf])) Cpb.lt (sd 1 rfl) sto_int (nd_c nd_int (nd_c nd_q (nd_c nd_q (nd_c nd_q nd_nil))))
 intro a' γ' W' hz' hd' hC hk hh
 replace Cpb := gotE (T := tO [tV (.int .i64 (mnT n)), tQ B64 ((l + 41) + (l + 64) + 1) (h + (mulI r (mnT n - t))), tQ B64 42 b, tQ B64 l r] [1, 2, 2, 2]) (id := 80) (p := pb) 5 hh rfl rfl
 have tp1 := Cp1.lt
 replace Cp1 := kC hC Cp1 (by simp [tagOf, n_p1_pb])
 replace S0 := kp hk S0
 replace S4 := kp hk S4
 clear S1
 clear S63
 clear tp1
 replace HB := ButB.aft HB hC (by intro m hm; simp at hm; rcases hm with rfl <;> first | exact .inr rfl | exact .inl (by assumption))
 clear hC hk hh; replace hz := hz'; replace hd := hd'; clear hz' hd'
 refine wp_seq ?_
 refine region_text (M := [p1]) (
  rT (tV (.pointer (some ⟨pb, 0, none⟩))) ::
  rT (tV (.pointer (some ⟨pb, 0, none⟩))) ::
  rT (tV (.pointer (some ⟨pb, 0, none⟩))) ::
  rT (tV (.pointer (some ⟨pb, 1, none⟩))) ::
  rT (tQ B64 ((l + 41) + (l + 64) + 1) (h + (mulI r (mnT n - t)))) ::
  rE 0 55 (tQ B64 ((l + 41) + (l + 64) + 1) (h + (mulI r (mnT n - t)))) p1 ::
  []) hz hd (by kernel_rfl) ?_ ?_
 refine ⟨?_, ?_, ?_, ?_, ?_, ?_, trivial⟩
 exact zMv hz (sv S0)
 exact zNil hz (sd 0 rfl)
 exact zFAo hz rfl rfl (sd 1 rfl) (fun w => by simp [go_sem])
 exact zFAo hz rfl rfl (sd 2 rfl) (fun w => by simp [go_sem])
 exact zLdO 1 hz (sd 3 rfl) (cl0 Cpb (by simp [tagOf, n_pb_p1])) ldo_q64
 exact zSE rfl (sv S4) (by simp [tagOf]) (Cp1.var tQ_nd) (sd 4 rfl) st_q64
 intro a' γ' W' hz' hd' hC hk hh
 replace Cpb := kC hC Cpb (by simp [tagOf, n_pb_p1])
 replace Cp1 := gotE (T := tQ B64 ((l + 41) + (l + 64) + 1) (h + (mulI r (mnT n - t)))) (id := 55) (p := p1) 5 hh rfl rfl
 clear S0
 replace S4 := kp hk S4
 replace HB := ButB.aft HB hC (by intro m hm; simp at hm; rcases hm with rfl <;> first | exact .inr rfl | exact .inl (by assumption))
 clear hC hk hh; replace hz := hz'; replace hd := hd'; clear hz' hd'
 refine wp_ret ?_
 refine retM_to (T := tQ B64 ((l + 41) + (l + 64) + 1) (h + (mulI r (mnT n - t)))) (T' := tO [tV (.int .i64 (mnT n)), tQ B64 ((l + 41) + (l + 64) + 1) (h + (mulI r (mnT n - t))), tQ B64 42 b, tQ B64 l r] [1, 2, 2, 2]) (p := pb) (sid := 80) (ret1_q64 (by kernel_rfl) S4 hd Cp1 (Below.refl _ _)) Cpb HB ?_ ?_
 exact at_to I (at_new I hc2 hc5).symm
 exact tO_to ⟨tV_to (by rw [TT_new hc2]), at_to I (at_new I hc2 hc5).symm, idT, idT, trivial⟩
 rw [decide_eq_false hc3] at S26
 refine wp_cond_false S26.ev ?_
 refine wp_skip ?_
 refine region_text (M := [pb]) (
  rT (tV (.pointer (some ⟨pb, 0, none⟩))) ::
  rT (tV (.int .i64 (mnT n))) ::
  rT (tV (.pointer (some ⟨pb, 0, none⟩))) ::
  rT (tV (.pointer (some ⟨pb, 0, none⟩))) ::
  rT (tV (.pointer (some ⟨pb, 0, none⟩))) ::
  rE 0 80 (tO [tV (.int .i64 (mnT n)), tQ B64 (l + 41) h, tQ B64 42 b, tQ B64 l r] [1, 2, 2, 2]) pb ::
  []) hz hd (by kernel_rfl) ?_ ?_
 refine ⟨?_, ?_, ?_, ?_, ?_, ?_, trivial⟩
 exact zMv hz (sv S0)
 exact zMv hz (sv S1)
 exact zNil hz (sd 0 rfl)
 exact zFAo hz rfl rfl (sd 2 rfl) (fun w => by simp [go_sem])
 exact zFAo hz rfl rfl (sd 3 rfl) (fun w => by simp [go_sem])
 exact zStO 0 rfl (sd 4 rfl) (by simp [tagOf]) (clM (k := 0) Cpb (by simp [tagOf])) Cpb.lt (sd 1 rfl) sto_int (nd_c nd_int (nd_c nd_q (nd_c nd_q (nd_c nd_q nd_nil))))
 intro a' γ' W' hz' hd' hC hk hh
 replace Cpb := gotE (T := tO [tV (.int .i64 (mnT n)), tQ B64 (l + 41) h, tQ B64 42 b, tQ B64 l r] [1, 2, 2, 2]) (id := 80) (p := pb) 5 hh rfl rfl
 have tp1 := Cp1.lt
 replace Cp1 := kC hC Cp1 (by simp [tagOf, n_p1_pb])
 replace S0 := kp hk S0
 replace S4 := kp hk S4
 clear S1
 clear S26
 clear tp1
 replace HB := ButB.aft HB hC (by intro m hm; simp at hm; rcases hm with rfl <;> first | exact .inr rfl | exact .inl (by assumption))
 clear hC hk hh; replace hz := hz'; replace hd := hd'; clear hz' hd'
 refine wp_seq ?_
 refine region_text (M := [p1]) (
  rT (tV (.pointer (some ⟨pb, 0, none⟩))) ::
  rT (tV (.pointer (some ⟨pb, 0, none⟩))) ::
  rT (tV (.pointer (some ⟨pb, 0, none⟩))) ::
  rT (tV (.pointer (some ⟨pb, 1, none⟩))) ::
  rT (tQ B64 (l + 41) h) ::
  rE 0 55 (tQ B64 (l + 41) h) p1 ::
  []) hz hd (by kernel_rfl) ?_ ?_
 refine ⟨?_, ?_, ?_, ?_, ?_, ?_, trivial⟩
 exact zMv hz (sv S0)
 exact zNil hz (sd 0 rfl)
 exact zFAo hz rfl rfl (sd 1 rfl) (fun w => by simp [go_sem])
 exact zFAo hz rfl rfl (sd 2 rfl) (fun w => by simp [go_sem])
 exact zLdO 1 hz (sd 3 rfl) (cl0 Cpb (by simp [tagOf, n_pb_p1])) ldo_q64
 exact zSE rfl (sv S4) (by simp [tagOf]) (Cp1.var tQ_nd) (sd 4 rfl) st_q64
 intro a' γ' W' hz' hd' hC hk hh
 replace Cpb := kC hC Cpb (by simp [tagOf, n_pb_p1])
 replace Cp1 := gotE (T := tQ B64 (l + 41) h) (id := 55) (p := p1) 5 hh rfl rfl
 clear S0
 replace S4 := kp hk S4
 replace HB := ButB.aft HB hC (by intro m hm; simp at hm; rcases hm with rfl <;> first | exact .inr rfl | exact .inl (by assumption))
 clear hC hk hh; replace hz := hz'; replace hd := hd'; clear hz' hd'
 refine wp_ret ?_
 refine retM_to (T := tQ B64 (l + 41) h) (T' := tO [tV (.int .i64 (mnT n)), tQ B64 (l + 41) h, tQ B64 42 b, tQ B64 l r] [1, 2, 2, 2]) (p := pb) (sid := 80) (ret1_q64 (by kernel_rfl) S4 hd Cp1 (Below.refl _ _)) Cpb HB ?_ ?_
 exact at_to I (atH_full I hc3).symm
 exact tO_to ⟨tV_to (by rw [TT_new hc2]), at_to I (atH_full I hc3).symm, idT, idT, trivial⟩
 rw [decide_eq_false hc2] at S15
 refine wp_cond_false S15.ev ?_
 refine wp_skip ?_
 refine wp_seq ?_
 refine region_text (M := [p1]) (
  rT (tV (.pointer (some ⟨pb, 0, none⟩))) ::
  rT (tV (.pointer (some ⟨pb, 0, none⟩))) ::
  rT (tV (.pointer (some ⟨pb, 0, none⟩))) ::
  rT (tV (.pointer (some ⟨pb, 1, none⟩))) ::
  rT (tQ B64 (l + 41) h) ::
  rE 0 55 (tQ B64 (l + 41) h) p1 ::
  []) hz hd (by kernel_rfl) ?_ ?_
 refine ⟨?_, ?_, ?_, ?_, ?_, ?_, trivial⟩
 exact zMv hz (sv S0)
 exact zNil hz (sd 0 rfl)
 exact zFAo hz rfl rfl (sd 1 rfl) (fun w => by simp [go_sem])
 exact zFAo hz rfl rfl (sd 2 rfl) (fun w => by simp [go_sem])
 exact zLdO 1 hz (sd 3 rfl) (cl0 Cpb (by simp [tagOf, n_pb_p1])) ldo_q64
 exact zSE rfl (sv S4) (by simp [tagOf]) (Cp1.var tQ_nd) (sd 4 rfl) st_q64
 intro a' γ' W' hz' hd' hC hk hh
 replace Cpb := kC hC Cpb (by simp [tagOf, n_pb_p1])
 replace Cp1 := gotE (T := tQ B64 (l + 41) h) (id := 55) (p := p1) 5 hh rfl rfl
 clear S0
 replace S4 := kp hk S4
 clear S1
 clear S15
 replace HB := ButB.aft HB hC (by intro m hm; simp at hm; rcases hm with rfl <;> first | exact .inr rfl | exact .inl (by assumption))
 clear hC hk hh; replace hz := hz'; replace hd := hd'; clear hz' hd'
 refine wp_ret ?_
 refine retM_to (T := tQ B64 (l + 41) h) (T' := tO [tV (.int .i64 t), tQ B64 (l + 41) h, tQ B64 42 b, tQ B64 l r] [1, 2, 2, 2]) (p := pb) (sid := 80) (ret1_q64 (by kernel_rfl) S4 hd Cp1 (Below.refl _ _)) Cpb HB ?_ ?_
 exact at_to I (atH_old I (TT_old hc2)).symm
 exact tO_to ⟨tV_to (by rw [TT_old hc2]), at_to I (atH_old I (TT_old hc2)).symm, idT, idT, trivial⟩

end Go.Proofs.Ytojpiiboikomfaa.Rg

namespace Go.Proofs.Ytojpiiboikomfaa.Rg

open Go.RowKit

/-- What a taking tells, and what it leaves. -/
def tkE (h : Rat) (m : Int) : Int := if m < 1 then 1 else if (m : Rat) ≤ h then 0 else 80
def tkH (h : Rat) (m : Int) : Rat := if m < 1 then h else if (m : Rat) ≤ h then h - m else h
theorem div_nn {x y : Rat} (hx : 0 ≤ x) (hy : 0 ≤ y) : 0 ≤ x / y := by
  by_cases h : y = 0
  · rw [h]; simp [Rat.div_def]
  · rw [Rat.div_def]
    have : 0 < y := by grind
    exact Rat.mul_nonneg hx (by have := Rat.inv_pos.2 this; grind)
section

variable {l : Nat} {t t' : Int} {h b r : Rat} {m n : Int}
theorem BInv.take (I : BInv l t h b r) (m : Int) : BInv l t (tkH h m) b r := by
  unfold tkH
  split
  · exact I
  · split
    · rename_i h1 h2
      have h3 := cast_nonneg (show 0 ≤ m by omega)
      exact ⟨I.t0, I.t1, by grind, by have := I.hb; grind, ind_sub I.ind (ind_int m), I.bn, I.r0, I.rd⟩
    · exact I
theorem tkE_1 (h1 : m < 1) : tkE h m = 1 := by unfold tkE; rw [if_pos h1]
theorem tkE_2 (h1 : ¬ m < 1) (h2 : (m : Rat) ≤ h) : tkE h m = 0 := by unfold tkE; rw [if_neg h1, if_pos h2]
theorem tkE_3 (h1 : ¬ m < 1) (h2 : ¬ (m : Rat) ≤ h) : tkE h m = 80 := by unfold tkE; rw [if_neg h1, if_neg h2]
theorem tkH_1 (h1 : m < 1) : tkH h m = h := by unfold tkH; rw [if_pos h1]
theorem tkH_2 (h1 : ¬ m < 1) (h2 : (m : Rat) ≤ h) : tkH h m = subQ h (m : Rat) := by unfold tkH subQ; rw [if_neg h1, if_pos h2, if_pos h2]
theorem tkH_3 (h1 : ¬ m < 1) (h2 : ¬ (m : Rat) ≤ h) : tkH h m = h := by unfold tkH; rw [if_neg h1, if_neg h2]
end
/-- A rate that is told. -/
def RtOk (u : Nat) : Prop := FOk u ∧ ¬ ((1048576 : Int) : Rat) < flQ u
instance (u : Nat) : Decidable (RtOk u) := inferInstanceAs (Decidable (_ ∧ _))
def newE (b : Int) (u : Nat) (per t : Int) : Int := if b < 1 ∨ b > 1099511627776 then 97 else if ¬ RtOk u ∨ per < 1 ∨ per > 1073741824 then 98 else if t < 0 ∨ t > 4611686018427387904 then 1 else 0
section

variable {b per t : Int} {u : Nat}
theorem newE_97 (h : b < 1 ∨ b > 1099511627776) : newE b u per t = 97 := by unfold newE; rw [if_pos h]
theorem newE_98 (h1 : ¬ b < 1) (h2 : ¬ b > 1099511627776) (h : ¬ RtOk u ∨ per < 1 ∨ per > 1073741824) : newE b u per t = 98 := by unfold newE; rw [if_neg (by omega), if_pos h]
theorem newE_1 (h1 : ¬ b < 1) (h2 : ¬ b > 1099511627776) (h3 : RtOk u) (h4 : ¬ per < 1) (h5 : ¬ per > 1073741824) (h : t < 0 ∨ t > 4611686018427387904) : newE b u per t = 1 := by
  unfold newE; rw [if_neg (by omega), if_neg (by rintro (g | g | g) <;> first | exact g h3 | exact h4 g | exact h5 g), if_pos h]
theorem newE_0 (h1 : ¬ b < 1) (h2 : ¬ b > 1099511627776) (h3 : RtOk u) (h4 : ¬ per < 1) (h5 : ¬ per > 1073741824) (h6 : ¬ t < 0) (h7 : ¬ t > 4611686018427387904) : newE b u per t = 0 := by
  unfold newE; rw [if_neg (by omega), if_neg (by rintro (g | g | g) <;> first | exact g h3 | exact h4 g | exact h5 g), if_neg (by omega)]
theorem newE_inv (h : newE b u per t = 0) : ¬ b < 1 ∧ ¬ b > 1099511627776 ∧ FOk u ∧ ¬ ((1048576 : Int) : Rat) < flQ u ∧ ¬ per < 1 ∧ ¬ per > 1073741824 ∧ ¬ t < 0 ∧ ¬ t > 4611686018427387904 := by
  unfold newE at h
  by_cases h1 : b < 1 ∨ b > 1099511627776
  · rw [if_pos h1] at h; omega
  · rw [if_neg h1] at h
    by_cases h2 : ¬ RtOk u ∨ per < 1 ∨ per > 1073741824
    · rw [if_pos h2] at h; omega
    · rw [if_neg h2] at h
      by_cases h3 : t < 0 ∨ t > 4611686018427387904
      · rw [if_pos h3] at h; omega
      · have h4 : RtOk u := by
          by_cases g : RtOk u
          · exact g
          · exact absurd (.inl g) h2
        exact ⟨by omega, by omega, h4.1, h4.2, fun g => h2 (.inr (.inl g)), fun g => h2 (.inr (.inr g)), by omega, by omega⟩
end
theorem mkRat_ind {a : Int} {e K : Nat} (h : e ≤ K) : Ind (2 ^ K) (mkRat a (2 ^ e)) := by
  refine ⟨a * ((2 ^ (K - e) : Nat) : Int), ?_⟩
  have he : ((2 ^ e : Nat) : Rat) ≠ 0 := by
    have := Nat.two_pow_pos e
    intro g; have := Rat.natCast_eq_zero_iff.1 g; omega
  have hk : 2 ^ K = 2 ^ e * 2 ^ (K - e) := by rw [← Nat.pow_add]; congr 1; omega
  rw [Rat.mkRat_eq_div, hk, Rat.natCast_mul, Rat.intCast_mul, Rat.intCast_natCast]
  grind
theorem fl_ind {u K : Nat} (hK : 1100 ≤ K) : Ind (2 ^ K) (flQ u) := by
  unfold flQ
  split
  · unfold fl
    split
    · exact mkRat_ind (e := 1074) (by omega)
    · split
      · exact mkRat_ind (by omega)
      · rw [← Nat.pow_zero 2]; exact mkRat_ind (Nat.zero_le _)
  · exact ind_nat 0
theorem divI_ind {D : Nat} {x : Rat} {n : Int} (h : Ind D x) (hn : 1 ≤ n) : Ind (D * n.toNat) (divI x n) := by
  obtain ⟨m, hm⟩ := h
  refine ⟨m, ?_⟩
  have h0 : (n : Rat) ≠ 0 := by intro g; have := Rat.intCast_eq_zero_iff.1 g; omega
  unfold divI
  rw [if_pos hn, Rat.natCast_mul, toNat_rat (by omega)]
  grind
theorem fl_nonneg (u : Nat) : 0 ≤ flQ u := by
  have key : ∀ (a d : Nat), (0 : Rat) ≤ mkRat (a : Int) d := fun a d => by rw [Rat.mkRat_eq_div]; exact div_nn (cast_nonneg (by omega)) Rat.natCast_nonneg
  unfold flQ
  split
  · unfold fl
    split
    · exact key _ _
    · split
      · exact key _ _
      · exact key _ _
  · exact Rat.le_refl
theorem rate_den {u l : Nat} {n : Int} (hl : 1100 ≤ l) (hn : 1 ≤ n) (hn2 : n ≤ 1073741824) : (divI (flQ u) n).den < 2 ^ (l + 64) := by
  have h1 := ind_den (divI_ind (fl_ind (u := u) hl) hn)
  have h2 := Nat.le_of_dvd (Nat.mul_pos (Nat.two_pow_pos l) (by omega)) h1
  rw [Nat.pow_add]
  refine Nat.lt_of_le_of_lt h2 (Nat.mul_lt_mul_of_pos_left ?_ (Nat.two_pow_pos l))
  have : (2 : Nat) ^ 64 = 18446744073709551616 := rfl
  omega
theorem rate_nonneg {u : Nat} {n : Int} (hn : 1 ≤ n) : 0 ≤ divI (flQ u) n := by
  unfold divI; rw [if_pos hn]
  exact div_nn (fl_nonneg u) (cast_nonneg (by omega))
theorem BInv.new {l : Nat} {b per t : Int} {u : Nat} (hl : 1100 ≤ l) (h : newE b u per t = 0) : BInv (l + 64) t 0 (b : Rat) (divI (flQ u) per) := by
  obtain ⟨h1, h2, h3, h4, h5, h6, h7, h8⟩ := newE_inv h
  refine ⟨by omega, by omega, Rat.le_refl, cast_nonneg (by omega), ind_nat 0, ⟨b.toNat, (toNat_rat (by omega)).symm, by omega⟩, rate_nonneg (by omega), rate_den hl (by omega) (by omega)⟩
theorem c_whl {n : Int} {w : World} (h0 : 0 ≤ n) (hn : n < 9223372036854775808) : Calls Try.prog 32 #[.int .i64 n] w (Ret (tQ B64 63 (n : Rat)) w) := by
  refine (c_bwhole hn).mono ?_
  rintro e w' ⟨v, rfl, hv, hb⟩
  exact ⟨v, rfl, tQ_eq (by rw [ofQ_1, if_pos h0]) _ _ hv, hb⟩
theorem tk_to {l m : Nat} {t : Int} {h b r x : Rat} {n : Int} (I : BInv l t h b r) (e : x = tkH h n) : ∀ v w, (tQ B64 m x).p v w → (tQ B64 (l + 41) (tkH h n)).p v w := fun v w hv => by
  obtain ⟨h1, h2⟩ := (I.take n).bits
  exact qO_fit (by decide) (tQ_eq e _ _ hv) h1 h2
theorem bn_to {l : Nat} {t : Int} {u : Nat} {b per : Int} (hl : 1100 ≤ l) (h : newE b u per t = 0) : ∀ v w, (tO [tV (.int .i64 t), tQ B64 1 0, tQ B64 63 (b : Rat), tQ B64 (l + 64) (divI (flQ u) per)] [1, 2, 2, 2]).p v w → (BKo (l + 64) t 0 (b : Rat) (divI (flQ u) per)).p v w :=
  tO_to ⟨idT, fun v w hv => tQ_le (by decide) (by omega) v w hv, fun v w hv => qO_fit (by decide) hv (BInv.new hl h).bbits.1 (BInv.new hl h).bbits.2, idT, trivial⟩

set_option maxRecDepth 10000 in
set_option maxHeartbeats 2000000 in
theorem c_take {l pb : Nat} {t : Int} {h b r : Rat} {n m : Int} {w : World} (hc : Cell 80 (BKo l t h b r) pb w) (I : BInv l t h b r) (hl : l ≤ 100000) (hm : m < 9223372036854775808) :
    Calls Try.prog 14 #[.pointer (some ⟨pb, 0, none⟩), .int .i64 n, .int .i64 m] w (RetM (tV (.int .i64 (tkE (atH t h b r n) m))) pb 80 (BKo l (TT t n) (tkH (atH t h b r n) m) b r) w) := by
 refine enter Try.func14 rfl Try.ntmps14 (by simp) ?_
 intro a hz hd ha
 have S0 := ha 0 _ rfl
 have S1 := ha 1 _ rfl
 have S2 := ha 2 _ rfl
 clear ha
 have HB : ButB pb w w := ButB.refl _ _
 have Cpb : Cell 80 (tO [tV (.int .i64 t), tQ B64 (l + 41) h, tQ B64 42 b, tQ B64 l r] [1, 2, 2, 2]) pb w := hc
 refine wp_seq ?_
 refine region_text (M := []) (
  rT (tV (.int .i64 0)) ::
  []) hz hd (by kernel_rfl) ?_ ?_
 refine ⟨?_, trivial⟩
 exact zAs hz kc
 intro a' γ' W' hz' hd' hC hk hh
 replace Cpb := kC hC Cpb
 replace S0 := kp hk S0
 replace S1 := kp hk S1
 replace S2 := kp hk S2
 have S6 := gotV hz' 0 hh rfl rfl rfl rfl
 replace HB := ButB.aft HB hC (by simp)
 clear hC hk hh; replace hz := hz'; replace hd := hd'; clear hz' hd'
 refine wp_seq ?_
 refine region_text (M := [pb]) (
  rT (tV (.pointer (some ⟨pb, 0, none⟩))) ::
  rT (tV (.int .i64 n)) ::
  rCM 0 (tQ B64 (l + 41) (atH t h b r n)) 80 (tO [tV (.int .i64 (TT t n)), tQ B64 (l + 41) (atH t h b r n), tQ B64 42 b, tQ B64 l r] [1, 2, 2, 2]) pb ::
  []) hz hd (by kernel_rfl) ?_ ?_
 refine ⟨?_, ?_, ?_, trivial⟩
 exact zMv hz (sv S0)
 exact zMv hz (sv S1)
 exact zCM (k := 0) (p := pb) (sid := 80) (T1 := tO [tV (.int .i64 t), tQ B64 (l + 41) h, tQ B64 42 b, tQ B64 l r] [1, 2, 2, 2]) (T := tO [tV (.int .i64 (TT t n)), tQ B64 (l + 41) (atH t h b r n), tQ B64 42 b, tQ B64 l r] [1, 2, 2, 2]) (T0 := tQ B64 (l + 41) (atH t h b r n)) hz rfl Try.func23 (by simp [tagOf]) Cpb.lt (clM (k := 0) Cpb (by simp [tagOf])) (tO_nd (nd_c nd_int (nd_c nd_q (nd_c nd_q (nd_c nd_q nd_nil))))) (tO_nd (nd_c nd_int (nd_c nd_q (nd_c nd_q (nd_c nd_q nd_nil))))) (fun a γ w U hcell => (by show Calls _ _ #[a.eval (.tmp 9), a.eval (.tmp 10)] _ _; rw [show a.eval (.tmp 9) = .pointer (some ⟨pb, 0, none⟩) from Src.at_ (sd 0 rfl) U, show a.eval (.tmp 10) = .int .i64 n from Src.at_ (sd 1 rfl) U]; exact c_at (n := n) hcell I hl))
 intro a' γ' W' hz' hd' hC hk hh
 replace Cpb := gotM (T := tO [tV (.int .i64 (TT t n)), tQ B64 (l + 41) (atH t h b r n), tQ B64 42 b, tQ B64 l r] [1, 2, 2, 2]) (T0 := tQ B64 (l + 41) (atH t h b r n)) (sid := 80) (k := 0) (p := pb) hz' 2 hh rfl rfl
 replace S0 := kp hk S0
 clear S1
 replace S2 := kp hk S2
 replace S6 := kp hk S6
 replace HB := ButB.aft HB hC (by intro m hm; simp at hm; rcases hm with rfl <;> first | exact .inr rfl | exact .inl (by assumption))
 clear hC hk hh; replace hz := hz'; replace hd := hd'; clear hz' hd'
 refine wp_seq ?_
 refine wp_seq ?_
 refine region_text (M := []) (
  rT (tV (.int .i64 m)) ::
  rT (tV (.bool (decide (m < 1)))) ::
  []) hz hd (by kernel_rfl) ?_ ?_
 refine ⟨?_, ?_, trivial⟩
 exact zMv hz (sv S2)
 exact sBin rfl rfl rfl hz rfl (Gd.none_ rfl) rfl (sd 0 rfl) kc (fun w => run_lss)
 intro a' γ' W' hz' hd' hC hk hh
 replace Cpb := kC hC Cpb
 replace S0 := kp hk S0
 replace S2 := kp hk S2
 replace S6 := kp hk S6
 have S13 := gotV hz' 1 hh rfl rfl rfl rfl
 replace HB := ButB.aft HB hC (by simp)
 clear hC hk hh; replace hz := hz'; replace hd := hd'; clear hz' hd'
 by_cases hc1 : m < 1
 rw [decide_eq_true hc1] at S13
 refine wp_cond_true S13.ev ?_
 refine wp_seq ?_
 refine region_text (M := []) (
  rT (tV (.int .i64 1)) ::
  []) hz hd (by kernel_rfl) ?_ ?_
 refine ⟨?_, trivial⟩
 exact zAs hz kc
 intro a' γ' W' hz' hd' hC hk hh
 replace Cpb := kC hC Cpb
 replace S0 := kp hk S0
 replace S2 := kp hk S2
 clear S6
 clear S13
 have S6 := gotV hz' 0 hh rfl rfl rfl rfl
 replace HB := ButB.aft HB hC (by simp)
 clear hC hk hh; replace hz := hz'; replace hd := hd'; clear hz' hd'
 refine wp_ret ?_
 refine retM_to (T := tV (.int .i64 1)) (T' := tO [tV (.int .i64 (TT t n)), tQ B64 (l + 41) (atH t h b r n), tQ B64 42 b, tQ B64 l r] [1, 2, 2, 2]) (p := pb) (sid := 80) (ret1 (by kernel_rfl) S6 hd ⟨_, rfl, rfl, Below.refl _ _⟩) Cpb HB ?_ ?_
 exact tV_to (by rw [tkE_1 hc1])
 exact tO_to ⟨idT, tk_to (I.at_ n) (by rw [tkH_1 hc1]), idT, idT, trivial⟩
 rw [decide_eq_false hc1] at S13
 refine wp_cond_false S13.ev ?_
 refine wp_skip ?_
 refine wp_seq ?_
 refine region_drawn (M := []) (
  rT (tV (.pointer (some ⟨pb, 0, none⟩))) ::
  rT (tV (.pointer (some ⟨pb, 0, none⟩))) ::
  rT (tV (.pointer (some ⟨pb, 0, none⟩))) ::
  rT (tV (.pointer (some ⟨pb, 1, none⟩))) ::
  rT (tQ B64 (l + 41) (atH t h b r n)) ::
  rT (tV (.int .i64 m)) ::
  rT (tQ B64 63 ((m : Rat))) ::
  rT (tT [tQ B64 ((l + 41) + 63 + 1) (subQ (atH t h b r n) ((m : Rat))), tV (.bool (decide ((m : Rat) ≤ atH t h b r n)))]) ::
  rT (tT [tQ B64 ((l + 41) + 63 + 1) (subQ (atH t h b r n) ((m : Rat))), tV (.bool (decide ((m : Rat) ≤ atH t h b r n)))]) ::
  rT (tQ B64 ((l + 41) + 63 + 1) (subQ (atH t h b r n) ((m : Rat)))) ::
  rT (tV (.bool (decide ((m : Rat) ≤ atH t h b r n)))) ::
  rVar 11 55 2 ::
  rB 11 55 (tQ B64 ((l + 41) + 63 + 1) (subQ (atH t h b r n) ((m : Rat)))) (some 11) 12 ::
  rT (tV (.bool (decide ((m : Rat) ≤ atH t h b r n)))) ::
  []) hz hd (by kernel_rfl) (by kernel_rfl) ?_ ?_
 refine ⟨?_, ?_, ?_, ?_, ?_, ?_, ?_, ?_, ?_, ?_, ?_, ?_, ?_, ?_, trivial⟩
 exact zMv hz (sv S0)
 exact zNil hz (sd 0 rfl)
 exact zFAo hz rfl rfl (sd 1 rfl) (fun w => by simp [go_sem])
 exact zFAo hz rfl rfl (sd 2 rfl) (fun w => by simp [go_sem])
 exact zLdO 1 hz (sd 3 rfl) (cl0 Cpb) ldo_q64
 exact zMv hz (sv S2)
 exact zC1 hz Try.func32 (sd 5 rfl) (k1 (fun _ => c_whl (n := m) (by omega) (by omega)))
 exact zC2 hz Try.func40 (sd 4 rfl) (sd 6 rfl) (fun _ _ _ h0 h1 => cq_sub h0 h1 (by omega) (by decide))
 exact zMv hz (sd 7 rfl)
 exact zExt hz (sd 8 rfl)
 exact zExt hz (sd 8 rfl)
 exact zAl hz nd_rat al_r64
 exact zSt (sd 9 rfl) st_q64
 exact zAs hz (sd 10 rfl)
 intro a' γ' W' hz' hd' hC hk hh
 have epb := Cpb.lt
 have tpb := Cpb.lt
 replace Cpb := kC hC Cpb
 replace S0 := kp hk S0
 clear S2
 replace S6 := kp hk S6
 clear S13
 obtain ⟨p2, S7, Cp2, lp2, gp2⟩ := gotB hz' 12 hC hh rfl rfl rfl rfl rfl rfl
 have S8 := gotV hz' 13 hh rfl rfl rfl rfl
 have n_pb_p2 : pb ≠ p2 := by have := epb; omega
 have bp2 : w.heap.size ≤ p2 := Nat.le_trans HB.size lp2
 have n_p2_pb : p2 ≠ pb := by omega
 have n_pb_p2 := Ne.symm n_p2_pb
 clear tpb
 clear lp2 gp2
 clear epb
 replace HB := ButB.aft HB hC (by simp)
 clear hC hk hh; replace hz := hz'; replace hd := hd'; clear hz' hd'
 refine wp_seq ?_
 refine wp_seq ?_
 by_cases hc3 : (m : Rat) ≤ atH t h b r n
 rw [decide_eq_true hc3] at S8
 refine region_text (M := []) (
  rT (tV (.bool true)) ::
  rT (tV (.bool false)) ::
  []) hz hd (by kernel_rfl) ?_ ?_
 refine ⟨?_, ?_, trivial⟩
 exact zMv hz (sv S8)
 exact zNot hz (sd 0 rfl)
 intro a' γ' W' hz' hd' hC hk hh
 replace Cpb := kC hC Cpb
 have tp2 := Cp2.lt
 replace Cp2 := kC hC Cp2
 replace S0 := kp hk S0
 replace S6 := kp hk S6
 replace S7 := kp hk S7
 clear S8
 have S26 := gotV hz' 1 hh rfl rfl rfl rfl
 clear tp2
 replace HB := ButB.aft HB hC (by simp)
 clear hC hk hh; replace hz := hz'; replace hd := hd'; clear hz' hd'
 refine wp_cond_false S26.ev ?_
 refine wp_skip ?_
 refine wp_seq ?_
 refine region_text (M := [pb]) (
  rT (tV (.pointer (some ⟨pb, 0, none⟩))) ::
  rT (tQ B64 ((l + 41) + 63 + 1) (subQ (atH t h b r n) ((m : Rat)))) ::
  rT (tV (.pointer (some ⟨pb, 0, none⟩))) ::
  rT (tV (.pointer (some ⟨pb, 0, none⟩))) ::
  rT (tV (.pointer (some ⟨pb, 1, none⟩))) ::
  rE 0 80 (tO [tV (.int .i64 (TT t n)), tQ B64 ((l + 41) + 63 + 1) (subQ (atH t h b r n) ((m : Rat))), tQ B64 42 b, tQ B64 l r] [1, 2, 2, 2]) pb ::
  []) hz hd (by kernel_rfl) ?_ ?_
 refine ⟨?_, ?_, ?_, ?_, ?_, ?_, trivial⟩
 exact zMv hz (sv S0)
 exact zLd hz (sv S7) Cp2 ld_q64 (by simp [tagOf, n_p2_pb])
 exact zNil hz (sd 0 rfl)
 exact zFAo hz rfl rfl (sd 2 rfl) (fun w => by simp [go_sem])
 exact zFAo hz rfl rfl (sd 3 rfl) (fun w => by simp [go_sem])
 exact zStO 1 rfl (sd 4 rfl) (by simp [tagOf]) (clM (k := 0) Cpb (by simp [tagOf])) Cpb.lt (sd 1 rfl) sto_q64 (nd_c nd_int (nd_c nd_q (nd_c nd_q (nd_c nd_q nd_nil))))
 intro a' γ' W' hz' hd' hC hk hh
 replace Cpb := gotE (T := tO [tV (.int .i64 (TT t n)), tQ B64 ((l + 41) + 63 + 1) (subQ (atH t h b r n) ((m : Rat))), tQ B64 42 b, tQ B64 l r] [1, 2, 2, 2]) (id := 80) (p := pb) 5 hh rfl rfl
 have tp2 := Cp2.lt
 clear Cp2
 clear S0
 replace S6 := kp hk S6
 clear S7
 clear S26
 clear tp2
 replace HB := ButB.aft HB hC (by intro m hm; simp at hm; rcases hm with rfl <;> first | exact .inr rfl | exact .inl (by assumption))
 clear hC hk hh; replace hz := hz'; replace hd := hd'; clear hz' hd'
 refine wp_seq ?_
 refine region_text (M := []) (
  rT (tV (.int .i64 0)) ::
  []) hz hd (by kernel_rfl) ?_ ?_
 refine ⟨?_, trivial⟩
 exact zAs hz kc
 intro a' γ' W' hz' hd' hC hk hh
 replace Cpb := kC hC Cpb
 clear S6
 have S6 := gotV hz' 0 hh rfl rfl rfl rfl
 replace HB := ButB.aft HB hC (by simp)
 clear hC hk hh; replace hz := hz'; replace hd := hd'; clear hz' hd'
 refine wp_ret ?_
 refine retM_to (T := tV (.int .i64 0)) (T' := tO [tV (.int .i64 (TT t n)), tQ B64 ((l + 41) + 63 + 1) (subQ (atH t h b r n) ((m : Rat))), tQ B64 42 b, tQ B64 l r] [1, 2, 2, 2]) (p := pb) (sid := 80) (ret1 (by kernel_rfl) S6 hd ⟨_, rfl, rfl, Below.refl _ _⟩) Cpb HB ?_ ?_
 exact tV_to (by rw [tkE_2 hc1 hc3])
 exact tO_to ⟨idT, tk_to (I.at_ n) (by rw [tkH_2 hc1 hc3]), idT, idT, trivial⟩
 rw [decide_eq_false hc3] at S8
 refine region_text (M := []) (
  rT (tV (.bool false)) ::
  rT (tV (.bool true)) ::
  []) hz hd (by kernel_rfl) ?_ ?_
 refine ⟨?_, ?_, trivial⟩
 exact zMv hz (sv S8)
 exact zNot hz (sd 0 rfl)
 intro a' γ' W' hz' hd' hC hk hh
 replace Cpb := kC hC Cpb
 have tp2 := Cp2.lt
 replace Cp2 := kC hC Cp2
 replace S0 := kp hk S0
 replace S6 := kp hk S6
 replace S7 := kp hk S7
 clear S8
 have S26 := gotV hz' 1 hh rfl rfl rfl rfl
 clear tp2
 replace HB := ButB.aft HB hC (by simp)
 clear hC hk hh; replace hz := hz'; replace hd := hd'; clear hz' hd'
 refine wp_cond_true S26.ev ?_
 refine wp_seq ?_
 refine region_text (M := []) (
  rT (tV (.int .i64 80)) ::
  []) hz hd (by kernel_rfl) ?_ ?_
 refine ⟨?_, trivial⟩
 exact zAs hz kc
 intro a' γ' W' hz' hd' hC hk hh
 replace Cpb := kC hC Cpb
 have tp2 := Cp2.lt
 replace Cp2 := kC hC Cp2
 replace S0 := kp hk S0
 clear S6
 replace S7 := kp hk S7
 clear S26
 have S6 := gotV hz' 0 hh rfl rfl rfl rfl
 clear tp2
 replace HB := ButB.aft HB hC (by simp)
 clear hC hk hh; replace hz := hz'; replace hd := hd'; clear hz' hd'
 refine wp_ret ?_
 refine retM_to (T := tV (.int .i64 80)) (T' := tO [tV (.int .i64 (TT t n)), tQ B64 (l + 41) (atH t h b r n), tQ B64 42 b, tQ B64 l r] [1, 2, 2, 2]) (p := pb) (sid := 80) (ret1 (by kernel_rfl) S6 hd ⟨_, rfl, rfl, Below.refl _ _⟩) Cpb HB ?_ ?_
 exact tV_to (by rw [tkE_3 hc1 hc3])
 exact tO_to ⟨idT, tk_to (I.at_ n) (by rw [tkH_3 hc1 hc3]), idT, idT, trivial⟩

set_option maxRecDepth 10000 in
set_option maxHeartbeats 2000000 in
theorem c_new_ok {l u : Nat} {bn per t : Int} {w : World} (hl : 1100 ≤ l) (hl2 : l ≤ 90000) (hu : u < 18446744073709551616) (hp : per < 9223372036854775808) (hE : newE bn u per t = 0) :
    Calls Try.prog 9 #[.int .i64 bn, .float .f64 u, .int .i64 per, .int .i64 t] w (RetN 80 (BKo (l + 64) t 0 (bn : Rat) (divI (flQ u) per)) (.int .i64 0) w) := by
 refine enter Try.func9 rfl Try.ntmps9 (by simp) ?_
 intro a hz hd ha
 have S0 := ha 0 _ rfl
 have S1 := ha 1 _ rfl
 have S2 := ha 2 _ rfl
 have S3 := ha 3 _ rfl
 clear ha
 have HB : Below w.heap.size w w := Below.refl _ _
 obtain ⟨E1, E2, E3, E4, E5, E6, E7, E8⟩ := newE_inv hE
 refine wp_seq ?_
 refine region_text (M := []) (
  rT (tV (.pointer none)) ::
  rT (tV (.int .i64 0)) ::
  []) hz hd (by kernel_rfl) ?_ ?_
 refine ⟨?_, ?_, trivial⟩
 exact zAs hz kc
 exact zAs hz kc
 intro a' γ' W' hz' hd' hC hk hh
 replace S0 := kp hk S0
 replace S1 := kp hk S1
 replace S2 := kp hk S2
 replace S3 := kp hk S3
 have S8 := gotV hz' 0 hh rfl rfl rfl rfl
 have S9 := gotV hz' 1 hh rfl rfl rfl rfl
 replace HB := aft_call HB (RelC.below_nil hC)
 clear hC hk hh; replace hz := hz'; replace hd := hd'; clear hz' hd'
 refine wp_seq ?_
 refine region_text (M := []) (
  rT (tV (.float .f64 u)) ::
  rT (tT [tQ B64 l (flQ u), tV (.bool (decide (FOk u)))]) ::
  rT (tT [tQ B64 l (flQ u), tV (.bool (decide (FOk u)))]) ::
  rT (tQ B64 l (flQ u)) ::
  rT (tV (.bool (decide (FOk u)))) ::
  rVar 5 55 2 ::
  rB 5 55 (tQ B64 l (flQ u)) (some 5) 6 ::
  rT (tV (.bool (decide (FOk u)))) ::
  []) hz hd (by kernel_rfl) ?_ ?_
 refine ⟨?_, ?_, ?_, ?_, ?_, ?_, ?_, ?_, trivial⟩
 exact zMv hz (sv S1)
 exact zC1 hz Try.func31 (sd 0 rfl) (k1 (fun _ => c_fromfloat (l := l) (u := u) hu hl))
 exact zMv hz (sd 1 rfl)
 exact zExt hz (sd 2 rfl)
 exact zExt hz (sd 2 rfl)
 exact zAl hz nd_rat al_r64
 exact zSt (sd 3 rfl) st_q64
 exact zAs hz (sd 4 rfl)
 intro a' γ' W' hz' hd' hC hk hh
 replace S0 := kp hk S0
 clear S1
 replace S2 := kp hk S2
 replace S3 := kp hk S3
 replace S8 := kp hk S8
 replace S9 := kp hk S9
 obtain ⟨p1, S10, Cp1, lp1, gp1⟩ := gotB hz' 6 hC hh rfl rfl rfl rfl rfl rfl
 have S11 := gotV hz' 7 hh rfl rfl rfl rfl
 have bp1 : w.heap.size ≤ p1 := Nat.le_trans HB.size lp1
 clear lp1 gp1
 replace HB := aft_call HB (RelC.below_nil hC)
 clear hC hk hh; replace hz := hz'; replace hd := hd'; clear hz' hd'
 refine wp_seq ?_
 refine wp_block ?_
 refine wp_seq ?_
 have hc2 : ¬ (bn < 1) := E1
 refine region_text (M := []) (
  rT (tV (.int .i64 bn)) ::
  rT (tV (.bool false)) ::
  rT (tV (.bool false)) ::
  rT (tV (.int .i64 bn)) ::
  rT (tV (.bool (decide (bn > 1099511627776)))) ::
  rT (tV (.bool (decide (bn > 1099511627776)))) ::
  rT (tV (.bool (decide (bn > 1099511627776)))) ::
  []) hz hd (by kernel_rfl) ?_ ?_
 refine ⟨?_, ?_, ?_, ?_, ?_, ?_, ?_, trivial⟩
 exact zMv hz (sv S0)
 exact sBin rfl rfl rfl hz rfl (Gd.none_ rfl) rfl (sd 0 rfl) kc (fun w => run_f (P := bn < 1) ((fun w => run_lss) w) hc2)
 exact zMv hz (sd 1 rfl)
 exact zMv hz (sv S0) (g := gT 2 rfl)
 exact sBin rfl rfl rfl hz rfl (gT 2 rfl) rfl (sd 3 rfl) kc (fun w => run_gtr)
 exact zPF hz (sd 2 rfl) (sd 4 rfl)
 exact zAs hz (sd 5 rfl)
 intro a' γ' W' hz' hd' hC hk hh
 have tp1 := Cp1.lt
 replace Cp1 := kC hC Cp1
 replace S0 := kp hk S0
 replace S2 := kp hk S2
 replace S3 := kp hk S3
 replace S8 := kp hk S8
 replace S9 := kp hk S9
 replace S10 := kp hk S10
 replace S11 := kp hk S11
 have S17 := gotV hz' 6 hh rfl rfl rfl rfl
 clear tp1
 replace HB := aft_call HB (RelC.below_nil hC)
 clear hC hk hh; replace hz := hz'; replace hd := hd'; clear hz' hd'
 have hc3 : ¬ (bn > 1099511627776) := E2
 rw [decide_eq_false hc3] at S17
 refine wp_cond_false S17.ev ?_
 refine wp_seq ?_
 have hc4 : FOk u := E3
 rw [decide_eq_true hc4] at S11
 have hc5 : ¬ (((1048576 : Int) : Rat) < flQ u) := E4
 have hc6 : ¬ (per < 1) := E5
 refine region_drawn (M := []) (
  rT (tV (.bool true)) ::
  rT (tV (.bool false)) ::
  rT (tV (.bool false)) ::
  rT (tQ B64 l (flQ u)) ::
  rT (tQ B64 63 (((1048576 : Int) : Rat))) ::
  rT (tV (.int .i64 (cmpQ (flQ u) (((1048576 : Int) : Rat))))) ::
  rT (tV (.bool false)) ::
  rT (tV (.bool false)) ::
  rT (tV (.bool false)) ::
  rT (tV (.int .i64 per)) ::
  rT (tV (.bool false)) ::
  rT (tV (.bool false)) ::
  rT (tV (.bool false)) ::
  rT (tV (.int .i64 per)) ::
  rT (tV (.bool (decide (per > 1073741824)))) ::
  rT (tV (.bool (decide (per > 1073741824)))) ::
  rT (tV (.bool (decide (per > 1073741824)))) ::
  []) hz hd (by kernel_rfl) (by kernel_rfl) ?_ ?_
 refine ⟨?_, ?_, ?_, ?_, ?_, ?_, ?_, ?_, ?_, ?_, ?_, ?_, ?_, ?_, ?_, ?_, ?_, trivial⟩
 exact zMv hz (sv S11)
 exact zNot hz (sd 0 rfl)
 exact zMv hz (sd 1 rfl)
 exact zLd hz (sv S10) Cp1 ld_q64 (g := gT 2 rfl)
 exact zC1 hz Try.func32 (kc (v := .int .i64 1048576)) (k1 (fun _ => c_whl (n := 1048576) (by decide) (by decide))) (g := gT 2 rfl)
 exact zC2 hz Try.func30 (sd 3 rfl) (sd 4 rfl) (fun _ _ _ h0 h1 => cq_cmp h0 h1 (by omega) (by decide)) (g := gT 2 rfl)
 exact sBin rfl rfl rfl hz rfl (gT 2 rfl) rfl (sd 5 rfl) kc (fun w => run_f (P := ((1048576 : Int) : Rat) < flQ u) ((fun w => run_cQ_gtr (flQ u) (((1048576 : Int) : Rat)) w) w) hc5)
 exact zPF hz (sd 2 rfl) (sd 6 rfl)
 exact zMv hz (sd 7 rfl)
 exact zMv hz (sv S2) (g := gT 8 rfl)
 exact sBin rfl rfl rfl hz rfl (gT 8 rfl) rfl (sd 9 rfl) kc (fun w => run_f (P := per < 1) ((fun w => run_lss) w) hc6)
 exact zPF hz (sd 8 rfl) (sd 10 rfl)
 exact zMv hz (sd 11 rfl)
 exact zMv hz (sv S2) (g := gT 12 rfl)
 exact sBin rfl rfl rfl hz rfl (gT 12 rfl) rfl (sd 13 rfl) kc (fun w => run_gtr)
 exact zPF hz (sd 12 rfl) (sd 14 rfl)
 exact zAs hz (sd 15 rfl)
 intro a' γ' W' hz' hd' hC hk hh
 have tp1 := Cp1.lt
 replace Cp1 := kC hC Cp1
 replace S0 := kp hk S0
 replace S2 := kp hk S2
 replace S3 := kp hk S3
 replace S8 := kp hk S8
 replace S9 := kp hk S9
 replace S10 := kp hk S10
 clear S11
 clear S17
 have S24 := gotV hz' 16 hh rfl rfl rfl rfl
 clear tp1
 replace HB := aft_call HB (RelC.below_nil hC)
 clear hC hk hh; replace hz := hz'; replace hd := hd'; clear hz' hd'
 have hc7 : ¬ (per > 1073741824) := E6
 rw [decide_eq_false hc7] at S24
 refine wp_cond_false S24.ev ?_
 refine wp_seq ?_
 have hc8 : ¬ (t < 0) := E7
 refine region_text (M := []) (
  rT (tV (.int .i64 t)) ::
  rT (tV (.bool false)) ::
  rT (tV (.bool false)) ::
  rT (tV (.int .i64 t)) ::
  rT (tV (.bool (decide (t > 4611686018427387904)))) ::
  rT (tV (.bool (decide (t > 4611686018427387904)))) ::
  rT (tV (.bool (decide (t > 4611686018427387904)))) ::
  []) hz hd (by kernel_rfl) ?_ ?_
 refine ⟨?_, ?_, ?_, ?_, ?_, ?_, ?_, trivial⟩
 exact zMv hz (sv S3)
 exact sBin rfl rfl rfl hz rfl (Gd.none_ rfl) rfl (sd 0 rfl) kc (fun w => run_f (P := t < 0) ((fun w => run_lss) w) hc8)
 exact zMv hz (sd 1 rfl)
 exact zMv hz (sv S3) (g := gT 2 rfl)
 exact sBin rfl rfl rfl hz rfl (gT 2 rfl) rfl (sd 3 rfl) kc (fun w => run_gtr)
 exact zPF hz (sd 2 rfl) (sd 4 rfl)
 exact zAs hz (sd 5 rfl)
 intro a' γ' W' hz' hd' hC hk hh
 have tp1 := Cp1.lt
 replace Cp1 := kC hC Cp1
 replace S0 := kp hk S0
 replace S2 := kp hk S2
 replace S3 := kp hk S3
 replace S8 := kp hk S8
 replace S9 := kp hk S9
 replace S10 := kp hk S10
 clear S24
 have S41 := gotV hz' 6 hh rfl rfl rfl rfl
 clear tp1
 replace HB := aft_call HB (RelC.below_nil hC)
 clear hC hk hh; replace hz := hz'; replace hd := hd'; clear hz' hd'
 have hc9 : ¬ (t > 4611686018427387904) := E8
 rw [decide_eq_false hc9] at S41
 refine wp_cond_false S41.ev ?_
 refine wp_skip ?_
 refine wp_seq ?_
 refine region_text (M := [p1]) (
  rT (tQ B64 l (flQ u)) ::
  rT (tV (.int .i64 per)) ::
  rT (tT [tQ B64 (l + 64) (divI (flQ u) per), tV (.bool (decide (1 ≤ per)))]) ::
  rT (tT [tQ B64 (l + 64) (divI (flQ u) per), tV (.bool (decide (1 ≤ per)))]) ::
  rT (tQ B64 (l + 64) (divI (flQ u) per)) ::
  rT (tV (.bool (decide (1 ≤ per)))) ::
  rE 0 55 (tQ B64 (l + 64) (divI (flQ u) per)) p1 ::
  []) hz hd (by kernel_rfl) ?_ ?_
 refine ⟨?_, ?_, ?_, ?_, ?_, ?_, ?_, trivial⟩
 exact sLoadM rfl rfl rfl hz rfl (Gd.none_ rfl) rfl (sv S10) Cp1 (k := 0) (by simp [tagOf]) (by kernel_rfl) ld_q64
 exact zMv hz (sv S2)
 exact zC2 hz Try.func33 (sd 0 rfl) (sd 1 rfl) (k01 (fun _ _ h0 => cq_divint (n := per) h0 (by omega) (by omega)))
 exact zMv hz (sd 2 rfl)
 exact zExt hz (sd 3 rfl)
 exact zExt hz (sd 3 rfl)
 exact zSE rfl (sv S10) (by simp [tagOf]) (Cp1.var tQ_nd) (sd 4 rfl) st_q64
 intro a' γ' W' hz' hd' hC hk hh
 replace Cp1 := gotE (T := tQ B64 (l + 64) (divI (flQ u) per)) (id := 55) (p := p1) 6 hh rfl rfl
 replace S0 := kp hk S0
 clear S2
 replace S3 := kp hk S3
 replace S8 := kp hk S8
 replace S9 := kp hk S9
 replace S10 := kp hk S10
 clear S41
 replace HB := RelC.aftM HB hC (by intro m hm; simp at hm; rcases hm with rfl <;> assumption)
 clear hC hk hh; replace hz := hz'; replace hd := hd'; clear hz' hd'
 refine wp_seq ?_
 refine region_drawn (M := []) (
  rT (tV (.int .i64 t)) ::
  rT (tO [tV (.int .i64 t), tQ B64 1 0] [1, 2]) ::
  rT (tV (.int .i64 bn)) ::
  rT (tQ B64 63 ((bn : Rat))) ::
  rT (tQ B64 (l + 64) (divI (flQ u) per)) ::
  rT (tO [tV (.int .i64 t), tQ B64 1 0, tQ B64 63 ((bn : Rat)), tQ B64 (l + 64) (divI (flQ u) per)] [1, 2, 2, 2]) ::
  rB 6 80 (tO [tV (.int .i64 t), tQ B64 1 0, tQ B64 63 ((bn : Rat)), tQ B64 (l + 64) (divI (flQ u) per)] [1, 2, 2, 2]) none 0 ::
  rB 6 80 (tO [tV (.int .i64 t), tQ B64 1 0, tQ B64 63 ((bn : Rat)), tQ B64 (l + 64) (divI (flQ u) per)] [1, 2, 2, 2]) none 0 ::
  rT (tV (.int .i64 0)) ::
  []) hz hd (by kernel_rfl) (by kernel_rfl) ?_ ?_
 refine ⟨?_, ?_, ?_, ?_, ?_, ?_, ?_, ?_, ?_, trivial⟩
 exact zMv hz (sv S3)
 exact zBd1 hz (sd 0 rfl) mk_st
 exact zMv hz (sv S0)
 exact zC1 hz Try.func32 (sd 2 rfl) (k1 (fun _ => c_whl (n := bn) (by omega) (by omega)))
 exact zLd hz (sv S10) Cp1 ld_q64
 exact zBd3 hz (sd 1 rfl) (sd 3 rfl) (sd 4 rfl) mk_bk
 exact zBox hz (sd 5 rfl) box_bk
 exact zPP 6 6 rfl rfl hz (.inr rfl) ⟨_, rfl, rfl⟩
 exact zAs hz kc
 intro a' γ' W' hz' hd' hC hk hh
 have ep1 := Cp1.lt
 have tp1 := Cp1.lt
 clear Cp1
 clear S0
 clear S3
 clear S8
 clear S9
 clear S10
 obtain ⟨p10, S8, Cp10, lp10, gp10⟩ := gotP hz' 7 hC hh rfl rfl rfl rfl rfl
 have S9 := gotV hz' 8 hh rfl rfl rfl rfl
 have bp10 : w.heap.size ≤ p10 := Nat.le_trans HB.size lp10
 clear lp10 gp10
 clear tp1
 clear ep1
 replace HB := aft_call HB (RelC.below_nil hC)
 clear hC hk hh; replace hz := hz'; replace hd := hd'; clear hz' hd'
 refine wp_ret ?_
 refine retN_to (T := tO [tV (.int .i64 t), tQ B64 1 0, tQ B64 63 ((bn : Rat)), tQ B64 (l + 64) (divI (flQ u) per)] [1, 2, 2, 2]) (retN (by kernel_rfl) S8 S9 hd Cp10 bp10 HB) ?_
 exact bn_to hl hE

set_option maxRecDepth 10000 in
set_option maxHeartbeats 2000000 in
theorem c_new_no {l u : Nat} {bn per t : Int} {w : World} (hl : 1100 ≤ l) (hl2 : l ≤ 90000) (hu : u < 18446744073709551616) (hp : per < 9223372036854775808) (hE : newE bn u per t ≠ 0) :
    Calls Try.prog 9 #[.int .i64 bn, .float .f64 u, .int .i64 per, .int .i64 t] w (Ret (tT [tV (.pointer none), tV (.int .i64 (newE bn u per t))]) w) := by
 refine enter Try.func9 rfl Try.ntmps9 (by simp) ?_
 intro a hz hd ha
 have S0 := ha 0 _ rfl
 have S1 := ha 1 _ rfl
 have S2 := ha 2 _ rfl
 have S3 := ha 3 _ rfl
 clear ha
 have HB : Below w.heap.size w w := Below.refl _ _
 refine wp_seq ?_
 refine region_text (M := []) (
  rT (tV (.pointer none)) ::
  rT (tV (.int .i64 0)) ::
  []) hz hd (by kernel_rfl) ?_ ?_
 refine ⟨?_, ?_, trivial⟩
 exact zAs hz kc
 exact zAs hz kc
 intro a' γ' W' hz' hd' hC hk hh
 replace S0 := kp hk S0
 replace S1 := kp hk S1
 replace S2 := kp hk S2
 replace S3 := kp hk S3
 have S8 := gotV hz' 0 hh rfl rfl rfl rfl
 have S9 := gotV hz' 1 hh rfl rfl rfl rfl
 replace HB := aft_call HB (RelC.below_nil hC)
 clear hC hk hh; replace hz := hz'; replace hd := hd'; clear hz' hd'
 refine wp_seq ?_
 refine region_text (M := []) (
  rT (tV (.float .f64 u)) ::
  rT (tT [tQ B64 l (flQ u), tV (.bool (decide (FOk u)))]) ::
  rT (tT [tQ B64 l (flQ u), tV (.bool (decide (FOk u)))]) ::
  rT (tQ B64 l (flQ u)) ::
  rT (tV (.bool (decide (FOk u)))) ::
  rVar 5 55 2 ::
  rB 5 55 (tQ B64 l (flQ u)) (some 5) 6 ::
  rT (tV (.bool (decide (FOk u)))) ::
  []) hz hd (by kernel_rfl) ?_ ?_
 refine ⟨?_, ?_, ?_, ?_, ?_, ?_, ?_, ?_, trivial⟩
 exact zMv hz (sv S1)
 exact zC1 hz Try.func31 (sd 0 rfl) (k1 (fun _ => c_fromfloat (l := l) (u := u) hu hl))
 exact zMv hz (sd 1 rfl)
 exact zExt hz (sd 2 rfl)
 exact zExt hz (sd 2 rfl)
 exact zAl hz nd_rat al_r64
 exact zSt (sd 3 rfl) st_q64
 exact zAs hz (sd 4 rfl)
 intro a' γ' W' hz' hd' hC hk hh
 replace S0 := kp hk S0
 clear S1
 replace S2 := kp hk S2
 replace S3 := kp hk S3
 replace S8 := kp hk S8
 replace S9 := kp hk S9
 obtain ⟨p1, S10, Cp1, lp1, gp1⟩ := gotB hz' 6 hC hh rfl rfl rfl rfl rfl rfl
 have S11 := gotV hz' 7 hh rfl rfl rfl rfl
 have bp1 : w.heap.size ≤ p1 := Nat.le_trans HB.size lp1
 clear lp1 gp1
 replace HB := aft_call HB (RelC.below_nil hC)
 clear hC hk hh; replace hz := hz'; replace hd := hd'; clear hz' hd'
 refine wp_seq ?_
 refine wp_block ?_
 refine wp_seq ?_
 by_cases hc2 : bn < 1
 refine region_text (M := []) (
  rT (tV (.int .i64 bn)) ::
  rT (tV (.bool true)) ::
  rT (tV (.bool true)) ::
  rT (tV undef) ::
  rT (tV undef) ::
  rT (tV (.bool true)) ::
  rT (tV (.bool true)) ::
  []) hz hd (by kernel_rfl) ?_ ?_
 refine ⟨?_, ?_, ?_, ?_, ?_, ?_, ?_, trivial⟩
 exact zMv hz (sv S0)
 exact sBin rfl rfl rfl hz rfl (Gd.none_ rfl) rfl (sd 0 rfl) kc (fun w => run_t (P := bn < 1) ((fun w => run_lss) w) hc2)
 exact zMv hz (sd 1 rfl)
 exact zSkU hz (gN 2 rfl)
 exact zSkU hz (gN 2 rfl)
 exact zPT hz (sd 2 rfl) kc
 exact zAs hz (sd 5 rfl)
 intro a' γ' W' hz' hd' hC hk hh
 have tp1 := Cp1.lt
 replace Cp1 := kC hC Cp1
 replace S0 := kp hk S0
 replace S2 := kp hk S2
 replace S3 := kp hk S3
 replace S8 := kp hk S8
 replace S9 := kp hk S9
 replace S10 := kp hk S10
 replace S11 := kp hk S11
 have S17 := gotV hz' 6 hh rfl rfl rfl rfl
 clear tp1
 replace HB := aft_call HB (RelC.below_nil hC)
 clear hC hk hh; replace hz := hz'; replace hd := hd'; clear hz' hd'
 refine wp_cond_true S17.ev ?_
 refine wp_seq ?_
 refine region_text (M := []) (
  rT (tV (.pointer none)) ::
  rT (tV (.int .i64 97)) ::
  []) hz hd (by kernel_rfl) ?_ ?_
 refine ⟨?_, ?_, trivial⟩
 exact zAs hz kc
 exact zAs hz kc
 intro a' γ' W' hz' hd' hC hk hh
 have tp1 := Cp1.lt
 replace Cp1 := kC hC Cp1
 replace S0 := kp hk S0
 replace S2 := kp hk S2
 replace S3 := kp hk S3
 clear S8
 clear S9
 replace S10 := kp hk S10
 clear S11
 clear S17
 have S8 := gotV hz' 0 hh rfl rfl rfl rfl
 have S9 := gotV hz' 1 hh rfl rfl rfl rfl
 clear tp1
 replace HB := aft_call HB (RelC.below_nil hC)
 clear hC hk hh; replace hz := hz'; replace hd := hd'; clear hz' hd'
 refine wp_ret ?_
 refine ret_to (T := tT [tV (.pointer none), tV (.int .i64 97)]) (rett2 (by kernel_rfl) S8 S9 hd HB) ?_
 exact to2 idT (tV_to (by rw [newE_97 (.inl hc2)]))
 refine region_text (M := []) (
  rT (tV (.int .i64 bn)) ::
  rT (tV (.bool false)) ::
  rT (tV (.bool false)) ::
  rT (tV (.int .i64 bn)) ::
  rT (tV (.bool (decide (bn > 1099511627776)))) ::
  rT (tV (.bool (decide (bn > 1099511627776)))) ::
  rT (tV (.bool (decide (bn > 1099511627776)))) ::
  []) hz hd (by kernel_rfl) ?_ ?_
 refine ⟨?_, ?_, ?_, ?_, ?_, ?_, ?_, trivial⟩
 exact zMv hz (sv S0)
 exact sBin rfl rfl rfl hz rfl (Gd.none_ rfl) rfl (sd 0 rfl) kc (fun w => run_f (P := bn < 1) ((fun w => run_lss) w) hc2)
 exact zMv hz (sd 1 rfl)
 exact zMv hz (sv S0) (g := gT 2 rfl)
 exact sBin rfl rfl rfl hz rfl (gT 2 rfl) rfl (sd 3 rfl) kc (fun w => run_gtr)
 exact zPF hz (sd 2 rfl) (sd 4 rfl)
 exact zAs hz (sd 5 rfl)
 intro a' γ' W' hz' hd' hC hk hh
 have tp1 := Cp1.lt
 replace Cp1 := kC hC Cp1
 replace S0 := kp hk S0
 replace S2 := kp hk S2
 replace S3 := kp hk S3
 replace S8 := kp hk S8
 replace S9 := kp hk S9
 replace S10 := kp hk S10
 replace S11 := kp hk S11
 have S17 := gotV hz' 6 hh rfl rfl rfl rfl
 clear tp1
 replace HB := aft_call HB (RelC.below_nil hC)
 clear hC hk hh; replace hz := hz'; replace hd := hd'; clear hz' hd'
 by_cases hc3 : bn > 1099511627776
 rw [decide_eq_true hc3] at S17
 refine wp_cond_true S17.ev ?_
 refine wp_seq ?_
 refine region_text (M := []) (
  rT (tV (.pointer none)) ::
  rT (tV (.int .i64 97)) ::
  []) hz hd (by kernel_rfl) ?_ ?_
 refine ⟨?_, ?_, trivial⟩
 exact zAs hz kc
 exact zAs hz kc
 intro a' γ' W' hz' hd' hC hk hh
 have tp1 := Cp1.lt
 replace Cp1 := kC hC Cp1
 replace S0 := kp hk S0
 replace S2 := kp hk S2
 replace S3 := kp hk S3
 clear S8
 clear S9
 replace S10 := kp hk S10
 clear S11
 clear S17
 have S8 := gotV hz' 0 hh rfl rfl rfl rfl
 have S9 := gotV hz' 1 hh rfl rfl rfl rfl
 clear tp1
 replace HB := aft_call HB (RelC.below_nil hC)
 clear hC hk hh; replace hz := hz'; replace hd := hd'; clear hz' hd'
 refine wp_ret ?_
 refine ret_to (T := tT [tV (.pointer none), tV (.int .i64 97)]) (rett2 (by kernel_rfl) S8 S9 hd HB) ?_
 exact to2 idT (tV_to (by rw [newE_97 (.inr hc3)]))
 rw [decide_eq_false hc3] at S17
 refine wp_cond_false S17.ev ?_
 refine wp_seq ?_
 by_cases hc4 : FOk u
 rw [decide_eq_true hc4] at S11
 by_cases hc5 : ((1048576 : Int) : Rat) < flQ u
 refine region_drawn (M := []) (
  rT (tV (.bool true)) ::
  rT (tV (.bool false)) ::
  rT (tV (.bool false)) ::
  rT (tQ B64 l (flQ u)) ::
  rT (tQ B64 63 (((1048576 : Int) : Rat))) ::
  rT (tV (.int .i64 (cmpQ (flQ u) (((1048576 : Int) : Rat))))) ::
  rT (tV (.bool true)) ::
  rT (tV (.bool true)) ::
  rT (tV (.bool true)) ::
  rT (tV undef) ::
  rT (tV undef) ::
  rT (tV (.bool true)) ::
  rT (tV (.bool true)) ::
  rT (tV undef) ::
  rT (tV undef) ::
  rT (tV (.bool true)) ::
  rT (tV (.bool true)) ::
  []) hz hd (by kernel_rfl) (by kernel_rfl) ?_ ?_
 refine ⟨?_, ?_, ?_, ?_, ?_, ?_, ?_, ?_, ?_, ?_, ?_, ?_, ?_, ?_, ?_, ?_, ?_, trivial⟩
 exact zMv hz (sv S11)
 exact zNot hz (sd 0 rfl)
 exact zMv hz (sd 1 rfl)
 exact zLd hz (sv S10) Cp1 ld_q64 (g := gT 2 rfl)
 exact zC1 hz Try.func32 (kc (v := .int .i64 1048576)) (k1 (fun _ => c_whl (n := 1048576) (by decide) (by decide))) (g := gT 2 rfl)
 exact zC2 hz Try.func30 (sd 3 rfl) (sd 4 rfl) (fun _ _ _ h0 h1 => cq_cmp h0 h1 (by omega) (by decide)) (g := gT 2 rfl)
 exact sBin rfl rfl rfl hz rfl (gT 2 rfl) rfl (sd 5 rfl) kc (fun w => run_t (P := ((1048576 : Int) : Rat) < flQ u) ((fun w => run_cQ_gtr (flQ u) (((1048576 : Int) : Rat)) w) w) hc5)
 exact zPF hz (sd 2 rfl) (sd 6 rfl)
 exact zMv hz (sd 7 rfl)
 exact zSkU hz (gN 8 rfl)
 exact zSkU hz (gN 8 rfl)
 exact zPT hz (sd 8 rfl) kc
 exact zMv hz (sd 11 rfl)
 exact zSkU hz (gN 12 rfl)
 exact zSkU hz (gN 12 rfl)
 exact zPT hz (sd 12 rfl) kc
 exact zAs hz (sd 15 rfl)
 intro a' γ' W' hz' hd' hC hk hh
 have tp1 := Cp1.lt
 replace Cp1 := kC hC Cp1
 replace S0 := kp hk S0
 replace S2 := kp hk S2
 replace S3 := kp hk S3
 replace S8 := kp hk S8
 replace S9 := kp hk S9
 replace S10 := kp hk S10
 clear S11
 clear S17
 have S24 := gotV hz' 16 hh rfl rfl rfl rfl
 clear tp1
 replace HB := aft_call HB (RelC.below_nil hC)
 clear hC hk hh; replace hz := hz'; replace hd := hd'; clear hz' hd'
 refine wp_cond_true S24.ev ?_
 refine wp_seq ?_
 refine region_text (M := []) (
  rT (tV (.pointer none)) ::
  rT (tV (.int .i64 98)) ::
  []) hz hd (by kernel_rfl) ?_ ?_
 refine ⟨?_, ?_, trivial⟩
 exact zAs hz kc
 exact zAs hz kc
 intro a' γ' W' hz' hd' hC hk hh
 have tp1 := Cp1.lt
 replace Cp1 := kC hC Cp1
 replace S0 := kp hk S0
 replace S2 := kp hk S2
 replace S3 := kp hk S3
 clear S8
 clear S9
 replace S10 := kp hk S10
 clear S24
 have S8 := gotV hz' 0 hh rfl rfl rfl rfl
 have S9 := gotV hz' 1 hh rfl rfl rfl rfl
 clear tp1
 replace HB := aft_call HB (RelC.below_nil hC)
 clear hC hk hh; replace hz := hz'; replace hd := hd'; clear hz' hd'
 refine wp_ret ?_
 refine ret_to (T := tT [tV (.pointer none), tV (.int .i64 98)]) (rett2 (by kernel_rfl) S8 S9 hd HB) ?_
 exact to2 idT (tV_to (by rw [newE_98 hc2 hc3 (.inl (fun g => g.2 hc5))]))
 by_cases hc6 : per < 1
 refine region_drawn (M := []) (
  rT (tV (.bool true)) ::
  rT (tV (.bool false)) ::
  rT (tV (.bool false)) ::
  rT (tQ B64 l (flQ u)) ::
  rT (tQ B64 63 (((1048576 : Int) : Rat))) ::
  rT (tV (.int .i64 (cmpQ (flQ u) (((1048576 : Int) : Rat))))) ::
  rT (tV (.bool false)) ::
  rT (tV (.bool false)) ::
  rT (tV (.bool false)) ::
  rT (tV (.int .i64 per)) ::
  rT (tV (.bool true)) ::
  rT (tV (.bool true)) ::
  rT (tV (.bool true)) ::
  rT (tV undef) ::
  rT (tV undef) ::
  rT (tV (.bool true)) ::
  rT (tV (.bool true)) ::
  []) hz hd (by kernel_rfl) (by kernel_rfl) ?_ ?_
 refine ⟨?_, ?_, ?_, ?_, ?_, ?_, ?_, ?_, ?_, ?_, ?_, ?_, ?_, ?_, ?_, ?_, ?_, trivial⟩
 exact zMv hz (sv S11)
 exact zNot hz (sd 0 rfl)
 exact zMv hz (sd 1 rfl)
 exact zLd hz (sv S10) Cp1 ld_q64 (g := gT 2 rfl)
 exact zC1 hz Try.func32 (kc (v := .int .i64 1048576)) (k1 (fun _ => c_whl (n := 1048576) (by decide) (by decide))) (g := gT 2 rfl)
 exact zC2 hz Try.func30 (sd 3 rfl) (sd 4 rfl) (fun _ _ _ h0 h1 => cq_cmp h0 h1 (by omega) (by decide)) (g := gT 2 rfl)
 exact sBin rfl rfl rfl hz rfl (gT 2 rfl) rfl (sd 5 rfl) kc (fun w => run_f (P := ((1048576 : Int) : Rat) < flQ u) ((fun w => run_cQ_gtr (flQ u) (((1048576 : Int) : Rat)) w) w) hc5)
 exact zPF hz (sd 2 rfl) (sd 6 rfl)
 exact zMv hz (sd 7 rfl)
 exact zMv hz (sv S2) (g := gT 8 rfl)
 exact sBin rfl rfl rfl hz rfl (gT 8 rfl) rfl (sd 9 rfl) kc (fun w => run_t (P := per < 1) ((fun w => run_lss) w) hc6)
 exact zPF hz (sd 8 rfl) (sd 10 rfl)
 exact zMv hz (sd 11 rfl)
 exact zSkU hz (gN 12 rfl)
 exact zSkU hz (gN 12 rfl)
 exact zPT hz (sd 12 rfl) kc
 exact zAs hz (sd 15 rfl)
 intro a' γ' W' hz' hd' hC hk hh
 have tp1 := Cp1.lt
 replace Cp1 := kC hC Cp1
 replace S0 := kp hk S0
 replace S2 := kp hk S2
 replace S3 := kp hk S3
 replace S8 := kp hk S8
 replace S9 := kp hk S9
 replace S10 := kp hk S10
 clear S11
 clear S17
 have S24 := gotV hz' 16 hh rfl rfl rfl rfl
 clear tp1
 replace HB := aft_call HB (RelC.below_nil hC)
 clear hC hk hh; replace hz := hz'; replace hd := hd'; clear hz' hd'
 refine wp_cond_true S24.ev ?_
 refine wp_seq ?_
 refine region_text (M := []) (
  rT (tV (.pointer none)) ::
  rT (tV (.int .i64 98)) ::
  []) hz hd (by kernel_rfl) ?_ ?_
 refine ⟨?_, ?_, trivial⟩
 exact zAs hz kc
 exact zAs hz kc
 intro a' γ' W' hz' hd' hC hk hh
 have tp1 := Cp1.lt
 replace Cp1 := kC hC Cp1
 replace S0 := kp hk S0
 replace S2 := kp hk S2
 replace S3 := kp hk S3
 clear S8
 clear S9
 replace S10 := kp hk S10
 clear S24
 have S8 := gotV hz' 0 hh rfl rfl rfl rfl
 have S9 := gotV hz' 1 hh rfl rfl rfl rfl
 clear tp1
 replace HB := aft_call HB (RelC.below_nil hC)
 clear hC hk hh; replace hz := hz'; replace hd := hd'; clear hz' hd'
 refine wp_ret ?_
 refine ret_to (T := tT [tV (.pointer none), tV (.int .i64 98)]) (rett2 (by kernel_rfl) S8 S9 hd HB) ?_
 exact to2 idT (tV_to (by rw [newE_98 hc2 hc3 (.inr (.inl hc6))]))
 refine region_drawn (M := []) (
  rT (tV (.bool true)) ::
  rT (tV (.bool false)) ::
  rT (tV (.bool false)) ::
  rT (tQ B64 l (flQ u)) ::
  rT (tQ B64 63 (((1048576 : Int) : Rat))) ::
  rT (tV (.int .i64 (cmpQ (flQ u) (((1048576 : Int) : Rat))))) ::
  rT (tV (.bool false)) ::
  rT (tV (.bool false)) ::
  rT (tV (.bool false)) ::
  rT (tV (.int .i64 per)) ::
  rT (tV (.bool false)) ::
  rT (tV (.bool false)) ::
  rT (tV (.bool false)) ::
  rT (tV (.int .i64 per)) ::
  rT (tV (.bool (decide (per > 1073741824)))) ::
  rT (tV (.bool (decide (per > 1073741824)))) ::
  rT (tV (.bool (decide (per > 1073741824)))) ::
  []) hz hd (by kernel_rfl) (by kernel_rfl) ?_ ?_
 refine ⟨?_, ?_, ?_, ?_, ?_, ?_, ?_, ?_, ?_, ?_, ?_, ?_, ?_, ?_, ?_, ?_, ?_, trivial⟩
 exact zMv hz (sv S11)
 exact zNot hz (sd 0 rfl)
 exact zMv hz (sd 1 rfl)
 exact zLd hz (sv S10) Cp1 ld_q64 (g := gT 2 rfl)
 exact zC1 hz Try.func32 (kc (v := .int .i64 1048576)) (k1 (fun _ => c_whl (n := 1048576) (by decide) (by decide))) (g := gT 2 rfl)
 exact zC2 hz Try.func30 (sd 3 rfl) (sd 4 rfl) (fun _ _ _ h0 h1 => cq_cmp h0 h1 (by omega) (by decide)) (g := gT 2 rfl)
 exact sBin rfl rfl rfl hz rfl (gT 2 rfl) rfl (sd 5 rfl) kc (fun w => run_f (P := ((1048576 : Int) : Rat) < flQ u) ((fun w => run_cQ_gtr (flQ u) (((1048576 : Int) : Rat)) w) w) hc5)
 exact zPF hz (sd 2 rfl) (sd 6 rfl)
 exact zMv hz (sd 7 rfl)
 exact zMv hz (sv S2) (g := gT 8 rfl)
 exact sBin rfl rfl rfl hz rfl (gT 8 rfl) rfl (sd 9 rfl) kc (fun w => run_f (P := per < 1) ((fun w => run_lss) w) hc6)
 exact zPF hz (sd 8 rfl) (sd 10 rfl)
 exact zMv hz (sd 11 rfl)
 exact zMv hz (sv S2) (g := gT 12 rfl)
 exact sBin rfl rfl rfl hz rfl (gT 12 rfl) rfl (sd 13 rfl) kc (fun w => run_gtr)
 exact zPF hz (sd 12 rfl) (sd 14 rfl)
 exact zAs hz (sd 15 rfl)
 intro a' γ' W' hz' hd' hC hk hh
 have tp1 := Cp1.lt
 replace Cp1 := kC hC Cp1
 replace S0 := kp hk S0
 replace S2 := kp hk S2
 replace S3 := kp hk S3
 replace S8 := kp hk S8
 replace S9 := kp hk S9
 replace S10 := kp hk S10
 clear S11
 clear S17
 have S24 := gotV hz' 16 hh rfl rfl rfl rfl
 clear tp1
 replace HB := aft_call HB (RelC.below_nil hC)
 clear hC hk hh; replace hz := hz'; replace hd := hd'; clear hz' hd'
 by_cases hc7 : per > 1073741824
 rw [decide_eq_true hc7] at S24
 refine wp_cond_true S24.ev ?_
 refine wp_seq ?_
 refine region_text (M := []) (
  rT (tV (.pointer none)) ::
  rT (tV (.int .i64 98)) ::
  []) hz hd (by kernel_rfl) ?_ ?_
 refine ⟨?_, ?_, trivial⟩
 exact zAs hz kc
 exact zAs hz kc
 intro a' γ' W' hz' hd' hC hk hh
 have tp1 := Cp1.lt
 replace Cp1 := kC hC Cp1
 replace S0 := kp hk S0
 replace S2 := kp hk S2
 replace S3 := kp hk S3
 clear S8
 clear S9
 replace S10 := kp hk S10
 clear S24
 have S8 := gotV hz' 0 hh rfl rfl rfl rfl
 have S9 := gotV hz' 1 hh rfl rfl rfl rfl
 clear tp1
 replace HB := aft_call HB (RelC.below_nil hC)
 clear hC hk hh; replace hz := hz'; replace hd := hd'; clear hz' hd'
 refine wp_ret ?_
 refine ret_to (T := tT [tV (.pointer none), tV (.int .i64 98)]) (rett2 (by kernel_rfl) S8 S9 hd HB) ?_
 exact to2 idT (tV_to (by rw [newE_98 hc2 hc3 (.inr (.inr hc7))]))
 rw [decide_eq_false hc7] at S24
 refine wp_cond_false S24.ev ?_
 refine wp_seq ?_
 by_cases hc8 : t < 0
 refine region_text (M := []) (
  rT (tV (.int .i64 t)) ::
  rT (tV (.bool true)) ::
  rT (tV (.bool true)) ::
  rT (tV undef) ::
  rT (tV undef) ::
  rT (tV (.bool true)) ::
  rT (tV (.bool true)) ::
  []) hz hd (by kernel_rfl) ?_ ?_
 refine ⟨?_, ?_, ?_, ?_, ?_, ?_, ?_, trivial⟩
 exact zMv hz (sv S3)
 exact sBin rfl rfl rfl hz rfl (Gd.none_ rfl) rfl (sd 0 rfl) kc (fun w => run_t (P := t < 0) ((fun w => run_lss) w) hc8)
 exact zMv hz (sd 1 rfl)
 exact zSkU hz (gN 2 rfl)
 exact zSkU hz (gN 2 rfl)
 exact zPT hz (sd 2 rfl) kc
 exact zAs hz (sd 5 rfl)
 intro a' γ' W' hz' hd' hC hk hh
 have tp1 := Cp1.lt
 replace Cp1 := kC hC Cp1
 replace S0 := kp hk S0
 replace S2 := kp hk S2
 replace S3 := kp hk S3
 replace S8 := kp hk S8
 replace S9 := kp hk S9
 replace S10 := kp hk S10
 clear S24
 have S41 := gotV hz' 6 hh rfl rfl rfl rfl
 clear tp1
 replace HB := aft_call HB (RelC.below_nil hC)
 clear hC hk hh; replace hz := hz'; replace hd := hd'; clear hz' hd'
 refine wp_cond_true S41.ev ?_
 refine wp_seq ?_
 refine region_text (M := []) (
  rT (tV (.pointer none)) ::
  rT (tV (.int .i64 1)) ::
  []) hz hd (by kernel_rfl) ?_ ?_
 refine ⟨?_, ?_, trivial⟩
 exact zAs hz kc
 exact zAs hz kc
 intro a' γ' W' hz' hd' hC hk hh
 have tp1 := Cp1.lt
 replace Cp1 := kC hC Cp1
 replace S0 := kp hk S0
 replace S2 := kp hk S2
 replace S3 := kp hk S3
 clear S8
 clear S9
 replace S10 := kp hk S10
 clear S41
 have S8 := gotV hz' 0 hh rfl rfl rfl rfl
 have S9 := gotV hz' 1 hh rfl rfl rfl rfl
 clear tp1
 replace HB := aft_call HB (RelC.below_nil hC)
 clear hC hk hh; replace hz := hz'; replace hd := hd'; clear hz' hd'
 refine wp_ret ?_
 refine ret_to (T := tT [tV (.pointer none), tV (.int .i64 1)]) (rett2 (by kernel_rfl) S8 S9 hd HB) ?_
 exact to2 idT (tV_to (by rw [newE_1 hc2 hc3 ⟨hc4, hc5⟩ hc6 hc7 (.inl hc8)]))
 refine region_text (M := []) (
  rT (tV (.int .i64 t)) ::
  rT (tV (.bool false)) ::
  rT (tV (.bool false)) ::
  rT (tV (.int .i64 t)) ::
  rT (tV (.bool (decide (t > 4611686018427387904)))) ::
  rT (tV (.bool (decide (t > 4611686018427387904)))) ::
  rT (tV (.bool (decide (t > 4611686018427387904)))) ::
  []) hz hd (by kernel_rfl) ?_ ?_
 refine ⟨?_, ?_, ?_, ?_, ?_, ?_, ?_, trivial⟩
 exact zMv hz (sv S3)
 exact sBin rfl rfl rfl hz rfl (Gd.none_ rfl) rfl (sd 0 rfl) kc (fun w => run_f (P := t < 0) ((fun w => run_lss) w) hc8)
 exact zMv hz (sd 1 rfl)
 exact zMv hz (sv S3) (g := gT 2 rfl)
 exact sBin rfl rfl rfl hz rfl (gT 2 rfl) rfl (sd 3 rfl) kc (fun w => run_gtr)
 exact zPF hz (sd 2 rfl) (sd 4 rfl)
 exact zAs hz (sd 5 rfl)
 intro a' γ' W' hz' hd' hC hk hh
 have tp1 := Cp1.lt
 replace Cp1 := kC hC Cp1
 replace S0 := kp hk S0
 replace S2 := kp hk S2
 replace S3 := kp hk S3
 replace S8 := kp hk S8
 replace S9 := kp hk S9
 replace S10 := kp hk S10
 clear S24
 have S41 := gotV hz' 6 hh rfl rfl rfl rfl
 clear tp1
 replace HB := aft_call HB (RelC.below_nil hC)
 clear hC hk hh; replace hz := hz'; replace hd := hd'; clear hz' hd'
 by_cases hc9 : t > 4611686018427387904
 rw [decide_eq_true hc9] at S41
 refine wp_cond_true S41.ev ?_
 refine wp_seq ?_
 refine region_text (M := []) (
  rT (tV (.pointer none)) ::
  rT (tV (.int .i64 1)) ::
  []) hz hd (by kernel_rfl) ?_ ?_
 refine ⟨?_, ?_, trivial⟩
 exact zAs hz kc
 exact zAs hz kc
 intro a' γ' W' hz' hd' hC hk hh
 have tp1 := Cp1.lt
 replace Cp1 := kC hC Cp1
 replace S0 := kp hk S0
 replace S2 := kp hk S2
 replace S3 := kp hk S3
 clear S8
 clear S9
 replace S10 := kp hk S10
 clear S41
 have S8 := gotV hz' 0 hh rfl rfl rfl rfl
 have S9 := gotV hz' 1 hh rfl rfl rfl rfl
 clear tp1
 replace HB := aft_call HB (RelC.below_nil hC)
 clear hC hk hh; replace hz := hz'; replace hd := hd'; clear hz' hd'
 refine wp_ret ?_
 refine ret_to (T := tT [tV (.pointer none), tV (.int .i64 1)]) (rett2 (by kernel_rfl) S8 S9 hd HB) ?_
 exact to2 idT (tV_to (by rw [newE_1 hc2 hc3 ⟨hc4, hc5⟩ hc6 hc7 (.inr hc9)]))
 exact absurd (newE_0 hc2 hc3 ⟨hc4, hc5⟩ hc6 hc7 hc8 hc9) hE
 rw [decide_eq_false hc4] at S11
 refine region_drawn (M := []) (
  rT (tV (.bool false)) ::
  rT (tV (.bool true)) ::
  rT (tV (.bool true)) ::
  rT (tV undef) ::
  rT (tV undef) ::
  rT (tV undef) ::
  rT (tV undef) ::
  rT (tV (.bool true)) ::
  rT (tV (.bool true)) ::
  rT (tV undef) ::
  rT (tV undef) ::
  rT (tV (.bool true)) ::
  rT (tV (.bool true)) ::
  rT (tV undef) ::
  rT (tV undef) ::
  rT (tV (.bool true)) ::
  rT (tV (.bool true)) ::
  []) hz hd (by kernel_rfl) (by kernel_rfl) ?_ ?_
 refine ⟨?_, ?_, ?_, ?_, ?_, ?_, ?_, ?_, ?_, ?_, ?_, ?_, ?_, ?_, ?_, ?_, ?_, trivial⟩
 exact zMv hz (sv S11)
 exact zNot hz (sd 0 rfl)
 exact zMv hz (sd 1 rfl)
 exact zSkU hz (gN 2 rfl)
 exact zSkU hz (gN 2 rfl)
 exact zSkU hz (gN 2 rfl)
 exact zSkU hz (gN 2 rfl)
 exact zPT hz (sd 2 rfl) kc
 exact zMv hz (sd 7 rfl)
 exact zSkU hz (gN 8 rfl)
 exact zSkU hz (gN 8 rfl)
 exact zPT hz (sd 8 rfl) kc
 exact zMv hz (sd 11 rfl)
 exact zSkU hz (gN 12 rfl)
 exact zSkU hz (gN 12 rfl)
 exact zPT hz (sd 12 rfl) kc
 exact zAs hz (sd 15 rfl)
 intro a' γ' W' hz' hd' hC hk hh
 have tp1 := Cp1.lt
 replace Cp1 := kC hC Cp1
 replace S0 := kp hk S0
 replace S2 := kp hk S2
 replace S3 := kp hk S3
 replace S8 := kp hk S8
 replace S9 := kp hk S9
 replace S10 := kp hk S10
 clear S11
 clear S17
 have S24 := gotV hz' 16 hh rfl rfl rfl rfl
 clear tp1
 replace HB := aft_call HB (RelC.below_nil hC)
 clear hC hk hh; replace hz := hz'; replace hd := hd'; clear hz' hd'
 refine wp_cond_true S24.ev ?_
 refine wp_seq ?_
 refine region_text (M := []) (
  rT (tV (.pointer none)) ::
  rT (tV (.int .i64 98)) ::
  []) hz hd (by kernel_rfl) ?_ ?_
 refine ⟨?_, ?_, trivial⟩
 exact zAs hz kc
 exact zAs hz kc
 intro a' γ' W' hz' hd' hC hk hh
 have tp1 := Cp1.lt
 replace Cp1 := kC hC Cp1
 replace S0 := kp hk S0
 replace S2 := kp hk S2
 replace S3 := kp hk S3
 clear S8
 clear S9
 replace S10 := kp hk S10
 clear S24
 have S8 := gotV hz' 0 hh rfl rfl rfl rfl
 have S9 := gotV hz' 1 hh rfl rfl rfl rfl
 clear tp1
 replace HB := aft_call HB (RelC.below_nil hC)
 clear hC hk hh; replace hz := hz'; replace hd := hd'; clear hz' hd'
 refine wp_ret ?_
 refine ret_to (T := tT [tV (.pointer none), tV (.int .i64 98)]) (rett2 (by kernel_rfl) S8 S9 hd HB) ?_
 exact to2 idT (tV_to (by rw [newE_98 hc2 hc3 (.inl (fun g => hc4 g.1))]))

end Go.Proofs.Ytojpiiboikomfaa.Rg
