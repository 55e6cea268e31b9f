/-
  Walks and plain laws, put together: VL VM.
-/
import Derived.Test.YtfgnleoaibcegaaGreatQj
set_option linter.unusedVariables false
set_option linter.unusedSimpArgs false
namespace Go.Proofs.YtfgnleoaibcegaaGreat.Rg

open Go.RowKit
def powV (L : List Nat) (i : Nat) : Option Int := if i = L.length then some 0 else if ExpOk L i then some (expV L i) else none
section

variable {L : List Nat} {i : Nat}
theorem pow_end (h : i = L.length) : powV L i = some 0 := by unfold powV; rw [if_pos h]
theorem pow_no (h : ¬ i = L.length) (h1 : ¬ ExpOk L i) : powV L i = none := by unfold powV; rw [if_neg h, if_neg h1]
theorem pow_yes (h : ¬ i = L.length) (h1 : ExpOk L i) : powV L i = some (expV L i) := by unfold powV; rw [if_neg h, if_pos h1]
end
end Go.Proofs.YtfgnleoaibcegaaGreat.Rg

namespace Go.Proofs.YtfgnleoaibcegaaGreat.Rg

open Go.RowKit

theorem takeWhile_all : ∀ {M : List Nat}, M.all isDig = true → M.takeWhile dg = M
  | [], _ => rfl
  | d :: M, h => by
    rw [List.all_cons, Bool.and_eq_true] at h
    have e : dg d = true := h.1
    rw [List.takeWhile_cons, e]
    simp only [if_true]
    rw [takeWhile_all h.2]
theorem parse_run {L : List Nat} {j : Nat} (h : parseV (L.drop j) ≠ 0) : 0 < runL L j ∧ runL L j = (L.drop j).length := by
  have hk : parseOk (L.drop j) = true := by
    cases hc : parseOk (L.drop j) with
    | true => rfl
    | false => exact absurd (by unfold parseV; rw [hc]; rfl) h
  unfold parseOk at hk
  rw [Bool.and_eq_true, Bool.and_eq_true, decide_eq_true_eq, decide_eq_true_eq] at hk
  have e : runL L j = (L.drop j).length := by unfold runL; rw [takeWhile_all hk.2]
  exact ⟨by omega, e⟩
section

variable {L : List Nat} {W P : Nat}
theorem pd_long (h : 400 < L.length) : parseR L = none := pr_long h
theorem pd_over (eW : runL L 0 = W) (hl : ¬ 400 < L.length) (h0 : ¬ W = 0) (h1 : W < L.length) (h2 : L.getD W 0 = 47) (h : ¬ parseV (L.drop (W + 1)) = 0) : parseR L = some (mkRat ((parseV (L.take W) : Nat) : Int) (parseV (L.drop (W + 1)))) := by
  unfold parseR
  subst eW
  obtain ⟨ha, hb⟩ := parse_run h
  rw [List.length_drop] at hb
  rw [show cutL L = _ from cut_over h0 (by omega) h2 (by omega) (by omega)]
  unfold parseC
  rw [if_neg (fun c => c.elim hl fun e => Bool.false_ne_true e.symm), if_pos ha, if_neg h]
def PwIs (L D : List Nat) (pl i : Nat) : Prop := parseR L = (powV L i).map fun n => sclQ (parseV D) (n - ((pl : Nat) : Int))
theorem pd_whole (eW : runL L 0 = W) (hl : ¬ 400 < L.length) (h0 : ¬ W = 0) (h1 : W < L.length → ¬ L.getD W 0 = 47) (h2 : W < L.length → ¬ L.getD W 0 = 46) : PwIs L (L.take W) 0 W := by
  unfold PwIs parseR
  subst eW
  by_cases he : runL L 0 = L.length
  · rw [pow_end he, show cutL L = _ from cut_all h0 he]
    exact pr_whole hl rfl (Nat.lt_irrefl 0) (Nat.lt_irrefl 0)
  · have hlt : runL L 0 < L.length := by have := run_le (L := L) 0 (Nat.zero_le _); omega
    have hc := cut_pw0 h0 he (h1 hlt) (h2 hlt)
    by_cases hx : ExpOk L (runL L 0)
    · rw [pow_yes he hx, show cutL L = _ from pw_yes hc hx, pr_whole hl rfl (Nat.lt_irrefl 0) (Nat.lt_irrefl 0)]
      simp
    · rw [pow_no he hx, show cutL L = _ from pw_not hc hx]
      exact pr_bad Bool.false_ne_true
theorem pd_dot (eW : runL L 0 = W) (eP : runL L (W + 1) = P) (hl : ¬ 400 < L.length) (h0 : ¬ W = 0) (h1 : W < L.length) (h2 : L.getD W 0 = 46) (h : ¬ P = 0) : PwIs L (L.take W ++ (L.drop (W + 1)).take P) P (W + 1 + P) := by
  unfold PwIs parseR
  subst eW
  subst eP
  by_cases he : runL L 0 + (1 + runL L (runL L 0 + 1)) = L.length
  · rw [pow_end (by omega), show cutL L = _ from cut_part1 h0 (by omega) (by rw [h2]; decide) (by rw [h2]; decide) h he]
    exact pr_part hl rfl (Nat.lt_irrefl 0) (Nat.pos_of_ne_zero h)
  · have hc := cut_pw1 h0 (by omega) (by rw [h2]; decide) (by rw [h2]; decide) h he
    rw [Nat.add_assoc]
    by_cases hx : ExpOk L (runL L 0 + (1 + runL L (runL L 0 + 1)))
    · rw [pow_yes he hx, show cutL L = _ from pw_yes hc hx, pr_part hl rfl (Nat.lt_irrefl 0) (Nat.pos_of_ne_zero h)]
      rfl
    · rw [pow_no he hx, show cutL L = _ from pw_not hc hx]
      exact pr_bad Bool.false_ne_true
variable {D : List Nat} {pl i : Nat} {n : Int}
variable {w : World}
end
end Go.Proofs.YtfgnleoaibcegaaGreat.Rg
