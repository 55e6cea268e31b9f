/-
  Contracts for NamesNumbers: the two lists, an Errno's words, bits and numbers.
-/
import Derived.Test.YtnhdlnmghabalaaDoorRows
import Derived.Test.YtnhdlnmghabalaaDoorSh
import Derived.WalkKit
import Derived.WalkSpells
import Derived.WalkLawsBesides
import Derived.ArgAppend
import Derived.Deep.QuietTactic
import Derived.BigQuiet
import Derived.Lib.Hide
import Derived.Below
import Derived.Lib.AppendIntMem
set_option linter.unusedVariables false
set_option linter.unusedSimpArgs false
namespace Go.Proofs.YtnhdlnmghabalaaDoor
open Go.RowKit

/-- So many pairs, each of two equal numbers. -/
def pairsB (cs : List Value) (n : Nat) : Bool := cs.length == 2 * n && (List.range n).all fun i => match cs[2 * i]?, cs[2 * i + 1]? with
  | some (.int .i64 a), some (.int .i64 b) => a == b
  | _, _ => false
theorem pairs_at {cs : List Value} {n i : Nat} (h : pairsB cs n = true) (hi : i < n) : ∃ z, cs[2 * i]? = some (.int .i64 z) ∧ cs[2 * i + 1]? = some (.int .i64 z) := by
  have h1 := List.all_eq_true.1 (Bool.and_eq_true_iff.1 h).2 i (List.mem_range.2 hi)
  split at h1
  · rename_i a b e1 e2
    have : a = b := by simpa using h1
    subst this
    exact ⟨a, e1, e2⟩
  · cases h1
theorem pairs_app {a b : List Value} {n m : Nat} (ha : pairsB a n = true) (hb : pairsB b m = true) : ∀ i, i < n + m → ∃ z, (a ++ b)[2 * i]? = some (.int .i64 z) ∧ (a ++ b)[2 * i + 1]? = some (.int .i64 z) := by
  intro i hi
  have hl : a.length = 2 * n := by have := (Bool.and_eq_true_iff.1 ha).1; simpa using this
  by_cases h : i < n
  · rw [List.getElem?_append_left (by omega), List.getElem?_append_left (by omega)]
    exact pairs_at ha h
  · rw [List.getElem?_append_right (by omega), List.getElem?_append_right (by omega), hl, show 2 * i - 2 * n = 2 * (i - n) by omega, show 2 * i + 1 - 2 * n = 2 * (i - n) + 1 by omega]
    exact pairs_at hb (by omega)
set_option maxHeartbeats 4000000 in
set_option maxRecDepth 100000 in
theorem errs_any (w : World) : Calls Tryd.prog 4 #[] w fun e w' => e = .returned (.slice (some ⟨w.heap.size, 0, none⟩) 28 28) ∧ ∃ cs : List Value, w' = w.alloc (.cells cs.toArray 25) ∧ pairsB cs 28 = true := by
  go_enter Tryd.func4, Tryd.ntmps4
  go_wp2
  go_ret
  exact ⟨rfl, _, rfl, by rfl⟩
set_option maxHeartbeats 4000000 in
set_option maxRecDepth 100000 in
theorem limits_any (w : World) : Calls Tryd.prog 5 #[] w fun e w' => e = .returned (.slice (some ⟨w.heap.size, 0, none⟩) 26 26) ∧ ∃ cs : List Value, w' = w.alloc (.cells cs.toArray 25) ∧ pairsB cs 26 = true := by
  go_enter Tryd.func5, Tryd.ntmps5
  go_wp2
  go_ret
  exact ⟨rfl, _, rfl, by rfl⟩
theorem run_fb (u : Nat) (w : World) : (callFunc 10 #[.float .f64 u]).run Tryd.prog w = .ok (.value (.int .u64 (u : Int))) w := by
  rw [run_callFunc_extern Tryd.func10 (by kernel_rfl) (by kernel_rfl) (by kernel_rfl) (e := Extern.MathFloatBits.float64bits) (by kernel_rfl)]
  have h : Extern.MathFloatBits.float64bits #[.float .f64 u] = pure (.int .u64 (u : Int)) := rfl
  simp [go_sem, h]
theorem run_ff (u : Nat) (w : World) : (callFunc 11 #[.int .u64 (u : Int)]).run Tryd.prog w = .ok (.value (.float .f64 u)) w := by
  rw [run_callFunc_extern Tryd.func11 (by kernel_rfl) (by kernel_rfl) (by kernel_rfl) (e := Extern.MathFloatBits.float64frombits) (by kernel_rfl)]
  have h : Extern.MathFloatBits.float64frombits #[.int .u64 (u : Int)] = pure (.float .f64 u) := rfl
  simp [go_sem, h]
/-- A call that runs in place. -/
theorem wpList_inplace {P : Program} {w : World} {ops : Array Oper} {rest : List Oper} {o : Oper} {a : Act} {Q : Exit → Act → World → Prop} {f : FuncId} {x : Operand} {ts : Array TypeId} {u v : Value} (hg : o.guard = none) (hop : o.op = .call { callee := .value (.func f), args := #[x], argTypes := ts }) (e : a.eval x = u)
    (h : (callFunc f #[u]).run P w = .ok (.value v) w) (hK : wpList P ops Q rest (a.put o.dst v) w) : wpList P ops Q (o :: rest) a w := by
  refine wpList_plain hg fun K hK' => ?_
  have ef : a.eval (.func f) = .func (.func f) #[] #[] := rfl
  have hrun : (execOp a.eval o).run P w = .ok (.value v) w := by
    generalize a.eval = ρ at e ef ⊢
    unfold execOp; rw [hop]; simp [go_sem, resolve, Deferred.ofValue, invoke, e, ef, h]
  unfold Oper.wp
  rw [hrun]
  exact hK' _ _ hK
theorem bits_any (u : Nat) (w : World) : Calls Tryd.prog 7 #[.float .f64 u] w fun e w' => e = .returned (.int .u64 (u : Int)) ∧ w = w' := by
  go_enter Tryd.func7, Tryd.ntmps7
  go_wp2_with (refine wpList_inplace rfl rfl rfl (run_fb u _) ?_)
  refine bodyPost_ret (v := .int .u64 (u : Int)) ?_ rfl ⟨rfl, rfl⟩
  simp [results, go_sem, show Tryd.f7.results = #[.tmp 2] from rfl]
theorem float_any (u : Nat) (w : World) : Calls Tryd.prog 8 #[.int .u64 (u : Int)] w fun e w' => e = .returned (.float .f64 u) ∧ w = w' := by
  go_enter Tryd.func8, Tryd.ntmps8
  go_wp2_with (refine wpList_inplace rfl rfl rfl (run_ff u _) ?_)
  refine bodyPost_ret (v := .float .f64 u) ?_ rfl ⟨rfl, rfl⟩
  simp [results, go_sem, show Tryd.f8.results = #[.tmp 2] from rfl]
theorem dec_0 : Lib.decDigits 0 = [48] := by decide +kernel
theorem itoa_202 : Lib.itoa 202 = [50, 48, 50] := by decide +kernel
theorem told_0 (w : World) : Calls Tryd.prog 6 #[.int .i64 0] w fun e w' => e = .returned (.string ⟨#[101, 114, 114, 111, 114, 32, 48]⟩) ∧ w = w' := by
  go_enter Tryd.func6, Tryd.ntmps6
  go_wp2_with (go_at_call 9; refine (Tryd.strconv_Itoa_small 0 (by decide) _).mono ?_; rintro e w1 ⟨h, rfl⟩; rw [dec_0] at h; subst h)
  refine bodyPost_ret ?_ rfl ⟨rfl, rfl⟩
  simp [results, go_sem, show Tryd.f6.results = #[.tmp 2] from rfl]
  rfl
theorem told_202 (w : World) (htab : Lib.TabIs Tryd.prog w "internal/strconv.uint64pow10" .u64 Lib.pow10Tab) : Calls Tryd.prog 6 #[.int .i64 202] w fun e w' => e = .returned (.string ⟨#[101, 114, 114, 111, 114, 32, 50, 48, 50]⟩) ∧ Below w.heap.size w w' := by
  go_enter Tryd.func6, Tryd.ntmps6
  go_wp2_with (go_at_call 9; refine (Tryd.strconv_Itoa 202 (by decide) (by decide) _ htab).mono ?_; rintro e w1 ⟨h, k, os, rfl⟩; rw [itoa_202] at h; subst h)
  refine bodyPost_ret ?_ rfl ⟨rfl, Lib.below_grow _ _ (Nat.le_refl _) _ _⟩
  simp [results, go_sem, show Tryd.f6.results = #[.tmp 2] from rfl]
  rfl
end Go.Proofs.YtnhdlnmghabalaaDoor
