/-
  Walks and plain laws, put together: VEH VE VFH VF VG VH VI VJH.
-/
import Derived.Test.YtfgnleoaibcegaaGreatQg
import Derived.Test.YtfgnleoaibcegaaGreatXBB
import Derived.Scope
import Derived.Laws.RangeString
set_option linter.unusedVariables false
set_option linter.unusedSimpArgs false
namespace Go.Proofs.YtfgnleoaibcegaaGreat.Rg

open Go.RowKit

section

variable {P : Program} {ops : Array Oper} {Q : Exit → Act → World → Prop} {a0 : Act} {M : List Nat} {W : World} {rels : List Rel} {i : Nat} {o : Oper} {N d : Nat} {x y : Operand}
theorem zB1len {u z : Value} {id : TypeId} (hz : a0.tmps.size = N) (hop : o.op = .call { callee := .builtin .len, args := #[x], argTypes := #[id] }) (s : Src ops a0 M W rels i o x (tV u)) (h : ∀ w, (Builtin.len_ #[id] o.type #[u]).run P w = .ok z w) (g : Gd ops a0 M W rels i o true := by exact Gd.none_ rfl)
    (ho : ops[i]? = some o := by rfl) (hr : rels[i]? = some (rT (tV z)) := by rfl) (hd : o.dst = some d := by rfl) (hlt : decide (d < N) = true := by rfl) : StepOk P ops a0 M W Q rels i o :=
  sOp ho hr hd hz hlt g fun a γ w U => by
    have e : a.eval x = u := s a γ w U
    refine ⟨z, ?_, rfl⟩
    generalize a.eval = ρ at e ⊢
    unfold execOp; rw [hop]; simp [go_sem, e, h]
theorem zSlTo {u v z : Value} {id : TypeId} (hz : a0.tmps.size = N) (hop : o.op = .slice id x none (some y) none) (s1 : Src ops a0 M W rels i o x (tV u)) (s2 : Src ops a0 M W rels i o y (tV v)) (h : ∀ w, (Instr.sliceAt id u none (some v) none).run P w = .ok z w) (g : Gd ops a0 M W rels i o true := by exact Gd.none_ rfl)
    (ho : ops[i]? = some o := by rfl) (hr : rels[i]? = some (rT (tV z)) := by rfl) (hd : o.dst = some d := by rfl) (hlt : decide (d < N) = true := by rfl) : StepOk P ops a0 M W Q rels i o :=
  sOp ho hr hd hz hlt g fun a γ w U => by
    have e1 : a.eval x = u := s1 a γ w U
    have e2 : a.eval y = v := s2 a γ w U
    refine ⟨z, ?_, rfl⟩
    generalize a.eval = ρ at e1 e2 ⊢
    unfold execOp; rw [hop]; simp only [Option.map, e1, e2, Sem.run_bind, h, Result.andThen, Sem.run_pure]
theorem zSlFrom {u v z : Value} {id : TypeId} (hz : a0.tmps.size = N) (hop : o.op = .slice id x (some y) none none) (s1 : Src ops a0 M W rels i o x (tV u)) (s2 : Src ops a0 M W rels i o y (tV v)) (h : ∀ w, (Instr.sliceAt id u (some v) none none).run P w = .ok z w) (g : Gd ops a0 M W rels i o true := by exact Gd.none_ rfl)
    (ho : ops[i]? = some o := by rfl) (hr : rels[i]? = some (rT (tV z)) := by rfl) (hd : o.dst = some d := by rfl) (hlt : decide (d < N) = true := by rfl) : StepOk P ops a0 M W Q rels i o :=
  sOp ho hr hd hz hlt g fun a γ w U => by
    have e1 : a.eval x = u := s1 a γ w U
    have e2 : a.eval y = v := s2 a γ w U
    refine ⟨z, ?_, rfl⟩
    generalize a.eval = ρ at e1 e2 ⊢
    unfold execOp; rw [hop]; simp only [Option.map, e1, e2, Sem.run_bind, h, Result.andThen, Sem.run_pure]
theorem zSlMid {y' : Operand} {u v v' z : Value} {id : TypeId} (hz : a0.tmps.size = N) (hop : o.op = .slice id x (some y) (some y') none) (s1 : Src ops a0 M W rels i o x (tV u)) (s2 : Src ops a0 M W rels i o y (tV v)) (s3 : Src ops a0 M W rels i o y' (tV v')) (h : ∀ w, (Instr.sliceAt id u (some v) (some v') none).run P w = .ok z w) (g : Gd ops a0 M W rels i o true := by exact Gd.none_ rfl)
    (ho : ops[i]? = some o := by rfl) (hr : rels[i]? = some (rT (tV z)) := by rfl) (hd : o.dst = some d := by rfl) (hlt : decide (d < N) = true := by rfl) : StepOk P ops a0 M W Q rels i o :=
  sOp ho hr hd hz hlt g fun a γ w U => by
    have e1 : a.eval x = u := s1 a γ w U
    have e2 : a.eval y = v := s2 a γ w U
    have e3 : a.eval y' = v' := s3 a γ w U
    refine ⟨z, ?_, rfl⟩
    generalize a.eval = ρ at e1 e2 e3 ⊢
    unfold execOp; rw [hop]; simp only [Option.map, e1, e2, e3, Sem.run_bind, h, Result.andThen, Sem.run_pure]
theorem zIx {u v z : Value} {id : TypeId} (hz : a0.tmps.size = N) (hop : o.op = .index id x y) (s1 : Src ops a0 M W rels i o x (tV u)) (s2 : Src ops a0 M W rels i o y (tV v)) (h : ∀ w, (Instr.index id u v).run P w = .ok z w) (g : Gd ops a0 M W rels i o true := by exact Gd.none_ rfl)
    (ho : ops[i]? = some o := by rfl) (hr : rels[i]? = some (rT (tV z)) := by rfl) (hd : o.dst = some d := by rfl) (hlt : decide (d < N) = true := by rfl) : StepOk P ops a0 M W Q rels i o :=
  sOp ho hr hd hz hlt g fun a γ w U => by
    have e1 : a.eval x = u := s1 a γ w U
    have e2 : a.eval y = v := s2 a γ w U
    refine ⟨z, ?_, rfl⟩
    generalize a.eval = ρ at e1 e2 ⊢
    unfold execOp; rw [hop]; simp only [e1, e2, Sem.run_bind, h, Result.andThen, Sem.run_pure]
end
/-! Strings as rows of bytes. -/
theorem strB_data (l : List Nat) : (strB l).data.toList = l.map UInt8.ofNat := by
  unfold strB
  rw [strOfNums_data, List.map_map]
  refine List.map_congr_left fun d _ => ?_
  simp
theorem strB_ext {u : ByteArray} {l : List Nat} (h : u.data.toList = l.map UInt8.ofNat) : u = strB l := by
  have h2 : u.data = (strB l).data := Array.toList_inj.1 (by rw [h, strB_data])
  cases u; cases hs : strB l; rw [hs] at h2; exact congrArg ByteArray.mk h2
theorem strB_append (l m : List Nat) : strB l ++ strB m = strB (l ++ m) := by
  refine strB_ext ?_
  rw [ByteArray.data_append, Array.toList_append, strB_data, strB_data, List.map_append]
theorem strB_extract (l : List Nat) (a b : Nat) : (strB l).extract a b = strB ((l.drop a).take (b - a)) := by
  refine strB_ext ?_
  rw [ByteArray.data_extract, Array.toList_extract, strB_data]
  show List.take (b - a) (List.drop a (l.map UInt8.ofNat)) = _
  rw [List.map_take, List.map_drop]
section

variable {L M : List Nat} {ox oy : Operand} {v : Value}
theorem s_cat (h : L.length + M.length ≤ 4611686018427387904) (hv : v = .string (strB M)) (w : World) : (do eqGuard .add 9 ox oy (.string (strB L)) v; binOp .add 9 (.string (strB L)) v : Sem Value).run Tryz.prog w = .ok (.string (strB (L ++ M))) w := by
  subst hv
  have e : ¬ (((strB L).size + (strB M).size : Nat) : Int) > IntKind.i64.max := by rw [strB_size, strB_size]; have : IntKind.i64.max = 9223372036854775807 := rfl; omega
  have e2 : (Op.stringOp .add (strB L) (strB M) : Sem Value) = pure (.string (strB L ++ strB M)) := by unfold Op.stringOp; simp only [if_neg e]
  simp [go_sem, e2, strB_append]
theorem s_len {ty : TypeId} (w : World) : (Builtin.len_ #[9] ty #[.string (strB L)]).run Tryz.prog w = .ok (.int .i64 ((L.length : Nat) : Int)) w := by
  rw [run_len_string _ _ _ _ (by kernel_rfl), strB_size]; rfl
theorem s_to {j : Nat} (h : j ≤ L.length) (w : World) : (Instr.sliceAt 9 (.string (strB L)) none (some (.int .i64 ((j : Nat) : Int))) none).run Tryz.prog w = .ok (.string (strB (L.take j))) w := by
  rw [run_sliceAt_string _ _ _ _ _ _ (by kernel_rfl), run_slice_string_to_if _ _ _ _ _ (by kernel_rfl), if_pos (by rw [strB_size]; omega), strB_extract]; simp
theorem s_from {j : Nat} (h : j ≤ L.length) (w : World) : (Instr.sliceAt 9 (.string (strB L)) (some (.int .i64 ((j : Nat) : Int))) none none).run Tryz.prog w = .ok (.string (strB (L.drop j))) w := by
  rw [run_sliceAt_string _ _ _ _ _ _ (by kernel_rfl), run_slice_string_from_if _ _ _ _ _ (by kernel_rfl), if_pos (by rw [strB_size]; omega), strB_extract, strB_size]
  rw [List.take_of_length_le (by rw [List.length_drop]; simp)]; rfl
theorem s_mid {i j : Nat} (hi : i ≤ j) (h : j ≤ L.length) (w : World) : (Instr.sliceAt 9 (.string (strB L)) (some (.int .i64 ((i : Nat) : Int))) (some (.int .i64 ((j : Nat) : Int))) none).run Tryz.prog w = .ok (.string (strB ((L.drop i).take (j - i)))) w := by
  rw [run_sliceAt_string _ _ _ _ _ _ (by kernel_rfl), run_slice_string _ _ _ _ _ _ _ (by kernel_rfl) (by omega) (by omega) (by rw [strB_size]; omega), strB_extract]; simp
theorem s_ix {j : Nat} (hL : ∀ d ∈ L, d < 256) (h : j < L.length) (w : World) : (Instr.index 9 (.string (strB L)) (.int .i64 ((j : Nat) : Int))).run Tryz.prog w = .ok (.int .u8 ((L.getD j 0 : Nat) : Int)) w := by
  have := run_index_byte (strB L) j (by rw [strB_size]; exact h) w
  rw [bytesL_strB L hL] at this; exact this
end
/-! How long a text is. -/
theorem ten_two (k : Nat) : 2 ^ k ≤ 10 ^ k := Nat.pow_le_pow_left (by decide) k
theorem txt_bl (x : Nat) : (txt x).length ≤ bl x + 1 := by
  rw [txt_length]
  rcases Nat.eq_zero_or_pos x with h | h
  · rw [h, decs_zero]; simp
  · rw [decs_pos h]
    have := digs_length_le two_le_ten (x := x) (k := bl x) (Nat.lt_of_lt_of_le bl_lt (ten_two _))
    omega
theorem bl_mono {x y : Nat} (h : x ≤ y) : bl x ≤ bl y := bl_le (Nat.lt_of_le_of_lt h bl_lt)
theorem ten_lt (n : Nat) : 10 ^ n < 2 ^ (4 * n + 1) := by
  rw [Nat.pow_succ, Nat.pow_mul]
  have : 10 ^ n ≤ (2 ^ 4) ^ n := Nat.pow_le_pow_left (by decide) n
  have h0 : 0 < (2 ^ 4) ^ n := Nat.pow_pos (by decide)
  omega
theorem bl_ten (p n : Nat) : bl (p * 10 ^ n) ≤ bl p + 4 * n + 1 := by
  refine bl_le ?_
  rw [Nat.add_assoc, Nat.pow_add]
  exact Nat.mul_lt_mul'' bl_lt (ten_lt n)
theorem rn_le_succ (a q : Nat) : rn a q ≤ a + 1 := by
  unfold rn
  have := Nat.div_le_self a q
  split <;> omega
theorem bl_succ (x : Nat) : bl (x + 1) ≤ bl x + 1 := by
  refine bl_le ?_
  have := bl_lt (x := x)
  rw [Nat.pow_succ]; omega
theorem dec_len (p q n : Nat) : (txt (rn (p * 10 ^ n) q)).length ≤ bl p + 4 * n + 3 := by
  have h1 := txt_bl (rn (p * 10 ^ n) q)
  have h2 := bl_mono (rn_le_succ (p * 10 ^ n) q)
  have h3 := bl_succ (p * 10 ^ n)
  have h4 := bl_ten p n
  omega
def fmtT (p q : Nat) : List Nat := if q = 1 then txt p else txt p ++ [47] ++ txt q
def padT (N n : Nat) : List Nat := if (txt N).length ≤ n then List.replicate (n + 1 - (txt N).length) 48 ++ txt N else txt N
def decS (N n : Nat) : List Nat := if n = 0 then txt N else (padT N n).take ((padT N n).length - n) ++ [46] ++ (padT N n).drop ((padT N n).length - n)
theorem padT_len (N n : Nat) : n < (padT N n).length := by
  unfold padT
  have := txt_pos N
  split
  · rw [List.length_append, List.length_replicate]; omega
  · omega
theorem repeat_0 : ∀ n, Lib.repeatL [48] n = (List.replicate n 48).map UInt8.ofNat
  | 0 => rfl
  | n + 1 => by
    show (48 : UInt8) :: Lib.repeatL [48] n = _
    rw [repeat_0 n, List.replicate_succ]; rfl
theorem c_repeat {n : Nat} (h : n ≤ 1000000) {w : World} : Calls Tryz.prog 81 #[.string ⟨#[48]⟩, .int .i64 ((n : Nat) : Int)] w (Ret (tV (.string (strB (List.replicate n 48)))) w) := by
  have hs : (⟨#[48]⟩ : ByteArray).size = 1 := rfl
  refine (Tryz.strings_Repeat ⟨#[48]⟩ n w (by omega) (by rw [hs]; omega)).mono ?_
  rintro e w1 ⟨rfl, hb⟩
  refine ⟨_, rfl, ?_, hb⟩
  refine congrArg Value.string ?_
  exact strB_ext (by simpa using repeat_0 n)
end Go.Proofs.YtfgnleoaibcegaaGreat.Rg

namespace Go.Proofs.YtfgnleoaibcegaaGreat.Rg

open Go.RowKit

theorem Cell.toN {id : TypeId} {T U : Ty} {p : Nat} {w : World} (h : Cell id T p w) (c : ∀ v w, T.p v w → U.p v w) : Cell id U p w := by
  obtain ⟨v, h1, h2⟩ := h; exact ⟨v, h1, c _ _ h2⟩
theorem tN_ten0 {n : Nat} : ∀ v w, (tN B64 1 1).p v w → (tN B64 (n + 1) (10 ^ 0)).p v w := fun v w h => tN_le (by omega) _ _ h
theorem tN_ten1 {n i l : Nat} (hi : i < n) : ∀ v w, (tN B64 l (10 ^ i * 10)).p v w → (tN B64 (n + 1) (10 ^ (i + 1))).p v w := by
  rintro v w ⟨A, m, c, e, hd, hm⟩
  rw [← Nat.pow_succ] at hd
  refine ⟨A, m, c, e, hd, hd.le (by decide) ?_⟩
  exact Nat.lt_of_le_of_lt (Nat.pow_le_pow_left (by decide : 10 ≤ B64) _) (Nat.pow_lt_pow_right (by decide) (by omega))
theorem tN_ten2 {n i : Nat} (h1 : i ≤ n) (h2 : ¬ i < n) : ∀ v w, (tN B64 (n + 1) (10 ^ i)).p v w → (tN B64 (n + 1) (10 ^ n)).p v w := by
  obtain rfl : i = n := by omega
  exact fun _ _ h => h
theorem rn_up1 {a q : Nat} (h : q < a % q + a % q) : rn a q = a / q + 1 := if_pos (Or.inl (by omega))
theorem rn_up2 {a q : Nat} (h : a % q + a % q = q) (h2 : a / q % 2 = 1) : rn a q = a / q + 1 := if_pos (Or.inr ⟨by omega, h2⟩)
theorem rn_no1 {a q : Nat} (h : ¬ q < a % q + a % q) (h2 : ¬ a % q + a % q = q) : rn a q = a / q := if_neg (by omega)
theorem rn_no2 {a q : Nat} (h : ¬ q < a % q + a % q) (h2 : ¬ a / q % 2 = 1) : rn a q = a / q := if_neg (by omega)
section

variable {N n k j : Nat} {X : List Nat}
theorem dl_1 (h : (txt N).length ≤ 2000000) : (txt N).length ≤ 3000000 := by omega
theorem dl_2 (hn : n ≤ 100) (h : (txt N).length ≤ 2000000) : ((List.replicate (n + 1 - (txt N).length) 48) ++ (txt N)).length ≤ 3000000 := by rw [List.length_append, List.length_replicate]; omega
theorem dl_big (h : X.length ≤ 3000000) : X.length ≤ 4611686018427387904 := by omega
theorem dl_r (hn : n ≤ 100) : n + 1 - k ≤ 1000000 := by omega
theorem dl_s (hn : n ≤ 100) : n + 1 ≤ 4611686018427387904 := by omega
theorem dl_a (hn : n ≤ 100) (h : (txt N).length ≤ 2000000) : (List.replicate (n + 1 - (txt N).length) 48).length + (txt N).length ≤ 4611686018427387904 := by rw [List.length_replicate]; omega
theorem dl_b {d : Nat} (h : X.length ≤ 3000000) : (X.take j).length + [d].length ≤ 4611686018427387904 := by rw [List.length_take, List.length_singleton]; omega
theorem dl_c {d : Nat} (h : X.length ≤ 3000000) : ((X.take j) ++ [d]).length + (X.drop j).length ≤ 4611686018427387904 := by rw [List.length_append, List.length_take, List.length_singleton, List.length_drop]; omega
theorem dl_t {b : Nat} (hb : b ≤ 1000000) (hn : n ≤ 100) (h : (txt N).length ≤ b + 4 * n + 3) : (txt N).length ≤ 2000000 := by omega
end
theorem c_text_to {l1 z N : Nat} {v1 : Value} {w : World} (e : N = z) (h1 : (tN B64 l1 z).p v1 w) (b1 : l1 ≤ big) : Calls Tryz.prog 78 #[v1] w (Ret (tV (.string (strB (txt N)))) w) := by rw [e]; exact c_text h1 b1
theorem c_divmod_q {x q l1 l2 : Nat} {v1 v2 : Value} {w : World} (hq : 0 < q) (h1 : (tN B64 l1 x).p v1 w) (h2 : (tN B64 l2 q).p v2 w) (b1 : l1 ≤ big) (b2 : l2 ≤ big) : Calls Tryz.prog 45 #[v1, v2] w (Ret (tT [tN B64 l1 (x / q), tN B64 l1 (x % q), tV (.bool true)]) w) := by
  have := c_divmod h1 h2 b1 b2
  rw [modOf_pos hq, nz_pos hq] at this; exact this
theorem n_lt {i n : Nat} {ox oy : Operand} {id : TypeId}  (w : World) : (do eqGuard .lss id ox oy (.int .i64 ((i : Nat) : Int)) (.int .i64 ((n : Nat) : Int)); binOp .lss id (.int .i64 ((i : Nat) : Int)) (.int .i64 ((n : Nat) : Int)) : Sem Value).run Tryz.prog w = .ok (.bool (decide (i < n))) w := by
  have e : decide (((i : Nat) : Int) < ((n : Nat) : Int)) = decide (i < n) := by rw [decide_eq_decide]; omega
  rw [← e]
  simp only [eqGuard]; simp [go_sem]
theorem n_le {i n : Nat} {ox oy : Operand} {id : TypeId}  (w : World) : (do eqGuard .leq id ox oy (.int .i64 ((i : Nat) : Int)) (.int .i64 ((n : Nat) : Int)); binOp .leq id (.int .i64 ((i : Nat) : Int)) (.int .i64 ((n : Nat) : Int)) : Sem Value).run Tryz.prog w = .ok (.bool (decide (i ≤ n))) w := by
  have e : decide (((i : Nat) : Int) ≤ ((n : Nat) : Int)) = decide (i ≤ n) := by rw [decide_eq_decide]; omega
  rw [← e]
  simp only [eqGuard]; simp [go_sem]
theorem n_eq0 {n : Nat} {ox oy : Operand} {id : TypeId}  (w : World) : (do eqGuard .eql id ox oy (.int .i64 ((n : Nat) : Int)) (.int .i64 0); binOp .eql id (.int .i64 ((n : Nat) : Int)) (.int .i64 0) : Sem Value).run Tryz.prog w = .ok (.bool (decide (n = 0))) w := by
  by_cases hc : n = 0
  · subst hc; simp [go_sem]
  · have : ¬ ((n : Nat) : Int) = 0 := by omega
    simp [go_sem, hc, this]
theorem n_neg {n : Nat} {ox oy : Operand} {id : TypeId}  (w : World) : (do eqGuard .lss id ox oy (.int .i64 ((n : Nat) : Int)) (.int .i64 0); binOp .lss id (.int .i64 ((n : Nat) : Int)) (.int .i64 0) : Sem Value).run Tryz.prog w = .ok (.bool false) w := by
  have : ¬ ((n : Nat) : Int) < 0 := by omega
  simp [go_sem, this]
theorem n_gt100 {n : Nat} {ox oy : Operand} {id : TypeId} (h : n ≤ 100) (w : World) : (do eqGuard .gtr id ox oy (.int .i64 ((n : Nat) : Int)) (.int .i64 100); binOp .gtr id (.int .i64 ((n : Nat) : Int)) (.int .i64 100) : Sem Value).run Tryz.prog w = .ok (.bool false) w := by
  have : ¬ (100 : Int) < ((n : Nat) : Int) := by omega
  simp [go_sem, this]
theorem n_succ {i : Nat} {ox oy : Operand} {id : TypeId} (h : i ≤ 4611686018427387904) (w : World) : (do eqGuard .add id ox oy (.int .i64 ((i : Nat) : Int)) (.int .i64 1); binOp .add id (.int .i64 ((i : Nat) : Int)) (.int .i64 1) : Sem Value).run Tryz.prog w = .ok (.int .i64 ((i + 1 : Nat) : Int)) w := by
  have e : IntKind.i64.wrap (((i : Nat) : Int) + 1) = ((i + 1 : Nat) : Int) := by rw [IntKind.wrap_i64]; omega
  simp [go_sem, e]
theorem n_sub {i n : Nat} {ox oy : Operand} {id : TypeId} (h : n ≤ i) (h2 : i ≤ 4611686018427387904) (w : World) : (do eqGuard .sub id ox oy (.int .i64 ((i : Nat) : Int)) (.int .i64 ((n : Nat) : Int)); binOp .sub id (.int .i64 ((i : Nat) : Int)) (.int .i64 ((n : Nat) : Int)) : Sem Value).run Tryz.prog w = .ok (.int .i64 ((i - n : Nat) : Int)) w := by
  have e : IntKind.i64.wrap (((i : Nat) : Int) - ((n : Nat) : Int)) = ((i - n : Nat) : Int) := by rw [IntKind.wrap_i64]; omega
  simp [go_sem, e]
theorem n_add {i n : Nat} {ox oy : Operand} {id : TypeId} (h : i ≤ 2305843009213693952) (h2 : n ≤ 2305843009213693952) (w : World) : (do eqGuard .add id ox oy (.int .i64 ((i : Nat) : Int)) (.int .i64 ((n : Nat) : Int)); binOp .add id (.int .i64 ((i : Nat) : Int)) (.int .i64 ((n : Nat) : Int)) : Sem Value).run Tryz.prog w = .ok (.int .i64 ((i + n : Nat) : Int)) w := by
  have e : IntKind.i64.wrap (((i : Nat) : Int) + ((n : Nat) : Int)) = ((i + n : Nat) : Int) := by rw [IntKind.wrap_i64]; omega
  simp [go_sem, e]
set_option maxRecDepth 10000 in
set_option maxHeartbeats 2000000 in
theorem c_ten {n : Nat} {w : World}  (hn : n ≤ 3000) :
    Calls Tryz.prog 80 #[.int .i64 ((n : Nat) : Int)] w (Ret (tN B64 (n + 1) (10 ^ n)) w) := by
 refine enter Tryz.func80 rfl Tryz.ntmps80 (by simp) ?_
 intro a hz hd ha
 have S0 := ha 0 _ rfl
 clear ha
 have HB : Below w.heap.size w w := Below.refl _ _
 refine wp_seq ?_
 refine rt [rB 0 26 (tN B64 0 0) none 0] hz hd ?_ ?_
 refine ⟨?_, trivial⟩
 exact zNew hz (fun _ => tN_nil) al_n64
 clear hz hd
 intro a' γ' W' hz hd hC hk hh
 replace S0 := kp hk S0
 obtain ⟨p1, S2, Cp1, lp1, gp1⟩ := gotB hz 0 hC hh rfl rfl rfl rfl rfl rfl
 have bp1 := Nat.le_trans HB.size lp1
 clear lp1 gp1
 replace HB := aB HB hC
 clear hC hk hh
 refine wp_seq ?_
 refine rt [rT (tN B64 1 1), rVar 1 26 1, rB 1 26 (tN B64 1 1) (some 1) 2] hz hd ?_ ?_
 refine ⟨?_, ?_, ?_, trivial⟩
 exact zC0 hz Tryz.func51 (fun _ => c_num1)
 exact zAl hz nd_slice al_n64
 exact zSt (sd 0 rfl) st_n64
 clear hz hd
 intro a' γ' W' hz hd hC hk hh
 have ep1 := Cp1.lt
 have tp1 := Cp1.lt
 replace Cp1 := kC hC Cp1
 replace S0 := kp hk S0
 replace S2 := kp hk S2
 obtain ⟨p2, S3, Cp2, lp2, gp2⟩ := gotB hz 2 hC hh rfl rfl rfl rfl rfl rfl
 have n_p2_p1 : p2 ≠ p1 := by omega
 have n_p1_p2 : p1 ≠ p2 := by have := ep1; omega
 have bp2 := Nat.le_trans HB.size lp2
 clear lp2 gp2
 clear tp1
 clear ep1
 replace HB := aB HB hC
 clear hC hk hh
 refine wp_seq ?_
 refine wp_seq ?_
 refine rt [rV (.int .i64 ((n : Nat) : Int)), rV (.int .i64 0)] hz hd ?_ ?_
 refine ⟨?_, ?_, trivial⟩
 exact zMv hz (sv S0)
 exact zMv hz kc
 clear hz hd
 intro a' γ' W' hz hd hC hk hh
 have tp1 := Cp1.lt
 replace Cp1 := kC hC Cp1
 have tp2 := Cp2.lt
 replace Cp2 := kC hC Cp2
 clear S0
 replace S2 := kp hk S2
 replace S3 := kp hk S3
 have S5 := gV hz 0 hh
 have S6 := gV hz 1 hh
 clear tp1 tp2
 replace HB := aB HB hC
 clear hC hk hh
 refine wp_block ?_
 replace Cp2 : Cell 26 (tN B64 (n + 1) (10 ^ 0)) p2 _ := Cell.toN Cp2 (tN_ten0)
 refine wp_loop_ghost (fun k a W => ∃ (i : Nat), k = n - i ∧ a.tmps.size = 13 ∧ a.defers = [] ∧ Below w.heap.size w W ∧ Sl a 2 (.pointer (some ⟨p1, 0, none⟩)) ∧ Sl a 3 (.pointer (some ⟨p2, 0, none⟩)) ∧ Sl a 5 (.int .i64 ((n : Nat) : Int)) ∧ Sl a 6 (.int .i64 ((i : Nat) : Int)) ∧ Cell 26 (tN B64 0 0) p1 W ∧ Cell 26 (tN B64 (n + 1) (10 ^ i)) p2 W ∧ i ≤ n) _ ⟨0, rfl, hz, hd, HB, S2, S3, S5, S6, Cp1, Cp2, (Nat.zero_le _)⟩ ?_
 clear S2 S3 S5 S6 Cp1 Cp2 hz hd HB
 rintro k a W ⟨i, rfl, hz, hd, HB, S2, S3, S5, S6, Cp1, Cx, hi⟩
 refine wp_seq ?_
 refine rt [rV (.bool (decide (i < n)))] hz hd ?_ ?_
 refine ⟨?_, trivial⟩
 exact sBin rfl rfl rfl hz rfl (Gd.none_ rfl) rfl (sv S6) (sv S5) (fun w => n_lt w)
 clear hz hd
 intro a' γ' W' hz hd hC hk hh
 have tp1 := Cp1.lt
 replace Cp1 := kC hC Cp1
 have tp2 := Cx.lt
 replace Cx := kC hC Cx
 replace S2 := kp hk S2
 replace S3 := kp hk S3
 replace S5 := kp hk S5
 replace S6 := kp hk S6
 have S7 := gV hz 0 hh
 clear tp1 tp2
 replace HB := aB HB hC
 clear hC hk hh
 refine wp_seq ?_
 by_cases hc3 : i < n
 rw [decide_eq_true hc3] at S7
 refine wp_cond_true S7.ev ?_
 refine wp_skip ?_
 refine wp_seq ?_
 refine wp_block ?_
 refine region_drawn (M := [p2]) (
  rT (tN B64 (n + 1) (10 ^ i)) ::
  rT (tN B64 1 10) ::
  rT (tN B64 ((n + 1) + 1) ((10 ^ i) * 10)) ::
  rE 0 26 (tN B64 ((n + 1) + 1) ((10 ^ i) * 10)) p2 ::
  []) hz hd (by kernel_rfl) (by kernel_rfl) ?_ ?_
 refine ⟨?_, ?_, ?_, ?_, trivial⟩
 exact sLoadM rfl rfl rfl hz rfl (Gd.none_ rfl) rfl (sv S3) Cx (k := 0) (by simp [tagOf]) (by kernel_rfl) ld_n64
 exact zC1 hz Tryz.func40 (kc (v := .int .u64 10)) (k1 (fun _ => c_of (by decide)))
 exact zC2 hz Tryz.func43 (sd 0 rfl) (sd 1 rfl) (fun _ _ _ h0 h1 => c_mul h0 h1 (by rw [big_eq]; omega) (by decide))
 exact zSE rfl (sv S3) (by simp [tagOf]) (Cx.var tN_nd) (sd 2 rfl) st_n64
 clear hz hd
 intro a' γ' W' hz hd hC hk hh
 have tp1 := Cp1.lt
 replace Cp1 := kC hC Cp1 (by simp [tagOf, n_p1_p2])
 replace Cx := gotE (T := tN B64 ((n + 1) + 1) ((10 ^ i) * 10)) (id := 26) (p := p2) 3 hh rfl rfl
 replace S2 := kp hk S2
 replace S3 := kp hk S3
 replace S5 := kp hk S5
 replace S6 := kp hk S6
 replace S7 := kp hk S7
 clear tp1
 replace HB := aM HB hC
 clear hC hk hh
 refine rt [rV (.int .i64 ((i + 1 : Nat) : Int)), rV (.int .i64 ((i + 1 : Nat) : Int))] hz hd ?_ ?_
 refine ⟨?_, ?_, trivial⟩
 exact sBin rfl rfl rfl hz rfl (Gd.none_ rfl) rfl (sv S6) kc (fun w => n_succ (by omega) w)
 exact zMv hz (sd 0 rfl)
 clear hz hd
 intro a' γ' W' hz hd hC hk hh
 have tp1 := Cp1.lt
 replace Cp1 := kC hC Cp1
 have tp2 := Cx.lt
 replace Cx := kC hC Cx
 replace S2 := kp hk S2
 replace S3 := kp hk S3
 replace S5 := kp hk S5
 clear S6
 replace S7 := kp hk S7
 have S6 := gV hz 1 hh
 clear tp1 tp2
 replace HB := aB HB hC
 clear hC hk hh
 replace Cx : Cell 26 (tN B64 (n + 1) (10 ^ (i + 1))) p2 _ := Cell.toN Cx (tN_ten1 hc3)
 show ∃ n', n' < _ ∧ _
 refine ⟨_, ?_, i + 1, rfl, hz, hd, HB, S2, S3, S5, S6, Cp1, Cx, (by have := hc3; omega)⟩
 omega
 rw [decide_eq_false hc3] at S7
 refine wp_cond_false S7.ev ?_
 refine wp_exit ?_
 refine wp_seq ?_
 refine region_text (M := [p1]) [rT (tN B64 (n + 1) (10 ^ i)), rE 0 26 (tN B64 (n + 1) (10 ^ i)) p1] hz hd (by kernel_rfl) ?_ ?_
 refine ⟨?_, ?_, trivial⟩
 exact zLd hz (sv S3) Cx ld_n64 (by simp [tagOf, n_p2_p1])
 exact zSE rfl (sv S2) (by simp [tagOf]) (Cp1.var tN_nd) (sd 0 rfl) st_n64
 clear hz hd
 intro a' γ' W' hz hd hC hk hh
 replace Cp1 := gotE (T := tN B64 (n + 1) (10 ^ i)) (id := 26) (p := p1) 1 hh rfl rfl
 have tp2 := Cx.lt
 clear Cx
 replace S2 := kp hk S2
 clear S3
 clear S5
 clear S6
 clear S7
 clear tp2
 replace HB := aM HB hC
 clear hC hk hh
 refine wp_ret ?_
 refine ret_to (T := tN B64 (n + 1) (10 ^ i)) (ret1_n64 (by kernel_rfl) S2 hd Cp1 HB) ?_
 exact tN_ten2 hi hc3

set_option maxRecDepth 10000 in
set_option maxHeartbeats 2000000 in
theorem c_format {l p q : Nat} {x : Rat} {v0 : Value} {w : World} (h0 : (tQ B64 l x).p v0 w) (hp : x.num.toNat = p) (hq : x.den = q) (hl : l ≤ 1000000) :
    Calls Tryz.prog 27 #[v0] w (Ret (tV (.string (strB (fmtT p q)))) w) := by
 refine enter Tryz.func27 rfl Tryz.ntmps27 (by simp) ?_
 intro a hz hd ha
 have S0 := ha 0 _ rfl
 have H0 := h0
 clear ha
 have HB : Below w.heap.size w w := Below.refl _ _
 have hq0 := tq_q h0 hq
 have hpl := tq_bp h0 hp
 have hql := tq_bq h0 hq
 have htp := txt_bl p
 have htq := txt_bl q
 refine wp_seq ?_
 refine rt [rB 0 28 (tQ B64 l x) none 0, rV (.string ⟨#[]⟩)] hz hd ?_ ?_
 refine ⟨?_, ?_, trivial⟩
 exact zBox hz (so S0 H0) box_q64
 exact zAs hz kc
 clear hz hd
 intro a' γ' W' hz hd hC hk hh
 clear S0 H0
 obtain ⟨p1, S1, Cp1, lp1, gp1⟩ := gotB hz 0 hC hh rfl rfl rfl rfl rfl rfl
 have S2 := gV hz 1 hh
 clear lp1 gp1
 replace HB := aB HB hC
 clear hC hk hh
 refine wp_seq ?_
 refine rt [rT (tQ B64 l x), rT (tT [tN B64 l p, tN B64 (l + 1) q]), rT (tT [tN B64 l p, tN B64 (l + 1) q]), rT (tN B64 l p), rT (tN B64 (l + 1) q), rVar 5 26 1, rVar 6 26 1, rB 5 26 (tN B64 l p) (some 5) 6, rB 6 26 (tN B64 (l + 1) q) (some 6) 7] hz hd ?_ ?_
 refine ⟨?_, ?_, ?_, ?_, ?_, ?_, ?_, ?_, ?_, trivial⟩
 exact zLd hz (sv S1) Cp1 ld_q64
 exact zC1 hz Tryz.func41 (sd 0 rfl) (fun _ _ h0 => c_parts_pq hp hq h0 (by omega))
 exact zMv hz (sd 1 rfl)
 exact zExt hz (sd 2 rfl)
 exact zExt hz (sd 2 rfl)
 exact zAl hz nd_slice al_n64
 exact zAl hz nd_slice al_n64
 exact zSt (sd 3 rfl) st_n64
 exact zSt (sd 4 rfl) st_n64
 clear hz hd
 intro a' γ' W' hz hd hC hk hh
 have ep1 := Cp1.lt
 clear Cp1
 clear S1
 replace S2 := kp hk S2
 obtain ⟨p2, S3, Cp2, lp2, gp2⟩ := gotB hz 7 hC hh rfl rfl rfl rfl rfl rfl
 obtain ⟨p3, S4, Cp3, lp3, gp3⟩ := gotB hz 8 hC hh rfl rfl rfl rfl rfl rfl
 have n_p2_p3 : p2 ≠ p3 := by intro e; rw [e, gp3] at gp2; omega
 have n_p3_p2 : p3 ≠ p2 := by intro e; rw [e, gp2] at gp3; omega
 have bp2 := Nat.le_trans HB.size lp2
 have bp3 := Nat.le_trans HB.size lp3
 clear lp2 gp2 lp3 gp3
 clear ep1
 replace HB := aB HB hC
 clear hC hk hh
 refine wp_seq ?_
 refine wp_seq ?_
 refine region_drawn (M := []) (
  rT (tN B64 (l + 1) q) ::
  rT (tN B64 1 1) ::
  rT (tV (.int .i64 (cmpI q 1))) ::
  rT (tV (.bool (decide (q = 1)))) ::
  []) hz hd (by kernel_rfl) (by kernel_rfl) ?_ ?_
 refine ⟨?_, ?_, ?_, ?_, trivial⟩
 exact zLd hz (sv S4) Cp3 ld_n64
 exact zC0 hz Tryz.func51 (fun _ => c_num1)
 exact zC2 hz Tryz.func48 (sd 0 rfl) (sd 1 rfl) (fun _ _ _ h0 h1 => c_cmp h0 h1 (by rw [big_eq]; omega) (by decide))
 exact sBin rfl rfl rfl hz rfl (Gd.none_ rfl) rfl (sd 2 rfl) kc (fun w => run_cI_eql q 1 w)
 clear hz hd
 intro a' γ' W' hz hd hC hk hh
 have tp2 := Cp2.lt
 replace Cp2 := kC hC Cp2
 have tp3 := Cp3.lt
 replace Cp3 := kC hC Cp3
 replace S2 := kp hk S2
 replace S3 := kp hk S3
 replace S4 := kp hk S4
 have S13 := gV hz 3 hh
 clear tp2 tp3
 replace HB := aB HB hC
 clear hC hk hh
 by_cases hc4 : q = 1
 rw [decide_eq_true hc4] at S13
 refine wp_cond_true S13.ev ?_
 refine wp_seq ?_
 refine rt [rT (tN B64 l p), rV (.string (strB (txt p))), rV (.string (strB (txt p)))] hz hd ?_ ?_
 refine ⟨?_, ?_, ?_, trivial⟩
 exact zLd hz (sv S3) Cp2 ld_n64
 exact zC1 hz Tryz.func78 (sd 0 rfl) (fun _ _ h0 => c_text h0 (by rw [big_eq]; omega))
 exact zAs hz (sd 1 rfl)
 clear hz hd
 intro a' γ' W' hz hd hC hk hh
 have tp2 := Cp2.lt
 replace Cp2 := kC hC Cp2
 have tp3 := Cp3.lt
 replace Cp3 := kC hC Cp3
 clear S2
 replace S3 := kp hk S3
 replace S4 := kp hk S4
 clear S13
 have S2 := gV hz 2 hh
 clear tp2 tp3
 replace HB := aB HB hC
 clear hC hk hh
 refine wp_ret ?_
 refine ret_to (T := tV (.string (strB (txt p)))) (ret1 (by kernel_rfl) S2 hd ⟨_, rfl, rfl, HB⟩) ?_
 exact tV_to (congrArg (fun l => Value.string (strB l)) (by unfold fmtT; rw [if_pos hc4]))
 rw [decide_eq_false hc4] at S13
 refine wp_cond_false S13.ev ?_
 refine wp_skip ?_
 refine wp_seq ?_
 refine region_drawn (M := []) (
  rT (tN B64 l p) ::
  rT (tV (.string (strB (txt p)))) ::
  rT (tV (.string (strB ((txt p) ++ ([47]))))) ::
  rT (tN B64 (l + 1) q) ::
  rT (tV (.string (strB (txt q)))) ::
  rT (tV (.string (strB (((txt p) ++ ([47])) ++ (txt q))))) ::
  rT (tV (.string (strB (((txt p) ++ ([47])) ++ (txt q))))) ::
  []) hz hd (by kernel_rfl) (by kernel_rfl) ?_ ?_
 refine ⟨?_, ?_, ?_, ?_, ?_, ?_, ?_, trivial⟩
 exact zLd hz (sv S3) Cp2 ld_n64
 exact zC1 hz Tryz.func78 (sd 0 rfl) (fun _ _ h0 => c_text h0 (by rw [big_eq]; omega))
 exact sBin rfl rfl rfl hz rfl (Gd.none_ rfl) rfl (sd 1 rfl) kc (fun w => s_cat (L := txt p) (M := [47]) (by (try simp only [List.length_append, List.length_singleton, List.length_replicate, List.length_take, List.length_drop, List.length_cons, List.length_nil]); omega) rfl w)
 exact zLd hz (sv S4) Cp3 ld_n64
 exact zC1 hz Tryz.func78 (sd 3 rfl) (fun _ _ h0 => c_text h0 (by rw [big_eq]; omega))
 exact sBin rfl rfl rfl hz rfl (Gd.none_ rfl) rfl (sd 2 rfl) (sd 4 rfl) (fun w => s_cat (L := (txt p) ++ ([47])) (M := txt q) (by (try simp only [List.length_append, List.length_singleton, List.length_replicate, List.length_take, List.length_drop, List.length_cons, List.length_nil]); omega) rfl w)
 exact zAs hz (sd 5 rfl)
 clear hz hd
 intro a' γ' W' hz hd hC hk hh
 have tp2 := Cp2.lt
 clear Cp2
 have tp3 := Cp3.lt
 clear Cp3
 clear S2
 clear S3
 clear S4
 clear S13
 have S2 := gV hz 6 hh
 clear tp2 tp3
 replace HB := aB HB hC
 clear hC hk hh
 refine wp_ret ?_
 refine ret_to (T := tV (.string (strB (((txt p) ++ ([47])) ++ (txt q))))) (ret1 (by kernel_rfl) S2 hd ⟨_, rfl, rfl, HB⟩) ?_
 exact tV_to (congrArg (fun l => Value.string (strB l)) (by unfold fmtT; rw [if_neg hc4]))

set_option maxRecDepth 10000 in
set_option maxHeartbeats 2000000 in
theorem c_decimal {l p q n : Nat} {x : Rat} {v0 : Value} {w : World} (h0 : (tQ B64 l x).p v0 w) (hp : x.num.toNat = p) (hq : x.den = q) (hl : l ≤ 1000000) (hn : n ≤ 100) :
    Calls Tryz.prog 29 #[v0, .int .i64 ((n : Nat) : Int)] w (Ret (tT [tV (.string (strB (decS (rn (p * 10 ^ n) q) n))), tV (.bool true)]) w) := by
 refine enter Tryz.func29 rfl Tryz.ntmps29 (by simp) ?_
 intro a hz hd ha
 have S0 := ha 0 _ rfl
 have H0 := h0
 have S1 := ha 1 _ rfl
 clear ha
 have HB : Below w.heap.size w w := Below.refl _ _
 have hq0 := tq_q h0 hq
 have hpl := tq_bp h0 hp
 have hql := tq_bq h0 hq
 have htd := dec_len p q n
 have hT := dl_t (by omega) hn htd
 clear htd
 refine wp_seq ?_
 refine rt [rB 0 28 (tQ B64 l x) none 0, rV (.string ⟨#[]⟩), rV (.bool false)] hz hd ?_ ?_
 refine ⟨?_, ?_, ?_, trivial⟩
 exact zBox hz (so S0 H0) box_q64
 exact zAs hz kc
 exact zAs hz kc
 clear hz hd
 intro a' γ' W' hz hd hC hk hh
 clear S0 H0
 replace S1 := kp hk S1
 obtain ⟨p1, S2, Cp1, lp1, gp1⟩ := gotB hz 0 hC hh rfl rfl rfl rfl rfl rfl
 have S4 := gV hz 1 hh
 have S5 := gV hz 2 hh
 clear lp1 gp1
 replace HB := aB HB hC
 clear hC hk hh
 refine wp_seq ?_
 refine wp_seq ?_
 refine rt [rV (.int .i64 ((n : Nat) : Int)), rV (.bool false), rV (.bool false), rV (.int .i64 ((n : Nat) : Int)), rV (.bool false), rV (.bool false)] hz hd ?_ ?_
 refine ⟨?_, ?_, ?_, ?_, ?_, ?_, trivial⟩
 exact zMv hz (sv S1)
 exact sBin rfl rfl rfl hz rfl (Gd.none_ rfl) rfl (sd 0 rfl) kc (fun w => n_neg w)
 exact zMv hz (sd 1 rfl)
 exact zMv hz (sv S1) (g := gT 2 rfl)
 exact sBin rfl rfl rfl hz rfl (gT 2 rfl) rfl (sd 3 rfl) kc (fun w => n_gt100 hn w)
 exact zPF hz (sd 2 rfl) (sd 4 rfl)
 clear hz hd
 intro a' γ' W' hz hd hC hk hh
 replace Cp1 := kC hC Cp1
 replace S1 := kp hk S1
 replace S2 := kp hk S2
 replace S4 := kp hk S4
 replace S5 := kp hk S5
 have S18 := gV hz 5 hh
 replace HB := aB HB hC
 clear hC hk hh
 refine wp_cond_false S18.ev ?_
 refine wp_skip ?_
 refine wp_seq ?_
 refine rt [rT (tQ B64 l x), rT (tT [tN B64 l p, tN B64 (l + 1) q]), rT (tT [tN B64 l p, tN B64 (l + 1) q]), rT (tN B64 l p), rT (tN B64 (l + 1) q), rVar 5 26 1, rVar 6 26 1, rB 5 26 (tN B64 l p) (some 5) 6, rB 6 26 (tN B64 (l + 1) q) (some 6) 7] hz hd ?_ ?_
 refine ⟨?_, ?_, ?_, ?_, ?_, ?_, ?_, ?_, ?_, trivial⟩
 exact zLd hz (sv S2) Cp1 ld_q64
 exact zC1 hz Tryz.func41 (sd 0 rfl) (fun _ _ h0 => c_parts_pq hp hq h0 (by omega))
 exact zMv hz (sd 1 rfl)
 exact zExt hz (sd 2 rfl)
 exact zExt hz (sd 2 rfl)
 exact zAl hz nd_slice al_n64
 exact zAl hz nd_slice al_n64
 exact zSt (sd 3 rfl) st_n64
 exact zSt (sd 4 rfl) st_n64
 clear hz hd
 intro a' γ' W' hz hd hC hk hh
 have ep1 := Cp1.lt
 clear Cp1
 replace S1 := kp hk S1
 clear S2
 replace S4 := kp hk S4
 replace S5 := kp hk S5
 clear S18
 obtain ⟨p2, S6, Cp2, lp2, gp2⟩ := gotB hz 7 hC hh rfl rfl rfl rfl rfl rfl
 obtain ⟨p3, S7, Cp3, lp3, gp3⟩ := gotB hz 8 hC hh rfl rfl rfl rfl rfl rfl
 have n_p2_p3 : p2 ≠ p3 := by intro e; rw [e, gp3] at gp2; omega
 have n_p3_p2 : p3 ≠ p2 := by intro e; rw [e, gp2] at gp3; omega
 have bp2 := Nat.le_trans HB.size lp2
 have bp3 := Nat.le_trans HB.size lp3
 clear lp2 gp2 lp3 gp3
 clear ep1
 replace HB := aB HB hC
 clear hC hk hh
 refine wp_seq ?_
 refine region_drawn (M := []) (
  rT (tN B64 l p) ::
  rT (tV (.int .i64 ((n : Nat) : Int))) ::
  rT (tN B64 (n + 1) (10 ^ n)) ::
  rT (tN B64 (l + (n + 1)) (p * (10 ^ n))) ::
  rT (tN B64 (l + 1) q) ::
  rT (tT [tN B64 (l + (n + 1)) (p * 10 ^ n / q), tN B64 (l + (n + 1)) (p * 10 ^ n % q), tV (.bool true)]) ::
  rT (tT [tN B64 (l + (n + 1)) (p * 10 ^ n / q), tN B64 (l + (n + 1)) (p * 10 ^ n % q), tV (.bool true)]) ::
  rT (tN B64 (l + (n + 1)) (p * 10 ^ n / q)) ::
  rT (tN B64 (l + (n + 1)) (p * 10 ^ n % q)) ::
  rT (tV (.bool true)) ::
  rVar 10 26 1 ::
  rVar 11 26 1 ::
  rB 10 26 (tN B64 (l + (n + 1)) (p * 10 ^ n / q)) (some 10) 11 ::
  rB 11 26 (tN B64 (l + (n + 1)) (p * 10 ^ n % q)) (some 11) 12 ::
  rT (tV (.bool true)) ::
  []) hz hd (by kernel_rfl) (by kernel_rfl) ?_ ?_
 refine ⟨?_, ?_, ?_, ?_, ?_, ?_, ?_, ?_, ?_, ?_, ?_, ?_, ?_, ?_, ?_, trivial⟩
 exact zLd hz (sv S6) Cp2 ld_n64
 exact zMv hz (sv S1)
 exact zC1 hz Tryz.func80 (sd 1 rfl) (k1 (fun _ => c_ten (n := n) (by omega)))
 exact zC2 hz Tryz.func43 (sd 0 rfl) (sd 2 rfl) (fun _ _ _ h0 h1 => c_mul h0 h1 (by rw [big_eq]; omega) (by rw [big_eq]; omega))
 exact zLd hz (sv S7) Cp3 ld_n64
 exact zC2 hz Tryz.func45 (sd 3 rfl) (sd 4 rfl) (fun _ _ _ h0 h1 => c_divmod_q hq0 h0 h1 (by rw [big_eq]; omega) (by rw [big_eq]; omega))
 exact zMv hz (sd 5 rfl)
 exact zExt hz (sd 6 rfl)
 exact zExt hz (sd 6 rfl)
 exact zExt hz (sd 6 rfl)
 exact zAl hz nd_slice al_n64
 exact zAl hz nd_slice al_n64
 exact zSt (sd 7 rfl) st_n64
 exact zSt (sd 8 rfl) st_n64
 exact zAs hz (sd 9 rfl)
 clear hz hd
 intro a' γ' W' hz hd hC hk hh
 have ep2 := Cp2.lt
 have ep3 := Cp3.lt
 have tp2 := Cp2.lt
 clear Cp2
 have tp3 := Cp3.lt
 replace Cp3 := kC hC Cp3
 replace S1 := kp hk S1
 replace S4 := kp hk S4
 replace S5 := kp hk S5
 clear S6
 replace S7 := kp hk S7
 obtain ⟨p4, S8, Cp4, lp4, gp4⟩ := gotB hz 12 hC hh rfl rfl rfl rfl rfl rfl
 obtain ⟨p5, S9, Cp5, lp5, gp5⟩ := gotB hz 13 hC hh rfl rfl rfl rfl rfl rfl
 have n_p4_p3 : p4 ≠ p3 := by omega
 have n_p4_p5 : p4 ≠ p5 := by intro e; rw [e, gp5] at gp4; omega
 have n_p5_p3 : p5 ≠ p3 := by omega
 have n_p5_p4 : p5 ≠ p4 := by intro e; rw [e, gp4] at gp5; omega
 have n_p3_p4 : p3 ≠ p4 := by have := ep3; omega
 have n_p3_p5 : p3 ≠ p5 := by have := ep3; omega
 have bp4 := Nat.le_trans HB.size lp4
 have bp5 := Nat.le_trans HB.size lp5
 clear lp4 gp4 lp5 gp5
 clear tp2 tp3
 clear ep2 ep3
 replace HB := aB HB hC
 clear hC hk hh
 refine wp_seq ?_
 refine region_drawn (M := []) (
  rT (tN B64 (l + (n + 1)) (p * 10 ^ n % q)) ::
  rT (tN B64 (l + (n + 1)) (p * 10 ^ n % q)) ::
  rT (tN B64 ((max (l + (n + 1)) (l + (n + 1))) + 1) ((p * 10 ^ n % q) + (p * 10 ^ n % q))) ::
  rT (tN B64 (l + 1) q) ::
  rT (tV (.int .i64 (cmpI ((p * 10 ^ n % q) + (p * 10 ^ n % q)) q))) ::
  rT (tV (.int .i64 (cmpI ((p * 10 ^ n % q) + (p * 10 ^ n % q)) q))) ::
  []) hz hd (by kernel_rfl) (by kernel_rfl) ?_ ?_
 refine ⟨?_, ?_, ?_, ?_, ?_, ?_, trivial⟩
 exact zLd hz (sv S9) Cp5 ld_n64
 exact zLd hz (sv S9) Cp5 ld_n64
 exact zC2 hz Tryz.func50 (sd 0 rfl) (sd 1 rfl) (fun _ _ _ h0 h1 => c_add h0 h1 (by rw [big_eq]; omega) (by rw [big_eq]; omega))
 exact zLd hz (sv S7) Cp3 ld_n64
 exact zC2 hz Tryz.func48 (sd 2 rfl) (sd 3 rfl) (fun _ _ _ h0 h1 => c_cmp h0 h1 (by rw [big_eq]; omega) (by rw [big_eq]; omega))
 exact zAs hz (sd 4 rfl)
 clear hz hd
 intro a' γ' W' hz hd hC hk hh
 have tp3 := Cp3.lt
 clear Cp3
 have tp4 := Cp4.lt
 replace Cp4 := kC hC Cp4
 have tp5 := Cp5.lt
 clear Cp5
 replace S1 := kp hk S1
 replace S4 := kp hk S4
 replace S5 := kp hk S5
 clear S7
 replace S8 := kp hk S8
 clear S9
 have S11 := gV hz 5 hh
 clear tp3 tp4 tp5
 replace HB := aB HB hC
 clear hC hk hh
 refine wp_seq ?_
 refine wp_seq ?_
 by_cases hc6 : q < (p * 10 ^ n % q) + (p * 10 ^ n % q)
 refine rt [rV (.int .i64 (cmpI ((p * 10 ^ n % q) + (p * 10 ^ n % q)) q)), rV (.bool true), rV (.bool true), rV undef, rV undef, rV undef, rV undef, rV undef, rV undef, rV (.bool true)] hz hd ?_ ?_
 refine ⟨?_, ?_, ?_, ?_, ?_, ?_, ?_, ?_, ?_, ?_, trivial⟩
 exact zMv hz (sv S11)
 exact sBin rfl rfl rfl hz rfl (Gd.none_ rfl) rfl (sd 0 rfl) kc (fun w => run_t (P := q < (p * 10 ^ n % q) + (p * 10 ^ n % q)) ((fun w => run_cI_gtr ((p * 10 ^ n % q) + (p * 10 ^ n % q)) q w) w) hc6)
 exact zMv hz (sd 1 rfl)
 exact zSkU hz (gN 2 rfl)
 exact zSkU hz (gN 2 rfl)
 exact zSkU hz (gN 2 rfl)
 exact zSkU hz (gU 5 rfl)
 exact zSkU hz (gU 5 rfl)
 exact zSkU hz (gN 2 rfl)
 exact zPT hz (sd 2 rfl) kc
 clear hz hd
 intro a' γ' W' hz hd hC hk hh
 have tp4 := Cp4.lt
 replace Cp4 := kC hC Cp4
 replace S1 := kp hk S1
 replace S4 := kp hk S4
 replace S5 := kp hk S5
 replace S8 := kp hk S8
 clear S11
 have S48 := gV hz 9 hh
 clear tp4
 replace HB := aB HB hC
 clear hC hk hh
 refine wp_cond_true S48.ev ?_
 refine region_drawn (M := [p4]) (
  rT (tN B64 (l + (n + 1)) (p * 10 ^ n / q)) ::
  rT (tN B64 1 1) ::
  rT (tN B64 ((max (l + (n + 1)) 1) + 1) ((p * 10 ^ n / q) + 1)) ::
  rE 0 26 (tN B64 ((max (l + (n + 1)) 1) + 1) ((p * 10 ^ n / q) + 1)) p4 ::
  []) hz hd (by kernel_rfl) (by kernel_rfl) ?_ ?_
 refine ⟨?_, ?_, ?_, ?_, trivial⟩
 exact sLoadM rfl rfl rfl hz rfl (Gd.none_ rfl) rfl (sv S8) Cp4 (k := 0) (by simp [tagOf]) (by kernel_rfl) ld_n64
 exact zC0 hz Tryz.func51 (fun _ => c_num1)
 exact zC2 hz Tryz.func50 (sd 0 rfl) (sd 1 rfl) (fun _ _ _ h0 h1 => c_add h0 h1 (by rw [big_eq]; omega) (by decide))
 exact zSE rfl (sv S8) (by simp [tagOf]) (Cp4.var tN_nd) (sd 2 rfl) st_n64
 clear hz hd
 intro a' γ' W' hz hd hC hk hh
 replace Cp4 := gotE (T := tN B64 ((max (l + (n + 1)) 1) + 1) ((p * 10 ^ n / q) + 1)) (id := 26) (p := p4) 3 hh rfl rfl
 replace S1 := kp hk S1
 replace S4 := kp hk S4
 replace S5 := kp hk S5
 replace S8 := kp hk S8
 clear S48
 replace HB := aM HB hC
 clear hC hk hh
 refine wp_seq ?_
 refine rt [rT (tN B64 ((max (l + (n + 1)) 1) + 1) ((p * 10 ^ n / q) + 1)), rV (.string (strB (txt (rn (p * 10 ^ n) q)))), rV (.string (strB (txt (rn (p * 10 ^ n) q))))] hz hd ?_ ?_
 refine ⟨?_, ?_, ?_, trivial⟩
 exact zLd hz (sv S8) Cp4 ld_n64
 exact zC1 hz Tryz.func78 (sd 0 rfl) (fun _ _ h0 => c_text_to (rn_up1 hc6) h0 (by rw [big_eq]; omega))
 exact zAs hz (sd 1 rfl)
 clear hz hd
 intro a' γ' W' hz hd hC hk hh
 have tp4 := Cp4.lt
 clear Cp4
 replace S1 := kp hk S1
 replace S4 := kp hk S4
 replace S5 := kp hk S5
 clear S8
 have S12 := gV hz 2 hh
 clear tp4
 replace HB := aB HB hC
 clear hC hk hh
 refine wp_seq ?_
 refine wp_seq ?_
 refine rt [rV (.int .i64 ((n : Nat) : Int)), rV (.bool (decide (n = 0)))] hz hd ?_ ?_
 refine ⟨?_, ?_, trivial⟩
 exact zMv hz (sv S1)
 exact sBin rfl rfl rfl hz rfl (Gd.none_ rfl) rfl (sd 0 rfl) kc (fun w => n_eq0 w)
 clear hz hd
 intro a' γ' W' hz hd hC hk hh
 replace S1 := kp hk S1
 replace S4 := kp hk S4
 replace S5 := kp hk S5
 replace S12 := kp hk S12
 have S55 := gV hz 1 hh
 replace HB := aB HB hC
 clear hC hk hh
 by_cases hc7 : n = 0
 rw [decide_eq_true hc7] at S55
 refine wp_cond_true S55.ev ?_
 refine wp_seq ?_
 refine rt [rV (.string (strB (txt (rn (p * 10 ^ n) q)))), rV (.string (strB (txt (rn (p * 10 ^ n) q)))), rV (.bool true)] hz hd ?_ ?_
 refine ⟨?_, ?_, ?_, trivial⟩
 exact zMv hz (sv S12)
 exact zAs hz (sd 0 rfl)
 exact zAs hz kc
 clear hz hd
 intro a' γ' W' hz hd hC hk hh
 replace S1 := kp hk S1
 clear S4
 clear S5
 replace S12 := kp hk S12
 clear S55
 have S4 := gV hz 1 hh
 have S5 := gV hz 2 hh
 replace HB := aB HB hC
 clear hC hk hh
 refine wp_ret ?_
 refine ret_to (T := tT [tV (.string (strB (txt (rn (p * 10 ^ n) q)))), tV (.bool true)]) (rett2 (by kernel_rfl) S4 S5 hd HB) ?_
 exact to2 (tV_to (congrArg (fun l => Value.string (strB l)) (by unfold decS; rw [if_pos hc7]))) (tV_to rfl)
 rw [decide_eq_false hc7] at S55
 refine wp_cond_false S55.ev ?_
 refine wp_skip ?_
 refine wp_seq ?_
 refine wp_seq ?_
 refine rt [rV (.string (strB (txt (rn (p * 10 ^ n) q)))), rV (.int .i64 (((txt (rn (p * 10 ^ n) q)).length : Nat) : Int)), rV (.int .i64 ((n : Nat) : Int)), rV (.bool (decide ((txt (rn (p * 10 ^ n) q)).length ≤ n)))] hz hd ?_ ?_
 refine ⟨?_, ?_, ?_, ?_, trivial⟩
 exact zMv hz (sv S12)
 exact zB1len hz rfl (sd 0 rfl) (fun w => s_len w)
 exact zMv hz (sv S1)
 exact sBin rfl rfl rfl hz rfl (Gd.none_ rfl) rfl (sd 1 rfl) (sd 2 rfl) (fun w => n_le w)
 clear hz hd
 intro a' γ' W' hz hd hC hk hh
 replace S1 := kp hk S1
 replace S4 := kp hk S4
 replace S5 := kp hk S5
 replace S12 := kp hk S12
 clear S55
 have S60 := gV hz 3 hh
 replace HB := aB HB hC
 clear hC hk hh
 by_cases hc8 : (txt (rn (p * 10 ^ n) q)).length ≤ n
 rw [decide_eq_true hc8] at S60
 refine wp_cond_true S60.ev ?_
 refine rt [rV (.int .i64 ((n : Nat) : Int)), rV (.int .i64 ((n + 1 : Nat) : Int)), rV (.string (strB (txt (rn (p * 10 ^ n) q)))), rV (.int .i64 (((txt (rn (p * 10 ^ n) q)).length : Nat) : Int)), rV (.int .i64 ((n + 1 - (txt (rn (p * 10 ^ n) q)).length : Nat) : Int)), rV (.string (strB (List.replicate (n + 1 - (txt (rn (p * 10 ^ n) q)).length) 48))), rV (.string (strB (txt (rn (p * 10 ^ n) q)))), rV (.string (strB ((List.replicate (n + 1 - (txt (rn (p * 10 ^ n) q)).length) 48) ++ (txt (rn (p * 10 ^ n) q))))), rV (.string (strB ((List.replicate (n + 1 - (txt (rn (p * 10 ^ n) q)).length) 48) ++ (txt (rn (p * 10 ^ n) q)))))] hz hd ?_ ?_
 refine ⟨?_, ?_, ?_, ?_, ?_, ?_, ?_, ?_, ?_, trivial⟩
 exact zMv hz (sv S1)
 exact sBin rfl rfl rfl hz rfl (Gd.none_ rfl) rfl (sd 0 rfl) kc (fun w => n_succ (Nat.le_of_succ_le (dl_s hn)) w)
 exact zMv hz (sv S12)
 exact zB1len hz rfl (sd 2 rfl) (fun w => s_len w)
 exact sBin rfl rfl rfl hz rfl (Gd.none_ rfl) rfl (sd 1 rfl) (sd 3 rfl) (fun w => n_sub (Nat.le_succ_of_le hc8) (dl_s hn) w)
 exact zC2 hz Tryz.func81 (kc (v := .string ⟨#[48]⟩)) (sd 4 rfl) (k11 (fun _ => c_repeat (dl_r hn)))
 exact zMv hz (sv S12)
 exact sBin rfl rfl rfl hz rfl (Gd.none_ rfl) rfl (sd 5 rfl) (sd 6 rfl) (fun w => s_cat (L := List.replicate (n + 1 - (txt (rn (p * 10 ^ n) q)).length) 48) (M := txt (rn (p * 10 ^ n) q)) (dl_a hn hT) rfl w)
 exact zAs hz (sd 7 rfl)
 clear hz hd
 intro a' γ' W' hz hd hC hk hh
 replace S1 := kp hk S1
 replace S4 := kp hk S4
 replace S5 := kp hk S5
 clear S12
 clear S60
 have S12 := gV hz 8 hh
 replace HB := aB HB hC
 clear hC hk hh
 refine wp_seq ?_
 obtain ⟨X, eX⟩ : ∃ X, padT (rn (p * 10 ^ n) q) n = X := ⟨_, rfl⟩
 have eX2 : (List.replicate (n + 1 - (txt (rn (p * 10 ^ n) q)).length) 48) ++ (txt (rn (p * 10 ^ n) q)) = X := by rw [← eX]; unfold padT; rw [if_pos hc8]
 rw [eX2] at S12
 have hX3 : X.length ≤ 3000000 := by rw [← eX2]; exact (dl_2 hn hT)
 have hXn : n ≤ X.length := by rw [← eX]; exact Nat.le_of_lt (padT_len _ _)
 clear eX2
 refine region_drawn (M := []) (
  rT (tV (.string (strB X))) ::
  rT (tV (.string (strB X))) ::
  rT (tV (.int .i64 ((X.length : Nat) : Int))) ::
  rT (tV (.int .i64 ((n : Nat) : Int))) ::
  rT (tV (.int .i64 ((X.length - n : Nat) : Int))) ::
  rT (tV (.string (strB (X.take (X.length - n))))) ::
  rT (tV (.string (strB ((X.take (X.length - n)) ++ ([46]))))) ::
  rT (tV (.string (strB X))) ::
  rT (tV (.string (strB X))) ::
  rT (tV (.int .i64 ((X.length : Nat) : Int))) ::
  rT (tV (.int .i64 ((n : Nat) : Int))) ::
  rT (tV (.int .i64 ((X.length - n : Nat) : Int))) ::
  rT (tV (.string (strB (X.drop (X.length - n))))) ::
  rT (tV (.string (strB (((X.take (X.length - n)) ++ ([46])) ++ (X.drop (X.length - n)))))) ::
  rT (tV (.string (strB (((X.take (X.length - n)) ++ ([46])) ++ (X.drop (X.length - n)))))) ::
  rT (tV (.bool true)) ::
  []) hz hd (by kernel_rfl) (by kernel_rfl) ?_ ?_
 refine ⟨?_, ?_, ?_, ?_, ?_, ?_, ?_, ?_, ?_, ?_, ?_, ?_, ?_, ?_, ?_, ?_, trivial⟩
 exact zMv hz (sv S12)
 exact zMv hz (sv S12)
 exact zB1len hz rfl (sd 1 rfl) (fun w => s_len w)
 exact zMv hz (sv S1)
 exact sBin rfl rfl rfl hz rfl (Gd.none_ rfl) rfl (sd 2 rfl) (sd 3 rfl) (fun w => n_sub hXn (dl_big hX3) w)
 exact zSlTo hz rfl (sd 0 rfl) (sd 4 rfl) (fun w => s_to (Nat.sub_le _ _) w)
 exact sBin rfl rfl rfl hz rfl (Gd.none_ rfl) rfl (sd 5 rfl) kc (fun w => s_cat (L := X.take (X.length - n)) (M := [46]) (dl_b hX3) rfl w)
 exact zMv hz (sv S12)
 exact zMv hz (sv S12)
 exact zB1len hz rfl (sd 8 rfl) (fun w => s_len w)
 exact zMv hz (sv S1)
 exact sBin rfl rfl rfl hz rfl (Gd.none_ rfl) rfl (sd 9 rfl) (sd 10 rfl) (fun w => n_sub hXn (dl_big hX3) w)
 exact zSlFrom hz rfl (sd 7 rfl) (sd 11 rfl) (fun w => s_from (Nat.sub_le _ _) w)
 exact sBin rfl rfl rfl hz rfl (Gd.none_ rfl) rfl (sd 6 rfl) (sd 12 rfl) (fun w => s_cat (L := (X.take (X.length - n)) ++ ([46])) (M := X.drop (X.length - n)) (dl_c hX3) rfl w)
 exact zAs hz (sd 13 rfl)
 exact zAs hz kc
 clear hz hd
 intro a' γ' W' hz hd hC hk hh
 clear S1
 clear S4
 clear S5
 clear S12
 have S4 := gV hz 14 hh
 have S5 := gV hz 15 hh
 replace HB := aB HB hC
 clear hC hk hh
 refine wp_ret ?_
 refine ret_to (T := tT [tV (.string (strB (((X.take (X.length - n)) ++ ([46])) ++ (X.drop (X.length - n))))), tV (.bool true)]) (rett2 (by kernel_rfl) S4 S5 hd HB) ?_
 exact to2 (tV_to (congrArg (fun l => Value.string (strB l)) (by unfold decS; rw [if_neg hc7, eX]))) (tV_to rfl)
 rw [decide_eq_false hc8] at S60
 refine wp_cond_false S60.ev ?_
 refine wp_skip ?_
 refine wp_seq ?_
 obtain ⟨X, eX⟩ : ∃ X, padT (rn (p * 10 ^ n) q) n = X := ⟨_, rfl⟩
 have eX2 : txt (rn (p * 10 ^ n) q) = X := by rw [← eX]; unfold padT; rw [if_neg hc8]
 rw [eX2] at S12
 have hX3 : X.length ≤ 3000000 := by rw [← eX2]; exact (dl_1 hT)
 have hXn : n ≤ X.length := by rw [← eX]; exact Nat.le_of_lt (padT_len _ _)
 clear eX2
 refine region_drawn (M := []) (
  rT (tV (.string (strB X))) ::
  rT (tV (.string (strB X))) ::
  rT (tV (.int .i64 ((X.length : Nat) : Int))) ::
  rT (tV (.int .i64 ((n : Nat) : Int))) ::
  rT (tV (.int .i64 ((X.length - n : Nat) : Int))) ::
  rT (tV (.string (strB (X.take (X.length - n))))) ::
  rT (tV (.string (strB ((X.take (X.length - n)) ++ ([46]))))) ::
  rT (tV (.string (strB X))) ::
  rT (tV (.string (strB X))) ::
  rT (tV (.int .i64 ((X.length : Nat) : Int))) ::
  rT (tV (.int .i64 ((n : Nat) : Int))) ::
  rT (tV (.int .i64 ((X.length - n : Nat) : Int))) ::
  rT (tV (.string (strB (X.drop (X.length - n))))) ::
  rT (tV (.string (strB (((X.take (X.length - n)) ++ ([46])) ++ (X.drop (X.length - n)))))) ::
  rT (tV (.string (strB (((X.take (X.length - n)) ++ ([46])) ++ (X.drop (X.length - n)))))) ::
  rT (tV (.bool true)) ::
  []) hz hd (by kernel_rfl) (by kernel_rfl) ?_ ?_
 refine ⟨?_, ?_, ?_, ?_, ?_, ?_, ?_, ?_, ?_, ?_, ?_, ?_, ?_, ?_, ?_, ?_, trivial⟩
 exact zMv hz (sv S12)
 exact zMv hz (sv S12)
 exact zB1len hz rfl (sd 1 rfl) (fun w => s_len w)
 exact zMv hz (sv S1)
 exact sBin rfl rfl rfl hz rfl (Gd.none_ rfl) rfl (sd 2 rfl) (sd 3 rfl) (fun w => n_sub hXn (dl_big hX3) w)
 exact zSlTo hz rfl (sd 0 rfl) (sd 4 rfl) (fun w => s_to (Nat.sub_le _ _) w)
 exact sBin rfl rfl rfl hz rfl (Gd.none_ rfl) rfl (sd 5 rfl) kc (fun w => s_cat (L := X.take (X.length - n)) (M := [46]) (dl_b hX3) rfl w)
 exact zMv hz (sv S12)
 exact zMv hz (sv S12)
 exact zB1len hz rfl (sd 8 rfl) (fun w => s_len w)
 exact zMv hz (sv S1)
 exact sBin rfl rfl rfl hz rfl (Gd.none_ rfl) rfl (sd 9 rfl) (sd 10 rfl) (fun w => n_sub hXn (dl_big hX3) w)
 exact zSlFrom hz rfl (sd 7 rfl) (sd 11 rfl) (fun w => s_from (Nat.sub_le _ _) w)
 exact sBin rfl rfl rfl hz rfl (Gd.none_ rfl) rfl (sd 6 rfl) (sd 12 rfl) (fun w => s_cat (L := (X.take (X.length - n)) ++ ([46])) (M := X.drop (X.length - n)) (dl_c hX3) rfl w)
 exact zAs hz (sd 13 rfl)
 exact zAs hz kc
 clear hz hd
 intro a' γ' W' hz hd hC hk hh
 clear S1
 clear S4
 clear S5
 clear S12
 clear S60
 have S4 := gV hz 14 hh
 have S5 := gV hz 15 hh
 replace HB := aB HB hC
 clear hC hk hh
 refine wp_ret ?_
 refine ret_to (T := tT [tV (.string (strB (((X.take (X.length - n)) ++ ([46])) ++ (X.drop (X.length - n))))), tV (.bool true)]) (rett2 (by kernel_rfl) S4 S5 hd HB) ?_
 exact to2 (tV_to (congrArg (fun l => Value.string (strB l)) (by unfold decS; rw [if_neg hc7, eX]))) (tV_to rfl)
 by_cases hc9 : (p * 10 ^ n % q) + (p * 10 ^ n % q) = q
 refine rt [rV (.int .i64 (cmpI ((p * 10 ^ n % q) + (p * 10 ^ n % q)) q)), rV (.bool false), rV (.bool false), rV (.int .i64 (cmpI ((p * 10 ^ n % q) + (p * 10 ^ n % q)) q)), rV (.bool true), rV (.bool true), rT (tN B64 (l + (n + 1)) (p * 10 ^ n / q)), rV (.bool (decide (p * 10 ^ n / q % 2 = 1))), rV (.bool (decide (p * 10 ^ n / q % 2 = 1))), rV (.bool (decide (p * 10 ^ n / q % 2 = 1)))] hz hd ?_ ?_
 refine ⟨?_, ?_, ?_, ?_, ?_, ?_, ?_, ?_, ?_, ?_, trivial⟩
 exact zMv hz (sv S11)
 exact sBin rfl rfl rfl hz rfl (Gd.none_ rfl) rfl (sd 0 rfl) kc (fun w => run_f (P := q < (p * 10 ^ n % q) + (p * 10 ^ n % q)) ((fun w => run_cI_gtr ((p * 10 ^ n % q) + (p * 10 ^ n % q)) q w) w) hc6)
 exact zMv hz (sd 1 rfl)
 exact zMv hz (sv S11) (g := gT 2 rfl)
 exact sBin rfl rfl rfl hz rfl (gT 2 rfl) rfl (sd 3 rfl) kc (fun w => run_t (P := (p * 10 ^ n % q) + (p * 10 ^ n % q) = q) ((fun w => run_cI_eql ((p * 10 ^ n % q) + (p * 10 ^ n % q)) q w) w) hc9)
 exact zMv hz (sd 4 rfl) (g := gT 2 rfl)
 exact zLd hz (sv S8) Cp4 ld_n64 (g := gT 5 rfl)
 exact zC2 hz Tryz.func49 (sd 6 rfl) (kc (v := .int .i64 0)) (k01 (fun _ _ h0 => c_bit0 h0 (by rw [big_eq]; omega))) (g := gT 5 rfl)
 exact zPT hz (sd 5 rfl) (sd 7 rfl) (g := gT 2 rfl)
 exact zPF hz (sd 2 rfl) (sd 8 rfl)
 clear hz hd
 intro a' γ' W' hz hd hC hk hh
 have tp4 := Cp4.lt
 replace Cp4 := kC hC Cp4
 replace S1 := kp hk S1
 replace S4 := kp hk S4
 replace S5 := kp hk S5
 replace S8 := kp hk S8
 clear S11
 have S48 := gV hz 9 hh
 clear tp4
 replace HB := aB HB hC
 clear hC hk hh
 by_cases hc10 : p * 10 ^ n / q % 2 = 1
 rw [decide_eq_true hc10] at S48
 refine wp_cond_true S48.ev ?_
 refine region_drawn (M := [p4]) (
  rT (tN B64 (l + (n + 1)) (p * 10 ^ n / q)) ::
  rT (tN B64 1 1) ::
  rT (tN B64 ((max (l + (n + 1)) 1) + 1) ((p * 10 ^ n / q) + 1)) ::
  rE 0 26 (tN B64 ((max (l + (n + 1)) 1) + 1) ((p * 10 ^ n / q) + 1)) p4 ::
  []) hz hd (by kernel_rfl) (by kernel_rfl) ?_ ?_
 refine ⟨?_, ?_, ?_, ?_, trivial⟩
 exact sLoadM rfl rfl rfl hz rfl (Gd.none_ rfl) rfl (sv S8) Cp4 (k := 0) (by simp [tagOf]) (by kernel_rfl) ld_n64
 exact zC0 hz Tryz.func51 (fun _ => c_num1)
 exact zC2 hz Tryz.func50 (sd 0 rfl) (sd 1 rfl) (fun _ _ _ h0 h1 => c_add h0 h1 (by rw [big_eq]; omega) (by decide))
 exact zSE rfl (sv S8) (by simp [tagOf]) (Cp4.var tN_nd) (sd 2 rfl) st_n64
 clear hz hd
 intro a' γ' W' hz hd hC hk hh
 replace Cp4 := gotE (T := tN B64 ((max (l + (n + 1)) 1) + 1) ((p * 10 ^ n / q) + 1)) (id := 26) (p := p4) 3 hh rfl rfl
 replace S1 := kp hk S1
 replace S4 := kp hk S4
 replace S5 := kp hk S5
 replace S8 := kp hk S8
 clear S48
 replace HB := aM HB hC
 clear hC hk hh
 refine wp_seq ?_
 refine rt [rT (tN B64 ((max (l + (n + 1)) 1) + 1) ((p * 10 ^ n / q) + 1)), rV (.string (strB (txt (rn (p * 10 ^ n) q)))), rV (.string (strB (txt (rn (p * 10 ^ n) q))))] hz hd ?_ ?_
 refine ⟨?_, ?_, ?_, trivial⟩
 exact zLd hz (sv S8) Cp4 ld_n64
 exact zC1 hz Tryz.func78 (sd 0 rfl) (fun _ _ h0 => c_text_to (rn_up2 hc9 hc10) h0 (by rw [big_eq]; omega))
 exact zAs hz (sd 1 rfl)
 clear hz hd
 intro a' γ' W' hz hd hC hk hh
 have tp4 := Cp4.lt
 clear Cp4
 replace S1 := kp hk S1
 replace S4 := kp hk S4
 replace S5 := kp hk S5
 clear S8
 have S12 := gV hz 2 hh
 clear tp4
 replace HB := aB HB hC
 clear hC hk hh
 refine wp_seq ?_
 refine wp_seq ?_
 refine rt [rV (.int .i64 ((n : Nat) : Int)), rV (.bool (decide (n = 0)))] hz hd ?_ ?_
 refine ⟨?_, ?_, trivial⟩
 exact zMv hz (sv S1)
 exact sBin rfl rfl rfl hz rfl (Gd.none_ rfl) rfl (sd 0 rfl) kc (fun w => n_eq0 w)
 clear hz hd
 intro a' γ' W' hz hd hC hk hh
 replace S1 := kp hk S1
 replace S4 := kp hk S4
 replace S5 := kp hk S5
 replace S12 := kp hk S12
 have S55 := gV hz 1 hh
 replace HB := aB HB hC
 clear hC hk hh
 by_cases hc11 : n = 0
 rw [decide_eq_true hc11] at S55
 refine wp_cond_true S55.ev ?_
 refine wp_seq ?_
 refine rt [rV (.string (strB (txt (rn (p * 10 ^ n) q)))), rV (.string (strB (txt (rn (p * 10 ^ n) q)))), rV (.bool true)] hz hd ?_ ?_
 refine ⟨?_, ?_, ?_, trivial⟩
 exact zMv hz (sv S12)
 exact zAs hz (sd 0 rfl)
 exact zAs hz kc
 clear hz hd
 intro a' γ' W' hz hd hC hk hh
 replace S1 := kp hk S1
 clear S4
 clear S5
 replace S12 := kp hk S12
 clear S55
 have S4 := gV hz 1 hh
 have S5 := gV hz 2 hh
 replace HB := aB HB hC
 clear hC hk hh
 refine wp_ret ?_
 refine ret_to (T := tT [tV (.string (strB (txt (rn (p * 10 ^ n) q)))), tV (.bool true)]) (rett2 (by kernel_rfl) S4 S5 hd HB) ?_
 exact to2 (tV_to (congrArg (fun l => Value.string (strB l)) (by unfold decS; rw [if_pos hc11]))) (tV_to rfl)
 rw [decide_eq_false hc11] at S55
 refine wp_cond_false S55.ev ?_
 refine wp_skip ?_
 refine wp_seq ?_
 refine wp_seq ?_
 refine rt [rV (.string (strB (txt (rn (p * 10 ^ n) q)))), rV (.int .i64 (((txt (rn (p * 10 ^ n) q)).length : Nat) : Int)), rV (.int .i64 ((n : Nat) : Int)), rV (.bool (decide ((txt (rn (p * 10 ^ n) q)).length ≤ n)))] hz hd ?_ ?_
 refine ⟨?_, ?_, ?_, ?_, trivial⟩
 exact zMv hz (sv S12)
 exact zB1len hz rfl (sd 0 rfl) (fun w => s_len w)
 exact zMv hz (sv S1)
 exact sBin rfl rfl rfl hz rfl (Gd.none_ rfl) rfl (sd 1 rfl) (sd 2 rfl) (fun w => n_le w)
 clear hz hd
 intro a' γ' W' hz hd hC hk hh
 replace S1 := kp hk S1
 replace S4 := kp hk S4
 replace S5 := kp hk S5
 replace S12 := kp hk S12
 clear S55
 have S60 := gV hz 3 hh
 replace HB := aB HB hC
 clear hC hk hh
 by_cases hc12 : (txt (rn (p * 10 ^ n) q)).length ≤ n
 rw [decide_eq_true hc12] at S60
 refine wp_cond_true S60.ev ?_
 refine rt [rV (.int .i64 ((n : Nat) : Int)), rV (.int .i64 ((n + 1 : Nat) : Int)), rV (.string (strB (txt (rn (p * 10 ^ n) q)))), rV (.int .i64 (((txt (rn (p * 10 ^ n) q)).length : Nat) : Int)), rV (.int .i64 ((n + 1 - (txt (rn (p * 10 ^ n) q)).length : Nat) : Int)), rV (.string (strB (List.replicate (n + 1 - (txt (rn (p * 10 ^ n) q)).length) 48))), rV (.string (strB (txt (rn (p * 10 ^ n) q)))), rV (.string (strB ((List.replicate (n + 1 - (txt (rn (p * 10 ^ n) q)).length) 48) ++ (txt (rn (p * 10 ^ n) q))))), rV (.string (strB ((List.replicate (n + 1 - (txt (rn (p * 10 ^ n) q)).length) 48) ++ (txt (rn (p * 10 ^ n) q)))))] hz hd ?_ ?_
 refine ⟨?_, ?_, ?_, ?_, ?_, ?_, ?_, ?_, ?_, trivial⟩
 exact zMv hz (sv S1)
 exact sBin rfl rfl rfl hz rfl (Gd.none_ rfl) rfl (sd 0 rfl) kc (fun w => n_succ (Nat.le_of_succ_le (dl_s hn)) w)
 exact zMv hz (sv S12)
 exact zB1len hz rfl (sd 2 rfl) (fun w => s_len w)
 exact sBin rfl rfl rfl hz rfl (Gd.none_ rfl) rfl (sd 1 rfl) (sd 3 rfl) (fun w => n_sub (Nat.le_succ_of_le hc12) (dl_s hn) w)
 exact zC2 hz Tryz.func81 (kc (v := .string ⟨#[48]⟩)) (sd 4 rfl) (k11 (fun _ => c_repeat (dl_r hn)))
 exact zMv hz (sv S12)
 exact sBin rfl rfl rfl hz rfl (Gd.none_ rfl) rfl (sd 5 rfl) (sd 6 rfl) (fun w => s_cat (L := List.replicate (n + 1 - (txt (rn (p * 10 ^ n) q)).length) 48) (M := txt (rn (p * 10 ^ n) q)) (dl_a hn hT) rfl w)
 exact zAs hz (sd 7 rfl)
 clear hz hd
 intro a' γ' W' hz hd hC hk hh
 replace S1 := kp hk S1
 replace S4 := kp hk S4
 replace S5 := kp hk S5
 clear S12
 clear S60
 have S12 := gV hz 8 hh
 replace HB := aB HB hC
 clear hC hk hh
 refine wp_seq ?_
 obtain ⟨X, eX⟩ : ∃ X, padT (rn (p * 10 ^ n) q) n = X := ⟨_, rfl⟩
 have eX2 : (List.replicate (n + 1 - (txt (rn (p * 10 ^ n) q)).length) 48) ++ (txt (rn (p * 10 ^ n) q)) = X := by rw [← eX]; unfold padT; rw [if_pos hc12]
 rw [eX2] at S12
 have hX3 : X.length ≤ 3000000 := by rw [← eX2]; exact (dl_2 hn hT)
 have hXn : n ≤ X.length := by rw [← eX]; exact Nat.le_of_lt (padT_len _ _)
 clear eX2
 refine region_drawn (M := []) (
  rT (tV (.string (strB X))) ::
  rT (tV (.string (strB X))) ::
  rT (tV (.int .i64 ((X.length : Nat) : Int))) ::
  rT (tV (.int .i64 ((n : Nat) : Int))) ::
  rT (tV (.int .i64 ((X.length - n : Nat) : Int))) ::
  rT (tV (.string (strB (X.take (X.length - n))))) ::
  rT (tV (.string (strB ((X.take (X.length - n)) ++ ([46]))))) ::
  rT (tV (.string (strB X))) ::
  rT (tV (.string (strB X))) ::
  rT (tV (.int .i64 ((X.length : Nat) : Int))) ::
  rT (tV (.int .i64 ((n : Nat) : Int))) ::
  rT (tV (.int .i64 ((X.length - n : Nat) : Int))) ::
  rT (tV (.string (strB (X.drop (X.length - n))))) ::
  rT (tV (.string (strB (((X.take (X.length - n)) ++ ([46])) ++ (X.drop (X.length - n)))))) ::
  rT (tV (.string (strB (((X.take (X.length - n)) ++ ([46])) ++ (X.drop (X.length - n)))))) ::
  rT (tV (.bool true)) ::
  []) hz hd (by kernel_rfl) (by kernel_rfl) ?_ ?_
 refine ⟨?_, ?_, ?_, ?_, ?_, ?_, ?_, ?_, ?_, ?_, ?_, ?_, ?_, ?_, ?_, ?_, trivial⟩
 exact zMv hz (sv S12)
 exact zMv hz (sv S12)
 exact zB1len hz rfl (sd 1 rfl) (fun w => s_len w)
 exact zMv hz (sv S1)
 exact sBin rfl rfl rfl hz rfl (Gd.none_ rfl) rfl (sd 2 rfl) (sd 3 rfl) (fun w => n_sub hXn (dl_big hX3) w)
 exact zSlTo hz rfl (sd 0 rfl) (sd 4 rfl) (fun w => s_to (Nat.sub_le _ _) w)
 exact sBin rfl rfl rfl hz rfl (Gd.none_ rfl) rfl (sd 5 rfl) kc (fun w => s_cat (L := X.take (X.length - n)) (M := [46]) (dl_b hX3) rfl w)
 exact zMv hz (sv S12)
 exact zMv hz (sv S12)
 exact zB1len hz rfl (sd 8 rfl) (fun w => s_len w)
 exact zMv hz (sv S1)
 exact sBin rfl rfl rfl hz rfl (Gd.none_ rfl) rfl (sd 9 rfl) (sd 10 rfl) (fun w => n_sub hXn (dl_big hX3) w)
 exact zSlFrom hz rfl (sd 7 rfl) (sd 11 rfl) (fun w => s_from (Nat.sub_le _ _) w)
 exact sBin rfl rfl rfl hz rfl (Gd.none_ rfl) rfl (sd 6 rfl) (sd 12 rfl) (fun w => s_cat (L := (X.take (X.length - n)) ++ ([46])) (M := X.drop (X.length - n)) (dl_c hX3) rfl w)
 exact zAs hz (sd 13 rfl)
 exact zAs hz kc
 clear hz hd
 intro a' γ' W' hz hd hC hk hh
 clear S1
 clear S4
 clear S5
 clear S12
 have S4 := gV hz 14 hh
 have S5 := gV hz 15 hh
 replace HB := aB HB hC
 clear hC hk hh
 refine wp_ret ?_
 refine ret_to (T := tT [tV (.string (strB (((X.take (X.length - n)) ++ ([46])) ++ (X.drop (X.length - n))))), tV (.bool true)]) (rett2 (by kernel_rfl) S4 S5 hd HB) ?_
 exact to2 (tV_to (congrArg (fun l => Value.string (strB l)) (by unfold decS; rw [if_neg hc11, eX]))) (tV_to rfl)
 rw [decide_eq_false hc12] at S60
 refine wp_cond_false S60.ev ?_
 refine wp_skip ?_
 refine wp_seq ?_
 obtain ⟨X, eX⟩ : ∃ X, padT (rn (p * 10 ^ n) q) n = X := ⟨_, rfl⟩
 have eX2 : txt (rn (p * 10 ^ n) q) = X := by rw [← eX]; unfold padT; rw [if_neg hc12]
 rw [eX2] at S12
 have hX3 : X.length ≤ 3000000 := by rw [← eX2]; exact (dl_1 hT)
 have hXn : n ≤ X.length := by rw [← eX]; exact Nat.le_of_lt (padT_len _ _)
 clear eX2
 refine region_drawn (M := []) (
  rT (tV (.string (strB X))) ::
  rT (tV (.string (strB X))) ::
  rT (tV (.int .i64 ((X.length : Nat) : Int))) ::
  rT (tV (.int .i64 ((n : Nat) : Int))) ::
  rT (tV (.int .i64 ((X.length - n : Nat) : Int))) ::
  rT (tV (.string (strB (X.take (X.length - n))))) ::
  rT (tV (.string (strB ((X.take (X.length - n)) ++ ([46]))))) ::
  rT (tV (.string (strB X))) ::
  rT (tV (.string (strB X))) ::
  rT (tV (.int .i64 ((X.length : Nat) : Int))) ::
  rT (tV (.int .i64 ((n : Nat) : Int))) ::
  rT (tV (.int .i64 ((X.length - n : Nat) : Int))) ::
  rT (tV (.string (strB (X.drop (X.length - n))))) ::
  rT (tV (.string (strB (((X.take (X.length - n)) ++ ([46])) ++ (X.drop (X.length - n)))))) ::
  rT (tV (.string (strB (((X.take (X.length - n)) ++ ([46])) ++ (X.drop (X.length - n)))))) ::
  rT (tV (.bool true)) ::
  []) hz hd (by kernel_rfl) (by kernel_rfl) ?_ ?_
 refine ⟨?_, ?_, ?_, ?_, ?_, ?_, ?_, ?_, ?_, ?_, ?_, ?_, ?_, ?_, ?_, ?_, trivial⟩
 exact zMv hz (sv S12)
 exact zMv hz (sv S12)
 exact zB1len hz rfl (sd 1 rfl) (fun w => s_len w)
 exact zMv hz (sv S1)
 exact sBin rfl rfl rfl hz rfl (Gd.none_ rfl) rfl (sd 2 rfl) (sd 3 rfl) (fun w => n_sub hXn (dl_big hX3) w)
 exact zSlTo hz rfl (sd 0 rfl) (sd 4 rfl) (fun w => s_to (Nat.sub_le _ _) w)
 exact sBin rfl rfl rfl hz rfl (Gd.none_ rfl) rfl (sd 5 rfl) kc (fun w => s_cat (L := X.take (X.length - n)) (M := [46]) (dl_b hX3) rfl w)
 exact zMv hz (sv S12)
 exact zMv hz (sv S12)
 exact zB1len hz rfl (sd 8 rfl) (fun w => s_len w)
 exact zMv hz (sv S1)
 exact sBin rfl rfl rfl hz rfl (Gd.none_ rfl) rfl (sd 9 rfl) (sd 10 rfl) (fun w => n_sub hXn (dl_big hX3) w)
 exact zSlFrom hz rfl (sd 7 rfl) (sd 11 rfl) (fun w => s_from (Nat.sub_le _ _) w)
 exact sBin rfl rfl rfl hz rfl (Gd.none_ rfl) rfl (sd 6 rfl) (sd 12 rfl) (fun w => s_cat (L := (X.take (X.length - n)) ++ ([46])) (M := X.drop (X.length - n)) (dl_c hX3) rfl w)
 exact zAs hz (sd 13 rfl)
 exact zAs hz kc
 clear hz hd
 intro a' γ' W' hz hd hC hk hh
 clear S1
 clear S4
 clear S5
 clear S12
 clear S60
 have S4 := gV hz 14 hh
 have S5 := gV hz 15 hh
 replace HB := aB HB hC
 clear hC hk hh
 refine wp_ret ?_
 refine ret_to (T := tT [tV (.string (strB (((X.take (X.length - n)) ++ ([46])) ++ (X.drop (X.length - n))))), tV (.bool true)]) (rett2 (by kernel_rfl) S4 S5 hd HB) ?_
 exact to2 (tV_to (congrArg (fun l => Value.string (strB l)) (by unfold decS; rw [if_neg hc11, eX]))) (tV_to rfl)
 rw [decide_eq_false hc10] at S48
 refine wp_cond_false S48.ev ?_
 refine wp_skip ?_
 refine wp_seq ?_
 refine rt [rT (tN B64 (l + (n + 1)) (p * 10 ^ n / q)), rV (.string (strB (txt (rn (p * 10 ^ n) q)))), rV (.string (strB (txt (rn (p * 10 ^ n) q))))] hz hd ?_ ?_
 refine ⟨?_, ?_, ?_, trivial⟩
 exact zLd hz (sv S8) Cp4 ld_n64
 exact zC1 hz Tryz.func78 (sd 0 rfl) (fun _ _ h0 => c_text_to (rn_no2 hc6 hc10) h0 (by rw [big_eq]; omega))
 exact zAs hz (sd 1 rfl)
 clear hz hd
 intro a' γ' W' hz hd hC hk hh
 have tp4 := Cp4.lt
 clear Cp4
 replace S1 := kp hk S1
 replace S4 := kp hk S4
 replace S5 := kp hk S5
 clear S8
 clear S48
 have S12 := gV hz 2 hh
 clear tp4
 replace HB := aB HB hC
 clear hC hk hh
 refine wp_seq ?_
 refine wp_seq ?_
 refine rt [rV (.int .i64 ((n : Nat) : Int)), rV (.bool (decide (n = 0)))] hz hd ?_ ?_
 refine ⟨?_, ?_, trivial⟩
 exact zMv hz (sv S1)
 exact sBin rfl rfl rfl hz rfl (Gd.none_ rfl) rfl (sd 0 rfl) kc (fun w => n_eq0 w)
 clear hz hd
 intro a' γ' W' hz hd hC hk hh
 replace S1 := kp hk S1
 replace S4 := kp hk S4
 replace S5 := kp hk S5
 replace S12 := kp hk S12
 have S55 := gV hz 1 hh
 replace HB := aB HB hC
 clear hC hk hh
 by_cases hc13 : n = 0
 rw [decide_eq_true hc13] at S55
 refine wp_cond_true S55.ev ?_
 refine wp_seq ?_
 refine rt [rV (.string (strB (txt (rn (p * 10 ^ n) q)))), rV (.string (strB (txt (rn (p * 10 ^ n) q)))), rV (.bool true)] hz hd ?_ ?_
 refine ⟨?_, ?_, ?_, trivial⟩
 exact zMv hz (sv S12)
 exact zAs hz (sd 0 rfl)
 exact zAs hz kc
 clear hz hd
 intro a' γ' W' hz hd hC hk hh
 replace S1 := kp hk S1
 clear S4
 clear S5
 replace S12 := kp hk S12
 clear S55
 have S4 := gV hz 1 hh
 have S5 := gV hz 2 hh
 replace HB := aB HB hC
 clear hC hk hh
 refine wp_ret ?_
 refine ret_to (T := tT [tV (.string (strB (txt (rn (p * 10 ^ n) q)))), tV (.bool true)]) (rett2 (by kernel_rfl) S4 S5 hd HB) ?_
 exact to2 (tV_to (congrArg (fun l => Value.string (strB l)) (by unfold decS; rw [if_pos hc13]))) (tV_to rfl)
 rw [decide_eq_false hc13] at S55
 refine wp_cond_false S55.ev ?_
 refine wp_skip ?_
 refine wp_seq ?_
 refine wp_seq ?_
 refine rt [rV (.string (strB (txt (rn (p * 10 ^ n) q)))), rV (.int .i64 (((txt (rn (p * 10 ^ n) q)).length : Nat) : Int)), rV (.int .i64 ((n : Nat) : Int)), rV (.bool (decide ((txt (rn (p * 10 ^ n) q)).length ≤ n)))] hz hd ?_ ?_
 refine ⟨?_, ?_, ?_, ?_, trivial⟩
 exact zMv hz (sv S12)
 exact zB1len hz rfl (sd 0 rfl) (fun w => s_len w)
 exact zMv hz (sv S1)
 exact sBin rfl rfl rfl hz rfl (Gd.none_ rfl) rfl (sd 1 rfl) (sd 2 rfl) (fun w => n_le w)
 clear hz hd
 intro a' γ' W' hz hd hC hk hh
 replace S1 := kp hk S1
 replace S4 := kp hk S4
 replace S5 := kp hk S5
 replace S12 := kp hk S12
 clear S55
 have S60 := gV hz 3 hh
 replace HB := aB HB hC
 clear hC hk hh
 by_cases hc14 : (txt (rn (p * 10 ^ n) q)).length ≤ n
 rw [decide_eq_true hc14] at S60
 refine wp_cond_true S60.ev ?_
 refine rt [rV (.int .i64 ((n : Nat) : Int)), rV (.int .i64 ((n + 1 : Nat) : Int)), rV (.string (strB (txt (rn (p * 10 ^ n) q)))), rV (.int .i64 (((txt (rn (p * 10 ^ n) q)).length : Nat) : Int)), rV (.int .i64 ((n + 1 - (txt (rn (p * 10 ^ n) q)).length : Nat) : Int)), rV (.string (strB (List.replicate (n + 1 - (txt (rn (p * 10 ^ n) q)).length) 48))), rV (.string (strB (txt (rn (p * 10 ^ n) q)))), rV (.string (strB ((List.replicate (n + 1 - (txt (rn (p * 10 ^ n) q)).length) 48) ++ (txt (rn (p * 10 ^ n) q))))), rV (.string (strB ((List.replicate (n + 1 - (txt (rn (p * 10 ^ n) q)).length) 48) ++ (txt (rn (p * 10 ^ n) q)))))] hz hd ?_ ?_
 refine ⟨?_, ?_, ?_, ?_, ?_, ?_, ?_, ?_, ?_, trivial⟩
 exact zMv hz (sv S1)
 exact sBin rfl rfl rfl hz rfl (Gd.none_ rfl) rfl (sd 0 rfl) kc (fun w => n_succ (Nat.le_of_succ_le (dl_s hn)) w)
 exact zMv hz (sv S12)
 exact zB1len hz rfl (sd 2 rfl) (fun w => s_len w)
 exact sBin rfl rfl rfl hz rfl (Gd.none_ rfl) rfl (sd 1 rfl) (sd 3 rfl) (fun w => n_sub (Nat.le_succ_of_le hc14) (dl_s hn) w)
 exact zC2 hz Tryz.func81 (kc (v := .string ⟨#[48]⟩)) (sd 4 rfl) (k11 (fun _ => c_repeat (dl_r hn)))
 exact zMv hz (sv S12)
 exact sBin rfl rfl rfl hz rfl (Gd.none_ rfl) rfl (sd 5 rfl) (sd 6 rfl) (fun w => s_cat (L := List.replicate (n + 1 - (txt (rn (p * 10 ^ n) q)).length) 48) (M := txt (rn (p * 10 ^ n) q)) (dl_a hn hT) rfl w)
 exact zAs hz (sd 7 rfl)
 clear hz hd
 intro a' γ' W' hz hd hC hk hh
 replace S1 := kp hk S1
 replace S4 := kp hk S4
 replace S5 := kp hk S5
 clear S12
 clear S60
 have S12 := gV hz 8 hh
 replace HB := aB HB hC
 clear hC hk hh
 refine wp_seq ?_
 obtain ⟨X, eX⟩ : ∃ X, padT (rn (p * 10 ^ n) q) n = X := ⟨_, rfl⟩
 have eX2 : (List.replicate (n + 1 - (txt (rn (p * 10 ^ n) q)).length) 48) ++ (txt (rn (p * 10 ^ n) q)) = X := by rw [← eX]; unfold padT; rw [if_pos hc14]
 rw [eX2] at S12
 have hX3 : X.length ≤ 3000000 := by rw [← eX2]; exact (dl_2 hn hT)
 have hXn : n ≤ X.length := by rw [← eX]; exact Nat.le_of_lt (padT_len _ _)
 clear eX2
 refine region_drawn (M := []) (
  rT (tV (.string (strB X))) ::
  rT (tV (.string (strB X))) ::
  rT (tV (.int .i64 ((X.length : Nat) : Int))) ::
  rT (tV (.int .i64 ((n : Nat) : Int))) ::
  rT (tV (.int .i64 ((X.length - n : Nat) : Int))) ::
  rT (tV (.string (strB (X.take (X.length - n))))) ::
  rT (tV (.string (strB ((X.take (X.length - n)) ++ ([46]))))) ::
  rT (tV (.string (strB X))) ::
  rT (tV (.string (strB X))) ::
  rT (tV (.int .i64 ((X.length : Nat) : Int))) ::
  rT (tV (.int .i64 ((n : Nat) : Int))) ::
  rT (tV (.int .i64 ((X.length - n : Nat) : Int))) ::
  rT (tV (.string (strB (X.drop (X.length - n))))) ::
  rT (tV (.string (strB (((X.take (X.length - n)) ++ ([46])) ++ (X.drop (X.length - n)))))) ::
  rT (tV (.string (strB (((X.take (X.length - n)) ++ ([46])) ++ (X.drop (X.length - n)))))) ::
  rT (tV (.bool true)) ::
  []) hz hd (by kernel_rfl) (by kernel_rfl) ?_ ?_
 refine ⟨?_, ?_, ?_, ?_, ?_, ?_, ?_, ?_, ?_, ?_, ?_, ?_, ?_, ?_, ?_, ?_, trivial⟩
 exact zMv hz (sv S12)
 exact zMv hz (sv S12)
 exact zB1len hz rfl (sd 1 rfl) (fun w => s_len w)
 exact zMv hz (sv S1)
 exact sBin rfl rfl rfl hz rfl (Gd.none_ rfl) rfl (sd 2 rfl) (sd 3 rfl) (fun w => n_sub hXn (dl_big hX3) w)
 exact zSlTo hz rfl (sd 0 rfl) (sd 4 rfl) (fun w => s_to (Nat.sub_le _ _) w)
 exact sBin rfl rfl rfl hz rfl (Gd.none_ rfl) rfl (sd 5 rfl) kc (fun w => s_cat (L := X.take (X.length - n)) (M := [46]) (dl_b hX3) rfl w)
 exact zMv hz (sv S12)
 exact zMv hz (sv S12)
 exact zB1len hz rfl (sd 8 rfl) (fun w => s_len w)
 exact zMv hz (sv S1)
 exact sBin rfl rfl rfl hz rfl (Gd.none_ rfl) rfl (sd 9 rfl) (sd 10 rfl) (fun w => n_sub hXn (dl_big hX3) w)
 exact zSlFrom hz rfl (sd 7 rfl) (sd 11 rfl) (fun w => s_from (Nat.sub_le _ _) w)
 exact sBin rfl rfl rfl hz rfl (Gd.none_ rfl) rfl (sd 6 rfl) (sd 12 rfl) (fun w => s_cat (L := (X.take (X.length - n)) ++ ([46])) (M := X.drop (X.length - n)) (dl_c hX3) rfl w)
 exact zAs hz (sd 13 rfl)
 exact zAs hz kc
 clear hz hd
 intro a' γ' W' hz hd hC hk hh
 clear S1
 clear S4
 clear S5
 clear S12
 have S4 := gV hz 14 hh
 have S5 := gV hz 15 hh
 replace HB := aB HB hC
 clear hC hk hh
 refine wp_ret ?_
 refine ret_to (T := tT [tV (.string (strB (((X.take (X.length - n)) ++ ([46])) ++ (X.drop (X.length - n))))), tV (.bool true)]) (rett2 (by kernel_rfl) S4 S5 hd HB) ?_
 exact to2 (tV_to (congrArg (fun l => Value.string (strB l)) (by unfold decS; rw [if_neg hc13, eX]))) (tV_to rfl)
 rw [decide_eq_false hc14] at S60
 refine wp_cond_false S60.ev ?_
 refine wp_skip ?_
 refine wp_seq ?_
 obtain ⟨X, eX⟩ : ∃ X, padT (rn (p * 10 ^ n) q) n = X := ⟨_, rfl⟩
 have eX2 : txt (rn (p * 10 ^ n) q) = X := by rw [← eX]; unfold padT; rw [if_neg hc14]
 rw [eX2] at S12
 have hX3 : X.length ≤ 3000000 := by rw [← eX2]; exact (dl_1 hT)
 have hXn : n ≤ X.length := by rw [← eX]; exact Nat.le_of_lt (padT_len _ _)
 clear eX2
 refine region_drawn (M := []) (
  rT (tV (.string (strB X))) ::
  rT (tV (.string (strB X))) ::
  rT (tV (.int .i64 ((X.length : Nat) : Int))) ::
  rT (tV (.int .i64 ((n : Nat) : Int))) ::
  rT (tV (.int .i64 ((X.length - n : Nat) : Int))) ::
  rT (tV (.string (strB (X.take (X.length - n))))) ::
  rT (tV (.string (strB ((X.take (X.length - n)) ++ ([46]))))) ::
  rT (tV (.string (strB X))) ::
  rT (tV (.string (strB X))) ::
  rT (tV (.int .i64 ((X.length : Nat) : Int))) ::
  rT (tV (.int .i64 ((n : Nat) : Int))) ::
  rT (tV (.int .i64 ((X.length - n : Nat) : Int))) ::
  rT (tV (.string (strB (X.drop (X.length - n))))) ::
  rT (tV (.string (strB (((X.take (X.length - n)) ++ ([46])) ++ (X.drop (X.length - n)))))) ::
  rT (tV (.string (strB (((X.take (X.length - n)) ++ ([46])) ++ (X.drop (X.length - n)))))) ::
  rT (tV (.bool true)) ::
  []) hz hd (by kernel_rfl) (by kernel_rfl) ?_ ?_
 refine ⟨?_, ?_, ?_, ?_, ?_, ?_, ?_, ?_, ?_, ?_, ?_, ?_, ?_, ?_, ?_, ?_, trivial⟩
 exact zMv hz (sv S12)
 exact zMv hz (sv S12)
 exact zB1len hz rfl (sd 1 rfl) (fun w => s_len w)
 exact zMv hz (sv S1)
 exact sBin rfl rfl rfl hz rfl (Gd.none_ rfl) rfl (sd 2 rfl) (sd 3 rfl) (fun w => n_sub hXn (dl_big hX3) w)
 exact zSlTo hz rfl (sd 0 rfl) (sd 4 rfl) (fun w => s_to (Nat.sub_le _ _) w)
 exact sBin rfl rfl rfl hz rfl (Gd.none_ rfl) rfl (sd 5 rfl) kc (fun w => s_cat (L := X.take (X.length - n)) (M := [46]) (dl_b hX3) rfl w)
 exact zMv hz (sv S12)
 exact zMv hz (sv S12)
 exact zB1len hz rfl (sd 8 rfl) (fun w => s_len w)
 exact zMv hz (sv S1)
 exact sBin rfl rfl rfl hz rfl (Gd.none_ rfl) rfl (sd 9 rfl) (sd 10 rfl) (fun w => n_sub hXn (dl_big hX3) w)
 exact zSlFrom hz rfl (sd 7 rfl) (sd 11 rfl) (fun w => s_from (Nat.sub_le _ _) w)
 exact sBin rfl rfl rfl hz rfl (Gd.none_ rfl) rfl (sd 6 rfl) (sd 12 rfl) (fun w => s_cat (L := (X.take (X.length - n)) ++ ([46])) (M := X.drop (X.length - n)) (dl_c hX3) rfl w)
 exact zAs hz (sd 13 rfl)
 exact zAs hz kc
 clear hz hd
 intro a' γ' W' hz hd hC hk hh
 clear S1
 clear S4
 clear S5
 clear S12
 clear S60
 have S4 := gV hz 14 hh
 have S5 := gV hz 15 hh
 replace HB := aB HB hC
 clear hC hk hh
 refine wp_ret ?_
 refine ret_to (T := tT [tV (.string (strB (((X.take (X.length - n)) ++ ([46])) ++ (X.drop (X.length - n))))), tV (.bool true)]) (rett2 (by kernel_rfl) S4 S5 hd HB) ?_
 exact to2 (tV_to (congrArg (fun l => Value.string (strB l)) (by unfold decS; rw [if_neg hc13, eX]))) (tV_to rfl)
 refine rt [rV (.int .i64 (cmpI ((p * 10 ^ n % q) + (p * 10 ^ n % q)) q)), rV (.bool false), rV (.bool false), rV (.int .i64 (cmpI ((p * 10 ^ n % q) + (p * 10 ^ n % q)) q)), rV (.bool false), rV (.bool false), rV undef, rV undef, rV (.bool false), rV (.bool false)] hz hd ?_ ?_
 refine ⟨?_, ?_, ?_, ?_, ?_, ?_, ?_, ?_, ?_, ?_, trivial⟩
 exact zMv hz (sv S11)
 exact sBin rfl rfl rfl hz rfl (Gd.none_ rfl) rfl (sd 0 rfl) kc (fun w => run_f (P := q < (p * 10 ^ n % q) + (p * 10 ^ n % q)) ((fun w => run_cI_gtr ((p * 10 ^ n % q) + (p * 10 ^ n % q)) q w) w) hc6)
 exact zMv hz (sd 1 rfl)
 exact zMv hz (sv S11) (g := gT 2 rfl)
 exact sBin rfl rfl rfl hz rfl (gT 2 rfl) rfl (sd 3 rfl) kc (fun w => run_f (P := (p * 10 ^ n % q) + (p * 10 ^ n % q) = q) ((fun w => run_cI_eql ((p * 10 ^ n % q) + (p * 10 ^ n % q)) q w) w) hc9)
 exact zMv hz (sd 4 rfl) (g := gT 2 rfl)
 exact zSkU hz (gN 5 rfl)
 exact zSkU hz (gN 5 rfl)
 exact zPF hz (sd 5 rfl) kc (g := gT 2 rfl)
 exact zPF hz (sd 2 rfl) (sd 8 rfl)
 clear hz hd
 intro a' γ' W' hz hd hC hk hh
 have tp4 := Cp4.lt
 replace Cp4 := kC hC Cp4
 replace S1 := kp hk S1
 replace S4 := kp hk S4
 replace S5 := kp hk S5
 replace S8 := kp hk S8
 clear S11
 have S48 := gV hz 9 hh
 clear tp4
 replace HB := aB HB hC
 clear hC hk hh
 refine wp_cond_false S48.ev ?_
 refine wp_skip ?_
 refine wp_seq ?_
 refine rt [rT (tN B64 (l + (n + 1)) (p * 10 ^ n / q)), rV (.string (strB (txt (rn (p * 10 ^ n) q)))), rV (.string (strB (txt (rn (p * 10 ^ n) q))))] hz hd ?_ ?_
 refine ⟨?_, ?_, ?_, trivial⟩
 exact zLd hz (sv S8) Cp4 ld_n64
 exact zC1 hz Tryz.func78 (sd 0 rfl) (fun _ _ h0 => c_text_to (rn_no1 hc6 hc9) h0 (by rw [big_eq]; omega))
 exact zAs hz (sd 1 rfl)
 clear hz hd
 intro a' γ' W' hz hd hC hk hh
 have tp4 := Cp4.lt
 clear Cp4
 replace S1 := kp hk S1
 replace S4 := kp hk S4
 replace S5 := kp hk S5
 clear S8
 clear S48
 have S12 := gV hz 2 hh
 clear tp4
 replace HB := aB HB hC
 clear hC hk hh
 refine wp_seq ?_
 refine wp_seq ?_
 refine rt [rV (.int .i64 ((n : Nat) : Int)), rV (.bool (decide (n = 0)))] hz hd ?_ ?_
 refine ⟨?_, ?_, trivial⟩
 exact zMv hz (sv S1)
 exact sBin rfl rfl rfl hz rfl (Gd.none_ rfl) rfl (sd 0 rfl) kc (fun w => n_eq0 w)
 clear hz hd
 intro a' γ' W' hz hd hC hk hh
 replace S1 := kp hk S1
 replace S4 := kp hk S4
 replace S5 := kp hk S5
 replace S12 := kp hk S12
 have S55 := gV hz 1 hh
 replace HB := aB HB hC
 clear hC hk hh
 by_cases hc15 : n = 0
 rw [decide_eq_true hc15] at S55
 refine wp_cond_true S55.ev ?_
 refine wp_seq ?_
 refine rt [rV (.string (strB (txt (rn (p * 10 ^ n) q)))), rV (.string (strB (txt (rn (p * 10 ^ n) q)))), rV (.bool true)] hz hd ?_ ?_
 refine ⟨?_, ?_, ?_, trivial⟩
 exact zMv hz (sv S12)
 exact zAs hz (sd 0 rfl)
 exact zAs hz kc
 clear hz hd
 intro a' γ' W' hz hd hC hk hh
 replace S1 := kp hk S1
 clear S4
 clear S5
 replace S12 := kp hk S12
 clear S55
 have S4 := gV hz 1 hh
 have S5 := gV hz 2 hh
 replace HB := aB HB hC
 clear hC hk hh
 refine wp_ret ?_
 refine ret_to (T := tT [tV (.string (strB (txt (rn (p * 10 ^ n) q)))), tV (.bool true)]) (rett2 (by kernel_rfl) S4 S5 hd HB) ?_
 exact to2 (tV_to (congrArg (fun l => Value.string (strB l)) (by unfold decS; rw [if_pos hc15]))) (tV_to rfl)
 rw [decide_eq_false hc15] at S55
 refine wp_cond_false S55.ev ?_
 refine wp_skip ?_
 refine wp_seq ?_
 refine wp_seq ?_
 refine rt [rV (.string (strB (txt (rn (p * 10 ^ n) q)))), rV (.int .i64 (((txt (rn (p * 10 ^ n) q)).length : Nat) : Int)), rV (.int .i64 ((n : Nat) : Int)), rV (.bool (decide ((txt (rn (p * 10 ^ n) q)).length ≤ n)))] hz hd ?_ ?_
 refine ⟨?_, ?_, ?_, ?_, trivial⟩
 exact zMv hz (sv S12)
 exact zB1len hz rfl (sd 0 rfl) (fun w => s_len w)
 exact zMv hz (sv S1)
 exact sBin rfl rfl rfl hz rfl (Gd.none_ rfl) rfl (sd 1 rfl) (sd 2 rfl) (fun w => n_le w)
 clear hz hd
 intro a' γ' W' hz hd hC hk hh
 replace S1 := kp hk S1
 replace S4 := kp hk S4
 replace S5 := kp hk S5
 replace S12 := kp hk S12
 clear S55
 have S60 := gV hz 3 hh
 replace HB := aB HB hC
 clear hC hk hh
 by_cases hc16 : (txt (rn (p * 10 ^ n) q)).length ≤ n
 rw [decide_eq_true hc16] at S60
 refine wp_cond_true S60.ev ?_
 refine rt [rV (.int .i64 ((n : Nat) : Int)), rV (.int .i64 ((n + 1 : Nat) : Int)), rV (.string (strB (txt (rn (p * 10 ^ n) q)))), rV (.int .i64 (((txt (rn (p * 10 ^ n) q)).length : Nat) : Int)), rV (.int .i64 ((n + 1 - (txt (rn (p * 10 ^ n) q)).length : Nat) : Int)), rV (.string (strB (List.replicate (n + 1 - (txt (rn (p * 10 ^ n) q)).length) 48))), rV (.string (strB (txt (rn (p * 10 ^ n) q)))), rV (.string (strB ((List.replicate (n + 1 - (txt (rn (p * 10 ^ n) q)).length) 48) ++ (txt (rn (p * 10 ^ n) q))))), rV (.string (strB ((List.replicate (n + 1 - (txt (rn (p * 10 ^ n) q)).length) 48) ++ (txt (rn (p * 10 ^ n) q)))))] hz hd ?_ ?_
 refine ⟨?_, ?_, ?_, ?_, ?_, ?_, ?_, ?_, ?_, trivial⟩
 exact zMv hz (sv S1)
 exact sBin rfl rfl rfl hz rfl (Gd.none_ rfl) rfl (sd 0 rfl) kc (fun w => n_succ (Nat.le_of_succ_le (dl_s hn)) w)
 exact zMv hz (sv S12)
 exact zB1len hz rfl (sd 2 rfl) (fun w => s_len w)
 exact sBin rfl rfl rfl hz rfl (Gd.none_ rfl) rfl (sd 1 rfl) (sd 3 rfl) (fun w => n_sub (Nat.le_succ_of_le hc16) (dl_s hn) w)
 exact zC2 hz Tryz.func81 (kc (v := .string ⟨#[48]⟩)) (sd 4 rfl) (k11 (fun _ => c_repeat (dl_r hn)))
 exact zMv hz (sv S12)
 exact sBin rfl rfl rfl hz rfl (Gd.none_ rfl) rfl (sd 5 rfl) (sd 6 rfl) (fun w => s_cat (L := List.replicate (n + 1 - (txt (rn (p * 10 ^ n) q)).length) 48) (M := txt (rn (p * 10 ^ n) q)) (dl_a hn hT) rfl w)
 exact zAs hz (sd 7 rfl)
 clear hz hd
 intro a' γ' W' hz hd hC hk hh
 replace S1 := kp hk S1
 replace S4 := kp hk S4
 replace S5 := kp hk S5
 clear S12
 clear S60
 have S12 := gV hz 8 hh
 replace HB := aB HB hC
 clear hC hk hh
 refine wp_seq ?_
 obtain ⟨X, eX⟩ : ∃ X, padT (rn (p * 10 ^ n) q) n = X := ⟨_, rfl⟩
 have eX2 : (List.replicate (n + 1 - (txt (rn (p * 10 ^ n) q)).length) 48) ++ (txt (rn (p * 10 ^ n) q)) = X := by rw [← eX]; unfold padT; rw [if_pos hc16]
 rw [eX2] at S12
 have hX3 : X.length ≤ 3000000 := by rw [← eX2]; exact (dl_2 hn hT)
 have hXn : n ≤ X.length := by rw [← eX]; exact Nat.le_of_lt (padT_len _ _)
 clear eX2
 refine region_drawn (M := []) (
  rT (tV (.string (strB X))) ::
  rT (tV (.string (strB X))) ::
  rT (tV (.int .i64 ((X.length : Nat) : Int))) ::
  rT (tV (.int .i64 ((n : Nat) : Int))) ::
  rT (tV (.int .i64 ((X.length - n : Nat) : Int))) ::
  rT (tV (.string (strB (X.take (X.length - n))))) ::
  rT (tV (.string (strB ((X.take (X.length - n)) ++ ([46]))))) ::
  rT (tV (.string (strB X))) ::
  rT (tV (.string (strB X))) ::
  rT (tV (.int .i64 ((X.length : Nat) : Int))) ::
  rT (tV (.int .i64 ((n : Nat) : Int))) ::
  rT (tV (.int .i64 ((X.length - n : Nat) : Int))) ::
  rT (tV (.string (strB (X.drop (X.length - n))))) ::
  rT (tV (.string (strB (((X.take (X.length - n)) ++ ([46])) ++ (X.drop (X.length - n)))))) ::
  rT (tV (.string (strB (((X.take (X.length - n)) ++ ([46])) ++ (X.drop (X.length - n)))))) ::
  rT (tV (.bool true)) ::
  []) hz hd (by kernel_rfl) (by kernel_rfl) ?_ ?_
 refine ⟨?_, ?_, ?_, ?_, ?_, ?_, ?_, ?_, ?_, ?_, ?_, ?_, ?_, ?_, ?_, ?_, trivial⟩
 exact zMv hz (sv S12)
 exact zMv hz (sv S12)
 exact zB1len hz rfl (sd 1 rfl) (fun w => s_len w)
 exact zMv hz (sv S1)
 exact sBin rfl rfl rfl hz rfl (Gd.none_ rfl) rfl (sd 2 rfl) (sd 3 rfl) (fun w => n_sub hXn (dl_big hX3) w)
 exact zSlTo hz rfl (sd 0 rfl) (sd 4 rfl) (fun w => s_to (Nat.sub_le _ _) w)
 exact sBin rfl rfl rfl hz rfl (Gd.none_ rfl) rfl (sd 5 rfl) kc (fun w => s_cat (L := X.take (X.length - n)) (M := [46]) (dl_b hX3) rfl w)
 exact zMv hz (sv S12)
 exact zMv hz (sv S12)
 exact zB1len hz rfl (sd 8 rfl) (fun w => s_len w)
 exact zMv hz (sv S1)
 exact sBin rfl rfl rfl hz rfl (Gd.none_ rfl) rfl (sd 9 rfl) (sd 10 rfl) (fun w => n_sub hXn (dl_big hX3) w)
 exact zSlFrom hz rfl (sd 7 rfl) (sd 11 rfl) (fun w => s_from (Nat.sub_le _ _) w)
 exact sBin rfl rfl rfl hz rfl (Gd.none_ rfl) rfl (sd 6 rfl) (sd 12 rfl) (fun w => s_cat (L := (X.take (X.length - n)) ++ ([46])) (M := X.drop (X.length - n)) (dl_c hX3) rfl w)
 exact zAs hz (sd 13 rfl)
 exact zAs hz kc
 clear hz hd
 intro a' γ' W' hz hd hC hk hh
 clear S1
 clear S4
 clear S5
 clear S12
 have S4 := gV hz 14 hh
 have S5 := gV hz 15 hh
 replace HB := aB HB hC
 clear hC hk hh
 refine wp_ret ?_
 refine ret_to (T := tT [tV (.string (strB (((X.take (X.length - n)) ++ ([46])) ++ (X.drop (X.length - n))))), tV (.bool true)]) (rett2 (by kernel_rfl) S4 S5 hd HB) ?_
 exact to2 (tV_to (congrArg (fun l => Value.string (strB l)) (by unfold decS; rw [if_neg hc15, eX]))) (tV_to rfl)
 rw [decide_eq_false hc16] at S60
 refine wp_cond_false S60.ev ?_
 refine wp_skip ?_
 refine wp_seq ?_
 obtain ⟨X, eX⟩ : ∃ X, padT (rn (p * 10 ^ n) q) n = X := ⟨_, rfl⟩
 have eX2 : txt (rn (p * 10 ^ n) q) = X := by rw [← eX]; unfold padT; rw [if_neg hc16]
 rw [eX2] at S12
 have hX3 : X.length ≤ 3000000 := by rw [← eX2]; exact (dl_1 hT)
 have hXn : n ≤ X.length := by rw [← eX]; exact Nat.le_of_lt (padT_len _ _)
 clear eX2
 refine region_drawn (M := []) (
  rT (tV (.string (strB X))) ::
  rT (tV (.string (strB X))) ::
  rT (tV (.int .i64 ((X.length : Nat) : Int))) ::
  rT (tV (.int .i64 ((n : Nat) : Int))) ::
  rT (tV (.int .i64 ((X.length - n : Nat) : Int))) ::
  rT (tV (.string (strB (X.take (X.length - n))))) ::
  rT (tV (.string (strB ((X.take (X.length - n)) ++ ([46]))))) ::
  rT (tV (.string (strB X))) ::
  rT (tV (.string (strB X))) ::
  rT (tV (.int .i64 ((X.length : Nat) : Int))) ::
  rT (tV (.int .i64 ((n : Nat) : Int))) ::
  rT (tV (.int .i64 ((X.length - n : Nat) : Int))) ::
  rT (tV (.string (strB (X.drop (X.length - n))))) ::
  rT (tV (.string (strB (((X.take (X.length - n)) ++ ([46])) ++ (X.drop (X.length - n)))))) ::
  rT (tV (.string (strB (((X.take (X.length - n)) ++ ([46])) ++ (X.drop (X.length - n)))))) ::
  rT (tV (.bool true)) ::
  []) hz hd (by kernel_rfl) (by kernel_rfl) ?_ ?_
 refine ⟨?_, ?_, ?_, ?_, ?_, ?_, ?_, ?_, ?_, ?_, ?_, ?_, ?_, ?_, ?_, ?_, trivial⟩
 exact zMv hz (sv S12)
 exact zMv hz (sv S12)
 exact zB1len hz rfl (sd 1 rfl) (fun w => s_len w)
 exact zMv hz (sv S1)
 exact sBin rfl rfl rfl hz rfl (Gd.none_ rfl) rfl (sd 2 rfl) (sd 3 rfl) (fun w => n_sub hXn (dl_big hX3) w)
 exact zSlTo hz rfl (sd 0 rfl) (sd 4 rfl) (fun w => s_to (Nat.sub_le _ _) w)
 exact sBin rfl rfl rfl hz rfl (Gd.none_ rfl) rfl (sd 5 rfl) kc (fun w => s_cat (L := X.take (X.length - n)) (M := [46]) (dl_b hX3) rfl w)
 exact zMv hz (sv S12)
 exact zMv hz (sv S12)
 exact zB1len hz rfl (sd 8 rfl) (fun w => s_len w)
 exact zMv hz (sv S1)
 exact sBin rfl rfl rfl hz rfl (Gd.none_ rfl) rfl (sd 9 rfl) (sd 10 rfl) (fun w => n_sub hXn (dl_big hX3) w)
 exact zSlFrom hz rfl (sd 7 rfl) (sd 11 rfl) (fun w => s_from (Nat.sub_le _ _) w)
 exact sBin rfl rfl rfl hz rfl (Gd.none_ rfl) rfl (sd 6 rfl) (sd 12 rfl) (fun w => s_cat (L := (X.take (X.length - n)) ++ ([46])) (M := X.drop (X.length - n)) (dl_c hX3) rfl w)
 exact zAs hz (sd 13 rfl)
 exact zAs hz kc
 clear hz hd
 intro a' γ' W' hz hd hC hk hh
 clear S1
 clear S4
 clear S5
 clear S12
 clear S60
 have S4 := gV hz 14 hh
 have S5 := gV hz 15 hh
 replace HB := aB HB hC
 clear hC hk hh
 refine wp_ret ?_
 refine ret_to (T := tT [tV (.string (strB (((X.take (X.length - n)) ++ ([46])) ++ (X.drop (X.length - n))))), tV (.bool true)]) (rett2 (by kernel_rfl) S4 S5 hd HB) ?_
 exact to2 (tV_to (congrArg (fun l => Value.string (strB l)) (by unfold decS; rw [if_neg hc15, eX]))) (tV_to rfl)

end Go.Proofs.YtfgnleoaibcegaaGreat.Rg

namespace Go.Proofs.YtfgnleoaibcegaaGreat.Rg

open Go.RowKit

def dg (d : Nat) : Bool := decide (48 ≤ d) && decide (d ≤ 57)
def runL (L : List Nat) (i : Nat) : Nat := ((L.drop i).takeWhile dg).length
structure RunTo (L : List Nat) (i n : Nat) : Prop where
  le : i + n ≤ L.length
  all : ∀ j, j < n → dg (L.getD (i + j) 0) = true
theorem RunTo.zero {L : List Nat} {i : Nat} (h : i ≤ L.length) : RunTo L i 0 := ⟨h, fun j hj => absurd hj (Nat.not_lt_zero _)⟩
theorem RunTo.next {L : List Nat} {i n : Nat} (h : RunTo L i n) (h1 : i + n < L.length) (h2 : 48 ≤ L.getD (i + n) 0) (h3 : L.getD (i + n) 0 ≤ 57) : RunTo L i (n + 1) :=
  ⟨h1, fun j hj => by
    rcases Nat.lt_or_ge j n with c | c
    · exact h.all j c
    · obtain rfl : j = n := by omega
      unfold dg; rw [decide_eq_true h2, decide_eq_true h3]; rfl⟩
theorem take_run : ∀ (l : List Nat) (n : Nat), n ≤ l.length → (∀ j, j < n → dg (l.getD j 0) = true) → (n < l.length → dg (l.getD n 0) = false) → (l.takeWhile dg).length = n
  | [], n, h, _, _ => by simp at h; subst h; rfl
  | d :: l, 0, _, _, h => by
    have := h (by simp)
    have e : dg d = false := this
    rw [List.takeWhile_cons, e]; rfl
  | d :: l, n + 1, h, h1, h2 => by
    have e : dg d = true := h1 0 (Nat.succ_pos _)
    rw [List.takeWhile_cons, e]
    show (d :: l.takeWhile dg).length = n + 1
    rw [List.length_cons, take_run l n (by simpa using h) (fun j hj => h1 (j + 1) (by omega)) (fun hn => h2 (by simp; omega))]
theorem drop_getD (L : List Nat) (i j : Nat) : (L.drop i).getD j 0 = L.getD (i + j) 0 := by
  rw [List.getD_eq_getElem?_getD, List.getElem?_drop, ← List.getD_eq_getElem?_getD]
theorem RunTo.is {L : List Nat} {i n : Nat} (h : RunTo L i n) (hs : i + n < L.length → dg (L.getD (i + n) 0) = false) : runL L i = n := by
  unfold runL
  refine take_run _ _ (by rw [List.length_drop]; have := h.le; omega) (fun j hj => by rw [drop_getD]; exact h.all j hj) (fun hn => ?_)
  rw [drop_getD]
  exact hs (by rw [List.length_drop] at hn; omega)

theorem b_geq {d : Nat} {ox oy : Operand} {id : TypeId}  (w : World) : (do eqGuard .geq id ox oy (.int .u8 ((d : Nat) : Int)) (.int .u8 48); binOp .geq id (.int .u8 ((d : Nat) : Int)) (.int .u8 48) : Sem Value).run Tryz.prog w = .ok (.bool (decide (48 ≤ d))) w := by
  have e : decide ((48 : Int) ≤ ((d : Nat) : Int)) = decide (48 ≤ d) := by rw [decide_eq_decide]; omega
  rw [← e]
  simp only [eqGuard]; simp [go_sem]
theorem b_leq {d : Nat} {ox oy : Operand} {id : TypeId}  (w : World) : (do eqGuard .leq id ox oy (.int .u8 ((d : Nat) : Int)) (.int .u8 57); binOp .leq id (.int .u8 ((d : Nat) : Int)) (.int .u8 57) : Sem Value).run Tryz.prog w = .ok (.bool (decide (d ≤ 57))) w := by
  have e : decide (((d : Nat) : Int) ≤ (57 : Int)) = decide (d ≤ 57) := by rw [decide_eq_decide]; omega
  rw [← e]
  simp only [eqGuard]; simp [go_sem]
set_option maxRecDepth 10000 in
set_option maxHeartbeats 2000000 in
theorem c_digits {L : List Nat} {i : Nat} {w : World}  (hB : ∀ d ∈ L, d < 256) (hL : L.length ≤ 1000000000000000) (hi : i ≤ L.length) :
    Calls Tryz.prog 107 #[.string (strB L), .int .i64 ((i : Nat) : Int)] w (Ret (tV (.int .i64 ((runL L i : Nat) : Int))) w) := by
 refine enter Tryz.func107 rfl Tryz.ntmps107 (by simp) ?_
 intro a hz hd ha
 have S0 := ha 0 _ rfl
 have S1 := ha 1 _ rfl
 clear ha
 have HB : Below w.heap.size w w := Below.refl _ _
 refine wp_seq ?_
 refine rt [rV (.int .i64 0)] hz hd ?_ ?_
 refine ⟨?_, trivial⟩
 exact zAs hz kc
 clear hz hd
 intro a' γ' W' hz hd hC hk hh
 replace S0 := kp hk S0
 replace S1 := kp hk S1
 have S4 := gV hz 0 hh
 replace HB := aB HB hC
 clear hC hk hh
 refine wp_seq ?_
 refine rt [rV (.int .i64 0)] hz hd ?_ ?_
 refine ⟨?_, trivial⟩
 exact zAs hz kc
 clear hz hd
 intro a' γ' W' hz hd hC hk hh
 replace S0 := kp hk S0
 replace S1 := kp hk S1
 replace S4 := kp hk S4
 have S5 := gV hz 0 hh
 replace HB := aB HB hC
 clear hC hk hh
 refine wp_seq ?_
 refine wp_block ?_
 refine wp_loop_ghost (fun k a W => ∃ (n : Nat), k = L.length - (i + n) ∧ a.tmps.size = 31 ∧ a.defers = [] ∧ Below w.heap.size w W ∧ Sl a 0 (.string (strB L)) ∧ Sl a 1 (.int .i64 ((i : Nat) : Int)) ∧ Sl a 4 (.int .i64 0) ∧ Sl a 5 (.int .i64 ((n : Nat) : Int)) ∧ RunTo L i n) _ ⟨0, rfl, hz, hd, HB, S0, S1, S4, S5, (RunTo.zero hi)⟩ ?_
 clear S0 S1 S4 S5 hz hd HB
 rintro k a W ⟨n, rfl, hz, hd, HB, S0, S1, S4, S5, hr⟩
 refine wp_seq ?_
 refine wp_seq ?_
 by_cases hc1 : i + n < L.length
 by_cases hc2 : 48 ≤ L.getD (i + n) 0
 refine rt [rV (.int .i64 ((i : Nat) : Int)), rV (.int .i64 ((n : Nat) : Int)), rV (.int .i64 ((i + n : Nat) : Int)), rV (.string (strB L)), rV (.int .i64 ((L.length : Nat) : Int)), rV (.bool true), rV (.bool true), rV (.string (strB L)), rV (.int .i64 ((i : Nat) : Int)), rV (.int .i64 ((n : Nat) : Int)), rV (.int .i64 ((i + n : Nat) : Int)), rV (.int .u8 ((L.getD (i + n) 0 : Nat) : Int)), rV (.bool true), rV (.bool true), rV (.bool true), rV (.string (strB L)), rV (.int .i64 ((i : Nat) : Int)), rV (.int .i64 ((n : Nat) : Int)), rV (.int .i64 ((i + n : Nat) : Int)), rV (.int .u8 ((L.getD (i + n) 0 : Nat) : Int)), rV (.bool (decide (L.getD (i + n) 0 ≤ 57))), rV (.bool (decide (L.getD (i + n) 0 ≤ 57)))] hz hd ?_ ?_
 refine ⟨?_, ?_, ?_, ?_, ?_, ?_, ?_, ?_, ?_, ?_, ?_, ?_, ?_, ?_, ?_, ?_, ?_, ?_, ?_, ?_, ?_, ?_, trivial⟩
 exact zMv hz (sv S1)
 exact zMv hz (sv S5)
 exact sBin rfl rfl rfl hz rfl (Gd.none_ rfl) rfl (sd 0 rfl) (sd 1 rfl) (fun w => n_add (by have := hr.le; omega) (by have := hr.le; omega) w)
 exact zMv hz (sv S0)
 exact zB1len hz rfl (sd 3 rfl) (fun w => s_len w)
 exact sBin rfl rfl rfl hz rfl (Gd.none_ rfl) rfl (sd 2 rfl) (sd 4 rfl) (fun w => run_t (P := i + n < L.length) ((fun w => n_lt w) w) hc1)
 exact zMv hz (sd 5 rfl)
 exact zMv hz (sv S0) (g := gT 6 rfl)
 exact zMv hz (sv S1) (g := gT 6 rfl)
 exact zMv hz (sv S5) (g := gT 6 rfl)
 exact sBin rfl rfl rfl hz rfl (gT 6 rfl) rfl (sd 8 rfl) (sd 9 rfl) (fun w => n_add (by have := hr.le; omega) (by have := hr.le; omega) w)
 exact zIx hz rfl (sd 7 rfl) (sd 10 rfl) (fun w => s_ix hB hc1 w) (g := gT 6 rfl)
 exact sBin rfl rfl rfl hz rfl (gT 6 rfl) rfl (sd 11 rfl) kc (fun w => run_t (P := 48 ≤ L.getD (i + n) 0) ((fun w => b_geq w) w) hc2)
 exact zPT hz (sd 6 rfl) (sd 12 rfl)
 exact zMv hz (sd 13 rfl)
 exact zMv hz (sv S0) (g := gT 14 rfl)
 exact zMv hz (sv S1) (g := gT 14 rfl)
 exact zMv hz (sv S5) (g := gT 14 rfl)
 exact sBin rfl rfl rfl hz rfl (gT 14 rfl) rfl (sd 16 rfl) (sd 17 rfl) (fun w => n_add (by have := hr.le; omega) (by have := hr.le; omega) w)
 exact zIx hz rfl (sd 15 rfl) (sd 18 rfl) (fun w => s_ix hB hc1 w) (g := gT 14 rfl)
 exact sBin rfl rfl rfl hz rfl (gT 14 rfl) rfl (sd 19 rfl) kc (fun w => b_leq w)
 exact zPT hz (sd 14 rfl) (sd 20 rfl)
 clear hz hd
 intro a' γ' W' hz hd hC hk hh
 replace S0 := kp hk S0
 replace S1 := kp hk S1
 replace S4 := kp hk S4
 replace S5 := kp hk S5
 have S27 := gV hz 21 hh
 replace HB := aB HB hC
 clear hC hk hh
 by_cases hc3 : L.getD (i + n) 0 ≤ 57
 rw [decide_eq_true hc3] at S27
 refine wp_cond_true S27.ev ?_
 refine wp_skip ?_
 refine wp_block ?_
 refine rt [rV (.int .i64 ((n : Nat) : Int)), rV (.int .i64 ((n + 1 : Nat) : Int)), rV (.int .i64 ((n + 1 : Nat) : Int))] hz hd ?_ ?_
 refine ⟨?_, ?_, ?_, trivial⟩
 exact zMv hz (sv S5)
 exact sBin rfl rfl rfl hz rfl (Gd.none_ rfl) rfl (sd 0 rfl) kc (fun w => n_succ (by have := hr.le; omega) w)
 exact zAs hz (sd 1 rfl)
 clear hz hd
 intro a' γ' W' hz hd hC hk hh
 replace S0 := kp hk S0
 replace S1 := kp hk S1
 replace S4 := kp hk S4
 clear S5
 replace S27 := kp hk S27
 have S5 := gV hz 2 hh
 replace HB := aB HB hC
 clear hC hk hh
 show ∃ n', n' < _ ∧ _
 refine ⟨_, ?_, n + 1, rfl, hz, hd, HB, S0, S1, S4, S5, (hr.next hc1 hc2 hc3)⟩
 have := hr.le; omega
 rw [decide_eq_false hc3] at S27
 refine wp_cond_false S27.ev ?_
 refine wp_exit ?_
 refine wp_seq ?_
 refine rt [rV (.int .i64 ((n : Nat) : Int)), rV (.int .i64 ((n : Nat) : Int))] hz hd ?_ ?_
 refine ⟨?_, ?_, trivial⟩
 exact zMv hz (sv S5)
 exact zAs hz (sd 0 rfl)
 clear hz hd
 intro a' γ' W' hz hd hC hk hh
 clear S0
 clear S1
 clear S4
 clear S5
 clear S27
 have S4 := gV hz 1 hh
 replace HB := aB HB hC
 clear hC hk hh
 refine wp_ret ?_
 refine ret_to (T := tV (.int .i64 ((n : Nat) : Int))) (ret1 (by kernel_rfl) S4 hd ⟨_, rfl, rfl, HB⟩) ?_
 exact tV_to (congrArg (fun k : Nat => Value.int .i64 (k : Int)) (hr.is (fun _ => by unfold dg; rw [decide_eq_false hc3, Bool.and_false])).symm)
 refine rt [rV (.int .i64 ((i : Nat) : Int)), rV (.int .i64 ((n : Nat) : Int)), rV (.int .i64 ((i + n : Nat) : Int)), rV (.string (strB L)), rV (.int .i64 ((L.length : Nat) : Int)), rV (.bool true), rV (.bool true), rV (.string (strB L)), rV (.int .i64 ((i : Nat) : Int)), rV (.int .i64 ((n : Nat) : Int)), rV (.int .i64 ((i + n : Nat) : Int)), rV (.int .u8 ((L.getD (i + n) 0 : Nat) : Int)), rV (.bool false), rV (.bool false), rV (.bool false), rV undef, rV undef, rV undef, rV undef, rV undef, rV undef, rV (.bool false)] hz hd ?_ ?_
 refine ⟨?_, ?_, ?_, ?_, ?_, ?_, ?_, ?_, ?_, ?_, ?_, ?_, ?_, ?_, ?_, ?_, ?_, ?_, ?_, ?_, ?_, ?_, trivial⟩
 exact zMv hz (sv S1)
 exact zMv hz (sv S5)
 exact sBin rfl rfl rfl hz rfl (Gd.none_ rfl) rfl (sd 0 rfl) (sd 1 rfl) (fun w => n_add (by have := hr.le; omega) (by have := hr.le; omega) w)
 exact zMv hz (sv S0)
 exact zB1len hz rfl (sd 3 rfl) (fun w => s_len w)
 exact sBin rfl rfl rfl hz rfl (Gd.none_ rfl) rfl (sd 2 rfl) (sd 4 rfl) (fun w => run_t (P := i + n < L.length) ((fun w => n_lt w) w) hc1)
 exact zMv hz (sd 5 rfl)
 exact zMv hz (sv S0) (g := gT 6 rfl)
 exact zMv hz (sv S1) (g := gT 6 rfl)
 exact zMv hz (sv S5) (g := gT 6 rfl)
 exact sBin rfl rfl rfl hz rfl (gT 6 rfl) rfl (sd 8 rfl) (sd 9 rfl) (fun w => n_add (by have := hr.le; omega) (by have := hr.le; omega) w)
 exact zIx hz rfl (sd 7 rfl) (sd 10 rfl) (fun w => s_ix hB hc1 w) (g := gT 6 rfl)
 exact sBin rfl rfl rfl hz rfl (gT 6 rfl) rfl (sd 11 rfl) kc (fun w => run_f (P := 48 ≤ L.getD (i + n) 0) ((fun w => b_geq w) w) hc2)
 exact zPT hz (sd 6 rfl) (sd 12 rfl)
 exact zMv hz (sd 13 rfl)
 exact zSkU hz (gN 14 rfl)
 exact zSkU hz (gN 14 rfl)
 exact zSkU hz (gN 14 rfl)
 exact zSkU hz (gN 14 rfl)
 exact zSkU hz (gN 14 rfl)
 exact zSkU hz (gN 14 rfl)
 exact zPF hz (sd 14 rfl) kc
 clear hz hd
 intro a' γ' W' hz hd hC hk hh
 replace S0 := kp hk S0
 replace S1 := kp hk S1
 replace S4 := kp hk S4
 replace S5 := kp hk S5
 have S27 := gV hz 21 hh
 replace HB := aB HB hC
 clear hC hk hh
 refine wp_cond_false S27.ev ?_
 refine wp_exit ?_
 refine wp_seq ?_
 refine rt [rV (.int .i64 ((n : Nat) : Int)), rV (.int .i64 ((n : Nat) : Int))] hz hd ?_ ?_
 refine ⟨?_, ?_, trivial⟩
 exact zMv hz (sv S5)
 exact zAs hz (sd 0 rfl)
 clear hz hd
 intro a' γ' W' hz hd hC hk hh
 clear S0
 clear S1
 clear S4
 clear S5
 clear S27
 have S4 := gV hz 1 hh
 replace HB := aB HB hC
 clear hC hk hh
 refine wp_ret ?_
 refine ret_to (T := tV (.int .i64 ((n : Nat) : Int))) (ret1 (by kernel_rfl) S4 hd ⟨_, rfl, rfl, HB⟩) ?_
 exact tV_to (congrArg (fun k : Nat => Value.int .i64 (k : Int)) (hr.is (fun _ => by unfold dg; rw [decide_eq_false hc2]; rfl)).symm)
 refine rt [rV (.int .i64 ((i : Nat) : Int)), rV (.int .i64 ((n : Nat) : Int)), rV (.int .i64 ((i + n : Nat) : Int)), rV (.string (strB L)), rV (.int .i64 ((L.length : Nat) : Int)), rV (.bool false), rV (.bool false), rV undef, rV undef, rV undef, rV undef, rV undef, rV undef, rV (.bool false), rV (.bool false), rV undef, rV undef, rV undef, rV undef, rV undef, rV undef, rV (.bool false)] hz hd ?_ ?_
 refine ⟨?_, ?_, ?_, ?_, ?_, ?_, ?_, ?_, ?_, ?_, ?_, ?_, ?_, ?_, ?_, ?_, ?_, ?_, ?_, ?_, ?_, ?_, trivial⟩
 exact zMv hz (sv S1)
 exact zMv hz (sv S5)
 exact sBin rfl rfl rfl hz rfl (Gd.none_ rfl) rfl (sd 0 rfl) (sd 1 rfl) (fun w => n_add (by have := hr.le; omega) (by have := hr.le; omega) w)
 exact zMv hz (sv S0)
 exact zB1len hz rfl (sd 3 rfl) (fun w => s_len w)
 exact sBin rfl rfl rfl hz rfl (Gd.none_ rfl) rfl (sd 2 rfl) (sd 4 rfl) (fun w => run_f (P := i + n < L.length) ((fun w => n_lt w) w) hc1)
 exact zMv hz (sd 5 rfl)
 exact zSkU hz (gN 6 rfl)
 exact zSkU hz (gN 6 rfl)
 exact zSkU hz (gN 6 rfl)
 exact zSkU hz (gN 6 rfl)
 exact zSkU hz (gN 6 rfl)
 exact zSkU hz (gN 6 rfl)
 exact zPF hz (sd 6 rfl) kc
 exact zMv hz (sd 13 rfl)
 exact zSkU hz (gN 14 rfl)
 exact zSkU hz (gN 14 rfl)
 exact zSkU hz (gN 14 rfl)
 exact zSkU hz (gN 14 rfl)
 exact zSkU hz (gN 14 rfl)
 exact zSkU hz (gN 14 rfl)
 exact zPF hz (sd 14 rfl) kc
 clear hz hd
 intro a' γ' W' hz hd hC hk hh
 replace S0 := kp hk S0
 replace S1 := kp hk S1
 replace S4 := kp hk S4
 replace S5 := kp hk S5
 have S27 := gV hz 21 hh
 replace HB := aB HB hC
 clear hC hk hh
 refine wp_cond_false S27.ev ?_
 refine wp_exit ?_
 refine wp_seq ?_
 refine rt [rV (.int .i64 ((n : Nat) : Int)), rV (.int .i64 ((n : Nat) : Int))] hz hd ?_ ?_
 refine ⟨?_, ?_, trivial⟩
 exact zMv hz (sv S5)
 exact zAs hz (sd 0 rfl)
 clear hz hd
 intro a' γ' W' hz hd hC hk hh
 clear S0
 clear S1
 clear S4
 clear S5
 clear S27
 have S4 := gV hz 1 hh
 replace HB := aB HB hC
 clear hC hk hh
 refine wp_ret ?_
 refine ret_to (T := tV (.int .i64 ((n : Nat) : Int))) (ret1 (by kernel_rfl) S4 hd ⟨_, rfl, rfl, HB⟩) ?_
 exact tV_to (congrArg (fun k : Nat => Value.int .i64 (k : Int)) (hr.is (fun hc => absurd hc hc1)).symm)


theorem parse_bits {L : List Nat} {l : Nat} (h : 1601 ≤ l) : parseV L < 2 ^ l := by
  obtain ⟨k, hk, hl⟩ := parseV_lt L
  exact Nat.lt_of_lt_of_le (Nat.lt_trans hl (ten_lt k)) (Nat.pow_le_pow_right (by decide) (by omega))
theorem c_parse_b {L : List Nat} (hB : ∀ d ∈ L, d < 256) {w : World} : Calls Tryz.prog 108 #[.string (strB L)] w (Ret (tT [tN B64 400 (parseV L), tV (.bool (parseOk L))]) w) := by
  have := c_parse (s := strB L) (w := w)
  rw [bytesL_strB L hB] at this; exact this
theorem ten_bits {m l : Nat} (h : 4 * m + 1 ≤ l) : 10 ^ m < 2 ^ l := bits_le (ten_lt m) h
theorem sc_bits {L : List Nat} {m l : Nat} (h : 4 * m + 1602 ≤ l) : parseV L * 10 ^ m < 2 ^ l := bits_le (bits_mul (parse_bits (Nat.le_refl 1601)) (ten_lt m)) (by omega)
theorem one_bits {l : Nat} (h : 1602 ≤ l) : 1 < 2 ^ l := Nat.one_lt_two_pow (by omega)
theorem f_negm {m : Nat} (h : m ≤ 3000) (w : World) : (Op.unary .neg (.int .i64 (-((m : Nat) : Int)))).run Tryz.prog w = .ok (.int .i64 ((m : Nat) : Int)) w := by
  have e : IntKind.i64.wrap ((m : Nat) : Int) = ((m : Nat) : Int) := by rw [IntKind.wrap_i64]; omega
  simp [go_sem, e]
theorem f_ltm {m : Nat} {ox oy : Operand} {id : TypeId} (h : 0 < m) (w : World) : (do eqGuard .lss id ox oy (.int .i64 (-((m : Nat) : Int))) (.int .i64 0); binOp .lss id (.int .i64 (-((m : Nat) : Int))) (.int .i64 0) : Sem Value).run Tryz.prog w = .ok (.bool true) w := by
  have e : (0 : Int) < ((m : Nat) : Int) := by omega
  simp [go_sem, e, h]
theorem quo_to {a b m : Nat} (h : b = 0) (hm : 1 ≤ m) : ∀ v w, (tQ B64 1 0).p v w → (tQ B64 m (mkRat (a : Int) b)).p v w := by
  subst h
  exact fun v w hv => tQ_le (by decide) hm _ _ (tQ_eq (by simp) _ _ hv)
set_option maxRecDepth 10000 in
set_option maxHeartbeats 2000000 in
theorem c_quotient {l : Nat} {L M : List Nat} {w : World}  (hB : ∀ d ∈ L, d < 256) (hB2 : ∀ d ∈ M, d < 256) (hl : 1601 ≤ l) :
    Calls Tryz.prog 71 #[.string (strB L), .string (strB M)] w (Ret (tT [tQ B64 l (mkRat (parseV L) (parseV M)), tV (.int .i64 (if parseV M = 0 then 30 else 0))]) w) := by
 refine enter Tryz.func71 rfl Tryz.ntmps71 (by simp) ?_
 intro a hz hd ha
 have S0 := ha 0 _ rfl
 have S1 := ha 1 _ rfl
 clear ha
 have HB : Below w.heap.size w w := Below.refl _ _
 refine wp_seq ?_
 refine rt [rB 0 28 (tQ B64 1 0) none 0, rV (.int .i64 0)] hz hd ?_ ?_
 refine ⟨?_, ?_, trivial⟩
 exact zNew hz (fun _ => tQ_nil) al_r64
 exact zAs hz kc
 clear hz hd
 intro a' γ' W' hz hd hC hk hh
 replace S0 := kp hk S0
 replace S1 := kp hk S1
 obtain ⟨p1, S4, Cp1, lp1, gp1⟩ := gotB hz 0 hC hh rfl rfl rfl rfl rfl rfl
 have S5 := gV hz 1 hh
 have bp1 := Nat.le_trans HB.size lp1
 clear lp1 gp1
 replace HB := aB HB hC
 clear hC hk hh
 refine wp_seq ?_
 refine rt [rV (.string (strB L)), rT (tT [tN B64 400 (parseV L), tV (.bool (parseOk L))]), rT (tT [tN B64 400 (parseV L), tV (.bool (parseOk L))]), rT (tN B64 400 (parseV L)), rV (.bool (parseOk L)), rVar 5 26 1, rB 5 26 (tN B64 400 (parseV L)) (some 5) 6, rV (.bool (parseOk L))] hz hd ?_ ?_
 refine ⟨?_, ?_, ?_, ?_, ?_, ?_, ?_, ?_, trivial⟩
 exact zMv hz (sv S0)
 exact zC1 hz Tryz.func108 (sd 0 rfl) (k1 (fun _ => c_parse_b hB))
 exact zMv hz (sd 1 rfl)
 exact zExt hz (sd 2 rfl)
 exact zExt hz (sd 2 rfl)
 exact zAl hz nd_slice al_n64
 exact zSt (sd 3 rfl) st_n64
 exact zAs hz (sd 4 rfl)
 clear hz hd
 intro a' γ' W' hz hd hC hk hh
 have ep1 := Cp1.lt
 have tp1 := Cp1.lt
 replace Cp1 := kC hC Cp1
 clear S0
 replace S1 := kp hk S1
 replace S4 := kp hk S4
 replace S5 := kp hk S5
 obtain ⟨p2, S6, Cp2, lp2, gp2⟩ := gotB hz 6 hC hh rfl rfl rfl rfl rfl rfl
 have n_p2_p1 : p2 ≠ p1 := by omega
 have n_p1_p2 : p1 ≠ p2 := by have := ep1; omega
 have bp2 := Nat.le_trans HB.size lp2
 clear lp2 gp2
 clear tp1
 clear ep1
 replace HB := aB HB hC
 clear hC hk hh
 refine wp_seq ?_
 refine rt [rV (.string (strB M)), rT (tT [tN B64 400 (parseV M), tV (.bool (parseOk M))]), rT (tT [tN B64 400 (parseV M), tV (.bool (parseOk M))]), rT (tN B64 400 (parseV M)), rV (.bool (parseOk M)), rVar 5 26 1, rB 5 26 (tN B64 400 (parseV M)) (some 5) 6, rV (.bool (parseOk M))] hz hd ?_ ?_
 refine ⟨?_, ?_, ?_, ?_, ?_, ?_, ?_, ?_, trivial⟩
 exact zMv hz (sv S1)
 exact zC1 hz Tryz.func108 (sd 0 rfl) (k1 (fun _ => c_parse_b hB2))
 exact zMv hz (sd 1 rfl)
 exact zExt hz (sd 2 rfl)
 exact zExt hz (sd 2 rfl)
 exact zAl hz nd_slice al_n64
 exact zSt (sd 3 rfl) st_n64
 exact zAs hz (sd 4 rfl)
 clear hz hd
 intro a' γ' W' hz hd hC hk hh
 have ep1 := Cp1.lt
 have ep2 := Cp2.lt
 have tp1 := Cp1.lt
 replace Cp1 := kC hC Cp1
 have tp2 := Cp2.lt
 replace Cp2 := kC hC Cp2
 clear S1
 replace S4 := kp hk S4
 replace S5 := kp hk S5
 replace S6 := kp hk S6
 obtain ⟨p3, S8, Cp3, lp3, gp3⟩ := gotB hz 6 hC hh rfl rfl rfl rfl rfl rfl
 have n_p3_p1 : p3 ≠ p1 := by omega
 have n_p3_p2 : p3 ≠ p2 := by omega
 have n_p1_p3 : p1 ≠ p3 := by have := ep1; omega
 have n_p2_p3 : p2 ≠ p3 := by have := ep2; omega
 have bp3 := Nat.le_trans HB.size lp3
 clear lp3 gp3
 clear tp1 tp2
 clear ep1 ep2
 replace HB := aB HB hC
 clear hC hk hh
 refine wp_seq ?_
 refine rt [rT (tN B64 400 (parseV L)), rT (tN B64 400 (parseV M)), rT (tT [tQ B64 l (mkRat (parseV L) (parseV M)), tV (.bool (decide (parseV M ≠ 0)))]), rT (tT [tQ B64 l (mkRat (parseV L) (parseV M)), tV (.bool (decide (parseV M ≠ 0)))]), rT (tQ B64 l (mkRat (parseV L) (parseV M))), rV (.bool (decide (parseV M ≠ 0))), rVar 6 28 2, rB 6 28 (tQ B64 l (mkRat (parseV L) (parseV M))) (some 6) 7, rV (.bool (decide (parseV M ≠ 0)))] hz hd ?_ ?_
 refine ⟨?_, ?_, ?_, ?_, ?_, ?_, ?_, ?_, ?_, trivial⟩
 exact zLd hz (sv S6) Cp2 ld_n64
 exact zLd hz (sv S8) Cp3 ld_n64
 exact zC2 hz Tryz.func20 (sd 0 rfl) (sd 1 rfl) (fun _ _ _ h0 h1 => cq_from (l := l) h0 h1 (by decide) (by decide) (parse_bits hl) (parse_bits hl) (by omega))
 exact zMv hz (sd 2 rfl)
 exact zExt hz (sd 3 rfl)
 exact zExt hz (sd 3 rfl)
 exact zAl hz nd_rat al_r64
 exact zSt (sd 4 rfl) st_q64
 exact zAs hz (sd 5 rfl)
 clear hz hd
 intro a' γ' W' hz hd hC hk hh
 have ep1 := Cp1.lt
 have ep2 := Cp2.lt
 have ep3 := Cp3.lt
 have tp1 := Cp1.lt
 replace Cp1 := kC hC Cp1
 have tp2 := Cp2.lt
 clear Cp2
 have tp3 := Cp3.lt
 clear Cp3
 replace S4 := kp hk S4
 replace S5 := kp hk S5
 clear S6
 clear S8
 obtain ⟨p4, S10, Cp4, lp4, gp4⟩ := gotB hz 7 hC hh rfl rfl rfl rfl rfl rfl
 have S11 := gV hz 8 hh
 have n_p4_p1 : p4 ≠ p1 := by omega
 have n_p1_p4 : p1 ≠ p4 := by have := ep1; omega
 have bp4 := Nat.le_trans HB.size lp4
 clear lp4 gp4
 clear tp1 tp2 tp3
 clear ep1 ep2 ep3
 replace HB := aB HB hC
 clear hC hk hh
 refine wp_seq ?_
 refine wp_seq ?_
 by_cases hc5 : parseV M ≠ 0
 rw [decide_eq_true hc5] at S11
 refine rt [rV (.bool true), rV (.bool false)] hz hd ?_ ?_
 refine ⟨?_, ?_, trivial⟩
 exact zMv hz (sv S11)
 exact zNot hz (sd 0 rfl)
 clear hz hd
 intro a' γ' W' hz hd hC hk hh
 have tp1 := Cp1.lt
 replace Cp1 := kC hC Cp1
 have tp4 := Cp4.lt
 replace Cp4 := kC hC Cp4
 replace S4 := kp hk S4
 replace S5 := kp hk S5
 replace S10 := kp hk S10
 clear S11
 have S29 := gV hz 1 hh
 clear tp1 tp4
 replace HB := aB HB hC
 clear hC hk hh
 refine wp_cond_false S29.ev ?_
 refine wp_skip ?_
 refine wp_seq ?_
 refine region_text (M := [p1]) [rT (tQ B64 l (mkRat (parseV L) (parseV M))), rE 0 28 (tQ B64 l (mkRat (parseV L) (parseV M))) p1, rV (.int .i64 0)] hz hd (by kernel_rfl) ?_ ?_
 refine ⟨?_, ?_, ?_, trivial⟩
 exact zLd hz (sv S10) Cp4 ld_q64 (by simp [tagOf, n_p4_p1])
 exact zSE rfl (sv S4) (by simp [tagOf]) (Cp1.var tQ_nd) (sd 0 rfl) st_q64
 exact zAs hz kc
 clear hz hd
 intro a' γ' W' hz hd hC hk hh
 replace Cp1 := gotE (T := tQ B64 l (mkRat (parseV L) (parseV M))) (id := 28) (p := p1) 1 hh rfl rfl
 have tp4 := Cp4.lt
 clear Cp4
 replace S4 := kp hk S4
 clear S5
 clear S10
 clear S29
 have S5 := gV hz 2 hh
 clear tp4
 replace HB := aM HB hC
 clear hC hk hh
 refine wp_ret ?_
 refine ret_to (T := tT [tQ B64 l (mkRat (parseV L) (parseV M)), tV (.int .i64 0)]) (retct_q64 (by kernel_rfl) S4 S5 hd Cp1 HB) ?_
 exact to2 (fun _ _ h => h) (tV_to (by rw [if_neg hc5]))
 rw [decide_eq_false hc5] at S11
 refine rt [rV (.bool false), rV (.bool true)] hz hd ?_ ?_
 refine ⟨?_, ?_, trivial⟩
 exact zMv hz (sv S11)
 exact zNot hz (sd 0 rfl)
 clear hz hd
 intro a' γ' W' hz hd hC hk hh
 have tp1 := Cp1.lt
 replace Cp1 := kC hC Cp1
 have tp4 := Cp4.lt
 replace Cp4 := kC hC Cp4
 replace S4 := kp hk S4
 replace S5 := kp hk S5
 replace S10 := kp hk S10
 clear S11
 have S29 := gV hz 1 hh
 clear tp1 tp4
 replace HB := aB HB hC
 clear hC hk hh
 refine wp_cond_true S29.ev ?_
 refine wp_seq ?_
 refine region_text (M := [p1]) [rT (tQ B64 1 0), rE 0 28 (tQ B64 1 0) p1, rV (.int .i64 30)] hz hd (by kernel_rfl) ?_ ?_
 refine ⟨?_, ?_, ?_, trivial⟩
 exact sBuild0 rfl rfl rfl hz rfl (Gd.none_ rfl) rfl bd_r64 (fun _ => tQ_nil)
 exact zSE rfl (sv S4) (by simp [tagOf]) (Cp1.var tQ_nd) (sd 0 rfl) st_q64
 exact zAs hz kc
 clear hz hd
 intro a' γ' W' hz hd hC hk hh
 replace Cp1 := gotE (T := tQ B64 1 0) (id := 28) (p := p1) 1 hh rfl rfl
 have tp4 := Cp4.lt
 replace Cp4 := kC hC Cp4 (by simp [tagOf, n_p4_p1])
 replace S4 := kp hk S4
 clear S5
 replace S10 := kp hk S10
 clear S29
 have S5 := gV hz 2 hh
 clear tp4
 replace HB := aM HB hC
 clear hC hk hh
 refine wp_ret ?_
 refine ret_to (T := tT [tQ B64 1 0, tV (.int .i64 30)]) (retct_q64 (by kernel_rfl) S4 S5 hd Cp1 HB) ?_
 exact to2 (quo_to (Decidable.not_not.1 hc5) (by omega)) (tV_to (by rw [if_pos (Decidable.not_not.1 hc5)]))

set_option maxRecDepth 10000 in
set_option maxHeartbeats 2000000 in
theorem c_scaled_neg {l m : Nat} {L : List Nat} {w : World}  (hB : ∀ d ∈ L, d < 256) (h0m : 0 < m) (hm : m ≤ 2000) (hl : 4 * m + 1602 ≤ l) :
    Calls Tryz.prog 72 #[.string (strB L), .int .i64 (-((m : Nat) : Int))] w (Ret (tQ B64 l (mkRat ((parseV L : Nat) : Int) (10 ^ m))) w) := by
 refine enter Tryz.func72 rfl Tryz.ntmps72 (by simp) ?_
 intro a hz hd ha
 have S0 := ha 0 _ rfl
 have S1 := ha 1 _ rfl
 clear ha
 have HB : Below w.heap.size w w := Below.refl _ _
 refine wp_seq ?_
 refine rt [rB 0 28 (tQ B64 1 0) none 0] hz hd ?_ ?_
 refine ⟨?_, trivial⟩
 exact zNew hz (fun _ => tQ_nil) al_r64
 clear hz hd
 intro a' γ' W' hz hd hC hk hh
 replace S0 := kp hk S0
 replace S1 := kp hk S1
 obtain ⟨p1, S4, Cp1, lp1, gp1⟩ := gotB hz 0 hC hh rfl rfl rfl rfl rfl rfl
 have bp1 := Nat.le_trans HB.size lp1
 clear lp1 gp1
 replace HB := aB HB hC
 clear hC hk hh
 refine wp_seq ?_
 refine rt [rV (.string (strB L)), rT (tT [tN B64 400 (parseV L), tV (.bool (parseOk L))]), rT (tT [tN B64 400 (parseV L), tV (.bool (parseOk L))]), rT (tN B64 400 (parseV L)), rV (.bool (parseOk L)), rVar 5 26 1, rB 5 26 (tN B64 400 (parseV L)) (some 5) 6, rV (.bool (parseOk L))] hz hd ?_ ?_
 refine ⟨?_, ?_, ?_, ?_, ?_, ?_, ?_, ?_, trivial⟩
 exact zMv hz (sv S0)
 exact zC1 hz Tryz.func108 (sd 0 rfl) (k1 (fun _ => c_parse_b hB))
 exact zMv hz (sd 1 rfl)
 exact zExt hz (sd 2 rfl)
 exact zExt hz (sd 2 rfl)
 exact zAl hz nd_slice al_n64
 exact zSt (sd 3 rfl) st_n64
 exact zAs hz (sd 4 rfl)
 clear hz hd
 intro a' γ' W' hz hd hC hk hh
 have ep1 := Cp1.lt
 have tp1 := Cp1.lt
 replace Cp1 := kC hC Cp1
 clear S0
 replace S1 := kp hk S1
 replace S4 := kp hk S4
 obtain ⟨p2, S5, Cp2, lp2, gp2⟩ := gotB hz 6 hC hh rfl rfl rfl rfl rfl rfl
 have n_p2_p1 : p2 ≠ p1 := by omega
 have n_p1_p2 : p1 ≠ p2 := by have := ep1; omega
 have bp2 := Nat.le_trans HB.size lp2
 clear lp2 gp2
 clear tp1
 clear ep1
 replace HB := aB HB hC
 clear hC hk hh
 refine wp_seq ?_
 refine wp_seq ?_
 refine rt [rV (.int .i64 (-((m : Nat) : Int))), rV (.bool true)] hz hd ?_ ?_
 refine ⟨?_, ?_, trivial⟩
 exact zMv hz (sv S1)
 exact sBin rfl rfl rfl hz rfl (Gd.none_ rfl) rfl (sd 0 rfl) kc (fun w => f_ltm h0m w)
 clear hz hd
 intro a' γ' W' hz hd hC hk hh
 have tp1 := Cp1.lt
 replace Cp1 := kC hC Cp1
 have tp2 := Cp2.lt
 replace Cp2 := kC hC Cp2
 replace S1 := kp hk S1
 replace S4 := kp hk S4
 replace S5 := kp hk S5
 have S13 := gV hz 1 hh
 clear tp1 tp2
 replace HB := aB HB hC
 clear hC hk hh
 refine wp_cond_true S13.ev ?_
 refine wp_seq ?_
 refine region_drawn (M := [p1]) (
  rT (tN B64 400 (parseV L)) ::
  rT (tV (.int .i64 (-((m : Nat) : Int)))) ::
  rT (tV (.int .i64 ((m : Nat) : Int))) ::
  rT (tN B64 (m + 1) (10 ^ m)) ::
  rT (tQ B64 l (mkRat ((parseV L : Nat) : Int) (10 ^ m))) ::
  rE 0 28 (tQ B64 l (mkRat ((parseV L : Nat) : Int) (10 ^ m))) p1 ::
  []) hz hd (by kernel_rfl) (by kernel_rfl) ?_ ?_
 refine ⟨?_, ?_, ?_, ?_, ?_, ?_, trivial⟩
 exact zLd hz (sv S5) Cp2 ld_n64 (by simp [tagOf, n_p2_p1])
 exact zMv hz (sv S1)
 exact sUn rfl rfl rfl hz rfl (Gd.none_ rfl) rfl (sd 1 rfl) (fun w => f_negm (by omega) w)
 exact zC1 hz Tryz.func80 (sd 2 rfl) (k1 (fun _ => c_ten (n := m) (by omega)))
 exact zC2 hz Tryz.func84 (sd 0 rfl) (sd 3 rfl) (fun _ _ _ h0 h1 => c_fraction (l := l) h0 h1 (by omega) (by omega) (parse_bits (by omega)) (ten_bits (by omega)) (by omega))
 exact zSE rfl (sv S4) (by simp [tagOf]) (Cp1.var tQ_nd) (sd 4 rfl) st_q64
 clear hz hd
 intro a' γ' W' hz hd hC hk hh
 replace Cp1 := gotE (T := tQ B64 l (mkRat ((parseV L : Nat) : Int) (10 ^ m))) (id := 28) (p := p1) 5 hh rfl rfl
 have tp2 := Cp2.lt
 replace Cp2 := kC hC Cp2 (by simp [tagOf, n_p2_p1])
 replace S1 := kp hk S1
 replace S4 := kp hk S4
 replace S5 := kp hk S5
 clear S13
 clear tp2
 replace HB := aM HB hC
 clear hC hk hh
 refine wp_ret ?_
 refine ret_to (T := tQ B64 l (mkRat ((parseV L : Nat) : Int) (10 ^ m))) (ret1_q64 (by kernel_rfl) S4 hd Cp1 HB) ?_
 exact fun _ _ h => h

set_option maxRecDepth 10000 in
set_option maxHeartbeats 2000000 in
theorem c_scaled_pos {l m : Nat} {L : List Nat} {w : World}  (hB : ∀ d ∈ L, d < 256) (hm : m ≤ 2000) (hl : 4 * m + 1602 ≤ l) :
    Calls Tryz.prog 72 #[.string (strB L), .int .i64 ((m : Nat) : Int)] w (Ret (tQ B64 l (mkRat ((parseV L * 10 ^ m : Nat) : Int) 1)) w) := by
 refine enter Tryz.func72 rfl Tryz.ntmps72 (by simp) ?_
 intro a hz hd ha
 have S0 := ha 0 _ rfl
 have S1 := ha 1 _ rfl
 clear ha
 have HB : Below w.heap.size w w := Below.refl _ _
 refine wp_seq ?_
 refine rt [rB 0 28 (tQ B64 1 0) none 0] hz hd ?_ ?_
 refine ⟨?_, trivial⟩
 exact zNew hz (fun _ => tQ_nil) al_r64
 clear hz hd
 intro a' γ' W' hz hd hC hk hh
 replace S0 := kp hk S0
 replace S1 := kp hk S1
 obtain ⟨p1, S4, Cp1, lp1, gp1⟩ := gotB hz 0 hC hh rfl rfl rfl rfl rfl rfl
 have bp1 := Nat.le_trans HB.size lp1
 clear lp1 gp1
 replace HB := aB HB hC
 clear hC hk hh
 refine wp_seq ?_
 refine rt [rV (.string (strB L)), rT (tT [tN B64 400 (parseV L), tV (.bool (parseOk L))]), rT (tT [tN B64 400 (parseV L), tV (.bool (parseOk L))]), rT (tN B64 400 (parseV L)), rV (.bool (parseOk L)), rVar 5 26 1, rB 5 26 (tN B64 400 (parseV L)) (some 5) 6, rV (.bool (parseOk L))] hz hd ?_ ?_
 refine ⟨?_, ?_, ?_, ?_, ?_, ?_, ?_, ?_, trivial⟩
 exact zMv hz (sv S0)
 exact zC1 hz Tryz.func108 (sd 0 rfl) (k1 (fun _ => c_parse_b hB))
 exact zMv hz (sd 1 rfl)
 exact zExt hz (sd 2 rfl)
 exact zExt hz (sd 2 rfl)
 exact zAl hz nd_slice al_n64
 exact zSt (sd 3 rfl) st_n64
 exact zAs hz (sd 4 rfl)
 clear hz hd
 intro a' γ' W' hz hd hC hk hh
 have ep1 := Cp1.lt
 have tp1 := Cp1.lt
 replace Cp1 := kC hC Cp1
 clear S0
 replace S1 := kp hk S1
 replace S4 := kp hk S4
 obtain ⟨p2, S5, Cp2, lp2, gp2⟩ := gotB hz 6 hC hh rfl rfl rfl rfl rfl rfl
 have n_p2_p1 : p2 ≠ p1 := by omega
 have n_p1_p2 : p1 ≠ p2 := by have := ep1; omega
 have bp2 := Nat.le_trans HB.size lp2
 clear lp2 gp2
 clear tp1
 clear ep1
 replace HB := aB HB hC
 clear hC hk hh
 refine wp_seq ?_
 refine wp_seq ?_
 refine rt [rV (.int .i64 ((m : Nat) : Int)), rV (.bool false)] hz hd ?_ ?_
 refine ⟨?_, ?_, trivial⟩
 exact zMv hz (sv S1)
 exact sBin rfl rfl rfl hz rfl (Gd.none_ rfl) rfl (sd 0 rfl) kc (fun w => n_neg w)
 clear hz hd
 intro a' γ' W' hz hd hC hk hh
 have tp1 := Cp1.lt
 replace Cp1 := kC hC Cp1
 have tp2 := Cp2.lt
 replace Cp2 := kC hC Cp2
 replace S1 := kp hk S1
 replace S4 := kp hk S4
 replace S5 := kp hk S5
 have S13 := gV hz 1 hh
 clear tp1 tp2
 replace HB := aB HB hC
 clear hC hk hh
 refine wp_cond_false S13.ev ?_
 refine wp_skip ?_
 refine wp_seq ?_
 refine region_drawn (M := [p1]) (
  rT (tN B64 400 (parseV L)) ::
  rT (tV (.int .i64 ((m : Nat) : Int))) ::
  rT (tN B64 (m + 1) (10 ^ m)) ::
  rT (tN B64 (400 + (m + 1)) ((parseV L) * (10 ^ m))) ::
  rT (tN B64 1 1) ::
  rT (tQ B64 l (mkRat (((parseV L) * (10 ^ m) : Nat) : Int) 1)) ::
  rE 0 28 (tQ B64 l (mkRat (((parseV L) * (10 ^ m) : Nat) : Int) 1)) p1 ::
  []) hz hd (by kernel_rfl) (by kernel_rfl) ?_ ?_
 refine ⟨?_, ?_, ?_, ?_, ?_, ?_, ?_, trivial⟩
 exact zLd hz (sv S5) Cp2 ld_n64 (by simp [tagOf, n_p2_p1])
 exact zMv hz (sv S1)
 exact zC1 hz Tryz.func80 (sd 1 rfl) (k1 (fun _ => c_ten (n := m) (by omega)))
 exact zC2 hz Tryz.func43 (sd 0 rfl) (sd 2 rfl) (fun _ _ _ h0 h1 => c_mul h0 h1 (by decide) (by rw [big_eq]; omega))
 exact zC0 hz Tryz.func51 (fun _ => c_num1)
 exact zC2 hz Tryz.func84 (sd 3 rfl) (sd 4 rfl) (fun _ _ _ h0 h1 => c_fraction (l := l) h0 h1 (by omega) (by omega) (sc_bits hl) (one_bits (by omega)) (by omega))
 exact zSE rfl (sv S4) (by simp [tagOf]) (Cp1.var tQ_nd) (sd 5 rfl) st_q64
 clear hz hd
 intro a' γ' W' hz hd hC hk hh
 replace Cp1 := gotE (T := tQ B64 l (mkRat (((parseV L) * (10 ^ m) : Nat) : Int) 1)) (id := 28) (p := p1) 6 hh rfl rfl
 have tp2 := Cp2.lt
 clear Cp2
 clear S1
 replace S4 := kp hk S4
 clear S5
 clear S13
 clear tp2
 replace HB := aM HB hC
 clear hC hk hh
 refine wp_ret ?_
 refine ret_to (T := tQ B64 l (mkRat (((parseV L) * (10 ^ m) : Nat) : Int) 1)) (ret1_q64 (by kernel_rfl) S4 hd Cp1 HB) ?_
 exact fun _ _ h => h


def JQ (P : Program) (c : Code) (Q : Exit → Act → World → Prop) : Nat → Exit → Act → World → Prop
  | 0 => fun e a w => match e with
    | .goto _ => False
    | e => Q e a w
  | n + 1 => fun e a w => match e with
    | .goto l => ∃ rest, findLabel c l = some rest ∧ rest.wp P (JQ P c Q n) a w
    | e => Q e a w
section

variable {P : Program} {a : Act} {w : World} {Q : Exit → Act → World → Prop} {c : Code}
theorem jq_goto {n l : Nat} {rest : Code} (hf : findLabel c l = some rest) (h : rest.wp P (JQ P c Q n) a w) : JQ P c Q (n + 1) (.goto l) a w := ⟨rest, hf, h⟩
theorem wp_scope_hops (n : Nat) (h : c.wp P (JQ P c Q n) a w) : (Code.scope c).wp P Q a w := by
  intro b k cs
  have key : ∀ n rest a w, Code.wp P rest (JQ P c Q n) a w → ∃ e a' w', Q e a' w' ∧ Arrives P (lone (b.at a (.code rest :: .inScope c :: k)) cs w) b k cs e a' w' := by
    intro n
    induction n with
    | zero =>
      intro rest a w hJ
      obtain ⟨e, a₁, w₁, hq, harr⟩ := hJ b (.inScope c :: k) cs
      cases e with
      | normal => exact ⟨.normal, a₁, w₁, hq, Steps.trans harr (.one step_inScope)⟩
      | exit id => exact ⟨.exit id, a₁, w₁, hq, fun k' hk => harr k' (by simp [exitTo, hk])⟩
      | goto l' => exact hq.elim
      | ret => exact ⟨_, a₁, w₁, hq, harr⟩
      | panic ch => exact ⟨_, a₁, w₁, hq, harr⟩
      | outgrown => exact ⟨_, a₁, w₁, hq, harr⟩
    | succ n ih =>
      intro rest a w hJ
      obtain ⟨e, a₁, w₁, hq, harr⟩ := hJ b (.inScope c :: k) cs
      cases e with
      | normal => exact ⟨.normal, a₁, w₁, hq, Steps.trans harr (.one step_inScope)⟩
      | exit id => exact ⟨.exit id, a₁, w₁, hq, fun k' hk => harr k' (by simp [exitTo, hk])⟩
      | goto l' =>
        obtain ⟨r2, hf, hw⟩ := hq
        have hg : gotoIn l' (.inScope c :: k) = some (.code r2 :: .inScope c :: k) := by simp [gotoIn, hf]
        obtain ⟨e₂, a₂, w₂, hq₂, harr₂⟩ := ih r2 a₁ w₁ hw
        exact ⟨e₂, a₂, w₂, hq₂, .of_steps (harr _ hg) harr₂⟩
      | ret => exact ⟨_, a₁, w₁, hq, harr⟩
      | panic ch => exact ⟨_, a₁, w₁, hq, harr⟩
      | outgrown => exact ⟨_, a₁, w₁, hq, harr⟩
  obtain ⟨e, a', w', hq, harr⟩ := key n c a w h
  exact ⟨e, a', w', hq, .of_steps (.one step_scope) harr⟩
end

end Go.Proofs.YtfgnleoaibcegaaGreat.Rg

namespace Go.Proofs.YtfgnleoaibcegaaGreat.Rg

open Go.RowKit

section

variable {P : Program} {a : Act} {w : World} {Q : Exit → Act → World → Prop}
theorem wp_join {x y : Code} (R : Act → World → Prop) (h1 : x.wp P (Exit.then R Q) a w) (h2 : ∀ a w, R a w → y.wp P Q a w) : (Code.seq x y).wp P Q a w :=
  wp_seq (wp_mono h1 fun e a w h => match e, h with
    | .normal, h => h2 _ _ h
    | .exit _, h => h
    | .goto _, h => h
    | .ret, h => h
    | .panic _, h => h
    | .outgrown, h => h)
end
theorem join_n {R : Act → World → Prop} {Q : Exit → Act → World → Prop} {a : Act} {w : World} (h : R a w) : Exit.then R Q .normal a w := h
theorem rett5 {P : Program} {fn : Func} {w0 : World} {a : Act} {w : World} {t1 t2 t3 t4 t5 : Nat} {v1 v2 v3 v4 v5 : Value} (h : fn.results = #[.tmp t1, .tmp t2, .tmp t3, .tmp t4, .tmp t5]) (s1 : Sl a t1 v1) (s2 : Sl a t2 v2) (s3 : Sl a t3 v3) (s4 : Sl a t4 v4) (s5 : Sl a t5 v5) (hdf : a.defers = []) (hb : Below w0.heap.size w0 w) :
    bodyPost P fn (Ret (tT [tV v1, tV v2, tV v3, tV v4, tV v5]) w0) .ret a w := by
  refine bodyPost_ret (v := .tuple #[v1, v2, v3, v4, v5]) ?_ hdf ⟨_, rfl, ⟨[v1, v2, v3, v4, v5], rfl, rfl, rfl, rfl, rfl, rfl, trivial⟩, hb⟩
  unfold Sl at s1 s2 s3 s4 s5
  simp [results, h, go_sem, s1, s2, s3, s4, s5]
def Iter (s : ByteArray) (pos p : Nat) (w : World) : Prop := w.heap[p]? = some (.stringIter s pos)
theorem Iter.lt {s : ByteArray} {pos p : Nat} {w : World} (h : Iter s pos p w) : p < w.heap.size := by
  rcases Nat.lt_or_ge p w.heap.size with c | c
  · exact c
  · unfold Iter at h; rw [Array.getElem?_eq_none c] at h; cases h
theorem Iter.aft {s : ByteArray} {pos p : Nat} {M : List Nat} {W w : World} {γ : Nat → Nat} (h : Iter s pos p W) (hc : RelC M W γ w) (hp : tagOf M 1000 p = 0 := by rfl) : Iter s pos p w :=
  (hc.1.block p h.lt (.inr (by unfold mt; rw [if_pos hp]; omega))).trans h
def rIt (j : Nat) (s : ByteArray) (pos : Nat) : Rel :=
  ⟨none, 0, j + 1, fun v γ w => ∃ p, v = .pointer (some ⟨p, 0, none⟩) ∧ γ p = j + 1 ∧ Iter s pos p w,
    fun t γ w γ' w' v ht g ⟨p, e, hγ, h⟩ => ⟨p, e, by rw [g.tag p h.lt]; exact hγ, (g.block p h.lt (by omega)).trans h⟩⟩
def rItE (k : Nat) (T : Ty) (s : ByteArray) (pos p : Nat) : Rel :=
  ⟨none, 1000 + k, 1000 + k, fun v γ w => T.p v w ∧ γ p = 1000 + k ∧ Iter s pos p w,
    fun t γ w γ' w' v ht g ⟨hv, hγ, h⟩ => ⟨T.l _ _ _ _ _ _ g hv, by rw [g.tag p h.lt]; exact hγ, (g.block p h.lt (by omega)).trans h⟩⟩
def World.setIt (w : World) (p : Nat) (s : ByteArray) (pos : Nat) : World := { w with heap := w.heap.setIfInBounds p (.stringIter s pos) }
section

variable {P : Program} {s : ByteArray} {pos p : Nat} {w : World}
theorem Iter.set (h : Iter s pos p w) (pos' : Nat) : Iter s pos' p (World.setIt w p s pos') := by
  unfold Iter World.setIt
  simp [h.lt]
theorem Grow.iter {t pos' : Nat} (γ : Nat → Nat) (h : Iter s pos p w) (ht0 : t ≠ 0) (hγ : γ p = t) : Grow t γ w γ (World.setIt w p s pos') := by
  have hne : ∀ b, b ≠ p → (World.setIt w p s pos').heap[b]? = w.heap[b]? := fun b hb => by
    unfold World.setIt; simp [Array.getElem?_setIfInBounds_ne (Ne.symm hb)]
  refine ⟨rfl, rfl, rfl, by unfold World.setIt; simp, fun _ _ => rfl, fun b hlt ht => ?_, fun a k n hk ha => ?_, fun q T' n hq => ?_⟩
  · refine hne b ?_
    rintro rfl
    exact ht.elim ht0 (fun h => h hγ)
  · by_cases hap : a.block = p
    · exfalso
      unfold Iter at h
      rw [← hap] at h
      unfold World.cell? at ha
      simp [h] at ha
    · rw [World.cell?_of_block (hne a.block hap)]; exact ha
  · obtain ⟨ds, h3, h4, h5⟩ := hq
    refine ⟨ds, h3, h4, (hne q ?_).trans h5⟩
    rintro rfl
    unfold Iter at h
    rw [h] at h5; cases h5
theorem run_range_it {id : TypeId} (h : P.underlying id = some .string) (w : World) : (Instr.range id (.string s)).run P w = .ok (.pointer (some ⟨w.heap.size, 0, none⟩)) (w.alloc (.stringIter s 0)) := run_range_string w id s h
theorem run_next_it {ty : TypeId} (h : Iter s pos p w) (hp : pos < s.size) (ha : (s[pos]'hp).toNat < 128) :
    (Instr.next (.pointer (some ⟨p, 0, none⟩)) true ty).run P w = .ok (.tuple #[.bool true, .int .i64 pos, .int .i32 (s[pos]'hp).toNat]) (World.setIt w p s (pos + 1)) := by
  unfold Iter at h
  have hl := Iter.lt h
  have h' : w.heap[p] = .stringIter s pos := by rw [Array.getElem?_eq_getElem hl] at h; injection h
  simp [Instr.next, getObj, setObj, Sem.run_bind, Sem.run, h, h', hl, Result.andThen, hp, if_true, decode_ascii s pos hp ha, goInt, World.setIt]
theorem run_next_it_end {ty : TypeId} (h : Iter s pos p w) (hp : ¬ pos < s.size) :
    (Instr.next (.pointer (some ⟨p, 0, none⟩)) true ty).run P w = .ok (.tuple #[.bool false]) w := by
  unfold Iter at h
  simp [Instr.next, getObj, Sem.run, h, hp]
end

section

variable {P : Program} {ops : Array Oper} {Q : Exit → Act → World → Prop} {a0 : Act} {M : List Nat} {W : World} {rels : List Rel} {i : Nat} {o : Oper} {N d : Nat} {x y : Operand} {T : Ty} {s : ByteArray} {p pos : Nat}
theorem zRange {id : TypeId} (hz : a0.tmps.size = N) (hop : o.op = .range id x) (hid : P.underlying id = some .string) (s1 : Src ops a0 M W rels i o x (tV (.string s)))
    (hg : o.guard = none := by rfl) (ho : ops[i]? = some o := by rfl) (hr : rels[i]? = some (rIt i s 0) := by rfl) (hd : o.dst = some d := by rfl) (hlt : decide (d < N) = true := by rfl) : StepOk P ops a0 M W Q rels i o := by
  intro a γ w K hc hag hearly hdep hkp hK
  have U : Up ops a0 M W rels i o a γ w := ⟨hc, hag, hearly, hdep, hkp⟩
  rw [if_pos (by simp [Region.wanted, hg])]
  have hv : a.eval x = .string s := s1 a γ w U
  have hrun' : (execOp a.eval o).run P w = .ok (.value (.pointer (some ⟨w.heap.size, 0, none⟩))) (w.alloc (.stringIter s 0)) := by
    unfold execOp
    rw [hop]
    simp only [hv, Sem.run_bind, run_range_it hid, Result.andThen, Sem.run_pure]
  unfold Oper.wp
  rw [hrun']
  exact hK _ (newTag γ w (i + 1)) _ (by unfold effOf; rw [hr]; exact Grow.alloc γ w _ _) (holds_put ho hr rfl hd (lt_of hz hlt hag) ⟨w.heap.size, rfl, by simp [newTag], by unfold Iter World.alloc; simp⟩)
theorem zNext {k : Nat} (hz : a0.tmps.size = N) (hop : o.op = .next x true) (hI : Iter s pos p W) (hp : pos < s.size) (ha : (s[pos]'hp).toNat < 128) (hM : tagOf M 1000 p = 1000 + k)
    (huni : ((List.range ops.size).all fun j => j == i || ahead ops j i || !(effOf rels j == 1000 + k)) = true)
    (hT : ∀ w, T.p (.tuple #[.bool true, .int .i64 pos, .int .i32 (s[pos]'hp).toNat]) w) (s1 : Src ops a0 M W rels i o x (tV (.pointer (some ⟨p, 0, none⟩))))
    (hg : o.guard = none := by rfl) (ho : ops[i]? = some o := by rfl) (hr : rels[i]? = some (rItE k T s (pos + 1) p) := by rfl) (hd : o.dst = some d := by rfl) (hlt : decide (d < N) = true := by rfl) : StepOk P ops a0 M W Q rels i o := by
  intro a γ w K hc hag hearly hdep hkp hK
  have U : Up ops a0 M W rels i o a γ w := ⟨hc, hag, hearly, hdep, hkp⟩
  rw [if_pos (by simp [Region.wanted, hg])]
  have hv : a.eval x = .pointer (some ⟨p, 0, none⟩) := s1 a γ w U
  have hI' : Iter s pos p w := (hkp p hI.lt fun j' o' ho' hj' hw' => by
    have hjs := (Array.getElem?_eq_some_iff.1 ho').1
    have := List.all_eq_true.1 huni j' (List.mem_range.2 hjs)
    rw [hM]
    simp only [hw', Bool.or_false, Bool.or_eq_true, beq_iff_eq, hj', false_or, Bool.not_eq_true', beq_eq_false_iff_ne] at this
    exact this).trans hI
  have hγ : γ p = 1000 + k := by rw [hc.2 p hI.lt]; exact hM
  have hrun' : (execOp a.eval o).run P w = .ok (.value (.tuple #[.bool true, .int .i64 pos, .int .i32 (s[pos]'hp).toNat])) (World.setIt w p s (pos + 1)) := by
    unfold execOp
    rw [hop]
    simp only [hv, Sem.run_bind, run_next_it hI' hp ha, Result.andThen, Sem.run_pure]
  unfold Oper.wp
  rw [hrun']
  exact hK _ γ _ (by unfold effOf; rw [hr]; exact Grow.iter (t := 1000 + k) γ hI' (by omega) hγ) (holds_put ho hr rfl hd (lt_of hz hlt hag) ⟨hT _, hγ, hI'.set _⟩)
theorem zNextEnd (hz : a0.tmps.size = N) (hop : o.op = .next x true) (hI : Iter s pos p W) (hp : ¬ pos < s.size) (hM : tagOf M 1000 p = 0)
    (s1 : Src ops a0 M W rels i o x (tV (.pointer (some ⟨p, 0, none⟩)))) (g : Gd ops a0 M W rels i o true := by exact Gd.none_ rfl)
    (ho : ops[i]? = some o := by rfl) (hr : rels[i]? = some (rT (tT [tV (.bool false)])) := by rfl) (hd : o.dst = some d := by rfl) (hlt : decide (d < N) = true := by rfl) : StepOk P ops a0 M W Q rels i o :=
  sOp ho hr hd hz hlt g fun a γ w U => by
    have hv : a.eval x = .pointer (some ⟨p, 0, none⟩) := s1 a γ w U
    have hI' : Iter s pos p w := hI.aft U.c hM
    refine ⟨.tuple #[.bool false], ?_, [.bool false], rfl, rfl, trivial⟩
    unfold execOp
    rw [hop]
    simp only [hv, Sem.run_bind, run_next_it_end hI' hp, Result.andThen, Sem.run_pure]
theorem sdI (j : Nat) {t k : Nat} (hr : rels[j]? = some (rItE k T s pos p)) (hj : (ops[j]?).bind (·.dst) = some t := by rfl) (hw : waitsD o j = true := by rfl) : Src ops a0 M W rels i o (.tmp t) T := fun a γ w U => by
  have h := U.dep j (.inl hw)
  unfold Holds at h
  rw [hr] at h
  have e : valOf ops a j = a.eval (.tmp t) := by simp only [valOf, hj]; rfl
  obtain ⟨h1, h2, h3⟩ := h
  rw [← e]
  exact h1
end

section

variable {a : Act} {γ : Nat → Nat} {w : World} {t N : Nat} {l : List Oper} {rels : List Rel} {M : List Nat} {W : World} {T : Ty} {s : ByteArray} {p pos k : Nat}
theorem gotNx (hz : a.tmps.size = N) (i : Nat) (hh : ∀ i, i < l.length → alive l.toArray rels i = true → Holds l.toArray rels i a γ w) (hi : decide (i < l.length) = true) (hr : rels[i]? = some (rItE k T s pos p)) (hs : (rItE k T s pos p).sub = none) (hd : (l.toArray[i]?).bind (·.dst) = some t) (hlt : decide (t < N) = true) (hal : alive l.toArray rels i = true := by kernel_rfl) : (∃ v, Sl a t v ∧ T.p v w) ∧ Iter s pos p w := by
  have h := hh i (of_decide_eq_true hi) hal
  unfold Holds at h
  rw [hr] at h
  have e : valOf l.toArray a i = a.eval (.tmp t) := by simp only [valOf, hd]; rfl
  obtain ⟨h1, h2, h3⟩ := h
  exact ⟨⟨_, Sl.of hz hlt, by rw [← e]; exact h1⟩, h3⟩
theorem gotIt {j : Nat} (hz : a.tmps.size = N) (i : Nat) (hc : RelC M W γ w) (hh : ∀ i, i < l.length → alive l.toArray rels i = true → Holds l.toArray rels i a γ w) (hi : decide (i < l.length) = true) (hr : rels[i]? = some (rIt j s pos)) (hj : decide (j < 999) = true) (hd : (l.toArray[i]?).bind (·.dst) = some t) (hlt : decide (t < N) = true) (hal : alive l.toArray rels i = true := by kernel_rfl) :
    ∃ p, Sl a t (.pointer (some ⟨p, 0, none⟩)) ∧ Iter s pos p w ∧ W.heap.size ≤ p := by
  have h := hh i (of_decide_eq_true hi) hal
  unfold Holds at h
  rw [hr] at h
  have e : valOf l.toArray a i = a.eval (.tmp t) := by simp only [valOf, hd]; rfl
  obtain ⟨p, h1, h2, h3⟩ : (rIt j s pos).p (valOf l.toArray a i) γ w := h
  rw [e] at h1
  refine ⟨p, by rw [← h1]; exact Sl.of hz hlt, h3, ?_⟩
  rcases Nat.lt_or_ge p W.heap.size with hp | hp
  · have h4 := hc.2 p hp
    rw [h2] at h4
    have hj := of_decide_eq_true hj
    have key : ∀ (M : List Nat) (k : Nat), tagOf M k p = 0 ∨ k ≤ tagOf M k p := by
      intro M
      induction M with
      | nil => exact fun _ => .inl rfl
      | cons m M ih =>
        intro k
        unfold tagOf
        split
        · exact .inr (Nat.le_refl _)
        · rcases ih (k + 1) with h | h
          · exact .inl h
          · exact .inr (by omega)
    rcases key M 1000 with h | h <;> omega
  · exact hp
end

end Go.Proofs.YtfgnleoaibcegaaGreat.Rg

namespace Go.Proofs.YtfgnleoaibcegaaGreat.Rg

open Go.RowKit

def signJ (L : List Nat) (j : Nat) : Nat := if j < L.length ∧ (L.getD j 0 = 43 ∨ L.getD j 0 = 45) then j + 1 else j
def signZ (L : List Nat) (j : Nat) : Int := if j < L.length ∧ L.getD j 0 = 45 then -1 else 1
structure ExpOk (L : List Nat) (i : Nat) : Prop where
  e : L.getD i 0 = 101
  lo : 1 ≤ runL L (signJ L (i + 1))
  hi : runL L (signJ L (i + 1)) ≤ 3
  en : L.length ≤ signJ L (i + 1) + runL L (signJ L (i + 1))
instance (L : List Nat) (i : Nat) : Decidable (ExpOk L i) :=
  decidable_of_iff (L.getD i 0 = 101 ∧ 1 ≤ runL L (signJ L (i + 1)) ∧ runL L (signJ L (i + 1)) ≤ 3 ∧ L.length ≤ signJ L (i + 1) + runL L (signJ L (i + 1)))
    ⟨fun h => ⟨h.1, h.2.1, h.2.2.1, h.2.2.2⟩, fun h => ⟨h.e, h.lo, h.hi, h.en⟩⟩
def expV (L : List Nat) (i : Nat) : Int := ((readD (L.drop (signJ L (i + 1))) : Nat) : Int) * signZ L (i + 1)
structure Cut where
  whole : Nat
  part : Nat
  over : Nat
  up : Int
  ok : Bool
def noCut : Cut := ⟨0, 0, 0, 0, false⟩
def pwL (L : List Nat) (w p i : Nat) : Cut := if ExpOk L i then ⟨w, p, 0, expV L i, true⟩ else noCut
def cutL (L : List Nat) : Cut :=
  if runL L 0 = 0 then ⟨0, 0, 0, 0, false⟩
  else if runL L 0 = L.length then ⟨runL L 0, 0, 0, 0, true⟩
  else if L.getD (runL L 0) 0 = 47 then
    if runL L (runL L 0 + 1) = 0 ∨ runL L 0 + 1 + runL L (runL L 0 + 1) < L.length then noCut else ⟨runL L 0, 0, runL L (runL L 0 + 1), 0, true⟩
  else if L.getD (runL L 0) 0 = 46 then
    if runL L (runL L 0 + 1) = 0 then ⟨runL L 0, 0, 0, 0, false⟩
    else if runL L 0 + 1 + runL L (runL L 0 + 1) = L.length then ⟨runL L 0, runL L (runL L 0 + 1), 0, 0, true⟩
    else pwL L (runL L 0) (runL L (runL L 0 + 1)) (runL L 0 + 1 + runL L (runL L 0 + 1))
  else pwL L (runL L 0) 0 (runL L 0)
def CutV (L : List Nat) (c : Cut) : Prop := cutL L = c
section

variable {L : List Nat}
theorem run_le (i : Nat) (h : i ≤ L.length) : i + runL L i ≤ L.length := by
  unfold runL
  have h1 := (List.takeWhile_prefix (p := dg) (l := L.drop i)).length_le
  rw [List.length_drop] at h1
  omega
theorem signJ_le {j : Nat} (h : j ≤ L.length) : signJ L j ≤ L.length := by unfold signJ; split <;> omega
theorem run_dig (i : Nat) : ∀ d ∈ (L.drop i).take (runL L i), 48 ≤ d ∧ d ≤ 57 := by
  intro d hd
  unfold runL at hd
  rw [List.takeWhile_eq_take_findIdx_not, List.length_take] at hd
  have : d ∈ (L.drop i).takeWhile dg := by
    rw [List.takeWhile_eq_take_findIdx_not]
    rw [List.mem_take_iff_getElem] at hd ⊢
    obtain ⟨k, hk, e⟩ := hd
    exact ⟨k, by omega, e⟩
  have := List.all_takeWhile (p := dg) (l := L.drop i)
  have h2 := List.all_eq_true.1 this d ‹_›
  unfold dg at h2
  simpa using h2
theorem cut_0 (h : runL L 0 = 0) : CutV L ⟨runL L 0, 0, 0, 0, false⟩ := by unfold CutV cutL; rw [if_pos h, h]
theorem cut_all (h : ¬ runL L 0 = 0) (h1 : runL L 0 = L.length) : CutV L ⟨runL L 0, 0, 0, 0, true⟩ := by unfold CutV cutL; rw [if_neg h, if_pos h1]
theorem cut_over0 (h : ¬ runL L 0 = 0) (h1 : ¬ runL L 0 = L.length) (h2 : L.getD (runL L 0) 0 = 47) (h3 : runL L (runL L 0 + 1) = 0) : CutV L noCut := by
  unfold CutV cutL; rw [if_neg h, if_neg h1, if_pos h2, if_pos (Or.inl h3)]
theorem cut_over1 (h : ¬ runL L 0 = 0) (h1 : ¬ runL L 0 = L.length) (h2 : L.getD (runL L 0) 0 = 47) (h3 : runL L 0 + 1 + runL L (runL L 0 + 1) < L.length) : CutV L noCut := by
  unfold CutV cutL; rw [if_neg h, if_neg h1, if_pos h2, if_pos (Or.inr h3)]
theorem cut_over (h : ¬ runL L 0 = 0) (h1 : ¬ runL L 0 = L.length) (h2 : L.getD (runL L 0) 0 = 47) (h3 : ¬ runL L (runL L 0 + 1) = 0) (h4 : ¬ runL L 0 + 1 + runL L (runL L 0 + 1) < L.length) : CutV L ⟨runL L 0, 0, runL L (runL L 0 + 1), 0, true⟩ := by
  unfold CutV cutL; rw [if_neg h, if_neg h1, if_pos h2, if_neg (by omega)]
theorem cut_part0 (h : ¬ runL L 0 = 0) (h1 : ¬ runL L 0 = L.length) (h2 : ¬ L.getD (runL L 0) 0 = 47) (h5 : ¬ L.getD (runL L 0) 0 ≠ 46) (h3 : runL L (runL L 0 + 1) = 0) : CutV L ⟨runL L 0, runL L (runL L 0 + 1), 0, 0, false⟩ := by
  unfold CutV cutL; rw [if_neg h, if_neg h1, if_neg h2, if_pos (Decidable.not_not.1 h5), if_pos h3, h3]
theorem cut_part1 (h : ¬ runL L 0 = 0) (h1 : ¬ runL L 0 = L.length) (h2 : ¬ L.getD (runL L 0) 0 = 47) (h5 : ¬ L.getD (runL L 0) 0 ≠ 46) (h3 : ¬ runL L (runL L 0 + 1) = 0) (h4 : runL L 0 + (1 + runL L (runL L 0 + 1)) = L.length) : CutV L ⟨runL L 0, runL L (runL L 0 + 1), 0, 0, true⟩ := by
  unfold CutV cutL; rw [if_neg h, if_neg h1, if_neg h2, if_pos (Decidable.not_not.1 h5), if_neg h3, if_pos (by omega)]
theorem cut_pw1 (h : ¬ runL L 0 = 0) (h1 : ¬ runL L 0 = L.length) (h2 : ¬ L.getD (runL L 0) 0 = 47) (h5 : ¬ L.getD (runL L 0) 0 ≠ 46) (h3 : ¬ runL L (runL L 0 + 1) = 0) (h4 : ¬ runL L 0 + (1 + runL L (runL L 0 + 1)) = L.length) : CutV L (pwL L (runL L 0) (runL L (runL L 0 + 1)) (runL L 0 + (1 + runL L (runL L 0 + 1)))) := by
  unfold CutV cutL; rw [if_neg h, if_neg h1, if_neg h2, if_pos (Decidable.not_not.1 h5), if_neg h3, if_neg (by omega), Nat.add_assoc]
theorem cut_pw0 (h : ¬ runL L 0 = 0) (h1 : ¬ runL L 0 = L.length) (h2 : ¬ L.getD (runL L 0) 0 = 47) (h5 : L.getD (runL L 0) 0 ≠ 46) : CutV L (pwL L (runL L 0) 0 (runL L 0)) := by
  unfold CutV cutL; rw [if_neg h, if_neg h1, if_neg h2, if_neg h5]
variable {w p i j n : Nat} {z : Int}
theorem pw_not (hp : CutV L (pwL L w p i)) (h : ¬ ExpOk L i) : CutV L noCut := by
  unfold pwL at hp; rw [if_neg h] at hp; exact hp
theorem pw_yes (hp : CutV L (pwL L w p i)) (h : ExpOk L i) : CutV L ⟨w, p, 0, expV L i, true⟩ := by
  unfold pwL at hp; rw [if_pos h] at hp; exact hp
theorem pw_e (h : L.getD i 0 ≠ 101) : ¬ ExpOk L i := fun c => h c.e
theorem pw_lo (hj : j = signJ L (i + 1)) (h : runL L j < 1) : ¬ ExpOk L i := fun c => by have := c.lo; rw [← hj] at this; omega
theorem pw_hi (hj : j = signJ L (i + 1)) (h : 3 < runL L j) : ¬ ExpOk L i := fun c => by have := c.hi; rw [← hj] at this; omega
theorem pw_en (hj : j = signJ L (i + 1)) (h : j + runL L j < L.length) : ¬ ExpOk L i := fun c => by have := c.en; rw [← hj] at this; omega
theorem pw_ok (he : ¬ L.getD i 0 ≠ 101) (hj : j = signJ L (i + 1)) (h1 : ¬ runL L j < 1) (h2 : ¬ 3 < runL L j) (h3 : ¬ j + runL L j < L.length) : ExpOk L i := by
  subst hj; exact ⟨Decidable.not_not.1 he, by omega, by omega, by omega⟩
theorem sign_0 (h : ¬ j < L.length) : j = signJ L j ∧ (1 : Int) = signZ L j := by
  unfold signJ signZ; rw [if_neg (fun c => h c.1), if_neg (fun c => h c.1)]; exact ⟨rfl, rfl⟩
theorem sign_p (h : j < L.length) (h1 : L.getD j 0 = 43) (h2 : ¬ L.getD j 0 = 45) : j + 1 = signJ L j ∧ (1 : Int) = signZ L j := by
  unfold signJ signZ; rw [if_pos ⟨h, Or.inl h1⟩, if_neg (fun c => h2 c.2)]; exact ⟨rfl, rfl⟩
theorem sign_m (h : j < L.length) (h2 : L.getD j 0 = 45) : j + 1 = signJ L j ∧ (-1 : Int) = signZ L j := by
  unfold signJ signZ; rw [if_pos ⟨h, Or.inr h2⟩, if_pos ⟨h, h2⟩]; exact ⟨rfl, rfl⟩
theorem sign_no (h : j < L.length) (h1 : ¬ L.getD j 0 = 43) (h2 : ¬ L.getD j 0 = 45) : j = signJ L j ∧ (1 : Int) = signZ L j := by
  unfold signJ signZ; rw [if_neg (fun c => c.2.elim h1 h2), if_neg (fun c => h2 c.2)]; exact ⟨rfl, rfl⟩
theorem signZ_abs : signZ L j = 1 ∨ signZ L j = -1 := by unfold signZ; split <;> simp
theorem readD_le {X : List Nat} (h : ∀ d ∈ X, 48 ≤ d ∧ d ≤ 57) (hl : X.length ≤ 3) : readD X ≤ 999 := by
  have h1 := readD_lt X fun d hd => (h d hd).2
  have h2 : 10 ^ X.length ≤ 10 ^ 3 := Nat.pow_le_pow_right (by decide) hl
  omega
theorem readD_take {X : List Nat} {c : Nat} (h : c < X.length) : readD (X.take (c + 1)) = 10 * readD (X.take c) + (X.getD c 0 - 48) := by
  rw [List.take_add_one, List.getD_eq_getElem?_getD, List.getElem?_eq_getElem h]
  exact readD_snoc _ _
theorem mem_take_le {X : List Nat} (h : ∀ d ∈ X, 48 ≤ d ∧ d ≤ 57) (c : Nat) : ∀ d ∈ X.take c, 48 ≤ d ∧ d ≤ 57 := fun d hd => h d (List.mem_of_mem_take hd)
theorem getD_dig {X : List Nat} (h : ∀ d ∈ X, 48 ≤ d ∧ d ≤ 57) {c : Nat} (hc : c < X.length) : 48 ≤ X.getD c 0 ∧ X.getD c 0 ≤ 57 := by
  rw [List.getD_eq_getElem?_getD, List.getElem?_eq_getElem hc]
  exact h _ (List.getElem_mem hc)
theorem tail_dig (h : ¬ j + runL L j < L.length) (hj : j ≤ L.length) : (L.drop j).length = runL L j ∧ ∀ d ∈ L.drop j, 48 ≤ d ∧ d ≤ 57 := by
  have h1 := run_le j hj
  have e : (L.drop j).length = runL L j := by rw [List.length_drop]; omega
  refine ⟨e, fun d hd => run_dig (L := L) j d ?_⟩
  rw [List.take_of_length_le (by omega)]; exact hd
theorem strB_at {X : List Nat} (hX : ∀ d ∈ X, 48 ≤ d ∧ d ≤ 57) {c : Nat} (hc : c < X.length) (hp : c < (strB X).size) : ((strB X)[c]'hp).toNat = X.getD c 0 := by
  have h1 : (strB X).data.toList[c]? = some (UInt8.ofNat (X.getD c 0)) := by
    rw [strB_data, List.getElem?_map, List.getElem?_eq_getElem hc, List.getD_eq_getElem?_getD, List.getElem?_eq_getElem hc]; rfl
  have h2 : (strB X)[c]'hp = UInt8.ofNat (X.getD c 0) := by
    rw [Array.getElem?_toList] at h1
    obtain ⟨h3, h4⟩ := Array.getElem?_eq_some_iff.1 h1
    exact h4
  rw [h2, UInt8.toNat_ofNat']
  have := getD_dig hX hc
  omega
end

end Go.Proofs.YtfgnleoaibcegaaGreat.Rg
