/-
  Walks and plain laws, put together: OA OB OC VA VB VC VD.
-/
import Derived.Test.YtfgnleoaibcegaaGreatQf
import Derived.Test.YtfgnleoaibcegaaGreatXA5
set_option linter.unusedVariables false
set_option linter.unusedSimpArgs false
namespace Go.Proofs.YtfgnleoaibcegaaGreat.Rg

open Go.RowKit
theorem AllT.set : ∀ {Ts : List Ty} {vs : List Value} {w : World} (i : Nat) {T : Ty} {v : Value}, AllT Ts vs w → T.p v w → AllT (Ts.set i T) (vs.set i v) w
  | [], [], _, _, _, _, h, _ => h
  | _ :: _, _ :: _, _, 0, _, _, h, hv => ⟨hv, h.2⟩
  | _ :: _, _ :: _, _, i + 1, _, _, h, hv => ⟨h.1, AllT.set i h.2 hv⟩
  | [], _ :: _, _, _, _, _, h, _ => h.elim
  | _ :: _, [], _, _, _, _, h, _ => h.elim
section

variable {P : Program} {ops : Array Oper} {Q : Exit → Act → World → Prop} {a0 : Act} {M : List Nat} {W : World} {rels : List Rel} {i : Nat} {o : Oper} {T T' : Ty} {N d : Nat} {x y c c2 : Operand}
structure ButB (p : Nat) (w w' : World) : Prop where
  os : w'.os = w.os
  tape : w'.tape = w.tape
  output : w'.output = w.output
  size : w.heap.size ≤ w'.heap.size
  block : ∀ b, b < w.heap.size → b ≠ p → w'.heap[b]? = w.heap[b]?
theorem ButB.refl (p : Nat) (w : World) : ButB p w w := ⟨rfl, rfl, rfl, Nat.le_refl _, fun _ _ _ => rfl⟩
theorem ButB.of (p : Nat) {w w' : World} (h : Below w.heap.size w w') : ButB p w w' := ⟨h.os, h.tape, h.output, h.size, fun b hb _ => h.block b hb⟩
theorem ButB.trans {p : Nat} {w w' w'' : World} (h : ButB p w w') (g : ButB p w' w'') : ButB p w w'' :=
  ⟨g.os.trans h.os, g.tape.trans h.tape, g.output.trans h.output, Nat.le_trans h.size g.size, fun b hb hp => (g.block b (Nat.lt_of_lt_of_le hb h.size) hp).trans (h.block b hb hp)⟩
theorem ButB.aft {p : Nat} {M : List Nat} {w W w' : World} {γ : Nat → Nat} (h : ButB p w W) (hc : RelC M W γ w') (hM : ∀ m ∈ M, w.heap.size ≤ m ∨ m = p) : ButB p w w' := by
  refine ⟨hc.1.os.trans h.os, hc.1.tape.trans h.tape, hc.1.output.trans h.output, Nat.le_trans h.size hc.1.size, fun b hb hp => (hc.1.block b (Nat.lt_of_lt_of_le hb h.size) (.inr ?_)).trans (h.block b hb hp)⟩
  have key : ∀ (M : List Nat) (k : Nat), (∀ m ∈ M, w.heap.size ≤ m ∨ m = p) → tagOf M k b = 0 := by
    intro M
    induction M with
    | nil => intro k _; rfl
    | cons m M ih =>
      intro k hm
      unfold tagOf
      have := hm m List.mem_cons_self
      rw [if_neg (by omega)]
      exact ih _ fun x hx => hm x (List.mem_cons_of_mem _ hx)
  unfold mt
  rw [if_pos (key M 1000 hM)]; omega
end
end Go.Proofs.YtfgnleoaibcegaaGreat.Rg

namespace Go.Proofs.YtfgnleoaibcegaaGreat.Rg

open Go.RowKit
section

variable {B l m : Nat} {a : Rat} {v : Value} {w : World}
end

end Go.Proofs.YtfgnleoaibcegaaGreat.Rg

namespace Go.Proofs.YtfgnleoaibcegaaGreat.Rg

open Go.RowKit

def ex (u : Nat) : Nat := u / 4503599627370496 % 2048
def ma (u : Nat) : Nat := u % 4503599627370496
theorem ex_lt (u : Nat) : ex u < 2048 := Nat.mod_lt _ (by decide)
theorem ma_lt (u : Nat) : ma u < 4503599627370496 := Nat.mod_lt _ (by decide)
def FOk (u : Nat) : Prop := ¬ ((ex u : Nat) : Int) = 2047 ∧ ¬ 9223372036854775808 < u
instance (u : Nat) : Decidable (FOk u) := inferInstanceAs (Decidable (_ ∧ _))
def fl (u : Nat) : Rat := if ((ex u : Nat) : Int) = 0 then mkRat (ma u) (2 ^ 1074) else if ((ex u : Nat) : Int) < 1075 then mkRat ((ma u + 4503599627370496 : Nat) : Int) (2 ^ (1075 - ex u)) else mkRat (((ma u + 4503599627370496) * 2 ^ (ex u - 1075) : Nat) : Int) 1
def flQ (u : Nat) : Rat := if FOk u then fl u else 0
section

variable {P : Program} {ops : Array Oper} {Q : Exit → Act → World → Prop} {a0 : Act} {M : List Nat} {W : World} {rels : List Rel} {i : Nat} {o : Oper} {N d : Nat} {x : Operand}
theorem zX {f : FuncId} {ts : Array TypeId} {u z : Value} (hz : a0.tmps.size = N) (hop : o.op = .call { callee := .value (.func f), args := #[x], argTypes := ts }) (s : Src ops a0 M W rels i o x (tV u)) (h : ∀ w, (callFunc f #[u]).run P w = .ok (.value z) w) (g : Gd ops a0 M W rels i o true := by exact Gd.none_ rfl)
    (ho : ops[i]? = some o := by rfl) (hr : rels[i]? = some (rT (tV z)) := by rfl) (hd : o.dst = some d := by rfl) (hlt : decide (d < N) = true := by rfl) : StepOk P ops a0 M W Q rels i o :=
  sOp ho hr hd hz hlt g fun a γ w U => by
    have e : a.eval x = u := s a γ w U
    refine ⟨z, ?_, rfl⟩
    have ef : a.eval (.func f) = .func (.func f) #[] #[] := rfl
    generalize a.eval = ρ at e ef ⊢
    unfold execOp; rw [hop]; simp [go_sem, resolve, Deferred.ofValue, invoke, e, ef, h]
end
theorem run_fb (u : Nat) (w : World) : (callFunc 57 #[.float .f64 u]).run Tryz.prog w = .ok (.value (.int .u64 (u : Int))) w := by
  rw [run_callFunc_extern Tryz.func57 (by kernel_rfl) (by kernel_rfl) (by kernel_rfl) (e := Extern.MathFloatBits.float64bits) (by kernel_rfl)]
  have h : Extern.MathFloatBits.float64bits #[.float .f64 u] = pure (.int .u64 (u : Int)) := rfl
  simp [go_sem, h]
theorem run_ff (u : Nat) (w : World) : (callFunc 85 #[.int .u64 (u : Int)]).run Tryz.prog w = .ok (.value (.float .f64 u)) w := by
  rw [run_callFunc_extern Tryz.func85 (by kernel_rfl) (by kernel_rfl) (by kernel_rfl) (e := Extern.MathFloatBits.float64frombits) (by kernel_rfl)]
  have h : Extern.MathFloatBits.float64frombits #[.int .u64 (u : Int)] = pure (.float .f64 u) := rfl
  simp [go_sem, h]
theorem and_u64 (u k : Nat) (hk : k ≤ 63) (hu : u < 18446744073709551616) : bits .and .u64 (u : Int) ((2 ^ k - 1 : Nat) : Int) = ((u % 2 ^ k : Nat) : Int) := by
  have hp : 2 ^ k ≤ 2 ^ 63 := Nat.pow_le_pow_right (by omega) hk
  have hp2 : (2 : Nat) ^ 63 = 9223372036854775808 := rfl
  have hp0 : 0 < 2 ^ k := Nat.two_pow_pos k
  have h1 : (BitVec.ofInt 64 (u : Int)).toNat = u := by rw [BitVec.ofInt_natCast, BitVec.toNat_ofNat]; exact Nat.mod_eq_of_lt hu
  have h2 : (BitVec.ofInt 64 ((2 ^ k - 1 : Nat) : Int)).toNat = 2 ^ k - 1 := by
    rw [BitVec.ofInt_natCast, BitVec.toNat_ofNat]; exact Nat.mod_eq_of_lt (by omega)
  show IntKind.u64.wrap ((BitVec.ofInt 64 (u : Int) &&& BitVec.ofInt 64 ((2 ^ k - 1 : Nat) : Int)).toNat : Int) = _
  rw [BitVec.toNat_and, h1, h2, Nat.and_two_pow_sub_one_eq_mod, IntKind.wrap_u64]
  have := Nat.mod_lt u hp0
  omega
theorem or_top (m : Nat) (hm : m < 4503599627370496) : bits .or .u64 (m : Int) 4503599627370496 = ((m + 4503599627370496 : Nat) : Int) := by
  have h1 : (BitVec.ofInt 64 (m : Int)).toNat = m := by rw [BitVec.ofInt_natCast, BitVec.toNat_ofNat]; exact Nat.mod_eq_of_lt (by omega)
  have h2 : (BitVec.ofInt 64 4503599627370496).toNat = 4503599627370496 := by decide
  show IntKind.u64.wrap ((BitVec.ofInt 64 (m : Int) ||| BitVec.ofInt 64 4503599627370496).toNat : Int) = _
  have h3 : m ||| 4503599627370496 = m + 4503599627370496 := by
    have := Nat.two_pow_add_eq_or_of_lt (i := 52) (b := m) (by simpa using hm) 1
    rw [Nat.or_comm, Nat.add_comm]; simpa using this.symm
  rw [BitVec.toNat_or, h1, h2, h3, IntKind.wrap_u64]
  omega
theorem signed_pos (m k : Nat) : compare (Ieee.signed false m k) 0 ≠ .lt := by
  have : (0 : Int) ≤ Ieee.signed false m k := Int.natCast_nonneg _
  intro h
  rw [Int.compare_eq_lt] at h; omega
theorem signed_neg {m : Nat} (hm : 0 < m) (k : Nat) : compare (Ieee.signed true m k) 0 = .lt := by
  have h0 : 0 < m <<< k := by rw [Nat.shiftLeft_eq]; exact Nat.mul_pos hm (Nat.two_pow_pos k)
  rw [Int.compare_eq_lt]
  show -((m <<< k : Nat) : Int) < 0
  have : (0 : Int) < ((m <<< k : Nat) : Int) := by exact_mod_cast h0
  omega
theorem ff_ord {u : Nat} (hu : u < 18446744073709551616) (h : ¬ ((ex u : Nat) : Int) = 2047) : (Ieee.double.order u 0 == some .lt) = decide (9223372036854775808 < u) := by
  have hr : ∃ m p, Ieee.double.read u = .number (u / 9223372036854775808 % 2 == 1) m p ∧ (m = 0 ↔ u % 9223372036854775808 = 0) := by
    have hx : u % 9223372036854775808 < 9218868437227405312 := by unfold ex at h; omega
    unfold Ieee.Format.read
    have e1 : Ieee.double.signWeight = 9223372036854775808 := rfl
    have e2 : Ieee.double.binade = 4503599627370496 := rfl
    have e3 : Ieee.double.infRung = 9218868437227405312 := rfl
    rw [e1, e2, e3]
    simp only
    by_cases h1 : u % 9223372036854775808 < 4503599627370496
    · rw [if_pos h1]; exact ⟨_, _, rfl, Iff.rfl⟩
    · rw [if_neg h1, if_pos hx]; exact ⟨_, _, rfl, by constructor <;> intro h <;> omega⟩
  obtain ⟨m, p, hr, hm⟩ := hr
  have h0 : Ieee.double.read 0 = .number false 0 Ieee.double.leastPlace := rfl
  unfold Ieee.Format.order
  rw [hr, h0]
  simp only [Ieee.Datum.order]
  have e0 : ∀ k, Ieee.signed false 0 k = 0 := fun k => by simp [Ieee.signed]
  rw [e0]
  by_cases hu2 : 9223372036854775808 < u
  · have hn : (u / 9223372036854775808 % 2 == 1) = true := by simp; omega
    rw [hn, signed_neg (by omega), decide_eq_true hu2]; rfl
  · rw [decide_eq_false hu2]
    by_cases hn : u / 9223372036854775808 % 2 = 1
    · have : m = 0 := by omega
      subst this
      have e : ∀ k, Ieee.signed (u / 9223372036854775808 % 2 == 1) 0 k = 0 := fun k => by simp [Ieee.signed]
      rw [e]; rfl
    · have e : (u / 9223372036854775808 % 2 == 1) = false := by simpa using hn
      rw [e]
      have := signed_pos m (p - min p Ieee.double.leastPlace).toNat
      cases hc : compare (Ieee.signed false m (p - min p Ieee.double.leastPlace).toNat) 0 with
      | lt => exact absurd hc this
      | eq => rfl
      | gt => rfl
section

variable {u : Nat} {ox oy : Operand} {id : TypeId}
theorem f_shr (w : World) : (do eqGuard .shr id ox oy (.int .u64 (u : Int)) (.int .u64 52); binOp .shr id (.int .u64 (u : Int)) (.int .u64 52) : Sem Value).run Tryz.prog w = .ok (.int .u64 ((u / 4503599627370496 : Nat) : Int)) w := by
  simp [go_sem]
theorem f_ex (hu : u < 18446744073709551616) (w : World) : (do eqGuard .and id ox oy (.int .u64 ((u / 4503599627370496 : Nat) : Int)) (.int .u64 2047); binOp .and id (.int .u64 ((u / 4503599627370496 : Nat) : Int)) (.int .u64 2047) : Sem Value).run Tryz.prog w = .ok (.int .u64 ((ex u : Nat) : Int)) w := by
  have := and_u64 (u / 4503599627370496) 11 (by omega) (by omega)
  have e : (((2 ^ 11 - 1 : Nat)) : Int) = 2047 := rfl
  rw [e] at this
  have e2 : u / 4503599627370496 % 2 ^ 11 = ex u := rfl
  rw [e2] at this
  rw [← this]
  simp only [eqGuard]; simp [go_sem]
theorem f_ma (hu : u < 18446744073709551616) (w : World) : (do eqGuard .and id ox oy (.int .u64 (u : Int)) (.int .u64 4503599627370495); binOp .and id (.int .u64 (u : Int)) (.int .u64 4503599627370495) : Sem Value).run Tryz.prog w = .ok (.int .u64 ((ma u : Nat) : Int)) w := by
  have := and_u64 u 52 (by omega) hu
  have e : (((2 ^ 52 - 1 : Nat)) : Int) = 4503599627370495 := rfl
  rw [e] at this
  have e2 : u % 2 ^ 52 = ma u := rfl
  rw [e2] at this
  rw [← this]
  simp [go_sem]
theorem f_or (w : World) : (do eqGuard .or id ox oy (.int .u64 ((ma u : Nat) : Int)) (.int .u64 4503599627370496); binOp .or id (.int .u64 ((ma u : Nat) : Int)) (.int .u64 4503599627370496) : Sem Value).run Tryz.prog w = .ok (.int .u64 ((ma u + 4503599627370496 : Nat) : Int)) w := by
  rw [← or_top (ma u) (ma_lt u)]
  simp [go_sem]
theorem f_lss (hu : u < 18446744073709551616) (h : ¬ ((ex u : Nat) : Int) = 2047) (w : World) : (do eqGuard .lss id ox oy (.float .f64 u) (.float .f64 0); binOp .lss id (.float .f64 u) (.float .f64 0) : Sem Value).run Tryz.prog w = .ok (.bool (decide (9223372036854775808 < u))) w := by
  have hs : (FloatKind.f64.format.order u 0 == some .lt) = decide (9223372036854775808 < u) := by
    exact ff_ord hu h
  rw [← hs]
  simp [go_sem]
end
def Ind (D : Nat) (x : Rat) : Prop := ∃ m : Int, x * (D : Rat) = (m : Rat)
section

variable {D : Nat} {x y : Rat}
theorem rat_den_mul (x : Rat) : x * (x.den : Rat) = (x.num : Rat) := by
  have h := Rat.num_divInt_den x
  have hd : ((x.den : Nat) : Rat) ≠ 0 := by
    have := x.den_nz
    intro e; exact this (Rat.natCast_eq_zero_iff.1 e)
  have h1 : x = (x.num : Rat) / ((x.den : Nat) : Rat) := by rw [Rat.divInt_eq_div] at h; exact h.symm
  have h2 := congrArg (fun y => y * ((x.den : Nat) : Rat)) h1
  rw [h2, Rat.div_mul_cancel hd]
theorem ind_add (hx : Ind D x) (hy : Ind D y) : Ind D (x + y) := by
  obtain ⟨m, hm⟩ := hx; obtain ⟨n, hn⟩ := hy
  exact ⟨m + n, by rw [Rat.intCast_add, ← hm, ← hn, Rat.add_mul]⟩
theorem ind_int (n : Int) : Ind D (n : Rat) := ⟨n * D, by rw [Rat.intCast_mul]; rfl⟩
theorem ind_nat (n : Nat) : Ind D (n : Rat) := ind_int (n : Int)
theorem ind_rate (r : Rat) (n : Int) : Ind r.den (r * n) := ⟨r.num * n, by rw [Rat.intCast_mul, ← rat_den_mul r]; grind⟩
theorem ind_den (h : Ind D x) : x.den ∣ D := by
  obtain ⟨m, hm⟩ := h
  have h1 : (x.num : Rat) * (D : Rat) = (m : Rat) * (x.den : Rat) := by rw [← rat_den_mul x, ← hm]; grind
  have h2 : x.num * (D : Int) = m * (x.den : Int) := by
    have : ((x.num * (D : Int) : Int) : Rat) = ((m * (x.den : Int) : Int) : Rat) := by rw [Rat.intCast_mul, Rat.intCast_mul]; exact h1
    exact Rat.intCast_inj.1 this
  have h3 : x.den ∣ x.num.natAbs * D := by
    have := congrArg Int.natAbs h2
    rw [Int.natAbs_mul, Int.natAbs_mul, Int.natAbs_natCast, Int.natAbs_natCast] at this
    rw [this]; exact Nat.dvd_mul_left _ _
  exact Nat.Coprime.dvd_of_dvd_mul_left (Nat.Coprime.symm x.reduced) h3
theorem ind_bits {k d : Nat} (hD0 : 0 < D) (hD : D < 2 ^ d) (hx : x ≤ ((2 ^ k : Nat) : Rat)) (h : Ind D x) : x.num.toNat < 2 ^ (k + d) ∧ x.den < 2 ^ d := by
  have h1 := Nat.le_of_dvd hD0 (ind_den h)
  refine ⟨?_, by omega⟩
  have h2 : (x.num : Rat) ≤ ((2 ^ k * x.den : Nat) : Rat) := by
    rw [← rat_den_mul x, Rat.natCast_mul]
    exact Rat.mul_le_mul_of_nonneg_right hx Rat.natCast_nonneg
  have h3 : x.num ≤ ((2 ^ k * x.den : Nat) : Int) := Rat.intCast_le_intCast.1 h2
  have h4 : 2 ^ k * x.den < 2 ^ (k + d) := by rw [Nat.pow_add]; exact Nat.mul_lt_mul_of_pos_left (by omega) (Nat.two_pow_pos k)
  omega
end
def mnT (n : Int) : Int := if 4611686018427387904 < n then 4611686018427387904 else n
theorem mnT_le (n : Int) : mnT n ≤ 4611686018427387904 := by unfold mnT; split <;> omega
def TT (t t' : Int) : Int := if mnT t' > t then mnT t' else t
def minQ (x y : Rat) : Rat := if y < x then y else x
def atH (t : Int) (h b r : Rat) (t' : Int) : Rat := minQ (h + r * ((TT t t' - t : Int) : Rat)) b
structure BInv (l : Nat) (t : Int) (h b r : Rat) : Prop where
  t0 : 0 ≤ t
  t1 : t ≤ 4611686018427387904
  h0 : 0 ≤ h
  hb : h ≤ b
  ind : Ind r.den h
  bn : ∃ n : Nat, b = (n : Rat) ∧ n ≤ 1099511627776
  r0 : 0 ≤ r
  rd : r.den < 2 ^ l
section

variable {l : Nat} {t t' : Int} {h b r : Rat}
theorem TT_le (t t' : Int) : t ≤ TT t t' := by unfold TT; split <;> omega
theorem TT_hi (h : t ≤ 4611686018427387904) : TT t t' ≤ 4611686018427387904 := by
  have := mnT_le t'
  unfold TT; split <;> omega
theorem minQ_le_r (x y : Rat) : minQ x y ≤ y := by unfold minQ; split <;> grind
theorem cast_nonneg {n : Int} (hn : 0 ≤ n) : (0 : Rat) ≤ (n : Rat) := by
  have := Rat.intCast_le_intCast.2 hn; simpa using this
theorem BInv.at_ (I : BInv l t h b r) (t' : Int) : BInv l (TT t t') (atH t h b r t') b r := by
  have h1 := TT_le t t'
  have h2 := cast_nonneg (show 0 ≤ TT t t' - t by omega)
  have h3 := Rat.mul_nonneg I.r0 h2
  refine ⟨by have := I.t0; omega, TT_hi I.t1, ?_, minQ_le_r _ _, ?_, I.bn, I.r0, I.rd⟩
  · unfold atH minQ; split
    · exact Rat.le_trans I.h0 I.hb
    · have := I.h0; grind
  · unfold atH minQ; split
    · obtain ⟨n, hn, _⟩ := I.bn; rw [hn]; exact ind_nat n
    · exact ind_add I.ind (ind_rate r _)
theorem BInv.bits (I : BInv l t h b r) : h.num.toNat < 2 ^ (l + 41) ∧ h.den < 2 ^ (l + 41) := by
  obtain ⟨n, hn, hn2⟩ := I.bn
  have hb : h ≤ ((2 ^ 40 : Nat) : Rat) := by
    refine Rat.le_trans I.hb ?_
    rw [hn]; exact Rat.natCast_le_natCast.2 hn2
  obtain ⟨h1, h2⟩ := ind_bits r.den_pos I.rd hb I.ind
  have e : 2 ^ l ≤ 2 ^ (l + 41) := Nat.pow_le_pow_right (by omega) (by omega)
  have e2 : 2 ^ (40 + l) ≤ 2 ^ (l + 41) := Nat.pow_le_pow_right (by omega) (by omega)
  exact ⟨by omega, by omega⟩
end
theorem pow_fit {n : Nat} (hn : n ≤ 2048) : ∀ v w, (tN B64 (1 + 16777216) (leftV 1 (n : Int))).p v w → (tN B64 33 (2 ^ n)).p v w := by
  rintro v w ⟨A, m, c, e, hd, hm⟩
  have h1 : leftV 1 (n : Int) = 2 ^ n := by
    unfold leftV
    rw [if_neg (by omega)]
    have : leftOk 1 (n : Int) = true := by unfold leftOk; simp; omega
    rw [if_pos this]; simp
  rw [h1] at hd
  refine ⟨A, m, c, e, hd, hd.le (by decide) ?_⟩
  have hb : B64 = 2 ^ 64 := rfl
  rw [hb, ← Nat.pow_mul]
  generalize hk : 64 * 33 = k
  exact Nat.pow_lt_pow_right (by decide) (by omega)
theorem f_sub1 {u : Nat} {ox oy : Operand} {id : TypeId} (h : ((ex u : Nat) : Int) < 1075) (w : World) : (do eqGuard .sub id ox oy (.int .i64 1075) (.int .i64 ((ex u : Nat) : Int)); binOp .sub id (.int .i64 1075) (.int .i64 ((ex u : Nat) : Int)) : Sem Value).run Tryz.prog w = .ok (.int .i64 ((1075 - ex u : Nat) : Int)) w := by
  have : IntKind.i64.wrap (1075 - ((ex u : Nat) : Int)) = ((1075 - ex u : Nat) : Int) := by rw [IntKind.wrap_i64]; omega
  simp [go_sem, this]
theorem f_sub2 {u : Nat} {ox oy : Operand} {id : TypeId} (h : ¬ ((ex u : Nat) : Int) < 1075) (w : World) : (do eqGuard .sub id ox oy (.int .i64 ((ex u : Nat) : Int)) (.int .i64 1075); binOp .sub id (.int .i64 ((ex u : Nat) : Int)) (.int .i64 1075) : Sem Value).run Tryz.prog w = .ok (.int .i64 ((ex u - 1075 : Nat) : Int)) w := by
  have hl := ex_lt u
  have : IntKind.i64.wrap (((ex u : Nat) : Int) - 1075) = ((ex u - 1075 : Nat) : Int) := by rw [IntKind.wrap_i64]; omega
  simp [go_sem, this]
theorem fb_1 {u l : Nat} (h : 60 ≤ l) : ma u < 2 ^ l := Nat.lt_of_lt_of_le (Nat.lt_of_lt_of_le (ma_lt u) (by decide : 4503599627370496 ≤ 2 ^ 60)) (Nat.pow_le_pow_right (by omega) h)
theorem fb_2 {u l : Nat} (h : 60 ≤ l) : ma u + 4503599627370496 < 2 ^ l := Nat.lt_of_lt_of_le (by have := ma_lt u; have : (2 : Nat) ^ 60 = 1152921504606846976 := rfl; omega : ma u + 4503599627370496 < 2 ^ 60) (Nat.pow_le_pow_right (by omega) h)
theorem fb_3 {u l : Nat} (h : 1100 ≤ l) : (ma u + 4503599627370496) * 2 ^ (ex u - 1075) < 2 ^ l := by
  have h1 := bits_mul (fb_2 (u := u) (l := 60) (Nat.le_refl _)) (Nat.pow_lt_pow_right (a := 2) (by decide) (show ex u - 1075 < 1000 by have := ex_lt u; omega))
  exact bits_le h1 (by omega)
theorem fb_p {n l : Nat} (h : n < l) : 2 ^ n < 2 ^ l := Nat.pow_lt_pow_right (by decide) h
theorem fb_one {l : Nat} (h : 1 ≤ l) : 1 < 2 ^ l := Nat.one_lt_two_pow (by omega)

set_option maxRecDepth 10000 in
set_option maxHeartbeats 2000000 in
theorem c_bits {u : Nat} {w : World}   :
    Calls Tryz.prog 10 #[.float .f64 u] w (Ret (tV (.int .u64 (u : Int))) w) := by
 refine enter Tryz.func10 rfl Tryz.ntmps10 (by simp) ?_
 intro a hz hd ha
 have S0 := ha 0 _ rfl
 clear ha
 have HB : Below w.heap.size w w := Below.refl _ _
 refine wp_seq ?_
 refine rt [rV (.int .u64 0)] hz hd ?_ ?_
 refine ⟨?_, trivial⟩
 exact zAs hz kc
 clear hz hd
 intro a' γ' W' hz hd hC hk hh
 replace S0 := kp hk S0
 have S2 := gV hz 0 hh
 replace HB := aB HB hC
 clear hC hk hh
 refine wp_seq ?_
 refine rt [rV (.float .f64 u), rV (.int .u64 (u : Int)), rV (.int .u64 (u : Int))] hz hd ?_ ?_
 refine ⟨?_, ?_, ?_, trivial⟩
 exact zMv hz (sv S0)
 exact zX hz rfl (sd 0 rfl) (fun w => run_fb u w)
 exact zAs hz (sd 1 rfl)
 clear hz hd
 intro a' γ' W' hz hd hC hk hh
 clear S0
 clear S2
 have S2 := gV hz 2 hh
 replace HB := aB HB hC
 clear hC hk hh
 refine wp_ret ?_
 refine ret_to (T := tV (.int .u64 (u : Int))) (ret1 (by kernel_rfl) S2 hd ⟨_, rfl, rfl, HB⟩) ?_
 exact fun _ _ h => h

set_option maxRecDepth 10000 in
set_option maxHeartbeats 2000000 in
theorem c_float {u : Nat} {w : World}   :
    Calls Tryz.prog 32 #[.int .u64 (u : Int)] w (Ret (tV (.float .f64 u)) w) := by
 refine enter Tryz.func32 rfl Tryz.ntmps32 (by simp) ?_
 intro a hz hd ha
 have S0 := ha 0 _ rfl
 clear ha
 have HB : Below w.heap.size w w := Below.refl _ _
 refine wp_seq ?_
 refine rt [rV (.float FloatKind.f64 0)] hz hd ?_ ?_
 refine ⟨?_, trivial⟩
 exact zAs hz kc
 clear hz hd
 intro a' γ' W' hz hd hC hk hh
 replace S0 := kp hk S0
 have S2 := gV hz 0 hh
 replace HB := aB HB hC
 clear hC hk hh
 refine wp_seq ?_
 refine rt [rV (.int .u64 (u : Int)), rV (.float .f64 u), rV (.float .f64 u)] hz hd ?_ ?_
 refine ⟨?_, ?_, ?_, trivial⟩
 exact zMv hz (sv S0)
 exact zX hz rfl (sd 0 rfl) (fun w => run_ff u w)
 exact zAs hz (sd 1 rfl)
 clear hz hd
 intro a' γ' W' hz hd hC hk hh
 clear S0
 clear S2
 have S2 := gV hz 2 hh
 replace HB := aB HB hC
 clear hC hk hh
 refine wp_ret ?_
 refine ret_to (T := tV (.float .f64 u)) (ret1 (by kernel_rfl) S2 hd ⟨_, rfl, rfl, HB⟩) ?_
 exact fun _ _ h => h

set_option maxRecDepth 10000 in
set_option maxHeartbeats 2000000 in
theorem c_num1  {w : World}   :
    Calls Tryz.prog 51 #[] w (Ret (tN B64 1 1) w) := by
 refine enter Tryz.func51 rfl Tryz.ntmps51 (by simp) ?_
 intro a hz hd ha
 clear ha
 have HB : Below w.heap.size w w := Below.refl _ _
 refine wp_seq ?_
 refine rt [rB 0 26 (tN B64 0 0) none 0] hz hd ?_ ?_
 refine ⟨?_, trivial⟩
 exact zNew hz (fun _ => tN_nil) al_n64
 clear hz hd
 intro a' γ' W' hz hd hC hk hh
 obtain ⟨p1, S0, Cp1, lp1, gp1⟩ := gotB hz 0 hC hh rfl rfl rfl rfl rfl rfl
 have bp1 := Nat.le_trans HB.size lp1
 clear lp1 gp1
 replace HB := aB HB hC
 clear hC hk hh
 refine wp_seq ?_
 refine region_text (M := [p1]) [rT (tN B64 1 1), rE 0 26 (tN B64 1 1) p1] hz hd (by kernel_rfl) ?_ ?_
 refine ⟨?_, ?_, trivial⟩
 exact zC1 hz Tryz.func40 (kc (v := .int .u64 1)) (k1 (fun _ => c_of (by decide)))
 exact zSE rfl (sv S0) (by simp [tagOf]) (Cp1.var tN_nd) (sd 0 rfl) st_n64
 clear hz hd
 intro a' γ' W' hz hd hC hk hh
 replace Cp1 := gotE (T := tN B64 1 1) (id := 26) (p := p1) 1 hh rfl rfl
 replace S0 := kp hk S0
 replace HB := aM HB hC
 clear hC hk hh
 refine wp_ret ?_
 refine ret_to (T := tN B64 1 1) (ret1_n64 (by kernel_rfl) S0 hd Cp1 HB) ?_
 exact fun _ _ h => h

set_option maxRecDepth 10000 in
set_option maxHeartbeats 2000000 in
theorem c_power {n : Nat} {w : World}  (hn : n ≤ 2048) :
    Calls Tryz.prog 44 #[.int .i64 (n : Int)] w (Ret (tN B64 33 (2 ^ n)) w) := by
 refine enter Tryz.func44 rfl Tryz.ntmps44 (by simp) ?_
 intro a hz hd ha
 have S0 := ha 0 _ rfl
 clear ha
 have HB : Below w.heap.size w w := Below.refl _ _
 refine wp_seq ?_
 refine rt [rB 0 26 (tN B64 0 0) none 0] hz hd ?_ ?_
 refine ⟨?_, trivial⟩
 exact zNew hz (fun _ => tN_nil) al_n64
 clear hz hd
 intro a' γ' W' hz hd hC hk hh
 replace S0 := kp hk S0
 obtain ⟨p1, S2, Cp1, lp1, gp1⟩ := gotB hz 0 hC hh rfl rfl rfl rfl rfl rfl
 have bp1 := Nat.le_trans HB.size lp1
 clear lp1 gp1
 replace HB := aB HB hC
 clear hC hk hh
 refine wp_seq ?_
 refine rt [rT (tN B64 1 1), rV (.int .i64 (n : Int)), rT (tT [tN B64 16777217 (leftV 1 (n : Int)), tV (.bool (leftOk 1 (n : Int)))]), rT (tT [tN B64 16777217 (leftV 1 (n : Int)), tV (.bool (leftOk 1 (n : Int)))]), rT (tN B64 16777217 (leftV 1 (n : Int))), rV (.bool (leftOk 1 (n : Int))), rVar 6 26 1, rB 6 26 (tN B64 16777217 (leftV 1 (n : Int))) (some 6) 7, rV (.bool (leftOk 1 (n : Int)))] hz hd ?_ ?_
 refine ⟨?_, ?_, ?_, ?_, ?_, ?_, ?_, ?_, ?_, trivial⟩
 exact zC0 hz Tryz.func51 (fun _ => c_num1)
 exact zMv hz (sv S0)
 exact zC2 hz Tryz.func87 (sd 0 rfl) (sd 1 rfl) (k01 (fun _ _ h0 => c_left (k := (n : Int)) h0 (by decide) (by omega) (by omega)))
 exact zMv hz (sd 2 rfl)
 exact zExt hz (sd 3 rfl)
 exact zExt hz (sd 3 rfl)
 exact zAl hz nd_slice al_n64
 exact zSt (sd 4 rfl) st_n64
 exact zAs hz (sd 5 rfl)
 clear hz hd
 intro a' γ' W' hz hd hC hk hh
 have ep1 := Cp1.lt
 have tp1 := Cp1.lt
 replace Cp1 := kC hC Cp1
 clear S0
 replace S2 := kp hk S2
 obtain ⟨p2, S3, Cp2, lp2, gp2⟩ := gotB hz 7 hC hh rfl rfl rfl rfl rfl rfl
 have n_p2_p1 : p2 ≠ p1 := by omega
 have n_p1_p2 : p1 ≠ p2 := by have := ep1; omega
 have bp2 := Nat.le_trans HB.size lp2
 clear lp2 gp2
 clear tp1
 clear ep1
 replace HB := aB HB hC
 clear hC hk hh
 refine wp_seq ?_
 refine region_text (M := [p1]) [rT (tN B64 16777217 (leftV 1 (n : Int))), rE 0 26 (tN B64 16777217 (leftV 1 (n : Int))) p1] hz hd (by kernel_rfl) ?_ ?_
 refine ⟨?_, ?_, trivial⟩
 exact zLd hz (sv S3) Cp2 ld_n64 (by simp [tagOf, n_p2_p1])
 exact zSE rfl (sv S2) (by simp [tagOf]) (Cp1.var tN_nd) (sd 0 rfl) st_n64
 clear hz hd
 intro a' γ' W' hz hd hC hk hh
 replace Cp1 := gotE (T := tN B64 16777217 (leftV 1 (n : Int))) (id := 26) (p := p1) 1 hh rfl rfl
 have tp2 := Cp2.lt
 clear Cp2
 replace S2 := kp hk S2
 clear S3
 clear tp2
 replace HB := aM HB hC
 clear hC hk hh
 refine wp_ret ?_
 refine ret_to (T := tN B64 16777217 (leftV 1 (n : Int))) (ret1_n64 (by kernel_rfl) S2 hd Cp1 HB) ?_
 exact pow_fit hn

set_option maxRecDepth 10000 in
set_option maxHeartbeats 2000000 in
theorem c_fraction {l l1 l2 p q : Nat} {v0 v1 : Value} {w : World} (h0 : (tN B64 l1 p).p v0 w) (h1 : (tN B64 l2 q).p v1 w) (b1 : l1 ≤ 100000000) (b2 : l2 ≤ 100000000) (hp : p < 2 ^ l) (hq : q < 2 ^ l) (hl : 1 ≤ l) :
    Calls Tryz.prog 84 #[v0, v1] w (Ret (tQ B64 l (mkRat p q)) w) := by
 refine enter Tryz.func84 rfl Tryz.ntmps84 (by simp) ?_
 intro a hz hd ha
 have S0 := ha 0 _ rfl
 have H0 := h0
 have S1 := ha 1 _ rfl
 have H1 := h1
 clear ha
 have HB : Below w.heap.size w w := Below.refl _ _
 refine wp_seq ?_
 refine rt [rB 0 26 (tN B64 l1 p) none 0, rB 1 26 (tN B64 l2 q) none 0, rB 2 28 (tQ B64 1 0) none 0] hz hd ?_ ?_
 refine ⟨?_, ?_, ?_, trivial⟩
 exact zBox hz (so S0 H0) box_n64
 exact zBox hz (so S1 H1) box_n64
 exact zNew hz (fun _ => tQ_nil) al_r64
 clear hz hd
 intro a' γ' W' hz hd hC hk hh
 clear S0 H0
 clear S1 H1
 obtain ⟨p1, S2, Cp1, lp1, gp1⟩ := gotB hz 0 hC hh rfl rfl rfl rfl rfl rfl
 obtain ⟨p2, S3, Cp2, lp2, gp2⟩ := gotB hz 1 hC hh rfl rfl rfl rfl rfl rfl
 obtain ⟨p3, S4, Cp3, lp3, gp3⟩ := gotB hz 2 hC hh rfl rfl rfl rfl rfl rfl
 have n_p1_p3 : p1 ≠ p3 := by intro e; rw [e, gp3] at gp1; omega
 have n_p2_p3 : p2 ≠ p3 := by intro e; rw [e, gp3] at gp2; omega
 have bp3 := Nat.le_trans HB.size lp3
 clear lp1 gp1 lp2 gp2 lp3 gp3
 replace HB := aB HB hC
 clear hC hk hh
 refine wp_seq ?_
 refine rt [rT (tN B64 l1 p), rT (tN B64 l2 q), rT (tT [tQ B64 l (mkRat p q), tV (.bool (decide (q ≠ 0)))]), rT (tT [tQ B64 l (mkRat p q), tV (.bool (decide (q ≠ 0)))]), rT (tQ B64 l (mkRat p q)), rV (.bool (decide (q ≠ 0))), rVar 6 28 2, rB 6 28 (tQ B64 l (mkRat p q)) (some 6) 7, rV (.bool (decide (q ≠ 0)))] hz hd ?_ ?_
 refine ⟨?_, ?_, ?_, ?_, ?_, ?_, ?_, ?_, ?_, trivial⟩
 exact zLd hz (sv S2) Cp1 ld_n64
 exact zLd hz (sv S3) Cp2 ld_n64
 exact zC2 hz Tryz.func20 (sd 0 rfl) (sd 1 rfl) (fun _ _ _ h0 h1 => cq_from (l := l) h0 h1 (by omega) (by omega) hp hq hl)
 exact zMv hz (sd 2 rfl)
 exact zExt hz (sd 3 rfl)
 exact zExt hz (sd 3 rfl)
 exact zAl hz nd_rat al_r64
 exact zSt (sd 4 rfl) st_q64
 exact zAs hz (sd 5 rfl)
 clear hz hd
 intro a' γ' W' hz hd hC hk hh
 have ep1 := Cp1.lt
 have ep2 := Cp2.lt
 have ep3 := Cp3.lt
 clear Cp1
 clear Cp2
 have tp3 := Cp3.lt
 replace Cp3 := kC hC Cp3
 clear S2
 clear S3
 replace S4 := kp hk S4
 obtain ⟨p4, S5, Cp4, lp4, gp4⟩ := gotB hz 7 hC hh rfl rfl rfl rfl rfl rfl
 have n_p4_p3 : p4 ≠ p3 := by omega
 have n_p3_p4 : p3 ≠ p4 := by have := ep3; omega
 have bp4 := Nat.le_trans HB.size lp4
 clear lp4 gp4
 clear tp3
 clear ep1 ep2 ep3
 replace HB := aB HB hC
 clear hC hk hh
 refine wp_seq ?_
 refine region_text (M := [p3]) [rT (tQ B64 l (mkRat p q)), rE 0 28 (tQ B64 l (mkRat p q)) p3] hz hd (by kernel_rfl) ?_ ?_
 refine ⟨?_, ?_, trivial⟩
 exact zLd hz (sv S5) Cp4 ld_q64 (by simp [tagOf, n_p4_p3])
 exact zSE rfl (sv S4) (by simp [tagOf]) (Cp3.var tQ_nd) (sd 0 rfl) st_q64
 clear hz hd
 intro a' γ' W' hz hd hC hk hh
 replace Cp3 := gotE (T := tQ B64 l (mkRat p q)) (id := 28) (p := p3) 1 hh rfl rfl
 have tp4 := Cp4.lt
 clear Cp4
 replace S4 := kp hk S4
 clear S5
 clear tp4
 replace HB := aM HB hC
 clear hC hk hh
 refine wp_ret ?_
 refine ret_to (T := tQ B64 l (mkRat p q)) (ret1_q64 (by kernel_rfl) S4 hd Cp3 HB) ?_
 exact fun _ _ h => h

set_option maxRecDepth 10000 in
set_option maxHeartbeats 2000000 in
theorem c_fromfloat {l u : Nat} {w : World}  (hu : u < 18446744073709551616) (hl : 1100 ≤ l) :
    Calls Tryz.prog 31 #[.float .f64 u] w (Ret (tT [tQ B64 l (flQ u), tV (.bool (decide (FOk u)))]) w) := by
 refine enter Tryz.func31 rfl Tryz.ntmps31 (by simp) ?_
 intro a hz hd ha
 have S0 := ha 0 _ rfl
 clear ha
 have HB : Below w.heap.size w w := Below.refl _ _
 have hex := ex_lt u
 have hma := ma_lt u
 refine wp_seq ?_
 refine rt [rB 0 28 (tQ B64 1 0) none 0, rV (.bool false)] hz hd ?_ ?_
 refine ⟨?_, ?_, trivial⟩
 exact zNew hz (fun _ => tQ_nil) al_r64
 exact zAs hz kc
 clear hz hd
 intro a' γ' W' hz hd hC hk hh
 replace S0 := kp hk S0
 obtain ⟨p1, S2, Cp1, lp1, gp1⟩ := gotB hz 0 hC hh rfl rfl rfl rfl rfl rfl
 have S3 := gV hz 1 hh
 have bp1 := Nat.le_trans HB.size lp1
 clear lp1 gp1
 replace HB := aB HB hC
 clear hC hk hh
 refine wp_seq ?_
 refine rt [rV (.float .f64 u), rV (.int .u64 (u : Int)), rV (.int .u64 (u : Int))] hz hd ?_ ?_
 refine ⟨?_, ?_, ?_, trivial⟩
 exact zMv hz (sv S0)
 exact zC1 hz Tryz.func10 (sd 0 rfl) (k1 (fun _ => c_bits))
 exact zAs hz (sd 1 rfl)
 clear hz hd
 intro a' γ' W' hz hd hC hk hh
 have tp1 := Cp1.lt
 replace Cp1 := kC hC Cp1
 replace S0 := kp hk S0
 replace S2 := kp hk S2
 replace S3 := kp hk S3
 have S4 := gV hz 2 hh
 clear tp1
 replace HB := aB HB hC
 clear hC hk hh
 refine wp_seq ?_
 refine rt [rV (.int .u64 (u : Int)), rV (.int .u64 ((u / 4503599627370496 : Nat) : Int)), rV (.int .u64 ((ex u : Nat) : Int)), rV (.int .i64 ((ex u : Nat) : Int)), rV (.int .u64 (u : Int)), rV (.int .u64 ((ma u : Nat) : Int)), rV (.int .i64 ((ex u : Nat) : Int)), rV (.int .u64 ((ma u : Nat) : Int))] hz hd ?_ ?_
 refine ⟨?_, ?_, ?_, ?_, ?_, ?_, ?_, ?_, trivial⟩
 exact zMv hz (sv S4)
 exact sBin rfl rfl rfl hz rfl (Gd.none_ rfl) rfl (sd 0 rfl) kc (fun w => f_shr w)
 exact sBin rfl rfl rfl hz rfl (Gd.none_ rfl) rfl (sd 1 rfl) kc (fun w => f_ex hu w)
 exact sConv (T' := tV (.int .u64 ((ex u : Nat) : Int))) rfl rfl rfl hz rfl (Gd.none_ rfl) rfl (sd 2 rfl) (fun v_ w_ h_ => by have h_ : v_ = .int .u64 ((ex u : Nat) : Int) := h_; subst h_; exact ⟨_, by simp [go_sem, IntKind.wrap_i64]; omega, rfl⟩)
 exact zMv hz (sv S4)
 exact sBin rfl rfl rfl hz rfl (Gd.none_ rfl) rfl (sd 4 rfl) kc (fun w => f_ma hu w)
 exact zAs hz (sd 3 rfl)
 exact zAs hz (sd 5 rfl)
 clear hz hd
 intro a' γ' W' hz hd hC hk hh
 have tp1 := Cp1.lt
 replace Cp1 := kC hC Cp1
 replace S0 := kp hk S0
 replace S2 := kp hk S2
 replace S3 := kp hk S3
 clear S4
 have S5 := gV hz 6 hh
 have S6 := gV hz 7 hh
 clear tp1
 replace HB := aB HB hC
 clear hC hk hh
 refine wp_seq ?_
 refine wp_block ?_
 refine wp_seq ?_
 by_cases hc2 : ((ex u : Nat) : Int) = 2047
 refine rt [rV (.int .i64 ((ex u : Nat) : Int)), rV (.bool true), rV (.bool true), rV undef, rV undef, rV (.bool true), rV (.bool true)] hz hd ?_ ?_
 refine ⟨?_, ?_, ?_, ?_, ?_, ?_, ?_, trivial⟩
 exact zMv hz (sv S5)
 exact sBin rfl rfl rfl hz rfl (Gd.none_ rfl) rfl (sd 0 rfl) kc (fun w => run_t (P := ((ex u : Nat) : Int) = 2047) ((fun w => run_eql) w) hc2)
 exact zMv hz (sd 1 rfl)
 exact zSkU hz (gN 2 rfl)
 exact zSkU hz (gN 2 rfl)
 exact zPT hz (sd 2 rfl) kc
 exact zAs hz (sd 5 rfl)
 clear hz hd
 intro a' γ' W' hz hd hC hk hh
 have tp1 := Cp1.lt
 replace Cp1 := kC hC Cp1
 clear S0
 replace S2 := kp hk S2
 replace S3 := kp hk S3
 replace S5 := kp hk S5
 replace S6 := kp hk S6
 have S17 := gV hz 6 hh
 clear tp1
 replace HB := aB HB hC
 clear hC hk hh
 refine wp_cond_true S17.ev ?_
 refine wp_seq ?_
 refine region_text (M := [p1]) [rT (tQ B64 1 0), rE 0 28 (tQ B64 1 0) p1, rV (.bool false)] hz hd (by kernel_rfl) ?_ ?_
 refine ⟨?_, ?_, ?_, trivial⟩
 exact sBuild0 rfl rfl rfl hz rfl (Gd.none_ rfl) rfl bd_r64 (fun _ => tQ_nil)
 exact zSE rfl (sv S2) (by simp [tagOf]) (Cp1.var tQ_nd) (sd 0 rfl) st_q64
 exact zAs hz kc
 clear hz hd
 intro a' γ' W' hz hd hC hk hh
 replace Cp1 := gotE (T := tQ B64 1 0) (id := 28) (p := p1) 1 hh rfl rfl
 replace S2 := kp hk S2
 clear S3
 replace S5 := kp hk S5
 replace S6 := kp hk S6
 clear S17
 have S3 := gV hz 2 hh
 replace HB := aM HB hC
 clear hC hk hh
 refine wp_ret ?_
 refine ret_to (T := tT [tQ B64 1 0, tV (.bool false)]) (retct_q64 (by kernel_rfl) S2 S3 hd Cp1 HB) ?_
 exact to2 (tQ_to (by decide) (by unfold flQ; rw [if_neg (fun h => h.1 hc2)]) (by omega)) (tV_to (by rw [decide_eq_false (fun h => h.1 hc2)]))
 refine rt [rV (.int .i64 ((ex u : Nat) : Int)), rV (.bool false), rV (.bool false), rV (.float .f64 u), rV (.bool (decide (9223372036854775808 < u))), rV (.bool (decide (9223372036854775808 < u))), rV (.bool (decide (9223372036854775808 < u)))] hz hd ?_ ?_
 refine ⟨?_, ?_, ?_, ?_, ?_, ?_, ?_, trivial⟩
 exact zMv hz (sv S5)
 exact sBin rfl rfl rfl hz rfl (Gd.none_ rfl) rfl (sd 0 rfl) kc (fun w => run_f (P := ((ex u : Nat) : Int) = 2047) ((fun w => run_eql) w) hc2)
 exact zMv hz (sd 1 rfl)
 exact zMv hz (sv S0) (g := gT 2 rfl)
 exact sBin rfl rfl rfl hz rfl (gT 2 rfl) rfl (sd 3 rfl) kc (fun w => f_lss hu hc2 w)
 exact zPF hz (sd 2 rfl) (sd 4 rfl)
 exact zAs hz (sd 5 rfl)
 clear hz hd
 intro a' γ' W' hz hd hC hk hh
 have tp1 := Cp1.lt
 replace Cp1 := kC hC Cp1
 clear S0
 replace S2 := kp hk S2
 replace S3 := kp hk S3
 replace S5 := kp hk S5
 replace S6 := kp hk S6
 have S17 := gV hz 6 hh
 clear tp1
 replace HB := aB HB hC
 clear hC hk hh
 by_cases hc3 : 9223372036854775808 < u
 rw [decide_eq_true hc3] at S17
 refine wp_cond_true S17.ev ?_
 refine wp_seq ?_
 refine region_text (M := [p1]) [rT (tQ B64 1 0), rE 0 28 (tQ B64 1 0) p1, rV (.bool false)] hz hd (by kernel_rfl) ?_ ?_
 refine ⟨?_, ?_, ?_, trivial⟩
 exact sBuild0 rfl rfl rfl hz rfl (Gd.none_ rfl) rfl bd_r64 (fun _ => tQ_nil)
 exact zSE rfl (sv S2) (by simp [tagOf]) (Cp1.var tQ_nd) (sd 0 rfl) st_q64
 exact zAs hz kc
 clear hz hd
 intro a' γ' W' hz hd hC hk hh
 replace Cp1 := gotE (T := tQ B64 1 0) (id := 28) (p := p1) 1 hh rfl rfl
 replace S2 := kp hk S2
 clear S3
 replace S5 := kp hk S5
 replace S6 := kp hk S6
 clear S17
 have S3 := gV hz 2 hh
 replace HB := aM HB hC
 clear hC hk hh
 refine wp_ret ?_
 refine ret_to (T := tT [tQ B64 1 0, tV (.bool false)]) (retct_q64 (by kernel_rfl) S2 S3 hd Cp1 HB) ?_
 exact to2 (tQ_to (by decide) (by unfold flQ; rw [if_neg (fun h => h.2 hc3)]) (by omega)) (tV_to (by rw [decide_eq_false (fun h => h.2 hc3)]))
 rw [decide_eq_false hc3] at S17
 refine wp_cond_false S17.ev ?_
 refine wp_seq ?_
 refine rt [rV (.int .i64 ((ex u : Nat) : Int)), rV (.bool (decide (((ex u : Nat) : Int) = 0))), rV (.bool (decide (((ex u : Nat) : Int) = 0)))] hz hd ?_ ?_
 refine ⟨?_, ?_, ?_, trivial⟩
 exact zMv hz (sv S5)
 exact sBin rfl rfl rfl hz rfl (Gd.none_ rfl) rfl (sd 0 rfl) kc (fun w => run_eql)
 exact zAs hz (sd 1 rfl)
 clear hz hd
 intro a' γ' W' hz hd hC hk hh
 have tp1 := Cp1.lt
 replace Cp1 := kC hC Cp1
 replace S2 := kp hk S2
 replace S3 := kp hk S3
 replace S5 := kp hk S5
 replace S6 := kp hk S6
 clear S17
 have S25 := gV hz 2 hh
 clear tp1
 replace HB := aB HB hC
 clear hC hk hh
 by_cases hc4 : ((ex u : Nat) : Int) = 0
 rw [decide_eq_true hc4] at S25
 refine wp_cond_true S25.ev ?_
 refine rt [rV (.int .i64 1)] hz hd ?_ ?_
 refine ⟨?_, trivial⟩
 exact zAs hz kc
 clear hz hd
 intro a' γ' W' hz hd hC hk hh
 have tp1 := Cp1.lt
 replace Cp1 := kC hC Cp1
 replace S2 := kp hk S2
 replace S3 := kp hk S3
 clear S5
 replace S6 := kp hk S6
 clear S25
 have S5 := gV hz 0 hh
 clear tp1
 replace HB := aB HB hC
 clear hC hk hh
 refine wp_seq ?_
 refine wp_seq ?_
 refine rt [rV (.int .i64 1), rV (.bool true)] hz hd ?_ ?_
 refine ⟨?_, ?_, trivial⟩
 exact zMv hz (sv S5)
 exact sBin rfl rfl rfl hz rfl (Gd.none_ rfl) rfl (sd 0 rfl) kc (fun w => by simp [go_sem])
 clear hz hd
 intro a' γ' W' hz hd hC hk hh
 have tp1 := Cp1.lt
 replace Cp1 := kC hC Cp1
 replace S2 := kp hk S2
 replace S3 := kp hk S3
 replace S6 := kp hk S6
 replace S5 := kp hk S5
 have S29 := gV hz 1 hh
 clear tp1
 replace HB := aB HB hC
 clear hC hk hh
 refine wp_cond_true S29.ev ?_
 refine wp_seq ?_
 refine region_text (M := [p1]) [rV (.int .u64 ((ma u : Nat) : Int)), rT (tN B64 1 (ma u)), rV (.int .i64 1), rV (.int .i64 1074), rT (tN B64 33 (2 ^ 1074)), rT (tQ B64 l (mkRat ((ma u : Nat) : Int) (2 ^ 1074))), rE 0 28 (tQ B64 l (mkRat ((ma u : Nat) : Int) (2 ^ 1074))) p1, rV (.bool true)] hz hd (by kernel_rfl) ?_ ?_
 refine ⟨?_, ?_, ?_, ?_, ?_, ?_, ?_, ?_, trivial⟩
 exact zMv hz (sv S6)
 exact zC1 hz Tryz.func40 (sd 0 rfl) (k1 (fun _ => c_of (by unfold B64; omega)))
 exact zMv hz (sv S5)
 exact sBin rfl rfl rfl hz rfl (Gd.none_ rfl) rfl kc (sd 2 rfl) (fun w => by kernel_rfl)
 exact zC1 hz Tryz.func44 (sd 3 rfl) (k1 (fun _ => c_power (n := 1074) (by have := ex_lt u; omega)))
 exact zC2 hz Tryz.func84 (sd 1 rfl) (sd 4 rfl) (fun _ _ _ h0 h1 => c_fraction (l := l) h0 h1 (by decide) (by decide) (fb_1 (by omega)) (fb_p (n := 1074) (by omega)) (by omega))
 exact zSE rfl (sv S2) (by simp [tagOf]) (Cp1.var tQ_nd) (sd 5 rfl) st_q64
 exact zAs hz kc
 clear hz hd
 intro a' γ' W' hz hd hC hk hh
 replace Cp1 := gotE (T := tQ B64 l (mkRat ((ma u : Nat) : Int) (2 ^ 1074))) (id := 28) (p := p1) 6 hh rfl rfl
 replace S2 := kp hk S2
 clear S3
 replace S6 := kp hk S6
 replace S5 := kp hk S5
 clear S29
 have S3 := gV hz 7 hh
 replace HB := aM HB hC
 clear hC hk hh
 refine wp_ret ?_
 refine ret_to (T := tT [tQ B64 l (mkRat ((ma u : Nat) : Int) (2 ^ 1074)), tV (.bool true)]) (retct_q64 (by kernel_rfl) S2 S3 hd Cp1 HB) ?_
 exact to2 (tQ_to (by decide) (by unfold flQ fl; rw [if_pos ⟨hc2, hc3⟩, if_pos hc4]) (by omega)) (tV_to (by rw [decide_eq_true ⟨hc2, hc3⟩]))
 rw [decide_eq_false hc4] at S25
 refine wp_cond_false S25.ev ?_
 refine rt [rV (.int .u64 ((ma u : Nat) : Int)), rV (.int .u64 ((ma u + 4503599627370496 : Nat) : Int)), rV (.int .u64 ((ma u + 4503599627370496 : Nat) : Int))] hz hd ?_ ?_
 refine ⟨?_, ?_, ?_, trivial⟩
 exact zMv hz (sv S6)
 exact sBin rfl rfl rfl hz rfl (Gd.none_ rfl) rfl (sd 0 rfl) kc (fun w => f_or w)
 exact zAs hz (sd 1 rfl)
 clear hz hd
 intro a' γ' W' hz hd hC hk hh
 have tp1 := Cp1.lt
 replace Cp1 := kC hC Cp1
 replace S2 := kp hk S2
 replace S3 := kp hk S3
 replace S5 := kp hk S5
 clear S6
 clear S25
 have S6 := gV hz 2 hh
 clear tp1
 replace HB := aB HB hC
 clear hC hk hh
 refine wp_seq ?_
 refine wp_seq ?_
 refine rt [rV (.int .i64 ((ex u : Nat) : Int)), rV (.bool (decide (((ex u : Nat) : Int) < 1075)))] hz hd ?_ ?_
 refine ⟨?_, ?_, trivial⟩
 exact zMv hz (sv S5)
 exact sBin rfl rfl rfl hz rfl (Gd.none_ rfl) rfl (sd 0 rfl) kc (fun w => run_lss)
 clear hz hd
 intro a' γ' W' hz hd hC hk hh
 have tp1 := Cp1.lt
 replace Cp1 := kC hC Cp1
 replace S2 := kp hk S2
 replace S3 := kp hk S3
 replace S5 := kp hk S5
 replace S6 := kp hk S6
 have S29 := gV hz 1 hh
 clear tp1
 replace HB := aB HB hC
 clear hC hk hh
 by_cases hc5 : ((ex u : Nat) : Int) < 1075
 rw [decide_eq_true hc5] at S29
 refine wp_cond_true S29.ev ?_
 refine wp_seq ?_
 refine region_text (M := [p1]) [rV (.int .u64 ((ma u + 4503599627370496 : Nat) : Int)), rT (tN B64 1 (ma u + 4503599627370496)), rV (.int .i64 ((ex u : Nat) : Int)), rV (.int .i64 ((1075 - ex u : Nat) : Int)), rT (tN B64 33 (2 ^ (1075 - ex u))), rT (tQ B64 l (mkRat ((ma u + 4503599627370496 : Nat) : Int) (2 ^ (1075 - ex u)))), rE 0 28 (tQ B64 l (mkRat ((ma u + 4503599627370496 : Nat) : Int) (2 ^ (1075 - ex u)))) p1, rV (.bool true)] hz hd (by kernel_rfl) ?_ ?_
 refine ⟨?_, ?_, ?_, ?_, ?_, ?_, ?_, ?_, trivial⟩
 exact zMv hz (sv S6)
 exact zC1 hz Tryz.func40 (sd 0 rfl) (k1 (fun _ => c_of (by unfold B64; omega)))
 exact zMv hz (sv S5)
 exact sBin rfl rfl rfl hz rfl (Gd.none_ rfl) rfl kc (sd 2 rfl) (fun w => f_sub1 hc5 w)
 exact zC1 hz Tryz.func44 (sd 3 rfl) (k1 (fun _ => c_power (n := 1075 - ex u) (by have := ex_lt u; omega)))
 exact zC2 hz Tryz.func84 (sd 1 rfl) (sd 4 rfl) (fun _ _ _ h0 h1 => c_fraction (l := l) h0 h1 (by decide) (by decide) (fb_2 (by omega)) (fb_p (n := 1075 - ex u) (by omega)) (by omega))
 exact zSE rfl (sv S2) (by simp [tagOf]) (Cp1.var tQ_nd) (sd 5 rfl) st_q64
 exact zAs hz kc
 clear hz hd
 intro a' γ' W' hz hd hC hk hh
 replace Cp1 := gotE (T := tQ B64 l (mkRat ((ma u + 4503599627370496 : Nat) : Int) (2 ^ (1075 - ex u)))) (id := 28) (p := p1) 6 hh rfl rfl
 replace S2 := kp hk S2
 clear S3
 replace S5 := kp hk S5
 replace S6 := kp hk S6
 clear S29
 have S3 := gV hz 7 hh
 replace HB := aM HB hC
 clear hC hk hh
 refine wp_ret ?_
 refine ret_to (T := tT [tQ B64 l (mkRat ((ma u + 4503599627370496 : Nat) : Int) (2 ^ (1075 - ex u))), tV (.bool true)]) (retct_q64 (by kernel_rfl) S2 S3 hd Cp1 HB) ?_
 exact to2 (tQ_to (by decide) (by unfold flQ fl; rw [if_pos ⟨hc2, hc3⟩, if_neg hc4, if_pos hc5]) (by omega)) (tV_to (by rw [decide_eq_true ⟨hc2, hc3⟩]))
 rw [decide_eq_false hc5] at S29
 refine wp_cond_false S29.ev ?_
 refine wp_skip ?_
 refine wp_seq ?_
 refine region_text (M := [p1]) [rV (.int .u64 ((ma u + 4503599627370496 : Nat) : Int)), rT (tN B64 1 (ma u + 4503599627370496)), rV (.int .i64 ((ex u : Nat) : Int)), rV (.int .i64 ((ex u - 1075 : Nat) : Int)), rT (tN B64 33 (2 ^ (ex u - 1075))), rT (tN B64 34 ((ma u + 4503599627370496) * (2 ^ (ex u - 1075)))), rT (tN B64 1 1), rT (tQ B64 l (mkRat (((ma u + 4503599627370496) * (2 ^ (ex u - 1075)) : Nat) : Int) 1)), rE 0 28 (tQ B64 l (mkRat (((ma u + 4503599627370496) * (2 ^ (ex u - 1075)) : Nat) : Int) 1)) p1, rV (.bool true)] hz hd (by kernel_rfl) ?_ ?_
 refine ⟨?_, ?_, ?_, ?_, ?_, ?_, ?_, ?_, ?_, ?_, trivial⟩
 exact zMv hz (sv S6)
 exact zC1 hz Tryz.func40 (sd 0 rfl) (k1 (fun _ => c_of (by unfold B64; omega)))
 exact zMv hz (sv S5)
 exact sBin rfl rfl rfl hz rfl (Gd.none_ rfl) rfl (sd 2 rfl) kc (fun w => f_sub2 hc5 w)
 exact zC1 hz Tryz.func44 (sd 3 rfl) (k1 (fun _ => c_power (n := ex u - 1075) (by have := ex_lt u; omega)))
 exact zC2 hz Tryz.func43 (sd 1 rfl) (sd 4 rfl) (fun _ _ _ h0 h1 => c_mul h0 h1 (by decide) (by decide))
 exact zC0 hz Tryz.func51 (fun _ => c_num1)
 exact zC2 hz Tryz.func84 (sd 5 rfl) (sd 6 rfl) (fun _ _ _ h0 h1 => c_fraction (l := l) h0 h1 (by decide) (by decide) (fb_3 (by omega)) (fb_one (by omega)) (by omega))
 exact zSE rfl (sv S2) (by simp [tagOf]) (Cp1.var tQ_nd) (sd 7 rfl) st_q64
 exact zAs hz kc
 clear hz hd
 intro a' γ' W' hz hd hC hk hh
 replace Cp1 := gotE (T := tQ B64 l (mkRat (((ma u + 4503599627370496) * (2 ^ (ex u - 1075)) : Nat) : Int) 1)) (id := 28) (p := p1) 8 hh rfl rfl
 replace S2 := kp hk S2
 clear S3
 clear S5
 clear S6
 clear S29
 have S3 := gV hz 9 hh
 replace HB := aM HB hC
 clear hC hk hh
 refine wp_ret ?_
 refine ret_to (T := tT [tQ B64 l (mkRat (((ma u + 4503599627370496) * (2 ^ (ex u - 1075)) : Nat) : Int) 1), tV (.bool true)]) (retct_q64 (by kernel_rfl) S2 S3 hd Cp1 HB) ?_
 exact to2 (tQ_to (by decide) (by unfold flQ fl; rw [if_pos ⟨hc2, hc3⟩, if_neg hc4, if_neg hc5]) (by omega)) (tV_to (by rw [decide_eq_true ⟨hc2, hc3⟩]))

end Go.Proofs.YtfgnleoaibcegaaGreat.Rg

namespace Go.Proofs.YtfgnleoaibcegaaGreat.Rg

open Go.RowKit

def rn (p q : Nat) : Nat := if q < 2 * (p % q) ∨ (2 * (p % q) = q ∧ p / q % 2 = 1) then p / q + 1 else p / q
structure IsRn (p q h : Nat) : Prop where
  lo : 2 * (h * q) ≤ 2 * p + q
  hi : 2 * p ≤ 2 * (h * q) + q
  tlo : 2 * (h * q) = 2 * p + q → h % 2 = 0
  thi : 2 * p = 2 * (h * q) + q → h % 2 = 0
theorem rn_is {p q : Nat} (hq : 0 < q) : IsRn p q (rn p q) := by
  have h1 := Nat.div_add_mod p q
  have h2 := Nat.mod_lt p hq
  unfold rn
  generalize p / q = d at *
  generalize p % q = r at *
  have h3 : d * q = q * d := Nat.mul_comm _ _
  split
  · rename_i hc
    have h4 : (d + 1) * q = q * d + q := by rw [Nat.add_mul, Nat.one_mul, h3]
    refine ⟨by omega, by omega, fun h => ?_, fun h => ?_⟩ <;> omega
  · rename_i hc
    refine ⟨by omega, by omega, fun h => ?_, fun h => ?_⟩ <;> omega
theorem IsRn.le {p q h p' q' h' : Nat} (hq : 0 < q) (hq' : 0 < q') (I : IsRn p q h) (I' : IsRn p' q' h') (hle : p * q' ≤ p' * q) : h ≤ h' := by
  rcases Nat.lt_or_ge h' h with hlt | hge
  · exfalso
    -- h ≥ h' + 1: 2 h q ≤ 2 p + q and 2 p' ≤ 2 h' q' + q'
    have a1 := Nat.mul_le_mul_right q' I.lo
    have a2 := Nat.mul_le_mul_right q I'.hi
    have a3 : (h' + 1) * (q * q') ≤ h * (q * q') := Nat.mul_le_mul_right _ hlt
    have e1 : 2 * (h * q) * q' = 2 * (h * (q * q')) := by simp [Nat.mul_assoc]
    have e2 : (2 * p + q) * q' = 2 * (p * q') + q * q' := by rw [Nat.add_mul, Nat.mul_assoc]
    have e3 : 2 * p' * q = 2 * (p' * q) := Nat.mul_assoc _ _ _
    have e4 : (2 * (h' * q') + q') * q = 2 * (h' * (q * q')) + q * q' := by rw [Nat.add_mul, Nat.mul_assoc, Nat.mul_assoc, Nat.mul_comm q' q]
    rw [e1, e2] at a1
    rw [e3, e4] at a2
    rw [Nat.add_mul, Nat.one_mul] at a3
    have hpos : 0 < q * q' := Nat.mul_pos hq hq'
    -- all tight
    have t1 : 2 * (h * (q * q')) = 2 * (p * q') + q * q' := by omega
    have t2 : 2 * (p' * q) = 2 * (h' * (q * q')) + q * q' := by omega
    have t3 : h * (q * q') = h' * (q * q') + q * q' := by omega
    have u1 : 2 * (h * q) = 2 * p + q := Nat.eq_of_mul_eq_mul_right hq' (by rw [e1, e2]; exact t1)
    have u2 : 2 * p' = 2 * (h' * q') + q' := Nat.eq_of_mul_eq_mul_right hq (by rw [e3, e4]; exact t2)
    have u3 : h = h' + 1 := Nat.eq_of_mul_eq_mul_right hpos (by rw [t3, Nat.add_mul, Nat.one_mul])
    have v1 := I.tlo u1
    have v2 := I'.thi u2
    omega
  · exact hge
theorem IsRn.eq {p q h h' : Nat} (hq : 0 < q) (I : IsRn p q h) (I' : IsRn p q h') : h = h' :=
  Nat.le_antisymm (I.le hq hq I' (Nat.le_refl _)) (I'.le hq hq I (Nat.le_refl _))
theorem rn_mono {p q p' q' : Nat} (hq : 0 < q) (hq' : 0 < q') (h : p * q' ≤ p' * q) : rn p q ≤ rn p' q' := (rn_is hq).le hq hq' (rn_is hq') h
theorem rn_same {p q p' q' : Nat} (hq : 0 < q) (hq' : 0 < q') (h : p * q' = p' * q) : rn p q = rn p' q' :=
  Nat.le_antisymm (rn_mono hq hq' (Nat.le_of_eq h)) (rn_mono hq' hq (Nat.le_of_eq h.symm))
theorem rn_int {a q : Nat} (hq : 0 < q) : rn (a * q) q = a :=
  (rn_is hq).eq hq ⟨by omega, by omega, fun h => by omega, fun h => by omega⟩
theorem rn_scale {p q c : Nat} (hq : 0 < q) (hc : 0 < c) : rn (p * c) (q * c) = rn p q := rn_same (Nat.mul_pos hq hc) hq (by rw [Nat.mul_assoc, Nat.mul_comm c q])
theorem rn_zero {q : Nat} (hq : 0 < q) : rn 0 q = 0 := by have := rn_int (a := 0) hq; rwa [Nat.zero_mul] at this
theorem rn_one (p : Nat) : rn p 1 = p := by have := rn_int (a := p) (q := 1) (by decide); rwa [Nat.mul_one] at this
section

variable {K p q p' q' : Nat}
def nearS (K p q : Nat) : Nat := bl (p * 2 ^ K / q) - 53
def nearH (K p q : Nat) : Nat := rn (p * 2 ^ K) (q * 2 ^ nearS K p q)
def nearN (K p q : Nat) : Nat := nearS K p q * 4503599627370496 + nearH K p q
theorem pow53 : (2 : Nat) ^ 53 = 9007199254740992 := rfl
theorem pow52 : (2 : Nat) ^ 52 = 4503599627370496 := rfl
theorem nearS_up (hq : 0 < q) : p * 2 ^ K < q * 2 ^ (nearS K p q + 53) := by
  have h1 := bl_lt (x := p * 2 ^ K / q)
  have h2 : p * 2 ^ K / q < 2 ^ (nearS K p q + 53) := Nat.lt_of_lt_of_le h1 (Nat.pow_le_pow_right (by decide) (by unfold nearS; omega))
  rw [Nat.div_lt_iff_lt_mul hq] at h2
  rw [Nat.mul_comm q]; exact h2
theorem nearS_lo (hq : 0 < q) (h : nearS K p q ≠ 0) : q * 2 ^ (nearS K p q + 52) ≤ p * 2 ^ K := by
  have h0 : 53 < bl (p * 2 ^ K / q) := by unfold nearS at h; omega
  have hp : 0 < p * 2 ^ K / q := Go.Proofs.YtfgnleoaibcegaaGreat.bl_pos.1 (by omega)
  have h1 := (bl_bounds hp).2.1
  rw [show bl (p * 2 ^ K / q) - 1 = nearS K p q + 52 by unfold nearS; omega] at h1
  have := Nat.mul_le_mul_left q h1
  exact Nat.le_trans this (Nat.mul_div_le _ _)
theorem nearH_up (hq : 0 < q) : nearH K p q ≤ 9007199254740992 := by
  have h := nearS_up (K := K) (p := p) hq
  have hq2 : 0 < q * 2 ^ nearS K p q := Nat.mul_pos hq (Nat.two_pow_pos _)
  have h2 := rn_mono (p' := 9007199254740992) (q' := 1) hq2 (by decide) (by
    rw [Nat.mul_one, ← pow53, Nat.mul_comm, Nat.mul_assoc, ← Nat.pow_add]; exact Nat.le_of_lt h)
  rw [rn_one] at h2; unfold nearH; exact h2
theorem nearH_lo (hq : 0 < q) (hs : nearS K p q ≠ 0) : 4503599627370496 ≤ nearH K p q := by
  have h := nearS_lo hq hs
  have hq2 : 0 < q * 2 ^ nearS K p q := Nat.mul_pos hq (Nat.two_pow_pos _)
  have h2 := rn_mono (p := 4503599627370496) (q := 1) (p' := p * 2 ^ K) (by decide) hq2 (by
    rw [Nat.mul_one, ← pow52, Nat.mul_comm, Nat.mul_assoc, ← Nat.pow_add]; exact h)
  rw [rn_one] at h2; unfold nearH; exact h2
theorem nearS_mono (hq : 0 < q) (hq' : 0 < q') (h : p * q' ≤ p' * q) : nearS K p q ≤ nearS K p' q' := by
  have h1 : p * 2 ^ K / q ≤ p' * 2 ^ K / q' := by
    rw [Nat.le_div_iff_mul_le hq']
    refine Nat.le_of_mul_le_mul_right (c := q) ?_ hq
    have h2 := Nat.mul_le_mul_right q' (Nat.div_mul_le_self (p * 2 ^ K) q)
    have h3 := Nat.mul_le_mul_right (2 ^ K) h
    have e1 : p * 2 ^ K / q * q' * q = p * 2 ^ K / q * q * q' := by rw [Nat.mul_assoc, Nat.mul_comm q' q, Nat.mul_assoc]
    have e2 : p * 2 ^ K * q' = p * q' * 2 ^ K := by rw [Nat.mul_assoc, Nat.mul_comm (2 ^ K) q', Nat.mul_assoc]
    have e3 : p' * 2 ^ K * q = p' * q * 2 ^ K := by rw [Nat.mul_assoc, Nat.mul_comm (2 ^ K) q, Nat.mul_assoc]
    omega
  have h2 : bl (p * 2 ^ K / q) ≤ bl (p' * 2 ^ K / q') := bl_le (Nat.lt_of_le_of_lt h1 bl_lt)
  unfold nearS; omega
theorem nearN_mono (hq : 0 < q) (hq' : 0 < q') (h : p * q' ≤ p' * q) : nearN K p q ≤ nearN K p' q' := by
  have hs := nearS_mono (K := K) hq hq' h
  rcases Nat.lt_or_ge (nearS K p q) (nearS K p' q') with hlt | hge
  · have h1 := nearH_up (K := K) (p := p) hq
    have h2 := nearH_lo (K := K) (p := p') hq' (by omega)
    unfold nearN; omega
  · have he : nearS K p q = nearS K p' q' := Nat.le_antisymm hs hge
    have h3 : nearH K p q ≤ nearH K p' q' := by
      unfold nearH
      rw [he]
      refine rn_mono (Nat.mul_pos hq (Nat.two_pow_pos _)) (Nat.mul_pos hq' (Nat.two_pow_pos _)) ?_
      have := Nat.mul_le_mul_right (2 ^ K * 2 ^ nearS K p' q') h
      have e1 : p * 2 ^ K * (q' * 2 ^ nearS K p' q') = p * q' * (2 ^ K * 2 ^ nearS K p' q') := by
        rw [Nat.mul_assoc, Nat.mul_assoc, Nat.mul_left_comm (2 ^ K)]
      have e2 : p' * 2 ^ K * (q * 2 ^ nearS K p' q') = p' * q * (2 ^ K * 2 ^ nearS K p' q') := by
        rw [Nat.mul_assoc, Nat.mul_assoc, Nat.mul_left_comm (2 ^ K)]
      rw [e1, e2]; exact this
    unfold nearN; omega
def VX (u : Nat) : Nat := if u / 4503599627370496 = 0 then u else (u % 4503599627370496 + 4503599627370496) * 2 ^ (u / 4503599627370496 - 1)
end

end Go.Proofs.YtfgnleoaibcegaaGreat.Rg

namespace Go.Proofs.YtfgnleoaibcegaaGreat.Rg

open Go.RowKit

section

variable {K p q : Nat}
def tfN (p q : Nat) : Nat := if bl q + 55 - bl p < 1076 then bl q + 55 - bl p else 1076
def tfM (p q : Nat) : Nat := p * 2 ^ tfN p q / q
def tfL (p q : Nat) : Int := if (bl (tfM p q) : Int) - tfN p q - 53 < -1074 then -1074 else (bl (tfM p q) : Int) - tfN p q - 53
def tfK (p q : Nat) : Nat := (tfL p q + tfN p q).toNat
theorem tf_big (hp : 0 < p) (hq : 0 < q) (h : bl q + 55 - bl p < 1076) : 55 ≤ bl (tfM p q) := by
  have hb := bl_bounds hp
  have e : tfN p q = bl q + 55 - bl p := by unfold tfN; rw [if_pos h]
  have h1 : 2 ^ 54 ≤ tfM p q := by
    unfold tfM
    rw [Nat.le_div_iff_mul_le hq]
    have h2 : 2 ^ 54 * q ≤ 2 ^ (54 + bl q) := by
      rw [Nat.pow_add]; exact Nat.mul_le_mul_left _ (Nat.le_of_lt bl_lt)
    have h3 : 2 ^ (54 + bl q) ≤ 2 ^ (bl p - 1 + tfN p q) := Nat.pow_le_pow_right (by decide) (by omega)
    have h4 : 2 ^ (bl p - 1 + tfN p q) ≤ p * 2 ^ tfN p q := by
      rw [Nat.pow_add]; exact Nat.mul_le_mul_right _ hb.2.1
    exact Nat.le_trans h2 (Nat.le_trans h3 h4)
  rcases Nat.lt_or_ge (bl (tfM p q)) 55 with h5 | h5
  · have h6 := bl_lt (x := tfM p q)
    have h7 : 2 ^ bl (tfM p q) ≤ 2 ^ 54 := Nat.pow_le_pow_right (by decide) (by omega)
    omega
  · exact h5
theorem tf_s (hK : K = 1074) (hp : 0 < p) (hq : 0 < q) : tfL p q = (nearS K p q : Int) - 1074 ∧ 2 ≤ tfL p q + tfN p q := by
  have hn : tfN p q ≤ 1076 := by unfold tfN; split <;> omega
  have hcap : ¬ bl q + 55 - bl p < 1076 → tfN p q = 1076 := fun h => by unfold tfN; rw [if_neg h]
  have hun : bl q + 55 - bl p < 1076 → 55 ≤ bl (tfM p q) := tf_big hp hq
  by_cases hle : tfN p q ≤ K
  · have h55 : 55 ≤ bl (tfM p q) := by
      by_cases h : bl q + 55 - bl p < 1076
      · exact hun h
      · have := hcap h; omega
    have hM : p * 2 ^ K / q / 2 ^ (K - tfN p q) = tfM p q := by
      unfold tfM
      rw [Nat.div_div_eq_div_mul]
      have e : 2 ^ K = 2 ^ tfN p q * 2 ^ (K - tfN p q) := by rw [← Nat.pow_add]; congr 1; omega
      rw [e, ← Nat.mul_assoc]
      exact Nat.mul_div_mul_right _ _ (Nat.two_pow_pos _)
    have hge : 2 ^ (K - tfN p q) ≤ p * 2 ^ K / q := by
      rcases Nat.lt_or_ge (p * 2 ^ K / q) (2 ^ (K - tfN p q)) with h | h
      · rw [Nat.div_eq_of_lt h] at hM
        rw [← hM, bl_zero] at h55; omega
      · exact h
    have hb := bl_div hge
    rw [hM] at hb
    have hs : nearS K p q = K - tfN p q + bl (tfM p q) - 53 := by unfold nearS; rw [hb]
    unfold tfL
    split <;> omega
  · have hM : tfM p q / 2 ^ (tfN p q - K) = p * 2 ^ K / q := by
      unfold tfM
      rw [Nat.div_div_eq_div_mul]
      have e : 2 ^ tfN p q = 2 ^ K * 2 ^ (tfN p q - K) := by rw [← Nat.pow_add]; congr 1; omega
      rw [e, ← Nat.mul_assoc]
      exact Nat.mul_div_mul_right _ _ (Nat.two_pow_pos _)
    have h2 : 2 ≤ tfL p q + tfN p q := by
      by_cases h : bl q + 55 - bl p < 1076
      · have := hun h; unfold tfL; split <;> omega
      · have := hcap h; unfold tfL; split <;> omega
    refine ⟨?_, h2⟩
    rcases Nat.lt_or_ge (tfM p q) (2 ^ (tfN p q - K)) with h | h
    · have h0 : p * 2 ^ K / q = 0 := by rw [← hM]; exact Nat.div_eq_of_lt h
      have hs : nearS K p q = 0 := by unfold nearS; rw [h0, bl_zero]
      have := bl_le h
      unfold tfL; split <;> omega
    · have hb := bl_div h
      rw [hM] at hb
      have hs : nearS K p q = bl (p * 2 ^ K / q) - 53 := rfl
      unfold tfL; split <;> omega
def tfUp (p q : Nat) : Prop := 2 ^ (tfK p q - 1) < tfM p q - tfM p q / 2 ^ tfK p q * 2 ^ tfK p q ∨ (tfM p q - tfM p q / 2 ^ tfK p q * 2 ^ tfK p q = 2 ^ (tfK p q - 1) ∧ (0 < p * 2 ^ tfN p q % q ∨ tfM p q / 2 ^ tfK p q % 2 = 1))
theorem rn_two {a q k : Nat} (hq : 0 < q) (hk : 1 ≤ k) : rn a (q * 2 ^ k) = if 2 ^ (k - 1) < a / q - a / q / 2 ^ k * 2 ^ k ∨ (a / q - a / q / 2 ^ k * 2 ^ k = 2 ^ (k - 1) ∧ (0 < a % q ∨ a / q / 2 ^ k % 2 = 1)) then a / q / 2 ^ k + 1 else a / q / 2 ^ k := by
  have ht : 2 ^ k = 2 * 2 ^ (k - 1) := by rw [Nat.mul_comm, ← Nat.pow_succ]; congr 1; omega
  have ht0 : 0 < 2 ^ (k - 1) := Nat.two_pow_pos _
  have hd : a / (q * 2 ^ k) = a / q / 2 ^ k := (Nat.div_div_eq_div_mul _ _ _).symm
  have h1 := Nat.div_add_mod a q
  have h2 := Nat.mod_lt a hq
  have h3 := Nat.div_add_mod (a / q) (2 ^ k)
  have h4 := Nat.mod_lt (a / q) (Nat.two_pow_pos k)
  have h5 := Nat.div_add_mod a (q * 2 ^ k)
  have hl : a / q - a / q / 2 ^ k * 2 ^ k = a / q % 2 ^ k := by rw [Nat.mul_comm]; omega
  have hR : a % (q * 2 ^ k) = q * (a / q % 2 ^ k) + a % q := by
    have e : q * (a / q) = q * 2 ^ k * (a / q / 2 ^ k) + q * (a / q % 2 ^ k) := by
      rw [Nat.mul_assoc, ← Nat.mul_add, h3]
    rw [hd] at h5
    omega
  unfold rn
  rw [hd, hl, hR]
  generalize a / q % 2 ^ k = L at *
  generalize a % q = r at *
  generalize a / q / 2 ^ k = d at *
  rw [ht]
  generalize 2 ^ (k - 1) = t at *
  have e2 : q * (2 * t) = 2 * (q * t) := Nat.mul_left_comm _ _ _
  rw [e2]
  have c1 : t < L → q * t + q ≤ q * L := fun h => by have := Nat.mul_le_mul_left q h; rwa [Nat.mul_succ] at this
  have c2 : L < t → q * L + q ≤ q * t := fun h => by have := Nat.mul_le_mul_left q h; rwa [Nat.mul_succ] at this
  have c3 : L = t → q * L = q * t := fun h => by rw [h]
  generalize q * t = x at *
  generalize q * L = y at *
  rcases Nat.lt_trichotomy t L with h | h | h
  · have := c1 h
    rw [if_pos (by omega), if_pos (by omega)]
  · have := c3 h.symm
    by_cases hr : 0 < r
    · rw [if_pos (by omega), if_pos (by omega)]
    · by_cases ho : d % 2 = 1
      · rw [if_pos (by omega), if_pos (by omega)]
      · rw [if_neg (by omega), if_neg (by omega)]
  · have := c2 h
    rw [if_neg (by omega), if_neg (by omega)]
instance : Decidable (tfUp p q) := by unfold tfUp; exact inferInstance
theorem tf_h (hK : K = 1074) (hp : 0 < p) (hq : 0 < q) : nearH K p q = if tfUp p q then tfM p q / 2 ^ tfK p q + 1 else tfM p q / 2 ^ tfK p q := by
  obtain ⟨h1, h2⟩ := tf_s hK hp hq
  have hk : tfK p q + K = nearS K p q + tfN p q := by unfold tfK; omega
  have hk1 : 1 ≤ tfK p q := by unfold tfK; omega
  have h3 : nearH K p q = rn (p * 2 ^ tfN p q) (q * 2 ^ tfK p q) := by
    unfold nearH
    refine rn_same (Nat.mul_pos hq (Nat.two_pow_pos _)) (Nat.mul_pos hq (Nat.two_pow_pos _)) ?_
    have e1 : p * 2 ^ K * (q * 2 ^ tfK p q) = p * q * 2 ^ (tfK p q + K) := by
      rw [Nat.pow_add, Nat.mul_assoc, Nat.mul_left_comm (2 ^ K), ← Nat.mul_assoc, Nat.mul_comm (2 ^ K)]
    have e2 : p * 2 ^ tfN p q * (q * 2 ^ nearS K p q) = p * q * 2 ^ (nearS K p q + tfN p q) := by
      rw [Nat.pow_add, Nat.mul_assoc, Nat.mul_left_comm (2 ^ tfN p q), ← Nat.mul_assoc, Nat.mul_comm (2 ^ tfN p q)]
    rw [e1, e2, hk]
  rw [h3, rn_two hq hk1]
  by_cases h : tfUp p q
  · rw [if_pos h]; exact if_pos h
  · rw [if_neg h]; exact if_neg h
end

end Go.Proofs.YtfgnleoaibcegaaGreat.Rg

namespace Go.Proofs.YtfgnleoaibcegaaGreat.Rg

open Go.RowKit

section

variable {P : Program} {ops : Array Oper} {Q : Exit → Act → World → Prop} {a0 : Act} {M : List Nat} {W : World} {rels : List Rel} {i : Nat} {o : Oper} {N d : Nat} {x y : Operand}
theorem zB2min {u v z : Value} {ts : Array TypeId} (hz : a0.tmps.size = N) (hop : o.op = .call { callee := .builtin .min, args := #[x, y], argTypes := ts }) (s1 : Src ops a0 M W rels i o x (tV u)) (s2 : Src ops a0 M W rels i o y (tV v)) (h : ∀ w, (Builtin.min2 u v).run P w = .ok z w) (g : Gd ops a0 M W rels i o true := by exact Gd.none_ rfl)
    (ho : ops[i]? = some o := by rfl) (hr : rels[i]? = some (rT (tV z)) := by rfl) (hd : o.dst = some d := by rfl) (hlt : decide (d < N) = true := by rfl) : StepOk P ops a0 M W Q rels i o :=
  sOp ho hr hd hz hlt g fun a γ w U => by
    have e1 : a.eval x = u := s1 a γ w U
    have e2 : a.eval y = v := s2 a γ w U
    refine ⟨z, ?_, rfl⟩
    generalize a.eval = ρ at e1 e2 ⊢
    unfold execOp; rw [hop]; simp [go_sem, e1, e2, Builtin.min_, h]
theorem zB2max {u v z : Value} {ts : Array TypeId} (hz : a0.tmps.size = N) (hop : o.op = .call { callee := .builtin .max, args := #[x, y], argTypes := ts }) (s1 : Src ops a0 M W rels i o x (tV u)) (s2 : Src ops a0 M W rels i o y (tV v)) (h : ∀ w, (Builtin.max2 u v).run P w = .ok z w) (g : Gd ops a0 M W rels i o true := by exact Gd.none_ rfl)
    (ho : ops[i]? = some o := by rfl) (hr : rels[i]? = some (rT (tV z)) := by rfl) (hd : o.dst = some d := by rfl) (hlt : decide (d < N) = true := by rfl) : StepOk P ops a0 M W Q rels i o :=
  sOp ho hr hd hz hlt g fun a γ w U => by
    have e1 : a.eval x = u := s1 a γ w U
    have e2 : a.eval y = v := s2 a γ w U
    refine ⟨z, ?_, rfl⟩
    generalize a.eval = ρ at e1 e2 ⊢
    unfold execOp; rw [hop]; simp [go_sem, e1, e2, Builtin.max_, h]
end
theorem run_min2 {a b c : Int} (h : c = if b < a then b else a) (w : World) : (Builtin.min2 (.int .i64 a) (.int .i64 b)).run Tryz.prog w = .ok (.int .i64 c) w := by
  rw [h]; simp [go_sem, Builtin.min2]
theorem run_max2 {a b c : Int} (h : c = if b > a then b else a) (w : World) : (Builtin.max2 (.int .i64 a) (.int .i64 b)).run Tryz.prog w = .ok (.int .i64 c) w := by
  rw [h]; simp [go_sem, Builtin.max2]
theorem pow_fitL {n L : Nat} (hn : n < L) (hL : L ≤ 3000000) : ∀ v w, (tN B64 (1 + 16777216) (leftV 1 (n : Int))).p v w → (tN B64 L (2 ^ n)).p v w := by
  rintro v w ⟨A, m, c, e, hd, hm⟩
  have h1 : leftV 1 (n : Int) = 2 ^ n := by
    unfold leftV
    rw [if_neg (by omega)]
    have : leftOk 1 (n : Int) = true := by unfold leftOk; simp; omega
    rw [if_pos this]; simp
  rw [h1] at hd
  refine ⟨A, m, c, e, hd, hd.le (by decide) ?_⟩
  exact Nat.lt_of_lt_of_le (Nat.pow_lt_pow_right (by decide) hn) (Nat.pow_le_pow_left (by decide) L)
def flN (n : Nat) : Nat := if n < 9218868437227405312 then n else 0
def nE (s : Nat) : Int := (s : Int) - 1074
section

variable {l l1 x : Nat} {v1 : Value} {w : World}
theorem c_right_nat {k : Nat} (h1 : (tN B64 l1 x).p v1 w) (b1 : l1 ≤ big) (hk : k ≤ 9223372036854775807) : Calls Tryz.prog 46 #[v1, .int .i64 ((k : Nat) : Int)] w (Ret (tN B64 l1 (x / 2 ^ k)) w) := c_right h1 b1 (i := (k : Int)) (by omega)
theorem c_right53 (hz : x = 9007199254740992) (h1 : (tN B64 l1 x).p v1 w) (b1 : l1 ≤ big) : Calls Tryz.prog 46 #[v1, .int .i64 1] w (Ret (tN B64 l1 4503599627370496) w) := by
  have := c_right_nat (k := 1) h1 b1 (by decide)
  rw [hz] at this; exact this
theorem c_uint_lt (hx : x ≤ 9007199254740992) (h1 : (tN B64 l1 x).p v1 w) (b1 : l1 ≤ big) : Calls Tryz.prog 101 #[v1] w (Ret (tT [tV (.int .u64 ((x : Nat) : Int)), tV (.bool true)]) w) := by
  have hb : x < B64 := Nat.lt_of_le_of_lt hx (by decide)
  have e1 : uintOf x = x := by unfold uintOf; rw [if_pos hb]
  have e2 : fitsU x = true := by unfold fitsU; simpa using hb
  have := c_uint h1 b1
  rw [e1, e2] at this; exact this
theorem c_bit0 (h1 : (tN B64 l1 x).p v1 w) (b1 : l1 ≤ big) : Calls Tryz.prog 49 #[v1, .int .i64 0] w (Ret (tV (.bool (decide (x % 2 = 1)))) w) := by
  have e : bitOf x 0 = decide (x % 2 = 1) := by unfold bitOf; simp [Nat.testBit_zero]
  have := c_bit h1 b1 (i := 0) (by decide)
  rw [e] at this; exact this
end
theorem f_n54 {h : Nat} {ox oy : Operand} {id : TypeId} (hh : h ≤ 9007199254740992) (w : World) : (do eqGuard .eql id ox oy (.int .i64 ((bl h : Nat) : Int)) (.int .i64 54); binOp .eql id (.int .i64 ((bl h : Nat) : Int)) (.int .i64 54) : Sem Value).run Tryz.prog w = .ok (.bool (decide (h = 9007199254740992))) w := by
  have e : decide (((bl h : Nat) : Int) = 54) = decide (h = 9007199254740992) := by
    rw [decide_eq_decide]
    constructor
    · intro h1
      have h0 : h ≠ 0 := fun e => by rw [e, bl_zero] at h1; omega
      have h2 := bl_bounds (x := h) (Nat.pos_of_ne_zero h0)
      have h3 : bl h = 54 := by omega
      rw [h3] at h2
      have : (2 : Nat) ^ (54 - 1) = 9007199254740992 := rfl
      omega
    · intro h1; rw [h1]; rfl
  rw [← e]
  simp [go_sem]
  by_cases hc : bl h = 54
  · simp [hc]
  · have : ¬ ((bl h : Nat) : Int) = 54 := by omega
    simp [hc, this]
theorem f_nE1 {s : Nat} {ox oy : Operand} {id : TypeId} (hs : s ≤ 10000000) (w : World) : (do eqGuard .add id ox oy (.int .i64 (nE s)) (.int .i64 1); binOp .add id (.int .i64 (nE s)) (.int .i64 1) : Sem Value).run Tryz.prog w = .ok (.int .i64 (nE (s + 1))) w := by
  have e : IntKind.i64.wrap (nE s + 1) = nE (s + 1) := by unfold nE; rw [IntKind.wrap_i64]; omega
  simp [go_sem, e]
theorem f_nh0 {h : Nat} {ox oy : Operand} {id : TypeId}  (w : World) : (do eqGuard .gtr id ox oy (.int .u64 ((h : Nat) : Int)) (.int .u64 0); binOp .gtr id (.int .u64 ((h : Nat) : Int)) (.int .u64 0) : Sem Value).run Tryz.prog w = .ok (.bool (decide (0 < h))) w := by
  simp [go_sem]
theorem f_n52 {h : Nat} {ox oy : Operand} {id : TypeId}  (w : World) : (do eqGuard .lss id ox oy (.int .u64 ((h : Nat) : Int)) (.int .u64 4503599627370496); binOp .lss id (.int .u64 ((h : Nat) : Int)) (.int .u64 4503599627370496) : Sem Value).run Tryz.prog w = .ok (.bool (decide (h < 4503599627370496))) w := by
  have e : decide (((h : Nat) : Int) < 4503599627370496) = decide (h < 4503599627370496) := by rw [decide_eq_decide]; omega
  rw [← e]
  simp [go_sem]
theorem f_n52y {h : Nat} {ox oy : Operand} {id : TypeId} (h0 : ¬ 0 < h) (w : World) : (do eqGuard .lss id ox oy (.int .u64 ((h : Nat) : Int)) (.int .u64 4503599627370496); binOp .lss id (.int .u64 ((h : Nat) : Int)) (.int .u64 4503599627370496) : Sem Value).run Tryz.prog w = .ok (.bool true) w := by
  have := f_n52 (h := h) (ox := ox) (oy := oy) (id := id) w
  rw [this, decide_eq_true (by omega)]
theorem f_n52n {ox oy : Operand} {id : TypeId}  (w : World) : (do eqGuard .lss id ox oy (.int .u64 ((4503599627370496 : Nat) : Int)) (.int .u64 4503599627370496); binOp .lss id (.int .u64 ((4503599627370496 : Nat) : Int)) (.int .u64 4503599627370496) : Sem Value).run Tryz.prog w = .ok (.bool false) w := by
  have := f_n52 (h := 4503599627370496) (ox := ox) (oy := oy) (id := id) w
  rw [this, decide_eq_false (by omega)]
theorem f_nlow {s h : Nat} {ox oy : Operand} {id : TypeId} (hs : 4503599627370496 ≤ h ∨ s = 0) (h1 : h < 4503599627370496) (w : World) : (do eqGuard .gtr id ox oy (.int .i64 (nE s)) (.int .i64 (-1074)); binOp .gtr id (.int .i64 (nE s)) (.int .i64 (-1074)) : Sem Value).run Tryz.prog w = .ok (.bool false) w := by
  have e : ¬ (-1074 : Int) < nE s := by unfold nE; omega
  simp [go_sem, e]
theorem f_nhi {s : Nat} {ox oy : Operand} {id : TypeId}  (w : World) : (do eqGuard .gtr id ox oy (.int .i64 (nE s)) (.int .i64 971); binOp .gtr id (.int .i64 (nE s)) (.int .i64 971) : Sem Value).run Tryz.prog w = .ok (.bool (decide (2046 ≤ s))) w := by
  have e : decide ((971 : Int) < nE s) = decide (2046 ≤ s) := by rw [decide_eq_decide]; unfold nE; omega
  rw [← e]
  simp [go_sem]
theorem f_nand {h : Nat} {ox oy : Operand} {id : TypeId} (h1 : 4503599627370496 ≤ h) (h2 : h < 9007199254740992) (w : World) : (do eqGuard .and id ox oy (.int .u64 ((h : Nat) : Int)) (.int .u64 4503599627370495); binOp .and id (.int .u64 ((h : Nat) : Int)) (.int .u64 4503599627370495) : Sem Value).run Tryz.prog w = .ok (.int .u64 ((h - 4503599627370496 : Nat) : Int)) w := by
  have := and_u64 h 52 (by omega) (by omega)
  have e : (((2 ^ 52 - 1 : Nat)) : Int) = 4503599627370495 := rfl
  rw [e] at this
  have e2 : h % 2 ^ 52 = h - 4503599627370496 := by have : (2 : Nat) ^ 52 = 4503599627370496 := rfl; omega
  rw [e2] at this
  rw [← this]
  simp [go_sem]
theorem f_n1075 {s : Nat} {ox oy : Operand} {id : TypeId} (hs : ¬ 2046 ≤ s) (w : World) : (do eqGuard .add id ox oy (.int .i64 (nE s)) (.int .i64 1075); binOp .add id (.int .i64 (nE s)) (.int .i64 1075) : Sem Value).run Tryz.prog w = .ok (.int .i64 ((s + 1 : Nat) : Int)) w := by
  have e : IntKind.i64.wrap (nE s + 1075) = ((s + 1 : Nat) : Int) := by unfold nE; rw [IntKind.wrap_i64]; omega
  simp [go_sem, e]
theorem f_nshl {s : Nat} {ox oy : Operand} {id : TypeId} (hs : s ≤ 2046) (w : World) : (do eqGuard .shl id ox oy (.int .u64 ((s : Nat) : Int)) (.int .u64 52); binOp .shl id (.int .u64 ((s : Nat) : Int)) (.int .u64 52) : Sem Value).run Tryz.prog w = .ok (.int .u64 ((s * 4503599627370496 : Nat) : Int)) w := by
  have e : IntKind.u64.wrap ((s : Int) * 4503599627370496) = (s : Int) * 4503599627370496 := by
    rw [IntKind.wrap_u64]; omega
  simp [go_sem, e]
theorem f_nor {s m : Nat} {ox oy : Operand} {id : TypeId} (hs : s ≤ 2046) (hm : m < 4503599627370496) (w : World) : (do eqGuard .or id ox oy (.int .u64 ((m : Nat) : Int)) (.int .u64 ((s * 4503599627370496 : Nat) : Int)); binOp .or id (.int .u64 ((m : Nat) : Int)) (.int .u64 ((s * 4503599627370496 : Nat) : Int)) : Sem Value).run Tryz.prog w = .ok (.int .u64 ((s * 4503599627370496 + m : Nat) : Int)) w := by
  have h1 : (BitVec.ofInt 64 (m : Int)).toNat = m := by rw [BitVec.ofInt_natCast, BitVec.toNat_ofNat]; exact Nat.mod_eq_of_lt (by omega)
  have h2 : (BitVec.ofInt 64 ((s * 4503599627370496 : Nat) : Int)).toNat = s * 4503599627370496 := by rw [BitVec.ofInt_natCast, BitVec.toNat_ofNat]; exact Nat.mod_eq_of_lt (by omega)
  have h3 : m ||| s * 4503599627370496 = s * 4503599627370496 + m := by
    have := Nat.two_pow_add_eq_or_of_lt (i := 52) (b := m) (by simpa using hm) s
    rw [Nat.or_comm, Nat.mul_comm s]; simpa using this.symm
  have e : bits .or .u64 (m : Int) ((s * 4503599627370496 : Nat) : Int) = ((s * 4503599627370496 + m : Nat) : Int) := by
    show IntKind.u64.wrap ((BitVec.ofInt 64 (m : Int) ||| BitVec.ofInt 64 ((s * 4503599627370496 : Nat) : Int)).toNat : Int) = _
    rw [BitVec.toNat_or, h1, h2, h3, IntKind.wrap_u64]
    omega
  rw [← e]
  simp [go_sem]
set_option maxRecDepth 10000 in
set_option maxHeartbeats 2000000 in
theorem c_powerL {n L : Nat} {w : World}  (hn : n < L) (hL : L ≤ 3000000) :
    Calls Tryz.prog 44 #[.int .i64 (n : Int)] w (Ret (tN B64 L (2 ^ n)) w) := by
 refine enter Tryz.func44 rfl Tryz.ntmps44 (by simp) ?_
 intro a hz hd ha
 have S0 := ha 0 _ rfl
 clear ha
 have HB : Below w.heap.size w w := Below.refl _ _
 refine wp_seq ?_
 refine rt [rB 0 26 (tN B64 0 0) none 0] hz hd ?_ ?_
 refine ⟨?_, trivial⟩
 exact zNew hz (fun _ => tN_nil) al_n64
 clear hz hd
 intro a' γ' W' hz hd hC hk hh
 replace S0 := kp hk S0
 obtain ⟨p1, S2, Cp1, lp1, gp1⟩ := gotB hz 0 hC hh rfl rfl rfl rfl rfl rfl
 have bp1 := Nat.le_trans HB.size lp1
 clear lp1 gp1
 replace HB := aB HB hC
 clear hC hk hh
 refine wp_seq ?_
 refine rt [rT (tN B64 1 1), rV (.int .i64 (n : Int)), rT (tT [tN B64 16777217 (leftV 1 (n : Int)), tV (.bool (leftOk 1 (n : Int)))]), rT (tT [tN B64 16777217 (leftV 1 (n : Int)), tV (.bool (leftOk 1 (n : Int)))]), rT (tN B64 16777217 (leftV 1 (n : Int))), rV (.bool (leftOk 1 (n : Int))), rVar 6 26 1, rB 6 26 (tN B64 16777217 (leftV 1 (n : Int))) (some 6) 7, rV (.bool (leftOk 1 (n : Int)))] hz hd ?_ ?_
 refine ⟨?_, ?_, ?_, ?_, ?_, ?_, ?_, ?_, ?_, trivial⟩
 exact zC0 hz Tryz.func51 (fun _ => c_num1)
 exact zMv hz (sv S0)
 exact zC2 hz Tryz.func87 (sd 0 rfl) (sd 1 rfl) (k01 (fun _ _ h0 => c_left (k := (n : Int)) h0 (by decide) (by omega) (by omega)))
 exact zMv hz (sd 2 rfl)
 exact zExt hz (sd 3 rfl)
 exact zExt hz (sd 3 rfl)
 exact zAl hz nd_slice al_n64
 exact zSt (sd 4 rfl) st_n64
 exact zAs hz (sd 5 rfl)
 clear hz hd
 intro a' γ' W' hz hd hC hk hh
 have ep1 := Cp1.lt
 have tp1 := Cp1.lt
 replace Cp1 := kC hC Cp1
 clear S0
 replace S2 := kp hk S2
 obtain ⟨p2, S3, Cp2, lp2, gp2⟩ := gotB hz 7 hC hh rfl rfl rfl rfl rfl rfl
 have n_p2_p1 : p2 ≠ p1 := by omega
 have n_p1_p2 : p1 ≠ p2 := by have := ep1; omega
 have bp2 := Nat.le_trans HB.size lp2
 clear lp2 gp2
 clear tp1
 clear ep1
 replace HB := aB HB hC
 clear hC hk hh
 refine wp_seq ?_
 refine region_text (M := [p1]) [rT (tN B64 16777217 (leftV 1 (n : Int))), rE 0 26 (tN B64 16777217 (leftV 1 (n : Int))) p1] hz hd (by kernel_rfl) ?_ ?_
 refine ⟨?_, ?_, trivial⟩
 exact zLd hz (sv S3) Cp2 ld_n64 (by simp [tagOf, n_p2_p1])
 exact zSE rfl (sv S2) (by simp [tagOf]) (Cp1.var tN_nd) (sd 0 rfl) st_n64
 clear hz hd
 intro a' γ' W' hz hd hC hk hh
 replace Cp1 := gotE (T := tN B64 16777217 (leftV 1 (n : Int))) (id := 26) (p := p1) 1 hh rfl rfl
 have tp2 := Cp2.lt
 clear Cp2
 replace S2 := kp hk S2
 clear S3
 clear tp2
 replace HB := aM HB hC
 clear hC hk hh
 refine wp_ret ?_
 refine ret_to (T := tN B64 16777217 (leftV 1 (n : Int))) (ret1_n64 (by kernel_rfl) S2 hd Cp1 HB) ?_
 exact pow_fitL hn hL

set_option maxRecDepth 10000 in
set_option maxHeartbeats 2000000 in
theorem c_number {l s h : Nat} {v0 : Value} {w : World} (h0 : (tN B64 l h).p v0 w) (hl : l ≤ 3000000) (hH : h ≤ 9007199254740992) (hs : 4503599627370496 ≤ h ∨ s = 0) (hs1 : s ≤ 10000000) :
    Calls Tryz.prog 52 #[v0, .int .i64 (nE s)] w (Ret (tT [tV (.float .f64 (flN (s * 4503599627370496 + h))), tV (.bool (decide (s * 4503599627370496 + h < 9218868437227405312)))]) w) := by
 refine enter Tryz.func52 rfl Tryz.ntmps52 (by simp) ?_
 intro a hz hd ha
 have S0 := ha 0 _ rfl
 have H0 := h0
 have S1 := ha 1 _ rfl
 clear ha
 have HB : Below w.heap.size w w := Below.refl _ _
 refine wp_seq ?_
 refine rt [rB 0 26 (tN B64 l h) none 0, rV (.float FloatKind.f64 0), rV (.bool false)] hz hd ?_ ?_
 refine ⟨?_, ?_, ?_, trivial⟩
 exact zBox hz (so S0 H0) box_n64
 exact zAs hz kc
 exact zAs hz kc
 clear hz hd
 intro a' γ' W' hz hd hC hk hh
 clear S0 H0
 replace S1 := kp hk S1
 obtain ⟨p1, S2, Cp1, lp1, gp1⟩ := gotB hz 0 hC hh rfl rfl rfl rfl rfl rfl
 have S4 := gV hz 1 hh
 have S5 := gV hz 2 hh
 have bp1 := Nat.le_trans HB.size lp1
 clear lp1 gp1
 replace HB := aB HB hC
 clear hC hk hh
 refine wp_seq ?_
 refine wp_seq ?_
 refine rt [rT (tN B64 l h), rV (.int .i64 ((bl h : Nat) : Int)), rV (.bool (decide (h = 9007199254740992)))] hz hd ?_ ?_
 refine ⟨?_, ?_, ?_, trivial⟩
 exact zLd hz (sv S2) Cp1 ld_n64
 exact zC1 hz Tryz.func42 (sd 0 rfl) (fun _ _ h0 => c_len h0 (by rw [big_eq]; omega))
 exact sBin rfl rfl rfl hz rfl (Gd.none_ rfl) rfl (sd 1 rfl) kc (fun w => f_n54 hH w)
 clear hz hd
 intro a' γ' W' hz hd hC hk hh
 have tp1 := Cp1.lt
 replace Cp1 := kC hC Cp1
 replace S1 := kp hk S1
 replace S2 := kp hk S2
 replace S4 := kp hk S4
 replace S5 := kp hk S5
 have S10 := gV hz 2 hh
 clear tp1
 replace HB := aB HB hC
 clear hC hk hh
 by_cases hc2 : h = 9007199254740992
 rw [decide_eq_true hc2] at S10
 refine wp_cond_true S10.ev ?_
 refine region_text (M := [p1]) [rT (tN B64 l h), rT (tN B64 l 4503599627370496), rV (.int .i64 (nE s)), rV (.int .i64 (nE (s + 1))), rE 0 26 (tN B64 l 4503599627370496) p1, rV (.int .i64 (nE (s + 1)))] hz hd (by kernel_rfl) ?_ ?_
 refine ⟨?_, ?_, ?_, ?_, ?_, ?_, trivial⟩
 exact sLoadM rfl rfl rfl hz rfl (Gd.none_ rfl) rfl (sv S2) Cp1 (k := 0) (by simp [tagOf]) (by kernel_rfl) ld_n64
 exact zC2 hz Tryz.func46 (sd 0 rfl) (kc (v := .int .i64 1)) (k01 (fun _ _ h0 => c_right53 hc2 h0 (by rw [big_eq]; omega)))
 exact zMv hz (sv S1)
 exact sBin rfl rfl rfl hz rfl (Gd.none_ rfl) rfl (sd 2 rfl) kc (fun w => f_nE1 hs1 w)
 exact zSE rfl (sv S2) (by simp [tagOf]) (Cp1.var tN_nd) (sd 1 rfl) st_n64
 exact zAs hz (sd 3 rfl)
 clear hz hd
 intro a' γ' W' hz hd hC hk hh
 replace Cp1 := gotE (T := tN B64 l 4503599627370496) (id := 26) (p := p1) 4 hh rfl rfl
 clear S1
 replace S2 := kp hk S2
 replace S4 := kp hk S4
 replace S5 := kp hk S5
 clear S10
 have S1 := gV hz 5 hh
 replace HB := aM HB hC
 clear hC hk hh
 refine wp_seq ?_
 refine rt [rT (tN B64 l 4503599627370496), rT (tT [tV (.int .u64 ((4503599627370496 : Nat) : Int)), tV (.bool true)]), rT (tT [tV (.int .u64 ((4503599627370496 : Nat) : Int)), tV (.bool true)]), rV (.int .u64 ((4503599627370496 : Nat) : Int)), rV (.bool true), rV (.int .u64 ((4503599627370496 : Nat) : Int)), rV (.bool true)] hz hd ?_ ?_
 refine ⟨?_, ?_, ?_, ?_, ?_, ?_, ?_, trivial⟩
 exact zLd hz (sv S2) Cp1 ld_n64
 exact zC1 hz Tryz.func101 (sd 0 rfl) (fun _ _ h0 => c_uint_lt (by decide) h0 (by rw [big_eq]; omega))
 exact zMv hz (sd 1 rfl)
 exact zExt hz (sd 2 rfl)
 exact zExt hz (sd 2 rfl)
 exact zAs hz (sd 3 rfl)
 exact zAs hz (sd 4 rfl)
 clear hz hd
 intro a' γ' W' hz hd hC hk hh
 have tp1 := Cp1.lt
 clear Cp1
 clear S2
 replace S4 := kp hk S4
 replace S5 := kp hk S5
 replace S1 := kp hk S1
 have S6 := gV hz 5 hh
 clear tp1
 replace HB := aB HB hC
 clear hC hk hh
 refine wp_seq ?_
 refine wp_block ?_
 refine wp_loop_rounds 4 ?_
 show Code.wp _ _ _ _ _
 refine wp_seq ?_
 refine wp_seq ?_
 refine rt [rV (.int .u64 ((4503599627370496 : Nat) : Int)), rV (.bool true), rV (.bool true), rV (.int .u64 ((4503599627370496 : Nat) : Int)), rV (.bool false), rV (.bool false), rV (.bool false), rV undef, rV undef, rV (.bool false)] hz hd ?_ ?_
 refine ⟨?_, ?_, ?_, ?_, ?_, ?_, ?_, ?_, ?_, ?_, trivial⟩
 exact zMv hz (sv S6)
 exact sBin rfl rfl rfl hz rfl (Gd.none_ rfl) rfl (sd 0 rfl) kc (fun w => by kernel_rfl)
 exact zMv hz (sd 1 rfl)
 exact zMv hz (sv S6) (g := gT 2 rfl)
 exact sBin rfl rfl rfl hz rfl (gT 2 rfl) rfl (sd 3 rfl) kc (fun w => f_n52n w)
 exact zPT hz (sd 2 rfl) (sd 4 rfl)
 exact zMv hz (sd 5 rfl)
 exact zSkU hz (gN 6 rfl)
 exact zSkU hz (gN 6 rfl)
 exact zPF hz (sd 6 rfl) kc
 clear hz hd
 intro a' γ' W' hz hd hC hk hh
 replace S4 := kp hk S4
 replace S5 := kp hk S5
 replace S1 := kp hk S1
 replace S6 := kp hk S6
 have S29 := gV hz 9 hh
 replace HB := aB HB hC
 clear hC hk hh
 refine wp_cond_false S29.ev ?_
 refine wp_exit ?_
 refine wp_seq ?_
 refine wp_block ?_
 refine wp_seq ?_
 refine rt [rV (.int .i64 (nE (s + 1))), rV (.bool (decide (2046 ≤ s + 1))), rV (.bool (decide (2046 ≤ s + 1)))] hz hd ?_ ?_
 refine ⟨?_, ?_, ?_, trivial⟩
 exact zMv hz (sv S1)
 exact sBin rfl rfl rfl hz rfl (Gd.none_ rfl) rfl (sd 0 rfl) kc (fun w => f_nhi w)
 exact zAs hz (sd 1 rfl)
 clear hz hd
 intro a' γ' W' hz hd hC hk hh
 replace S4 := kp hk S4
 replace S5 := kp hk S5
 replace S1 := kp hk S1
 replace S6 := kp hk S6
 clear S29
 have S34 := gV hz 2 hh
 replace HB := aB HB hC
 clear hC hk hh
 by_cases hc3 : 2046 ≤ s + 1
 rw [decide_eq_true hc3] at S34
 refine wp_cond_true S34.ev ?_
 refine wp_seq ?_
 refine rt [rV (.float FloatKind.f64 0), rV (.bool false)] hz hd ?_ ?_
 refine ⟨?_, ?_, trivial⟩
 exact zAs hz kc
 exact zAs hz kc
 clear hz hd
 intro a' γ' W' hz hd hC hk hh
 clear S4
 clear S5
 replace S1 := kp hk S1
 replace S6 := kp hk S6
 clear S34
 have S4 := gV hz 0 hh
 have S5 := gV hz 1 hh
 replace HB := aB HB hC
 clear hC hk hh
 refine wp_ret ?_
 refine ret_to (T := tT [tV (.float FloatKind.f64 0), tV (.bool false)]) (rett2 (by kernel_rfl) S4 S5 hd HB) ?_
 exact to2 (tV_to (congrArg (Value.float .f64) (by have x0 := hc2; have x1 := hc3; unfold flN; rw [if_neg (by omega)]))) (tV_to (congrArg Value.bool (by have x0 := hc2; have x1 := hc3; rw [decide_eq_false (by omega)])))
 rw [decide_eq_false hc3] at S34
 refine wp_cond_false S34.ev ?_
 refine wp_seq ?_
 refine rt [rV (.int .u64 ((4503599627370496 : Nat) : Int)), rV (.bool false), rV (.bool false)] hz hd ?_ ?_
 refine ⟨?_, ?_, ?_, trivial⟩
 exact zMv hz (sv S6)
 exact sBin rfl rfl rfl hz rfl (Gd.none_ rfl) rfl (sd 0 rfl) kc (fun w => f_n52n w)
 exact zAs hz (sd 1 rfl)
 clear hz hd
 intro a' γ' W' hz hd hC hk hh
 replace S4 := kp hk S4
 replace S5 := kp hk S5
 replace S1 := kp hk S1
 replace S6 := kp hk S6
 clear S34
 have S37 := gV hz 2 hh
 replace HB := aB HB hC
 clear hC hk hh
 refine wp_cond_false S37.ev ?_
 refine wp_skip ?_
 refine wp_seq ?_
 refine rt [rV (.int .u64 ((4503599627370496 : Nat) : Int)), rV (.int .u64 ((4503599627370496 - 4503599627370496 : Nat) : Int)), rV (.int .i64 (nE (s + 1))), rV (.int .i64 ((s + 1 + 1 : Nat) : Int)), rV (.int .u64 (((((s + 1 + 1 : Nat) : Int)).toNat : Nat) : Int)), rV (.int .u64 ((((((s + 1 + 1 : Nat) : Int)).toNat) * 4503599627370496 : Nat) : Int)), rV (.int .u64 ((((((s + 1 + 1 : Nat) : Int)).toNat) * 4503599627370496 + (4503599627370496 - 4503599627370496) : Nat) : Int)), rV (.float .f64 (((((s + 1 + 1 : Nat) : Int)).toNat) * 4503599627370496 + (4503599627370496 - 4503599627370496))), rV (.float .f64 (((((s + 1 + 1 : Nat) : Int)).toNat) * 4503599627370496 + (4503599627370496 - 4503599627370496))), rV (.bool true)] hz hd ?_ ?_
 refine ⟨?_, ?_, ?_, ?_, ?_, ?_, ?_, ?_, ?_, ?_, trivial⟩
 exact zMv hz (sv S6)
 exact sBin rfl rfl rfl hz rfl (Gd.none_ rfl) rfl (sd 0 rfl) kc (fun w => f_nand (by decide) (by decide) w)
 exact zMv hz (sv S1)
 exact sBin rfl rfl rfl hz rfl (Gd.none_ rfl) rfl (sd 2 rfl) kc (fun w => f_n1075 hc3 w)
 exact sConv (T' := tV (.int .i64 ((s + 1 + 1 : Nat) : Int))) rfl rfl rfl hz rfl (Gd.none_ rfl) rfl (sd 3 rfl) (fun v_ w_ h_ => by have h_ : v_ = .int .i64 ((s + 1 + 1 : Nat) : Int) := h_; subst h_; exact ⟨_, by simp [go_sem, IntKind.wrap_u64]; omega, rfl⟩)
 exact sBin rfl rfl rfl hz rfl (Gd.none_ rfl) rfl (sd 4 rfl) kc (fun w => f_nshl (by omega) w)
 exact sBin rfl rfl rfl hz rfl (Gd.none_ rfl) rfl (sd 1 rfl) (sd 5 rfl) (fun w => f_nor (by omega) (by omega) w)
 exact zC1 hz Tryz.func32 (sd 6 rfl) (k1 (fun _ => c_float))
 exact zAs hz (sd 7 rfl)
 exact zAs hz kc
 clear hz hd
 intro a' γ' W' hz hd hC hk hh
 clear S4
 clear S5
 clear S1
 clear S6
 clear S37
 have S4 := gV hz 8 hh
 have S5 := gV hz 9 hh
 replace HB := aB HB hC
 clear hC hk hh
 refine wp_ret ?_
 refine ret_to (T := tT [tV (.float .f64 (((((s + 1 + 1 : Nat) : Int)).toNat) * 4503599627370496 + (4503599627370496 - 4503599627370496))), tV (.bool true)]) (rett2 (by kernel_rfl) S4 S5 hd HB) ?_
 exact to2 (tV_to (congrArg (Value.float .f64) (by have x0 := hc2; have x1 := hc3; unfold flN; rw [if_pos (by omega)]; omega))) (tV_to (congrArg Value.bool (by have x0 := hc2; have x1 := hc3; rw [decide_eq_true (by omega)])))
 rw [decide_eq_false hc2] at S10
 refine wp_cond_false S10.ev ?_
 refine wp_skip ?_
 refine wp_seq ?_
 refine rt [rT (tN B64 l h), rT (tT [tV (.int .u64 ((h : Nat) : Int)), tV (.bool true)]), rT (tT [tV (.int .u64 ((h : Nat) : Int)), tV (.bool true)]), rV (.int .u64 ((h : Nat) : Int)), rV (.bool true), rV (.int .u64 ((h : Nat) : Int)), rV (.bool true)] hz hd ?_ ?_
 refine ⟨?_, ?_, ?_, ?_, ?_, ?_, ?_, trivial⟩
 exact zLd hz (sv S2) Cp1 ld_n64
 exact zC1 hz Tryz.func101 (sd 0 rfl) (fun _ _ h0 => c_uint_lt hH h0 (by rw [big_eq]; omega))
 exact zMv hz (sd 1 rfl)
 exact zExt hz (sd 2 rfl)
 exact zExt hz (sd 2 rfl)
 exact zAs hz (sd 3 rfl)
 exact zAs hz (sd 4 rfl)
 clear hz hd
 intro a' γ' W' hz hd hC hk hh
 have tp1 := Cp1.lt
 clear Cp1
 replace S1 := kp hk S1
 clear S2
 replace S4 := kp hk S4
 replace S5 := kp hk S5
 clear S10
 have S6 := gV hz 5 hh
 clear tp1
 replace HB := aB HB hC
 clear hC hk hh
 refine wp_seq ?_
 refine wp_block ?_
 refine wp_loop_rounds 4 ?_
 show Code.wp _ _ _ _ _
 refine wp_seq ?_
 refine wp_seq ?_
 by_cases hc4 : 0 < h
 by_cases hc5 : h < 4503599627370496
 refine rt [rV (.int .u64 ((h : Nat) : Int)), rV (.bool true), rV (.bool true), rV (.int .u64 ((h : Nat) : Int)), rV (.bool true), rV (.bool true), rV (.bool true), rV (.int .i64 (nE s)), rV (.bool false), rV (.bool false)] hz hd ?_ ?_
 refine ⟨?_, ?_, ?_, ?_, ?_, ?_, ?_, ?_, ?_, ?_, trivial⟩
 exact zMv hz (sv S6)
 exact sBin rfl rfl rfl hz rfl (Gd.none_ rfl) rfl (sd 0 rfl) kc (fun w => run_t (P := 0 < h) ((fun w => f_nh0 w) w) hc4)
 exact zMv hz (sd 1 rfl)
 exact zMv hz (sv S6) (g := gT 2 rfl)
 exact sBin rfl rfl rfl hz rfl (gT 2 rfl) rfl (sd 3 rfl) kc (fun w => run_t (P := h < 4503599627370496) ((fun w => f_n52 w) w) hc5)
 exact zPT hz (sd 2 rfl) (sd 4 rfl)
 exact zMv hz (sd 5 rfl)
 exact zMv hz (sv S1) (g := gT 6 rfl)
 exact sBin rfl rfl rfl hz rfl (gT 6 rfl) rfl (sd 7 rfl) kc (fun w => f_nlow hs hc5 w)
 exact zPT hz (sd 6 rfl) (sd 8 rfl)
 clear hz hd
 intro a' γ' W' hz hd hC hk hh
 replace S1 := kp hk S1
 replace S4 := kp hk S4
 replace S5 := kp hk S5
 replace S6 := kp hk S6
 have S29 := gV hz 9 hh
 replace HB := aB HB hC
 clear hC hk hh
 refine wp_cond_false S29.ev ?_
 refine wp_exit ?_
 refine wp_seq ?_
 refine wp_block ?_
 refine wp_seq ?_
 refine rt [rV (.int .i64 (nE s)), rV (.bool (decide (2046 ≤ s))), rV (.bool (decide (2046 ≤ s)))] hz hd ?_ ?_
 refine ⟨?_, ?_, ?_, trivial⟩
 exact zMv hz (sv S1)
 exact sBin rfl rfl rfl hz rfl (Gd.none_ rfl) rfl (sd 0 rfl) kc (fun w => f_nhi w)
 exact zAs hz (sd 1 rfl)
 clear hz hd
 intro a' γ' W' hz hd hC hk hh
 replace S1 := kp hk S1
 replace S4 := kp hk S4
 replace S5 := kp hk S5
 replace S6 := kp hk S6
 clear S29
 have S34 := gV hz 2 hh
 replace HB := aB HB hC
 clear hC hk hh
 by_cases hc6 : 2046 ≤ s
 rw [decide_eq_true hc6] at S34
 refine wp_cond_true S34.ev ?_
 refine wp_seq ?_
 refine rt [rV (.float FloatKind.f64 0), rV (.bool false)] hz hd ?_ ?_
 refine ⟨?_, ?_, trivial⟩
 exact zAs hz kc
 exact zAs hz kc
 clear hz hd
 intro a' γ' W' hz hd hC hk hh
 replace S1 := kp hk S1
 clear S4
 clear S5
 replace S6 := kp hk S6
 clear S34
 have S4 := gV hz 0 hh
 have S5 := gV hz 1 hh
 replace HB := aB HB hC
 clear hC hk hh
 refine wp_ret ?_
 refine ret_to (T := tT [tV (.float FloatKind.f64 0), tV (.bool false)]) (rett2 (by kernel_rfl) S4 S5 hd HB) ?_
 exact to2 (tV_to (congrArg (Value.float .f64) (by have x0 := hc2; have x1 := hc4; have x2 := hc5; have x3 := hc6; unfold flN; rw [if_neg (by omega)]))) (tV_to (congrArg Value.bool (by have x0 := hc2; have x1 := hc4; have x2 := hc5; have x3 := hc6; rw [decide_eq_false (by omega)])))
 rw [decide_eq_false hc6] at S34
 refine wp_cond_false S34.ev ?_
 refine wp_seq ?_
 refine rt [rV (.int .u64 ((h : Nat) : Int)), rV (.bool true), rV (.bool true)] hz hd ?_ ?_
 refine ⟨?_, ?_, ?_, trivial⟩
 exact zMv hz (sv S6)
 exact sBin rfl rfl rfl hz rfl (Gd.none_ rfl) rfl (sd 0 rfl) kc (fun w => run_t (P := h < 4503599627370496) ((fun w => f_n52 w) w) hc5)
 exact zAs hz (sd 1 rfl)
 clear hz hd
 intro a' γ' W' hz hd hC hk hh
 replace S1 := kp hk S1
 replace S4 := kp hk S4
 replace S5 := kp hk S5
 replace S6 := kp hk S6
 clear S34
 have S37 := gV hz 2 hh
 replace HB := aB HB hC
 clear hC hk hh
 refine wp_cond_true S37.ev ?_
 refine wp_seq ?_
 refine rt [rV (.int .u64 ((h : Nat) : Int)), rV (.float .f64 h), rV (.float .f64 h), rV (.bool true)] hz hd ?_ ?_
 refine ⟨?_, ?_, ?_, ?_, trivial⟩
 exact zMv hz (sv S6)
 exact zC1 hz Tryz.func32 (sd 0 rfl) (k1 (fun _ => c_float))
 exact zAs hz (sd 1 rfl)
 exact zAs hz kc
 clear hz hd
 intro a' γ' W' hz hd hC hk hh
 replace S1 := kp hk S1
 clear S4
 clear S5
 replace S6 := kp hk S6
 clear S37
 have S4 := gV hz 2 hh
 have S5 := gV hz 3 hh
 replace HB := aB HB hC
 clear hC hk hh
 refine wp_ret ?_
 refine ret_to (T := tT [tV (.float .f64 h), tV (.bool true)]) (rett2 (by kernel_rfl) S4 S5 hd HB) ?_
 exact to2 (tV_to (congrArg (Value.float .f64) (by have x0 := hc2; have x1 := hc4; have x2 := hc5; have x3 := hc6; unfold flN; rw [if_pos (by omega)]; omega))) (tV_to (congrArg Value.bool (by have x0 := hc2; have x1 := hc4; have x2 := hc5; have x3 := hc6; rw [decide_eq_true (by omega)])))
 refine rt [rV (.int .u64 ((h : Nat) : Int)), rV (.bool true), rV (.bool true), rV (.int .u64 ((h : Nat) : Int)), rV (.bool false), rV (.bool false), rV (.bool false), rV undef, rV undef, rV (.bool false)] hz hd ?_ ?_
 refine ⟨?_, ?_, ?_, ?_, ?_, ?_, ?_, ?_, ?_, ?_, trivial⟩
 exact zMv hz (sv S6)
 exact sBin rfl rfl rfl hz rfl (Gd.none_ rfl) rfl (sd 0 rfl) kc (fun w => run_t (P := 0 < h) ((fun w => f_nh0 w) w) hc4)
 exact zMv hz (sd 1 rfl)
 exact zMv hz (sv S6) (g := gT 2 rfl)
 exact sBin rfl rfl rfl hz rfl (gT 2 rfl) rfl (sd 3 rfl) kc (fun w => run_f (P := h < 4503599627370496) ((fun w => f_n52 w) w) hc5)
 exact zPT hz (sd 2 rfl) (sd 4 rfl)
 exact zMv hz (sd 5 rfl)
 exact zSkU hz (gN 6 rfl)
 exact zSkU hz (gN 6 rfl)
 exact zPF hz (sd 6 rfl) kc
 clear hz hd
 intro a' γ' W' hz hd hC hk hh
 replace S1 := kp hk S1
 replace S4 := kp hk S4
 replace S5 := kp hk S5
 replace S6 := kp hk S6
 have S29 := gV hz 9 hh
 replace HB := aB HB hC
 clear hC hk hh
 refine wp_cond_false S29.ev ?_
 refine wp_exit ?_
 refine wp_seq ?_
 refine wp_block ?_
 refine wp_seq ?_
 refine rt [rV (.int .i64 (nE s)), rV (.bool (decide (2046 ≤ s))), rV (.bool (decide (2046 ≤ s)))] hz hd ?_ ?_
 refine ⟨?_, ?_, ?_, trivial⟩
 exact zMv hz (sv S1)
 exact sBin rfl rfl rfl hz rfl (Gd.none_ rfl) rfl (sd 0 rfl) kc (fun w => f_nhi w)
 exact zAs hz (sd 1 rfl)
 clear hz hd
 intro a' γ' W' hz hd hC hk hh
 replace S1 := kp hk S1
 replace S4 := kp hk S4
 replace S5 := kp hk S5
 replace S6 := kp hk S6
 clear S29
 have S34 := gV hz 2 hh
 replace HB := aB HB hC
 clear hC hk hh
 by_cases hc7 : 2046 ≤ s
 rw [decide_eq_true hc7] at S34
 refine wp_cond_true S34.ev ?_
 refine wp_seq ?_
 refine rt [rV (.float FloatKind.f64 0), rV (.bool false)] hz hd ?_ ?_
 refine ⟨?_, ?_, trivial⟩
 exact zAs hz kc
 exact zAs hz kc
 clear hz hd
 intro a' γ' W' hz hd hC hk hh
 replace S1 := kp hk S1
 clear S4
 clear S5
 replace S6 := kp hk S6
 clear S34
 have S4 := gV hz 0 hh
 have S5 := gV hz 1 hh
 replace HB := aB HB hC
 clear hC hk hh
 refine wp_ret ?_
 refine ret_to (T := tT [tV (.float FloatKind.f64 0), tV (.bool false)]) (rett2 (by kernel_rfl) S4 S5 hd HB) ?_
 exact to2 (tV_to (congrArg (Value.float .f64) (by have x0 := hc2; have x1 := hc4; have x2 := hc5; have x3 := hc7; unfold flN; rw [if_neg (by omega)]))) (tV_to (congrArg Value.bool (by have x0 := hc2; have x1 := hc4; have x2 := hc5; have x3 := hc7; rw [decide_eq_false (by omega)])))
 rw [decide_eq_false hc7] at S34
 refine wp_cond_false S34.ev ?_
 refine wp_seq ?_
 refine rt [rV (.int .u64 ((h : Nat) : Int)), rV (.bool false), rV (.bool false)] hz hd ?_ ?_
 refine ⟨?_, ?_, ?_, trivial⟩
 exact zMv hz (sv S6)
 exact sBin rfl rfl rfl hz rfl (Gd.none_ rfl) rfl (sd 0 rfl) kc (fun w => run_f (P := h < 4503599627370496) ((fun w => f_n52 w) w) hc5)
 exact zAs hz (sd 1 rfl)
 clear hz hd
 intro a' γ' W' hz hd hC hk hh
 replace S1 := kp hk S1
 replace S4 := kp hk S4
 replace S5 := kp hk S5
 replace S6 := kp hk S6
 clear S34
 have S37 := gV hz 2 hh
 replace HB := aB HB hC
 clear hC hk hh
 refine wp_cond_false S37.ev ?_
 refine wp_skip ?_
 refine wp_seq ?_
 refine rt [rV (.int .u64 ((h : Nat) : Int)), rV (.int .u64 ((h - 4503599627370496 : Nat) : Int)), rV (.int .i64 (nE s)), rV (.int .i64 ((s + 1 : Nat) : Int)), rV (.int .u64 (((((s + 1 : Nat) : Int)).toNat : Nat) : Int)), rV (.int .u64 ((((((s + 1 : Nat) : Int)).toNat) * 4503599627370496 : Nat) : Int)), rV (.int .u64 ((((((s + 1 : Nat) : Int)).toNat) * 4503599627370496 + (h - 4503599627370496) : Nat) : Int)), rV (.float .f64 (((((s + 1 : Nat) : Int)).toNat) * 4503599627370496 + (h - 4503599627370496))), rV (.float .f64 (((((s + 1 : Nat) : Int)).toNat) * 4503599627370496 + (h - 4503599627370496))), rV (.bool true)] hz hd ?_ ?_
 refine ⟨?_, ?_, ?_, ?_, ?_, ?_, ?_, ?_, ?_, ?_, trivial⟩
 exact zMv hz (sv S6)
 exact sBin rfl rfl rfl hz rfl (Gd.none_ rfl) rfl (sd 0 rfl) kc (fun w => f_nand (by have := hc5; omega) (by have := hc2; omega) w)
 exact zMv hz (sv S1)
 exact sBin rfl rfl rfl hz rfl (Gd.none_ rfl) rfl (sd 2 rfl) kc (fun w => f_n1075 hc7 w)
 exact sConv (T' := tV (.int .i64 ((s + 1 : Nat) : Int))) rfl rfl rfl hz rfl (Gd.none_ rfl) rfl (sd 3 rfl) (fun v_ w_ h_ => by have h_ : v_ = .int .i64 ((s + 1 : Nat) : Int) := h_; subst h_; exact ⟨_, by simp [go_sem, IntKind.wrap_u64]; omega, rfl⟩)
 exact sBin rfl rfl rfl hz rfl (Gd.none_ rfl) rfl (sd 4 rfl) kc (fun w => f_nshl (by omega) w)
 exact sBin rfl rfl rfl hz rfl (Gd.none_ rfl) rfl (sd 1 rfl) (sd 5 rfl) (fun w => f_nor (by omega) (by omega) w)
 exact zC1 hz Tryz.func32 (sd 6 rfl) (k1 (fun _ => c_float))
 exact zAs hz (sd 7 rfl)
 exact zAs hz kc
 clear hz hd
 intro a' γ' W' hz hd hC hk hh
 clear S1
 clear S4
 clear S5
 clear S6
 clear S37
 have S4 := gV hz 8 hh
 have S5 := gV hz 9 hh
 replace HB := aB HB hC
 clear hC hk hh
 refine wp_ret ?_
 refine ret_to (T := tT [tV (.float .f64 (((((s + 1 : Nat) : Int)).toNat) * 4503599627370496 + (h - 4503599627370496))), tV (.bool true)]) (rett2 (by kernel_rfl) S4 S5 hd HB) ?_
 exact to2 (tV_to (congrArg (Value.float .f64) (by have x0 := hc2; have x1 := hc4; have x2 := hc5; have x3 := hc7; unfold flN; rw [if_pos (by omega)]; omega))) (tV_to (congrArg Value.bool (by have x0 := hc2; have x1 := hc4; have x2 := hc5; have x3 := hc7; rw [decide_eq_true (by omega)])))
 refine rt [rV (.int .u64 ((h : Nat) : Int)), rV (.bool false), rV (.bool false), rV undef, rV undef, rV (.bool false), rV (.bool false), rV undef, rV undef, rV (.bool false)] hz hd ?_ ?_
 refine ⟨?_, ?_, ?_, ?_, ?_, ?_, ?_, ?_, ?_, ?_, trivial⟩
 exact zMv hz (sv S6)
 exact sBin rfl rfl rfl hz rfl (Gd.none_ rfl) rfl (sd 0 rfl) kc (fun w => run_f (P := 0 < h) ((fun w => f_nh0 w) w) hc4)
 exact zMv hz (sd 1 rfl)
 exact zSkU hz (gN 2 rfl)
 exact zSkU hz (gN 2 rfl)
 exact zPF hz (sd 2 rfl) kc
 exact zMv hz (sd 5 rfl)
 exact zSkU hz (gN 6 rfl)
 exact zSkU hz (gN 6 rfl)
 exact zPF hz (sd 6 rfl) kc
 clear hz hd
 intro a' γ' W' hz hd hC hk hh
 replace S1 := kp hk S1
 replace S4 := kp hk S4
 replace S5 := kp hk S5
 replace S6 := kp hk S6
 have S29 := gV hz 9 hh
 replace HB := aB HB hC
 clear hC hk hh
 refine wp_cond_false S29.ev ?_
 refine wp_exit ?_
 refine wp_seq ?_
 refine wp_block ?_
 refine wp_seq ?_
 refine rt [rV (.int .i64 (nE s)), rV (.bool (decide (2046 ≤ s))), rV (.bool (decide (2046 ≤ s)))] hz hd ?_ ?_
 refine ⟨?_, ?_, ?_, trivial⟩
 exact zMv hz (sv S1)
 exact sBin rfl rfl rfl hz rfl (Gd.none_ rfl) rfl (sd 0 rfl) kc (fun w => f_nhi w)
 exact zAs hz (sd 1 rfl)
 clear hz hd
 intro a' γ' W' hz hd hC hk hh
 replace S1 := kp hk S1
 replace S4 := kp hk S4
 replace S5 := kp hk S5
 replace S6 := kp hk S6
 clear S29
 have S34 := gV hz 2 hh
 replace HB := aB HB hC
 clear hC hk hh
 by_cases hc8 : 2046 ≤ s
 rw [decide_eq_true hc8] at S34
 refine wp_cond_true S34.ev ?_
 refine wp_seq ?_
 refine rt [rV (.float FloatKind.f64 0), rV (.bool false)] hz hd ?_ ?_
 refine ⟨?_, ?_, trivial⟩
 exact zAs hz kc
 exact zAs hz kc
 clear hz hd
 intro a' γ' W' hz hd hC hk hh
 replace S1 := kp hk S1
 clear S4
 clear S5
 replace S6 := kp hk S6
 clear S34
 have S4 := gV hz 0 hh
 have S5 := gV hz 1 hh
 replace HB := aB HB hC
 clear hC hk hh
 refine wp_ret ?_
 refine ret_to (T := tT [tV (.float FloatKind.f64 0), tV (.bool false)]) (rett2 (by kernel_rfl) S4 S5 hd HB) ?_
 exact to2 (tV_to (congrArg (Value.float .f64) (by have x0 := hc2; have x1 := hc4; have x2 := hc8; unfold flN; rw [if_neg (by omega)]))) (tV_to (congrArg Value.bool (by have x0 := hc2; have x1 := hc4; have x2 := hc8; rw [decide_eq_false (by omega)])))
 rw [decide_eq_false hc8] at S34
 refine wp_cond_false S34.ev ?_
 refine wp_seq ?_
 refine rt [rV (.int .u64 ((h : Nat) : Int)), rV (.bool true), rV (.bool true)] hz hd ?_ ?_
 refine ⟨?_, ?_, ?_, trivial⟩
 exact zMv hz (sv S6)
 exact sBin rfl rfl rfl hz rfl (Gd.none_ rfl) rfl (sd 0 rfl) kc (fun w => f_n52y hc4 w)
 exact zAs hz (sd 1 rfl)
 clear hz hd
 intro a' γ' W' hz hd hC hk hh
 replace S1 := kp hk S1
 replace S4 := kp hk S4
 replace S5 := kp hk S5
 replace S6 := kp hk S6
 clear S34
 have S37 := gV hz 2 hh
 replace HB := aB HB hC
 clear hC hk hh
 refine wp_cond_true S37.ev ?_
 refine wp_seq ?_
 refine rt [rV (.int .u64 ((h : Nat) : Int)), rV (.float .f64 h), rV (.float .f64 h), rV (.bool true)] hz hd ?_ ?_
 refine ⟨?_, ?_, ?_, ?_, trivial⟩
 exact zMv hz (sv S6)
 exact zC1 hz Tryz.func32 (sd 0 rfl) (k1 (fun _ => c_float))
 exact zAs hz (sd 1 rfl)
 exact zAs hz kc
 clear hz hd
 intro a' γ' W' hz hd hC hk hh
 replace S1 := kp hk S1
 clear S4
 clear S5
 replace S6 := kp hk S6
 clear S37
 have S4 := gV hz 2 hh
 have S5 := gV hz 3 hh
 replace HB := aB HB hC
 clear hC hk hh
 refine wp_ret ?_
 refine ret_to (T := tT [tV (.float .f64 h), tV (.bool true)]) (rett2 (by kernel_rfl) S4 S5 hd HB) ?_
 exact to2 (tV_to (congrArg (Value.float .f64) (by have x0 := hc2; have x1 := hc4; have x2 := hc8; unfold flN; rw [if_pos (by omega)]; omega))) (tV_to (congrArg Value.bool (by have x0 := hc2; have x1 := hc4; have x2 := hc8; rw [decide_eq_true (by omega)])))

end Go.Proofs.YtfgnleoaibcegaaGreat.Rg

namespace Go.Proofs.YtfgnleoaibcegaaGreat.Rg

open Go.RowKit

def tf1 (p q : Nat) : Int := ((bl q : Nat) : Int) - ((bl p : Nat) : Int)
def tf2 (p q : Nat) : Int := tf1 p q + 55
def tf3 (p q : Nat) : Int := if 0 > tf2 p q then 0 else tf2 p q
def tfE (p q : Nat) : Int := -((tfN p q : Nat) : Int)
def tf4 (p q : Nat) : Int := ((bl (tfM p q) : Nat) : Int) + tfE p q
def tf5 (p q : Nat) : Int := tf4 p q - 53
def tf6 (p q : Nat) : Int := tfL p q - tfE p q
def tfR (p q : Nat) : Nat := p * 2 ^ tfN p q % q
def tfH (p q : Nat) : Nat := tfM p q / 2 ^ tfK p q
def tfD (p q : Nat) : Nat := nearN 1074 p q
section

variable {p q l : Nat} {x : Rat} {v0 : Value} {w : World}
theorem tfN_le (p q : Nat) : tfN p q ≤ 1076 := by unfold tfN; split <;> omega
theorem tfN_min : ((tfN p q : Nat) : Int) = if 1076 < tf3 p q then 1076 else tf3 p q := by
  unfold tfN tf3 tf2 tf1
  repeat' split
  all_goals omega
theorem tfE_eq (p q : Nat) : tfE p q = -((tfN p q : Nat) : Int) := rfl
theorem tfM_bl (hq : 0 < q) : bl (tfM p q) ≤ bl p + tfN p q := by
  refine bl_le ?_
  unfold tfM
  refine Nat.lt_of_le_of_lt (Nat.div_le_self _ _) ?_
  rw [Nat.pow_add]
  exact Nat.mul_lt_mul_of_pos_right bl_lt (Nat.two_pow_pos _)
theorem tfL_le (hq : 0 < q) : -1074 ≤ tfL p q ∧ tfL p q ≤ ((bl (tfM p q) : Nat) : Int) := by
  unfold tfL
  split <;> omega
theorem tfK_le (hq : 0 < q) : tfK p q ≤ bl (tfM p q) + 2 := by
  have := tfN_le p q
  unfold tfK tfL
  split <;> omega
theorem tfL_max : tfL p q = if -1074 > tf5 p q then -1074 else tf5 p q := by
  unfold tfL tf5 tf4 tfE
  repeat' split
  all_goals omega
theorem tfK_max : ((tfK p q : Nat) : Int) = if 0 > tf6 p q then 0 else tf6 p q := by
  unfold tfK tf6 tfE
  split <;> omega
theorem tf_k2 (hp : 0 < p) (hq : 0 < q) : 2 ≤ tfK p q := by
  have := (tf_s (K := 1074) rfl hp hq).2
  unfold tfK; omega
theorem tq_q (h : (tQ B64 l x).p v0 w) (hq : x.den = q) : 0 < q := hq ▸ x.den_pos
theorem tq_bp (h : (tQ B64 l x).p v0 w) (hp : x.num.toNat = p) : bl p ≤ l := by
  obtain ⟨p', q', h1, e1, e2, -, h3, h4⟩ := h
  rw [e1] at hp
  have : p' = p := by simpa using hp
  exact bl_le (this ▸ h3)
theorem tq_bq (h : (tQ B64 l x).p v0 w) (hq : x.den = q) : bl q ≤ l := by
  obtain ⟨p', q', h1, e1, e2, -, h3, h4⟩ := h
  rw [e2] at hq
  exact bl_le (hq ▸ h4)
theorem c_parts_pq (hp : x.num.toNat = p) (hq : x.den = q) (h : (tQ B64 l x).p v0 w) (hl : l ≤ 100000000) : Calls Tryz.prog 41 #[v0] w (Ret (tT [tN B64 l p, tN B64 (l + 1) q]) w) := by
  have := cq_parts h hl
  rw [hp, hq] at this; exact this
theorem c_divmod_tf {l1 l2 : Nat} {v1 v2 : Value} (hq : 0 < q) (h1 : (tN B64 l1 (p * 2 ^ tfN p q)).p v1 w) (h2 : (tN B64 l2 q).p v2 w) (b1 : l1 ≤ big) (b2 : l2 ≤ big) : Calls Tryz.prog 45 #[v1, v2] w (Ret (tT [tN B64 l1 (tfM p q), tN B64 l1 (tfR p q), tV (.bool true)]) w) := by
  have := c_divmod h1 h2 b1 b2
  rw [modOf_pos hq, nz_pos hq] at this; exact this
theorem tf_up1 (h : 2 ^ (tfK p q - 1) < tfM p q - tfH p q * 2 ^ tfK p q) : tfUp p q := Or.inl h
theorem tf_up2 (h : tfM p q - tfH p q * 2 ^ tfK p q = 2 ^ (tfK p q - 1)) (h2 : 0 < tfR p q) : tfUp p q := Or.inr ⟨h, Or.inl h2⟩
theorem tf_up3 (h : tfM p q - tfH p q * 2 ^ tfK p q = 2 ^ (tfK p q - 1)) (h2 : tfH p q % 2 = 1) : tfUp p q := Or.inr ⟨h, Or.inr h2⟩
theorem tf_no1 (h : ¬ 2 ^ (tfK p q - 1) < tfM p q - tfH p q * 2 ^ tfK p q) (h2 : ¬ tfM p q - tfH p q * 2 ^ tfK p q = 2 ^ (tfK p q - 1)) : ¬ tfUp p q := fun c => c.elim h fun c => h2 c.1
theorem tf_no2 (h : ¬ 2 ^ (tfK p q - 1) < tfM p q - tfH p q * 2 ^ tfK p q) (h2 : ¬ 0 < tfR p q) (h3 : ¬ tfH p q % 2 = 1) : ¬ tfUp p q := fun c => c.elim h fun c => c.2.elim h2 h3
theorem tf_yes (hp : 0 < p) (hq : 0 < q) (h : tfUp p q) : tfH p q + 1 = nearH 1074 p q := by
  rw [tf_h rfl hp hq, if_pos h]; rfl
theorem tf_not (hp : 0 < p) (hq : 0 < q) (h : ¬ tfUp p q) : tfH p q = nearH 1074 p q := by
  rw [tf_h rfl hp hq, if_neg h]; rfl
theorem c_number_to {l1 z : Nat} (hp : 0 < p) (hq : 0 < q) (hm : bl (tfM p q) ≤ 2000000) (hz : z = nearH 1074 p q) (h : (tN B64 l1 z).p v0 w) (b1 : l1 ≤ 3000000) : Calls Tryz.prog 52 #[v0, .int .i64 (tfL p q)] w (Ret (tT [tV (.float .f64 (flN (tfD p q))), tV (.bool (decide (tfD p q < 9218868437227405312)))]) w) := by
  have hs := (tf_s (K := 1074) rfl hp hq).1
  have hL := tfL_le (p := p) hq
  have e : tfL p q = nE (nearS 1074 p q) := hs
  have hlo : 4503599627370496 ≤ z ∨ nearS 1074 p q = 0 := by
    by_cases c : nearS 1074 p q = 0
    · exact Or.inr c
    · exact Or.inl (hz ▸ nearH_lo hq c)
  have := c_number (s := nearS 1074 p q) h b1 (hz ▸ nearH_up hq) hlo (by omega)
  have e2 : tfD p q = nearS 1074 p q * 4503599627370496 + z := by rw [hz]; rfl
  rw [e, e2]; exact this
theorem nearS_zero {K : Nat} (hq : 0 < q) : nearS K 0 q = 0 := by unfold nearS; rw [Nat.zero_mul, Nat.zero_div, bl_zero]
theorem nearH_zero {K : Nat} (hq : 0 < q) : nearH K 0 q = 0 := by unfold nearH; rw [Nat.zero_mul]; exact rn_zero (Nat.mul_pos hq (Nat.two_pow_pos _))
theorem nearN_zero {K : Nat} (hq : 0 < q) : nearN K 0 q = 0 := by unfold nearN; rw [nearS_zero hq, nearH_zero hq]
theorem tfD_zero (hp : p = 0) (hq : 0 < q) : 0 = flN (tfD p q) ∧ true = decide (tfD p q < 9218868437227405312) := by
  have e : tfD p q = 0 := by rw [hp]; exact nearN_zero hq
  rw [e]; exact ⟨rfl, rfl⟩
end
theorem f_bl0 {h : Nat} {ox oy : Operand} {id : TypeId}  (w : World) : (do eqGuard .eql id ox oy (.int .i64 ((bl h : Nat) : Int)) (.int .i64 0); binOp .eql id (.int .i64 ((bl h : Nat) : Int)) (.int .i64 0) : Sem Value).run Tryz.prog w = .ok (.bool (decide (h = 0))) w := by
  have e : decide (((bl h : Nat) : Int) = 0) = decide (h = 0) := by
    rw [decide_eq_decide]
    constructor
    · intro h1
      rcases Nat.eq_zero_or_pos h with c | c
      · exact c
      · have := bl_bounds c; omega
    · intro h1; rw [h1]; rfl
  rw [← e]
  simp [go_sem]
  by_cases hc : bl h = 0
  · simp [hc]
  · have : ¬ ((bl h : Nat) : Int) = 0 := by omega
    simp [hc, this]
theorem f_blpos {h : Nat} {ox oy : Operand} {id : TypeId}  (w : World) : (do eqGuard .gtr id ox oy (.int .i64 ((bl h : Nat) : Int)) (.int .i64 0); binOp .gtr id (.int .i64 ((bl h : Nat) : Int)) (.int .i64 0) : Sem Value).run Tryz.prog w = .ok (.bool (decide (0 < h))) w := by
  have e : decide ((0 : Int) < ((bl h : Nat) : Int)) = decide (0 < h) := by
    rw [decide_eq_decide]
    constructor
    · intro h1
      rcases Nat.eq_zero_or_pos h with c | c
      · rw [c, bl_zero] at h1; omega
      · exact c
    · intro h1; have := bl_bounds h1; omega
  rw [← e]
  simp [go_sem]
theorem f_kpos {k : Nat} {ox oy : Operand} {id : TypeId} (hk : 2 ≤ k) (w : World) : (do eqGuard .gtr id ox oy (.int .i64 ((k : Nat) : Int)) (.int .i64 0); binOp .gtr id (.int .i64 ((k : Nat) : Int)) (.int .i64 0) : Sem Value).run Tryz.prog w = .ok (.bool true) w := by
  have e : 0 < k := by omega
  simp [go_sem, e]
theorem f_tfk1 {k : Nat} {ox oy : Operand} {id : TypeId} (hk : 2 ≤ k) (hk2 : k ≤ 10000000) (w : World) : (do eqGuard .sub id ox oy (.int .i64 ((k : Nat) : Int)) (.int .i64 1); binOp .sub id (.int .i64 ((k : Nat) : Int)) (.int .i64 1) : Sem Value).run Tryz.prog w = .ok (.int .i64 ((k - 1 : Nat) : Int)) w := by
  have e : IntKind.i64.wrap ((k : Int) - 1) = ((k - 1 : Nat) : Int) := by rw [IntKind.wrap_i64]; omega
  simp [go_sem, e]
theorem f_tf1 {p q : Nat} {ox oy : Operand} {id : TypeId} (h1 : bl p ≤ 3000000) (h2 : bl q ≤ 3000000) (w : World) : (do eqGuard .sub id ox oy (.int .i64 ((bl q : Nat) : Int)) (.int .i64 ((bl p : Nat) : Int)); binOp .sub id (.int .i64 ((bl q : Nat) : Int)) (.int .i64 ((bl p : Nat) : Int)) : Sem Value).run Tryz.prog w = .ok (.int .i64 (tf1 p q)) w := by
  have e : IntKind.i64.wrap (((bl q : Nat) : Int) - ((bl p : Nat) : Int)) = (tf1 p q) := by unfold tf1; rw [IntKind.wrap_i64]; omega
  simp [go_sem, e]
theorem f_tf2 {p q : Nat} {ox oy : Operand} {id : TypeId} (h1 : bl p ≤ 3000000) (h2 : bl q ≤ 3000000) (w : World) : (do eqGuard .add id ox oy (.int .i64 (tf1 p q)) (.int .i64 55); binOp .add id (.int .i64 (tf1 p q)) (.int .i64 55) : Sem Value).run Tryz.prog w = .ok (.int .i64 (tf2 p q)) w := by
  have e : IntKind.i64.wrap (tf1 p q + 55) = (tf2 p q) := by unfold tf2 tf1; rw [IntKind.wrap_i64]; omega
  simp [go_sem, e]
theorem f_tf4 {p q : Nat} {ox oy : Operand} {id : TypeId} (h1 : bl (tfM p q) ≤ 3000000) (w : World) : (do eqGuard .add id ox oy (.int .i64 ((bl (tfM p q) : Nat) : Int)) (.int .i64 (tfE p q)); binOp .add id (.int .i64 ((bl (tfM p q) : Nat) : Int)) (.int .i64 (tfE p q)) : Sem Value).run Tryz.prog w = .ok (.int .i64 (tf4 p q)) w := by
  have e : IntKind.i64.wrap (((bl (tfM p q) : Nat) : Int) + tfE p q) = (tf4 p q) := by have := tfN_le p q; have := tfE_eq p q; unfold tf4; rw [IntKind.wrap_i64]; omega
  simp [go_sem, e]
theorem f_tf5 {p q : Nat} {ox oy : Operand} {id : TypeId} (h1 : bl (tfM p q) ≤ 3000000) (w : World) : (do eqGuard .sub id ox oy (.int .i64 (tf4 p q)) (.int .i64 53); binOp .sub id (.int .i64 (tf4 p q)) (.int .i64 53) : Sem Value).run Tryz.prog w = .ok (.int .i64 (tf5 p q)) w := by
  have e : IntKind.i64.wrap (tf4 p q - 53) = (tf5 p q) := by have := tfN_le p q; have := tfE_eq p q; unfold tf5 tf4; rw [IntKind.wrap_i64]; omega
  simp [go_sem, e]
theorem f_tf6 {p q : Nat} {ox oy : Operand} {id : TypeId} (h1 : bl (tfM p q) ≤ 3000000) (hq : 0 < q) (w : World) : (do eqGuard .sub id ox oy (.int .i64 (tfL p q)) (.int .i64 (tfE p q)); binOp .sub id (.int .i64 (tfL p q)) (.int .i64 (tfE p q)) : Sem Value).run Tryz.prog w = .ok (.int .i64 (tf6 p q)) w := by
  have e : IntKind.i64.wrap (tfL p q - tfE p q) = (tf6 p q) := by have := tfN_le p q; have := tfE_eq p q; have := tfL_le (p := p) hq; unfold tf6; rw [IntKind.wrap_i64]; omega
  simp [go_sem, e]
theorem f_tfE {p q : Nat} (h : tfN p q ≤ 1076) (w : World) : (Op.unary .neg (.int .i64 ((tfN p q : Nat) : Int))).run Tryz.prog w = .ok (.int .i64 (tfE p q)) w := by
  have e : IntKind.i64.wrap (-((tfN p q : Nat) : Int)) = tfE p q := by unfold tfE; rw [IntKind.wrap_i64]; omega
  simp [go_sem, e]
set_option maxRecDepth 10000 in
set_option maxHeartbeats 2000000 in
theorem c_tofloat_pq {l p q : Nat} {x : Rat} {v0 : Value} {w : World} (h0 : (tQ B64 l x).p v0 w) (hp : x.num.toNat = p) (hq : x.den = q) (hl : l ≤ 1000000) :
    Calls Tryz.prog 8 #[v0] w (Ret (tT [tV (.float .f64 (flN (tfD p q))), tV (.bool (decide (tfD p q < 9218868437227405312)))]) w) := by
 refine enter Tryz.func8 rfl Tryz.ntmps8 (by simp) ?_
 intro a hz hd ha
 have S0 := ha 0 _ rfl
 have H0 := h0
 clear ha
 have HB : Below w.heap.size w w := Below.refl _ _
 have hq0 := tq_q h0 hq
 have hpl := tq_bp h0 hp
 have hql := tq_bq h0 hq
 have hn1 := tfN_le p q
 have hm1 := tfM_bl (p := p) hq0
 have hk1 := tfK_le (p := p) hq0
 have hL := tfL_le (p := p) hq0
 have hE := tfE_eq p q
 refine wp_seq ?_
 refine rt [rB 0 28 (tQ B64 l x) none 0, rV (.float FloatKind.f64 0), rV (.bool false)] hz hd ?_ ?_
 refine ⟨?_, ?_, ?_, trivial⟩
 exact zBox hz (so S0 H0) box_q64
 exact zAs hz kc
 exact zAs hz kc
 clear hz hd
 intro a' γ' W' hz hd hC hk hh
 clear S0 H0
 obtain ⟨p1, S1, Cp1, lp1, gp1⟩ := gotB hz 0 hC hh rfl rfl rfl rfl rfl rfl
 have S2 := gV hz 1 hh
 have S3 := gV hz 2 hh
 clear lp1 gp1
 replace HB := aB HB hC
 clear hC hk hh
 refine wp_seq ?_
 refine rt [rT (tQ B64 l x), rT (tT [tN B64 l p, tN B64 (l + 1) q]), rT (tT [tN B64 l p, tN B64 (l + 1) q]), rT (tN B64 l p), rT (tN B64 (l + 1) q), rVar 5 26 1, rVar 6 26 1, rB 5 26 (tN B64 l p) (some 5) 6, rB 6 26 (tN B64 (l + 1) q) (some 6) 7] hz hd ?_ ?_
 refine ⟨?_, ?_, ?_, ?_, ?_, ?_, ?_, ?_, ?_, trivial⟩
 exact zLd hz (sv S1) Cp1 ld_q64
 exact zC1 hz Tryz.func41 (sd 0 rfl) (fun _ _ h0 => c_parts_pq hp hq h0 (by omega))
 exact zMv hz (sd 1 rfl)
 exact zExt hz (sd 2 rfl)
 exact zExt hz (sd 2 rfl)
 exact zAl hz nd_slice al_n64
 exact zAl hz nd_slice al_n64
 exact zSt (sd 3 rfl) st_n64
 exact zSt (sd 4 rfl) st_n64
 clear hz hd
 intro a' γ' W' hz hd hC hk hh
 have ep1 := Cp1.lt
 clear Cp1
 clear S1
 replace S2 := kp hk S2
 replace S3 := kp hk S3
 obtain ⟨p2, S4, Cp2, lp2, gp2⟩ := gotB hz 7 hC hh rfl rfl rfl rfl rfl rfl
 obtain ⟨p3, S5, Cp3, lp3, gp3⟩ := gotB hz 8 hC hh rfl rfl rfl rfl rfl rfl
 have n_p2_p3 : p2 ≠ p3 := by intro e; rw [e, gp3] at gp2; omega
 have n_p3_p2 : p3 ≠ p2 := by intro e; rw [e, gp2] at gp3; omega
 have bp2 := Nat.le_trans HB.size lp2
 have bp3 := Nat.le_trans HB.size lp3
 clear lp2 gp2 lp3 gp3
 clear ep1
 replace HB := aB HB hC
 clear hC hk hh
 refine wp_seq ?_
 refine wp_seq ?_
 refine rt [rT (tN B64 l p), rV (.int .i64 ((bl p : Nat) : Int)), rV (.bool (decide (p = 0)))] hz hd ?_ ?_
 refine ⟨?_, ?_, ?_, trivial⟩
 exact zLd hz (sv S4) Cp2 ld_n64
 exact zC1 hz Tryz.func42 (sd 0 rfl) (fun _ _ h0 => c_len h0 (by rw [big_eq]; omega))
 exact sBin rfl rfl rfl hz rfl (Gd.none_ rfl) rfl (sd 1 rfl) kc (fun w => f_bl0 w)
 clear hz hd
 intro a' γ' W' hz hd hC hk hh
 have tp2 := Cp2.lt
 replace Cp2 := kC hC Cp2
 have tp3 := Cp3.lt
 replace Cp3 := kC hC Cp3
 replace S2 := kp hk S2
 replace S3 := kp hk S3
 replace S4 := kp hk S4
 replace S5 := kp hk S5
 have S24 := gV hz 2 hh
 clear tp2 tp3
 replace HB := aB HB hC
 clear hC hk hh
 by_cases hc4 : p = 0
 rw [decide_eq_true hc4] at S24
 refine wp_cond_true S24.ev ?_
 refine wp_seq ?_
 refine rt [rV (.float FloatKind.f64 0), rV (.bool true)] hz hd ?_ ?_
 refine ⟨?_, ?_, trivial⟩
 exact zAs hz kc
 exact zAs hz kc
 clear hz hd
 intro a' γ' W' hz hd hC hk hh
 have tp2 := Cp2.lt
 replace Cp2 := kC hC Cp2
 have tp3 := Cp3.lt
 replace Cp3 := kC hC Cp3
 clear S2
 clear S3
 replace S4 := kp hk S4
 replace S5 := kp hk S5
 clear S24
 have S2 := gV hz 0 hh
 have S3 := gV hz 1 hh
 clear tp2 tp3
 replace HB := aB HB hC
 clear hC hk hh
 refine wp_ret ?_
 refine ret_to (T := tT [tV (.float FloatKind.f64 0), tV (.bool true)]) (rett2 (by kernel_rfl) S2 S3 hd HB) ?_
 exact to2 (tV_to (congrArg (Value.float .f64) (tfD_zero hc4 hq0).1)) (tV_to (congrArg Value.bool (tfD_zero hc4 hq0).2))
 have hp0 : 0 < p := Nat.pos_of_ne_zero hc4
 have hk2 := tf_k2 hp0 hq0
 rw [decide_eq_false hc4] at S24
 refine wp_cond_false S24.ev ?_
 refine wp_skip ?_
 refine wp_seq ?_
 refine region_drawn (M := []) (
  rT (tN B64 (l + 1) q) ::
  rT (tV (.int .i64 ((bl q : Nat) : Int))) ::
  rT (tN B64 l p) ::
  rT (tV (.int .i64 ((bl p : Nat) : Int))) ::
  rT (tV (.int .i64 (tf1 p q))) ::
  rT (tV (.int .i64 (tf2 p q))) ::
  rT (tV (.int .i64 (tf3 p q))) ::
  rT (tV (.int .i64 (tf3 p q))) ::
  []) hz hd (by kernel_rfl) (by kernel_rfl) ?_ ?_
 refine ⟨?_, ?_, ?_, ?_, ?_, ?_, ?_, ?_, trivial⟩
 exact zLd hz (sv S5) Cp3 ld_n64
 exact zC1 hz Tryz.func42 (sd 0 rfl) (fun _ _ h0 => c_len h0 (by rw [big_eq]; omega))
 exact zLd hz (sv S4) Cp2 ld_n64
 exact zC1 hz Tryz.func42 (sd 2 rfl) (fun _ _ h0 => c_len h0 (by rw [big_eq]; omega))
 exact sBin rfl rfl rfl hz rfl (Gd.none_ rfl) rfl (sd 1 rfl) (sd 3 rfl) (fun w => f_tf1 (by omega) (by omega) w)
 exact sBin rfl rfl rfl hz rfl (Gd.none_ rfl) rfl (sd 4 rfl) kc (fun w => f_tf2 (by omega) (by omega) w)
 exact zB2max hz rfl (sd 5 rfl) (kc (v := .int .i64 0)) (fun w => run_max2 rfl w)
 exact zAs hz (sd 6 rfl)
 clear hz hd
 intro a' γ' W' hz hd hC hk hh
 have tp2 := Cp2.lt
 replace Cp2 := kC hC Cp2
 have tp3 := Cp3.lt
 replace Cp3 := kC hC Cp3
 replace S2 := kp hk S2
 replace S3 := kp hk S3
 replace S4 := kp hk S4
 replace S5 := kp hk S5
 clear S24
 have S6 := gV hz 7 hh
 clear tp2 tp3
 replace HB := aB HB hC
 clear hC hk hh
 refine wp_seq ?_
 refine rt [rV (.int .i64 (tf3 p q)), rV (.int .i64 ((tfN p q : Nat) : Int)), rV (.int .i64 ((tfN p q : Nat) : Int))] hz hd ?_ ?_
 refine ⟨?_, ?_, ?_, trivial⟩
 exact zMv hz (sv S6)
 exact zB2min hz rfl (sd 0 rfl) (kc (v := .int .i64 1076)) (fun w => run_min2 tfN_min w)
 exact zAs hz (sd 1 rfl)
 clear hz hd
 intro a' γ' W' hz hd hC hk hh
 have tp2 := Cp2.lt
 replace Cp2 := kC hC Cp2
 have tp3 := Cp3.lt
 replace Cp3 := kC hC Cp3
 replace S2 := kp hk S2
 replace S3 := kp hk S3
 replace S4 := kp hk S4
 replace S5 := kp hk S5
 clear S6
 have S6 := gV hz 2 hh
 clear tp2 tp3
 replace HB := aB HB hC
 clear hC hk hh
 refine wp_seq ?_
 refine region_drawn (M := []) (
  rT (tN B64 l p) ::
  rT (tV (.int .i64 ((tfN p q : Nat) : Int))) ::
  rT (tN B64 (l + 2000) (2 ^ (tfN p q))) ::
  rT (tN B64 (l + (l + 2000)) (p * (2 ^ (tfN p q)))) ::
  rT (tN B64 (l + 1) q) ::
  rT (tT [tN B64 (l + (l + 2000)) (tfM p q), tN B64 (l + (l + 2000)) (tfR p q), tV (.bool true)]) ::
  rT (tT [tN B64 (l + (l + 2000)) (tfM p q), tN B64 (l + (l + 2000)) (tfR p q), tV (.bool true)]) ::
  rT (tN B64 (l + (l + 2000)) (tfM p q)) ::
  rT (tN B64 (l + (l + 2000)) (tfR p q)) ::
  rT (tV (.bool true)) ::
  rVar 10 26 1 ::
  rVar 11 26 1 ::
  rB 10 26 (tN B64 (l + (l + 2000)) (tfM p q)) (some 10) 11 ::
  rB 11 26 (tN B64 (l + (l + 2000)) (tfR p q)) (some 11) 12 ::
  rT (tV (.bool true)) ::
  []) hz hd (by kernel_rfl) (by kernel_rfl) ?_ ?_
 refine ⟨?_, ?_, ?_, ?_, ?_, ?_, ?_, ?_, ?_, ?_, ?_, ?_, ?_, ?_, ?_, trivial⟩
 exact zLd hz (sv S4) Cp2 ld_n64
 exact zMv hz (sv S6)
 exact zC1 hz Tryz.func44 (sd 1 rfl) (k1 (fun _ => c_powerL (n := tfN p q) (L := l + 2000) (by omega) (by omega)))
 exact zC2 hz Tryz.func43 (sd 0 rfl) (sd 2 rfl) (fun _ _ _ h0 h1 => c_mul h0 h1 (by rw [big_eq]; omega) (by rw [big_eq]; omega))
 exact zLd hz (sv S5) Cp3 ld_n64
 exact zC2 hz Tryz.func45 (sd 3 rfl) (sd 4 rfl) (fun _ _ _ h0 h1 => c_divmod_tf hq0 h0 h1 (by rw [big_eq]; omega) (by rw [big_eq]; omega))
 exact zMv hz (sd 5 rfl)
 exact zExt hz (sd 6 rfl)
 exact zExt hz (sd 6 rfl)
 exact zExt hz (sd 6 rfl)
 exact zAl hz nd_slice al_n64
 exact zAl hz nd_slice al_n64
 exact zSt (sd 7 rfl) st_n64
 exact zSt (sd 8 rfl) st_n64
 exact zAs hz (sd 9 rfl)
 clear hz hd
 intro a' γ' W' hz hd hC hk hh
 have ep2 := Cp2.lt
 have ep3 := Cp3.lt
 have tp2 := Cp2.lt
 clear Cp2
 have tp3 := Cp3.lt
 clear Cp3
 replace S2 := kp hk S2
 replace S3 := kp hk S3
 clear S4
 clear S5
 replace S6 := kp hk S6
 obtain ⟨p5, S7, Cp5, lp5, gp5⟩ := gotB hz 12 hC hh rfl rfl rfl rfl rfl rfl
 obtain ⟨p6, S8, Cp6, lp6, gp6⟩ := gotB hz 13 hC hh rfl rfl rfl rfl rfl rfl
 have n_p5_p6 : p5 ≠ p6 := by intro e; rw [e, gp6] at gp5; omega
 have n_p6_p5 : p6 ≠ p5 := by intro e; rw [e, gp5] at gp6; omega
 have bp5 := Nat.le_trans HB.size lp5
 have bp6 := Nat.le_trans HB.size lp6
 clear lp5 gp5 lp6 gp6
 clear tp2 tp3
 clear ep2 ep3
 replace HB := aB HB hC
 clear hC hk hh
 refine wp_seq ?_
 refine rt [rV (.int .i64 ((tfN p q : Nat) : Int)), rV (.int .i64 (tfE p q)), rV (.int .i64 (tfE p q))] hz hd ?_ ?_
 refine ⟨?_, ?_, ?_, trivial⟩
 exact zMv hz (sv S6)
 exact sUn rfl rfl rfl hz rfl (Gd.none_ rfl) rfl (sd 0 rfl) (fun w => f_tfE (by omega) w)
 exact zAs hz (sd 1 rfl)
 clear hz hd
 intro a' γ' W' hz hd hC hk hh
 have tp5 := Cp5.lt
 replace Cp5 := kC hC Cp5
 have tp6 := Cp6.lt
 replace Cp6 := kC hC Cp6
 replace S2 := kp hk S2
 replace S3 := kp hk S3
 clear S6
 replace S7 := kp hk S7
 replace S8 := kp hk S8
 have S10 := gV hz 2 hh
 clear tp5 tp6
 replace HB := aB HB hC
 clear hC hk hh
 refine wp_seq ?_
 refine rt [rT (tN B64 (l + (l + 2000)) (tfM p q)), rV (.int .i64 ((bl (tfM p q) : Nat) : Int)), rV (.int .i64 (tfE p q)), rV (.int .i64 (tf4 p q)), rV (.int .i64 (tf5 p q)), rV (.int .i64 (tfL p q)), rV (.int .i64 (tfL p q))] hz hd ?_ ?_
 refine ⟨?_, ?_, ?_, ?_, ?_, ?_, ?_, trivial⟩
 exact zLd hz (sv S7) Cp5 ld_n64
 exact zC1 hz Tryz.func42 (sd 0 rfl) (fun _ _ h0 => c_len h0 (by rw [big_eq]; omega))
 exact zMv hz (sv S10)
 exact sBin rfl rfl rfl hz rfl (Gd.none_ rfl) rfl (sd 1 rfl) (sd 2 rfl) (fun w => f_tf4 (by omega) w)
 exact sBin rfl rfl rfl hz rfl (Gd.none_ rfl) rfl (sd 3 rfl) kc (fun w => f_tf5 (by omega) w)
 exact zB2max hz rfl (sd 4 rfl) (kc (v := .int .i64 (-1074))) (fun w => run_max2 tfL_max w)
 exact zAs hz (sd 5 rfl)
 clear hz hd
 intro a' γ' W' hz hd hC hk hh
 have tp5 := Cp5.lt
 replace Cp5 := kC hC Cp5
 have tp6 := Cp6.lt
 replace Cp6 := kC hC Cp6
 replace S2 := kp hk S2
 replace S3 := kp hk S3
 replace S7 := kp hk S7
 replace S8 := kp hk S8
 replace S10 := kp hk S10
 have S11 := gV hz 6 hh
 clear tp5 tp6
 replace HB := aB HB hC
 clear hC hk hh
 refine wp_seq ?_
 refine rt [rV (.int .i64 (tfL p q)), rV (.int .i64 (tfE p q)), rV (.int .i64 (tf6 p q)), rV (.int .i64 ((tfK p q : Nat) : Int)), rV (.int .i64 ((tfK p q : Nat) : Int))] hz hd ?_ ?_
 refine ⟨?_, ?_, ?_, ?_, ?_, trivial⟩
 exact zMv hz (sv S11)
 exact zMv hz (sv S10)
 exact sBin rfl rfl rfl hz rfl (Gd.none_ rfl) rfl (sd 0 rfl) (sd 1 rfl) (fun w => f_tf6 (by omega) hq0 w)
 exact zB2max hz rfl (sd 2 rfl) (kc (v := .int .i64 0)) (fun w => run_max2 tfK_max w)
 exact zAs hz (sd 3 rfl)
 clear hz hd
 intro a' γ' W' hz hd hC hk hh
 have tp5 := Cp5.lt
 replace Cp5 := kC hC Cp5
 have tp6 := Cp6.lt
 replace Cp6 := kC hC Cp6
 replace S2 := kp hk S2
 replace S3 := kp hk S3
 replace S7 := kp hk S7
 replace S8 := kp hk S8
 replace S10 := kp hk S10
 replace S11 := kp hk S11
 have S12 := gV hz 4 hh
 clear tp5 tp6
 replace HB := aB HB hC
 clear hC hk hh
 refine wp_seq ?_
 refine rt [rT (tN B64 (l + (l + 2000)) (tfM p q)), rV (.int .i64 ((tfK p q : Nat) : Int)), rT (tN B64 (l + (l + 2000)) (tfH p q)), rVar 3 26 1, rB 3 26 (tN B64 (l + (l + 2000)) (tfH p q)) (some 3) 4] hz hd ?_ ?_
 refine ⟨?_, ?_, ?_, ?_, ?_, trivial⟩
 exact zLd hz (sv S7) Cp5 ld_n64
 exact zMv hz (sv S12)
 exact zC2 hz Tryz.func46 (sd 0 rfl) (sd 1 rfl) (k01 (fun _ _ h0 => c_right_nat (k := tfK p q) h0 (by rw [big_eq]; omega) (by omega)))
 exact zAl hz nd_slice al_n64
 exact zSt (sd 2 rfl) st_n64
 clear hz hd
 intro a' γ' W' hz hd hC hk hh
 have ep5 := Cp5.lt
 have ep6 := Cp6.lt
 have tp5 := Cp5.lt
 replace Cp5 := kC hC Cp5
 have tp6 := Cp6.lt
 replace Cp6 := kC hC Cp6
 replace S2 := kp hk S2
 replace S3 := kp hk S3
 replace S7 := kp hk S7
 replace S8 := kp hk S8
 replace S10 := kp hk S10
 replace S11 := kp hk S11
 replace S12 := kp hk S12
 obtain ⟨p7, S13, Cp7, lp7, gp7⟩ := gotB hz 4 hC hh rfl rfl rfl rfl rfl rfl
 have n_p7_p5 : p7 ≠ p5 := by omega
 have n_p7_p6 : p7 ≠ p6 := by omega
 have n_p5_p7 : p5 ≠ p7 := by have := ep5; omega
 have n_p6_p7 : p6 ≠ p7 := by have := ep6; omega
 have bp7 := Nat.le_trans HB.size lp7
 clear lp7 gp7
 clear tp5 tp6
 clear ep5 ep6
 replace HB := aB HB hC
 clear hC hk hh
 refine wp_seq ?_
 refine region_drawn (M := []) (
  rT (tN B64 (l + (l + 2000)) (tfM p q)) ::
  rT (tN B64 (l + (l + 2000)) (tfH p q)) ::
  rT (tV (.int .i64 ((tfK p q : Nat) : Int))) ::
  rT (tN B64 (l + 2000) (2 ^ (tfK p q))) ::
  rT (tN B64 ((l + (l + 2000)) + (l + 2000)) ((tfH p q) * (2 ^ (tfK p q)))) ::
  rT (tT [tN B64 (l + (l + 2000)) ((tfM p q) - ((tfH p q) * (2 ^ (tfK p q)))), tV (.bool (decide ((tfH p q) * (2 ^ (tfK p q)) ≤ tfM p q)))]) ::
  rT (tT [tN B64 (l + (l + 2000)) ((tfM p q) - ((tfH p q) * (2 ^ (tfK p q)))), tV (.bool (decide ((tfH p q) * (2 ^ (tfK p q)) ≤ tfM p q)))]) ::
  rT (tN B64 (l + (l + 2000)) ((tfM p q) - ((tfH p q) * (2 ^ (tfK p q))))) ::
  rT (tV (.bool (decide ((tfH p q) * (2 ^ (tfK p q)) ≤ tfM p q)))) ::
  rVar 9 26 1 ::
  rB 9 26 (tN B64 (l + (l + 2000)) ((tfM p q) - ((tfH p q) * (2 ^ (tfK p q))))) (some 9) 10 ::
  rT (tV (.bool (decide ((tfH p q) * (2 ^ (tfK p q)) ≤ tfM p q)))) ::
  []) hz hd (by kernel_rfl) (by kernel_rfl) ?_ ?_
 refine ⟨?_, ?_, ?_, ?_, ?_, ?_, ?_, ?_, ?_, ?_, ?_, ?_, trivial⟩
 exact zLd hz (sv S7) Cp5 ld_n64
 exact zLd hz (sv S13) Cp7 ld_n64
 exact zMv hz (sv S12)
 exact zC1 hz Tryz.func44 (sd 2 rfl) (k1 (fun _ => c_powerL (n := tfK p q) (L := l + 2000) (by omega) (by omega)))
 exact zC2 hz Tryz.func43 (sd 1 rfl) (sd 3 rfl) (fun _ _ _ h0 h1 => c_mul h0 h1 (by rw [big_eq]; omega) (by rw [big_eq]; omega))
 exact zC2 hz Tryz.func47 (sd 0 rfl) (sd 4 rfl) (fun _ _ _ h0 h1 => c_sub h0 h1 (by rw [big_eq]; omega) (by rw [big_eq]; omega))
 exact zMv hz (sd 5 rfl)
 exact zExt hz (sd 6 rfl)
 exact zExt hz (sd 6 rfl)
 exact zAl hz nd_slice al_n64
 exact zSt (sd 7 rfl) st_n64
 exact zAs hz (sd 8 rfl)
 clear hz hd
 intro a' γ' W' hz hd hC hk hh
 have ep5 := Cp5.lt
 have ep6 := Cp6.lt
 have ep7 := Cp7.lt
 have tp5 := Cp5.lt
 clear Cp5
 have tp6 := Cp6.lt
 replace Cp6 := kC hC Cp6
 have tp7 := Cp7.lt
 replace Cp7 := kC hC Cp7
 replace S2 := kp hk S2
 replace S3 := kp hk S3
 clear S7
 replace S8 := kp hk S8
 replace S10 := kp hk S10
 replace S11 := kp hk S11
 replace S12 := kp hk S12
 replace S13 := kp hk S13
 obtain ⟨p8, S14, Cp8, lp8, gp8⟩ := gotB hz 10 hC hh rfl rfl rfl rfl rfl rfl
 have n_p8_p6 : p8 ≠ p6 := by omega
 have n_p8_p7 : p8 ≠ p7 := by omega
 have n_p6_p8 : p6 ≠ p8 := by have := ep6; omega
 have n_p7_p8 : p7 ≠ p8 := by have := ep7; omega
 have bp8 := Nat.le_trans HB.size lp8
 clear lp8 gp8
 clear tp5 tp6 tp7
 clear ep5 ep6 ep7
 replace HB := aB HB hC
 clear hC hk hh
 refine wp_seq ?_
 refine wp_seq ?_
 refine rt [rV (.int .i64 ((tfK p q : Nat) : Int)), rV (.bool true)] hz hd ?_ ?_
 refine ⟨?_, ?_, trivial⟩
 exact zMv hz (sv S12)
 exact sBin rfl rfl rfl hz rfl (Gd.none_ rfl) rfl (sd 0 rfl) kc (fun w => f_kpos hk2 w)
 clear hz hd
 intro a' γ' W' hz hd hC hk hh
 have tp6 := Cp6.lt
 replace Cp6 := kC hC Cp6
 have tp7 := Cp7.lt
 replace Cp7 := kC hC Cp7
 have tp8 := Cp8.lt
 replace Cp8 := kC hC Cp8
 replace S2 := kp hk S2
 replace S3 := kp hk S3
 replace S8 := kp hk S8
 replace S10 := kp hk S10
 replace S11 := kp hk S11
 replace S12 := kp hk S12
 replace S13 := kp hk S13
 replace S14 := kp hk S14
 have S69 := gV hz 1 hh
 clear tp6 tp7 tp8
 replace HB := aB HB hC
 clear hC hk hh
 refine wp_cond_true S69.ev ?_
 refine wp_seq ?_
 refine region_drawn (M := []) (
  rT (tN B64 (l + (l + 2000)) ((tfM p q) - ((tfH p q) * (2 ^ (tfK p q))))) ::
  rT (tV (.int .i64 ((tfK p q : Nat) : Int))) ::
  rT (tV (.int .i64 ((tfK p q - 1 : Nat) : Int))) ::
  rT (tN B64 (l + 2000) (2 ^ (tfK p q - 1))) ::
  rT (tV (.int .i64 (cmpI ((tfM p q) - ((tfH p q) * (2 ^ (tfK p q)))) (2 ^ (tfK p q - 1))))) ::
  rT (tV (.int .i64 (cmpI ((tfM p q) - ((tfH p q) * (2 ^ (tfK p q)))) (2 ^ (tfK p q - 1))))) ::
  []) hz hd (by kernel_rfl) (by kernel_rfl) ?_ ?_
 refine ⟨?_, ?_, ?_, ?_, ?_, ?_, trivial⟩
 exact zLd hz (sv S14) Cp8 ld_n64
 exact zMv hz (sv S12)
 exact sBin rfl rfl rfl hz rfl (Gd.none_ rfl) rfl (sd 1 rfl) kc (fun w => f_tfk1 hk2 (by omega) w)
 exact zC1 hz Tryz.func44 (sd 2 rfl) (k1 (fun _ => c_powerL (n := tfK p q - 1) (L := l + 2000) (by omega) (by omega)))
 exact zC2 hz Tryz.func48 (sd 0 rfl) (sd 3 rfl) (fun _ _ _ h0 h1 => c_cmp h0 h1 (by rw [big_eq]; omega) (by rw [big_eq]; omega))
 exact zAs hz (sd 4 rfl)
 clear hz hd
 intro a' γ' W' hz hd hC hk hh
 have tp6 := Cp6.lt
 replace Cp6 := kC hC Cp6
 have tp7 := Cp7.lt
 replace Cp7 := kC hC Cp7
 have tp8 := Cp8.lt
 clear Cp8
 replace S2 := kp hk S2
 replace S3 := kp hk S3
 replace S8 := kp hk S8
 replace S10 := kp hk S10
 replace S11 := kp hk S11
 clear S12
 replace S13 := kp hk S13
 clear S14
 clear S69
 have S16 := gV hz 5 hh
 clear tp6 tp7 tp8
 replace HB := aB HB hC
 clear hC hk hh
 refine wp_seq ?_
 refine wp_seq ?_
 by_cases hc9 : 2 ^ (tfK p q - 1) < (tfM p q) - ((tfH p q) * (2 ^ (tfK p q)))
 refine rt [rV (.int .i64 (cmpI ((tfM p q) - ((tfH p q) * (2 ^ (tfK p q)))) (2 ^ (tfK p q - 1)))), rV (.bool true), rV (.bool true), rV undef, rV undef, rV undef, rV undef, rV undef, rV undef, rV undef, rV undef, rV undef, rV undef, rV undef, rV (.bool true)] hz hd ?_ ?_
 refine ⟨?_, ?_, ?_, ?_, ?_, ?_, ?_, ?_, ?_, ?_, ?_, ?_, ?_, ?_, ?_, trivial⟩
 exact zMv hz (sv S16)
 exact sBin rfl rfl rfl hz rfl (Gd.none_ rfl) rfl (sd 0 rfl) kc (fun w => run_t (P := 2 ^ (tfK p q - 1) < (tfM p q) - ((tfH p q) * (2 ^ (tfK p q)))) ((fun w => run_cI_gtr ((tfM p q) - ((tfH p q) * (2 ^ (tfK p q)))) (2 ^ (tfK p q - 1)) w) w) hc9)
 exact zMv hz (sd 1 rfl)
 exact zSkU hz (gN 2 rfl)
 exact zSkU hz (gN 2 rfl)
 exact zSkU hz (gN 2 rfl)
 exact zSkU hz (gU 5 rfl)
 exact zSkU hz (gU 5 rfl)
 exact zSkU hz (gU 5 rfl)
 exact zSkU hz (gU 5 rfl)
 exact zSkU hz (gU 9 rfl)
 exact zSkU hz (gU 9 rfl)
 exact zSkU hz (gU 5 rfl)
 exact zSkU hz (gN 2 rfl)
 exact zPT hz (sd 2 rfl) kc
 clear hz hd
 intro a' γ' W' hz hd hC hk hh
 have tp6 := Cp6.lt
 clear Cp6
 have tp7 := Cp7.lt
 replace Cp7 := kC hC Cp7
 replace S2 := kp hk S2
 replace S3 := kp hk S3
 clear S8
 replace S10 := kp hk S10
 replace S11 := kp hk S11
 replace S13 := kp hk S13
 clear S16
 have S89 := gV hz 14 hh
 clear tp6 tp7
 replace HB := aB HB hC
 clear hC hk hh
 refine wp_cond_true S89.ev ?_
 refine region_drawn (M := [p7]) (
  rT (tN B64 (l + (l + 2000)) (tfH p q)) ::
  rT (tN B64 1 1) ::
  rT (tN B64 ((max (l + (l + 2000)) 1) + 1) ((tfH p q) + 1)) ::
  rE 0 26 (tN B64 ((max (l + (l + 2000)) 1) + 1) ((tfH p q) + 1)) p7 ::
  []) hz hd (by kernel_rfl) (by kernel_rfl) ?_ ?_
 refine ⟨?_, ?_, ?_, ?_, trivial⟩
 exact sLoadM rfl rfl rfl hz rfl (Gd.none_ rfl) rfl (sv S13) Cp7 (k := 0) (by simp [tagOf]) (by kernel_rfl) ld_n64
 exact zC0 hz Tryz.func51 (fun _ => c_num1)
 exact zC2 hz Tryz.func50 (sd 0 rfl) (sd 1 rfl) (fun _ _ _ h0 h1 => c_add h0 h1 (by rw [big_eq]; omega) (by decide))
 exact zSE rfl (sv S13) (by simp [tagOf]) (Cp7.var tN_nd) (sd 2 rfl) st_n64
 clear hz hd
 intro a' γ' W' hz hd hC hk hh
 replace Cp7 := gotE (T := tN B64 ((max (l + (l + 2000)) 1) + 1) ((tfH p q) + 1)) (id := 26) (p := p7) 3 hh rfl rfl
 replace S2 := kp hk S2
 replace S3 := kp hk S3
 replace S10 := kp hk S10
 replace S11 := kp hk S11
 replace S13 := kp hk S13
 clear S89
 replace HB := aM HB hC
 clear hC hk hh
 refine rt [rV (.int .i64 (tfL p q)), rV (.int .i64 (tfL p q))] hz hd ?_ ?_
 refine ⟨?_, ?_, trivial⟩
 exact zMv hz (sv S11)
 exact zAs hz (sd 0 rfl)
 clear hz hd
 intro a' γ' W' hz hd hC hk hh
 have tp7 := Cp7.lt
 replace Cp7 := kC hC Cp7
 replace S2 := kp hk S2
 replace S3 := kp hk S3
 clear S10
 clear S11
 replace S13 := kp hk S13
 have S10 := gV hz 1 hh
 clear tp7
 replace HB := aB HB hC
 clear hC hk hh
 refine wp_seq ?_
 refine rt [rT (tN B64 ((max (l + (l + 2000)) 1) + 1) ((tfH p q) + 1)), rV (.int .i64 (tfL p q)), rT (tT [tV (.float .f64 (flN (tfD p q))), tV (.bool (decide (tfD p q < 9218868437227405312)))]), rV (.float .f64 (flN (tfD p q))), rV (.bool (decide (tfD p q < 9218868437227405312))), rV (.float .f64 (flN (tfD p q))), rV (.bool (decide (tfD p q < 9218868437227405312)))] hz hd ?_ ?_
 refine ⟨?_, ?_, ?_, ?_, ?_, ?_, ?_, trivial⟩
 exact zLd hz (sv S13) Cp7 ld_n64
 exact zMv hz (sv S10)
 exact zC2 hz Tryz.func52 (sd 0 rfl) (sd 1 rfl) (k01 (fun _ _ h0 => c_number_to hp0 hq0 (by omega) (tf_yes hp0 hq0 (tf_up1 hc9)) h0 (by omega)))
 exact zExt hz (sd 2 rfl)
 exact zExt hz (sd 2 rfl)
 exact zAs hz (sd 3 rfl)
 exact zAs hz (sd 4 rfl)
 clear hz hd
 intro a' γ' W' hz hd hC hk hh
 have tp7 := Cp7.lt
 clear Cp7
 clear S2
 clear S3
 clear S13
 clear S10
 have S2 := gV hz 5 hh
 have S3 := gV hz 6 hh
 clear tp7
 replace HB := aB HB hC
 clear hC hk hh
 refine wp_ret ?_
 refine ret_to (T := tT [tV (.float .f64 (flN (tfD p q))), tV (.bool (decide (tfD p q < 9218868437227405312)))]) (rett2 (by kernel_rfl) S2 S3 hd HB) ?_
 exact fun _ _ h => h
 by_cases hc10 : (tfM p q) - ((tfH p q) * (2 ^ (tfK p q))) = 2 ^ (tfK p q - 1)
 by_cases hc11 : 0 < tfR p q
 refine rt [rV (.int .i64 (cmpI ((tfM p q) - ((tfH p q) * (2 ^ (tfK p q)))) (2 ^ (tfK p q - 1)))), rV (.bool false), rV (.bool false), rV (.int .i64 (cmpI ((tfM p q) - ((tfH p q) * (2 ^ (tfK p q)))) (2 ^ (tfK p q - 1)))), rV (.bool true), rV (.bool true), rT (tN B64 (l + (l + 2000)) (tfR p q)), rV (.int .i64 ((bl (tfR p q) : Nat) : Int)), rV (.bool true), rV (.bool true), rV undef, rV undef, rV (.bool true), rV (.bool true), rV (.bool true)] hz hd ?_ ?_
 refine ⟨?_, ?_, ?_, ?_, ?_, ?_, ?_, ?_, ?_, ?_, ?_, ?_, ?_, ?_, ?_, trivial⟩
 exact zMv hz (sv S16)
 exact sBin rfl rfl rfl hz rfl (Gd.none_ rfl) rfl (sd 0 rfl) kc (fun w => run_f (P := 2 ^ (tfK p q - 1) < (tfM p q) - ((tfH p q) * (2 ^ (tfK p q)))) ((fun w => run_cI_gtr ((tfM p q) - ((tfH p q) * (2 ^ (tfK p q)))) (2 ^ (tfK p q - 1)) w) w) hc9)
 exact zMv hz (sd 1 rfl)
 exact zMv hz (sv S16) (g := gT 2 rfl)
 exact sBin rfl rfl rfl hz rfl (gT 2 rfl) rfl (sd 3 rfl) kc (fun w => run_t (P := (tfM p q) - ((tfH p q) * (2 ^ (tfK p q))) = 2 ^ (tfK p q - 1)) ((fun w => run_cI_eql ((tfM p q) - ((tfH p q) * (2 ^ (tfK p q)))) (2 ^ (tfK p q - 1)) w) w) hc10)
 exact zMv hz (sd 4 rfl) (g := gT 2 rfl)
 exact zLd hz (sv S8) Cp6 ld_n64 (g := gT 5 rfl)
 exact zC1 hz Tryz.func42 (sd 6 rfl) (fun _ _ h0 => c_len h0 (by rw [big_eq]; omega)) (g := gT 5 rfl)
 exact sBin rfl rfl rfl hz rfl (gT 5 rfl) rfl (sd 7 rfl) kc (fun w => run_t (P := 0 < tfR p q) ((fun w => f_blpos w) w) hc11)
 exact zMv hz (sd 8 rfl) (g := gT 5 rfl)
 exact zSkU hz (gN 9 rfl)
 exact zSkU hz (gN 9 rfl)
 exact zPT hz (sd 9 rfl) kc (g := gT 5 rfl)
 exact zPT hz (sd 5 rfl) (sd 12 rfl) (g := gT 2 rfl)
 exact zPF hz (sd 2 rfl) (sd 13 rfl)
 clear hz hd
 intro a' γ' W' hz hd hC hk hh
 have tp6 := Cp6.lt
 clear Cp6
 have tp7 := Cp7.lt
 replace Cp7 := kC hC Cp7
 replace S2 := kp hk S2
 replace S3 := kp hk S3
 clear S8
 replace S10 := kp hk S10
 replace S11 := kp hk S11
 replace S13 := kp hk S13
 clear S16
 have S89 := gV hz 14 hh
 clear tp6 tp7
 replace HB := aB HB hC
 clear hC hk hh
 refine wp_cond_true S89.ev ?_
 refine region_drawn (M := [p7]) (
  rT (tN B64 (l + (l + 2000)) (tfH p q)) ::
  rT (tN B64 1 1) ::
  rT (tN B64 ((max (l + (l + 2000)) 1) + 1) ((tfH p q) + 1)) ::
  rE 0 26 (tN B64 ((max (l + (l + 2000)) 1) + 1) ((tfH p q) + 1)) p7 ::
  []) hz hd (by kernel_rfl) (by kernel_rfl) ?_ ?_
 refine ⟨?_, ?_, ?_, ?_, trivial⟩
 exact sLoadM rfl rfl rfl hz rfl (Gd.none_ rfl) rfl (sv S13) Cp7 (k := 0) (by simp [tagOf]) (by kernel_rfl) ld_n64
 exact zC0 hz Tryz.func51 (fun _ => c_num1)
 exact zC2 hz Tryz.func50 (sd 0 rfl) (sd 1 rfl) (fun _ _ _ h0 h1 => c_add h0 h1 (by rw [big_eq]; omega) (by decide))
 exact zSE rfl (sv S13) (by simp [tagOf]) (Cp7.var tN_nd) (sd 2 rfl) st_n64
 clear hz hd
 intro a' γ' W' hz hd hC hk hh
 replace Cp7 := gotE (T := tN B64 ((max (l + (l + 2000)) 1) + 1) ((tfH p q) + 1)) (id := 26) (p := p7) 3 hh rfl rfl
 replace S2 := kp hk S2
 replace S3 := kp hk S3
 replace S10 := kp hk S10
 replace S11 := kp hk S11
 replace S13 := kp hk S13
 clear S89
 replace HB := aM HB hC
 clear hC hk hh
 refine rt [rV (.int .i64 (tfL p q)), rV (.int .i64 (tfL p q))] hz hd ?_ ?_
 refine ⟨?_, ?_, trivial⟩
 exact zMv hz (sv S11)
 exact zAs hz (sd 0 rfl)
 clear hz hd
 intro a' γ' W' hz hd hC hk hh
 have tp7 := Cp7.lt
 replace Cp7 := kC hC Cp7
 replace S2 := kp hk S2
 replace S3 := kp hk S3
 clear S10
 clear S11
 replace S13 := kp hk S13
 have S10 := gV hz 1 hh
 clear tp7
 replace HB := aB HB hC
 clear hC hk hh
 refine wp_seq ?_
 refine rt [rT (tN B64 ((max (l + (l + 2000)) 1) + 1) ((tfH p q) + 1)), rV (.int .i64 (tfL p q)), rT (tT [tV (.float .f64 (flN (tfD p q))), tV (.bool (decide (tfD p q < 9218868437227405312)))]), rV (.float .f64 (flN (tfD p q))), rV (.bool (decide (tfD p q < 9218868437227405312))), rV (.float .f64 (flN (tfD p q))), rV (.bool (decide (tfD p q < 9218868437227405312)))] hz hd ?_ ?_
 refine ⟨?_, ?_, ?_, ?_, ?_, ?_, ?_, trivial⟩
 exact zLd hz (sv S13) Cp7 ld_n64
 exact zMv hz (sv S10)
 exact zC2 hz Tryz.func52 (sd 0 rfl) (sd 1 rfl) (k01 (fun _ _ h0 => c_number_to hp0 hq0 (by omega) (tf_yes hp0 hq0 (tf_up2 hc10 hc11)) h0 (by omega)))
 exact zExt hz (sd 2 rfl)
 exact zExt hz (sd 2 rfl)
 exact zAs hz (sd 3 rfl)
 exact zAs hz (sd 4 rfl)
 clear hz hd
 intro a' γ' W' hz hd hC hk hh
 have tp7 := Cp7.lt
 clear Cp7
 clear S2
 clear S3
 clear S13
 clear S10
 have S2 := gV hz 5 hh
 have S3 := gV hz 6 hh
 clear tp7
 replace HB := aB HB hC
 clear hC hk hh
 refine wp_ret ?_
 refine ret_to (T := tT [tV (.float .f64 (flN (tfD p q))), tV (.bool (decide (tfD p q < 9218868437227405312)))]) (rett2 (by kernel_rfl) S2 S3 hd HB) ?_
 exact fun _ _ h => h
 refine rt [rV (.int .i64 (cmpI ((tfM p q) - ((tfH p q) * (2 ^ (tfK p q)))) (2 ^ (tfK p q - 1)))), rV (.bool false), rV (.bool false), rV (.int .i64 (cmpI ((tfM p q) - ((tfH p q) * (2 ^ (tfK p q)))) (2 ^ (tfK p q - 1)))), rV (.bool true), rV (.bool true), rT (tN B64 (l + (l + 2000)) (tfR p q)), rV (.int .i64 ((bl (tfR p q) : Nat) : Int)), rV (.bool false), rV (.bool false), rT (tN B64 (l + (l + 2000)) (tfH p q)), rV (.bool (decide (tfH p q % 2 = 1))), rV (.bool (decide (tfH p q % 2 = 1))), rV (.bool (decide (tfH p q % 2 = 1))), rV (.bool (decide (tfH p q % 2 = 1)))] hz hd ?_ ?_
 refine ⟨?_, ?_, ?_, ?_, ?_, ?_, ?_, ?_, ?_, ?_, ?_, ?_, ?_, ?_, ?_, trivial⟩
 exact zMv hz (sv S16)
 exact sBin rfl rfl rfl hz rfl (Gd.none_ rfl) rfl (sd 0 rfl) kc (fun w => run_f (P := 2 ^ (tfK p q - 1) < (tfM p q) - ((tfH p q) * (2 ^ (tfK p q)))) ((fun w => run_cI_gtr ((tfM p q) - ((tfH p q) * (2 ^ (tfK p q)))) (2 ^ (tfK p q - 1)) w) w) hc9)
 exact zMv hz (sd 1 rfl)
 exact zMv hz (sv S16) (g := gT 2 rfl)
 exact sBin rfl rfl rfl hz rfl (gT 2 rfl) rfl (sd 3 rfl) kc (fun w => run_t (P := (tfM p q) - ((tfH p q) * (2 ^ (tfK p q))) = 2 ^ (tfK p q - 1)) ((fun w => run_cI_eql ((tfM p q) - ((tfH p q) * (2 ^ (tfK p q)))) (2 ^ (tfK p q - 1)) w) w) hc10)
 exact zMv hz (sd 4 rfl) (g := gT 2 rfl)
 exact zLd hz (sv S8) Cp6 ld_n64 (g := gT 5 rfl)
 exact zC1 hz Tryz.func42 (sd 6 rfl) (fun _ _ h0 => c_len h0 (by rw [big_eq]; omega)) (g := gT 5 rfl)
 exact sBin rfl rfl rfl hz rfl (gT 5 rfl) rfl (sd 7 rfl) kc (fun w => run_f (P := 0 < tfR p q) ((fun w => f_blpos w) w) hc11)
 exact zMv hz (sd 8 rfl) (g := gT 5 rfl)
 exact zLd hz (sv S13) Cp7 ld_n64 (g := gT 9 rfl)
 exact zC2 hz Tryz.func49 (sd 10 rfl) (kc (v := .int .i64 0)) (k01 (fun _ _ h0 => c_bit0 h0 (by rw [big_eq]; omega))) (g := gT 9 rfl)
 exact zPF hz (sd 9 rfl) (sd 11 rfl) (g := gT 5 rfl)
 exact zPT hz (sd 5 rfl) (sd 12 rfl) (g := gT 2 rfl)
 exact zPF hz (sd 2 rfl) (sd 13 rfl)
 clear hz hd
 intro a' γ' W' hz hd hC hk hh
 have tp6 := Cp6.lt
 clear Cp6
 have tp7 := Cp7.lt
 replace Cp7 := kC hC Cp7
 replace S2 := kp hk S2
 replace S3 := kp hk S3
 clear S8
 replace S10 := kp hk S10
 replace S11 := kp hk S11
 replace S13 := kp hk S13
 clear S16
 have S89 := gV hz 14 hh
 clear tp6 tp7
 replace HB := aB HB hC
 clear hC hk hh
 by_cases hc12 : tfH p q % 2 = 1
 rw [decide_eq_true hc12] at S89
 refine wp_cond_true S89.ev ?_
 refine region_drawn (M := [p7]) (
  rT (tN B64 (l + (l + 2000)) (tfH p q)) ::
  rT (tN B64 1 1) ::
  rT (tN B64 ((max (l + (l + 2000)) 1) + 1) ((tfH p q) + 1)) ::
  rE 0 26 (tN B64 ((max (l + (l + 2000)) 1) + 1) ((tfH p q) + 1)) p7 ::
  []) hz hd (by kernel_rfl) (by kernel_rfl) ?_ ?_
 refine ⟨?_, ?_, ?_, ?_, trivial⟩
 exact sLoadM rfl rfl rfl hz rfl (Gd.none_ rfl) rfl (sv S13) Cp7 (k := 0) (by simp [tagOf]) (by kernel_rfl) ld_n64
 exact zC0 hz Tryz.func51 (fun _ => c_num1)
 exact zC2 hz Tryz.func50 (sd 0 rfl) (sd 1 rfl) (fun _ _ _ h0 h1 => c_add h0 h1 (by rw [big_eq]; omega) (by decide))
 exact zSE rfl (sv S13) (by simp [tagOf]) (Cp7.var tN_nd) (sd 2 rfl) st_n64
 clear hz hd
 intro a' γ' W' hz hd hC hk hh
 replace Cp7 := gotE (T := tN B64 ((max (l + (l + 2000)) 1) + 1) ((tfH p q) + 1)) (id := 26) (p := p7) 3 hh rfl rfl
 replace S2 := kp hk S2
 replace S3 := kp hk S3
 replace S10 := kp hk S10
 replace S11 := kp hk S11
 replace S13 := kp hk S13
 clear S89
 replace HB := aM HB hC
 clear hC hk hh
 refine rt [rV (.int .i64 (tfL p q)), rV (.int .i64 (tfL p q))] hz hd ?_ ?_
 refine ⟨?_, ?_, trivial⟩
 exact zMv hz (sv S11)
 exact zAs hz (sd 0 rfl)
 clear hz hd
 intro a' γ' W' hz hd hC hk hh
 have tp7 := Cp7.lt
 replace Cp7 := kC hC Cp7
 replace S2 := kp hk S2
 replace S3 := kp hk S3
 clear S10
 clear S11
 replace S13 := kp hk S13
 have S10 := gV hz 1 hh
 clear tp7
 replace HB := aB HB hC
 clear hC hk hh
 refine wp_seq ?_
 refine rt [rT (tN B64 ((max (l + (l + 2000)) 1) + 1) ((tfH p q) + 1)), rV (.int .i64 (tfL p q)), rT (tT [tV (.float .f64 (flN (tfD p q))), tV (.bool (decide (tfD p q < 9218868437227405312)))]), rV (.float .f64 (flN (tfD p q))), rV (.bool (decide (tfD p q < 9218868437227405312))), rV (.float .f64 (flN (tfD p q))), rV (.bool (decide (tfD p q < 9218868437227405312)))] hz hd ?_ ?_
 refine ⟨?_, ?_, ?_, ?_, ?_, ?_, ?_, trivial⟩
 exact zLd hz (sv S13) Cp7 ld_n64
 exact zMv hz (sv S10)
 exact zC2 hz Tryz.func52 (sd 0 rfl) (sd 1 rfl) (k01 (fun _ _ h0 => c_number_to hp0 hq0 (by omega) (tf_yes hp0 hq0 (tf_up3 hc10 hc12)) h0 (by omega)))
 exact zExt hz (sd 2 rfl)
 exact zExt hz (sd 2 rfl)
 exact zAs hz (sd 3 rfl)
 exact zAs hz (sd 4 rfl)
 clear hz hd
 intro a' γ' W' hz hd hC hk hh
 have tp7 := Cp7.lt
 clear Cp7
 clear S2
 clear S3
 clear S13
 clear S10
 have S2 := gV hz 5 hh
 have S3 := gV hz 6 hh
 clear tp7
 replace HB := aB HB hC
 clear hC hk hh
 refine wp_ret ?_
 refine ret_to (T := tT [tV (.float .f64 (flN (tfD p q))), tV (.bool (decide (tfD p q < 9218868437227405312)))]) (rett2 (by kernel_rfl) S2 S3 hd HB) ?_
 exact fun _ _ h => h
 rw [decide_eq_false hc12] at S89
 refine wp_cond_false S89.ev ?_
 refine wp_skip ?_
 refine rt [rV (.int .i64 (tfL p q)), rV (.int .i64 (tfL p q))] hz hd ?_ ?_
 refine ⟨?_, ?_, trivial⟩
 exact zMv hz (sv S11)
 exact zAs hz (sd 0 rfl)
 clear hz hd
 intro a' γ' W' hz hd hC hk hh
 have tp7 := Cp7.lt
 replace Cp7 := kC hC Cp7
 replace S2 := kp hk S2
 replace S3 := kp hk S3
 clear S10
 clear S11
 replace S13 := kp hk S13
 clear S89
 have S10 := gV hz 1 hh
 clear tp7
 replace HB := aB HB hC
 clear hC hk hh
 refine wp_seq ?_
 refine rt [rT (tN B64 (l + (l + 2000)) (tfH p q)), rV (.int .i64 (tfL p q)), rT (tT [tV (.float .f64 (flN (tfD p q))), tV (.bool (decide (tfD p q < 9218868437227405312)))]), rV (.float .f64 (flN (tfD p q))), rV (.bool (decide (tfD p q < 9218868437227405312))), rV (.float .f64 (flN (tfD p q))), rV (.bool (decide (tfD p q < 9218868437227405312)))] hz hd ?_ ?_
 refine ⟨?_, ?_, ?_, ?_, ?_, ?_, ?_, trivial⟩
 exact zLd hz (sv S13) Cp7 ld_n64
 exact zMv hz (sv S10)
 exact zC2 hz Tryz.func52 (sd 0 rfl) (sd 1 rfl) (k01 (fun _ _ h0 => c_number_to hp0 hq0 (by omega) (tf_not hp0 hq0 (tf_no2 hc9 hc11 hc12)) h0 (by omega)))
 exact zExt hz (sd 2 rfl)
 exact zExt hz (sd 2 rfl)
 exact zAs hz (sd 3 rfl)
 exact zAs hz (sd 4 rfl)
 clear hz hd
 intro a' γ' W' hz hd hC hk hh
 have tp7 := Cp7.lt
 clear Cp7
 clear S2
 clear S3
 clear S13
 clear S10
 have S2 := gV hz 5 hh
 have S3 := gV hz 6 hh
 clear tp7
 replace HB := aB HB hC
 clear hC hk hh
 refine wp_ret ?_
 refine ret_to (T := tT [tV (.float .f64 (flN (tfD p q))), tV (.bool (decide (tfD p q < 9218868437227405312)))]) (rett2 (by kernel_rfl) S2 S3 hd HB) ?_
 exact fun _ _ h => h
 refine rt [rV (.int .i64 (cmpI ((tfM p q) - ((tfH p q) * (2 ^ (tfK p q)))) (2 ^ (tfK p q - 1)))), rV (.bool false), rV (.bool false), rV (.int .i64 (cmpI ((tfM p q) - ((tfH p q) * (2 ^ (tfK p q)))) (2 ^ (tfK p q - 1)))), rV (.bool false), rV (.bool false), rV undef, rV undef, rV undef, rV undef, rV undef, rV undef, rV undef, rV (.bool false), rV (.bool false)] hz hd ?_ ?_
 refine ⟨?_, ?_, ?_, ?_, ?_, ?_, ?_, ?_, ?_, ?_, ?_, ?_, ?_, ?_, ?_, trivial⟩
 exact zMv hz (sv S16)
 exact sBin rfl rfl rfl hz rfl (Gd.none_ rfl) rfl (sd 0 rfl) kc (fun w => run_f (P := 2 ^ (tfK p q - 1) < (tfM p q) - ((tfH p q) * (2 ^ (tfK p q)))) ((fun w => run_cI_gtr ((tfM p q) - ((tfH p q) * (2 ^ (tfK p q)))) (2 ^ (tfK p q - 1)) w) w) hc9)
 exact zMv hz (sd 1 rfl)
 exact zMv hz (sv S16) (g := gT 2 rfl)
 exact sBin rfl rfl rfl hz rfl (gT 2 rfl) rfl (sd 3 rfl) kc (fun w => run_f (P := (tfM p q) - ((tfH p q) * (2 ^ (tfK p q))) = 2 ^ (tfK p q - 1)) ((fun w => run_cI_eql ((tfM p q) - ((tfH p q) * (2 ^ (tfK p q)))) (2 ^ (tfK p q - 1)) w) w) hc10)
 exact zMv hz (sd 4 rfl) (g := gT 2 rfl)
 exact zSkU hz (gN 5 rfl)
 exact zSkU hz (gN 5 rfl)
 exact zSkU hz (gN 5 rfl)
 exact zSkU hz (gN 5 rfl)
 exact zSkU hz (gU 9 rfl)
 exact zSkU hz (gU 9 rfl)
 exact zSkU hz (gN 5 rfl)
 exact zPF hz (sd 5 rfl) kc (g := gT 2 rfl)
 exact zPF hz (sd 2 rfl) (sd 13 rfl)
 clear hz hd
 intro a' γ' W' hz hd hC hk hh
 have tp6 := Cp6.lt
 clear Cp6
 have tp7 := Cp7.lt
 replace Cp7 := kC hC Cp7
 replace S2 := kp hk S2
 replace S3 := kp hk S3
 clear S8
 replace S10 := kp hk S10
 replace S11 := kp hk S11
 replace S13 := kp hk S13
 clear S16
 have S89 := gV hz 14 hh
 clear tp6 tp7
 replace HB := aB HB hC
 clear hC hk hh
 refine wp_cond_false S89.ev ?_
 refine wp_skip ?_
 refine rt [rV (.int .i64 (tfL p q)), rV (.int .i64 (tfL p q))] hz hd ?_ ?_
 refine ⟨?_, ?_, trivial⟩
 exact zMv hz (sv S11)
 exact zAs hz (sd 0 rfl)
 clear hz hd
 intro a' γ' W' hz hd hC hk hh
 have tp7 := Cp7.lt
 replace Cp7 := kC hC Cp7
 replace S2 := kp hk S2
 replace S3 := kp hk S3
 clear S10
 clear S11
 replace S13 := kp hk S13
 clear S89
 have S10 := gV hz 1 hh
 clear tp7
 replace HB := aB HB hC
 clear hC hk hh
 refine wp_seq ?_
 refine rt [rT (tN B64 (l + (l + 2000)) (tfH p q)), rV (.int .i64 (tfL p q)), rT (tT [tV (.float .f64 (flN (tfD p q))), tV (.bool (decide (tfD p q < 9218868437227405312)))]), rV (.float .f64 (flN (tfD p q))), rV (.bool (decide (tfD p q < 9218868437227405312))), rV (.float .f64 (flN (tfD p q))), rV (.bool (decide (tfD p q < 9218868437227405312)))] hz hd ?_ ?_
 refine ⟨?_, ?_, ?_, ?_, ?_, ?_, ?_, trivial⟩
 exact zLd hz (sv S13) Cp7 ld_n64
 exact zMv hz (sv S10)
 exact zC2 hz Tryz.func52 (sd 0 rfl) (sd 1 rfl) (k01 (fun _ _ h0 => c_number_to hp0 hq0 (by omega) (tf_not hp0 hq0 (tf_no1 hc9 hc10)) h0 (by omega)))
 exact zExt hz (sd 2 rfl)
 exact zExt hz (sd 2 rfl)
 exact zAs hz (sd 3 rfl)
 exact zAs hz (sd 4 rfl)
 clear hz hd
 intro a' γ' W' hz hd hC hk hh
 have tp7 := Cp7.lt
 clear Cp7
 clear S2
 clear S3
 clear S13
 clear S10
 have S2 := gV hz 5 hh
 have S3 := gV hz 6 hh
 clear tp7
 replace HB := aB HB hC
 clear hC hk hh
 refine wp_ret ?_
 refine ret_to (T := tT [tV (.float .f64 (flN (tfD p q))), tV (.bool (decide (tfD p q < 9218868437227405312)))]) (rett2 (by kernel_rfl) S2 S3 hd HB) ?_
 exact fun _ _ h => h

end Go.Proofs.YtfgnleoaibcegaaGreat.Rg
