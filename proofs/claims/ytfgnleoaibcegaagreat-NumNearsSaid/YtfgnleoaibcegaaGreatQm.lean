/-
  Walks and plain laws, put together: VOH VO VT VU VWH VR.
-/
import Derived.Test.YtfgnleoaibcegaaGreatQl
import Derived.Test.YtfgnleoaibcegaaGreatQj
import Derived.Test.YtfgnleoaibcegaaGreatXFr
set_option linter.unusedVariables false
set_option linter.unusedSimpArgs false
namespace Go.Proofs.YtfgnleoaibcegaaGreat.Rg

open Go.RowKit

def atP (p : Nat) (e : Int) : Nat := if 0 < e then p else p * 2 ^ (-e).toNat
def atQ (q : Nat) (e : Int) : Nat := if 0 < e then q * 2 ^ e.toNat else q
def hf (p q : Nat) : Int := if p % q = 0 then -2 else cmpI (p % q * 2 ^ 1) q
section

variable {p q s : Nat} {e : Int}
theorem atQ_pos (hq : 0 < q) : 0 < atQ q e := by
  unfold atQ; split
  · exact Nat.mul_pos hq (Nat.two_pow_pos _)
  · exact hq
theorem pow_split (K : Nat) (hK : K = 1074) (h : 0 < nE s) : (2 : Nat) ^ s = 2 ^ (nE s).toNat * 2 ^ K := by
  unfold nE at h ⊢
  rw [← Nat.pow_add]; congr 1; omega
theorem pow_split2 (K : Nat) (hK : K = 1074) (h : ¬ 0 < nE s) : (2 : Nat) ^ K = 2 ^ (-(nE s)).toNat * 2 ^ s := by
  unfold nE at h ⊢
  rw [← Nat.pow_add]; congr 1; omega
theorem at_scale (K : Nat) (hK : K = 1074) : ∃ c, 0 < c ∧ p * 2 ^ K = atP p (nE s) * c ∧ q * 2 ^ s = atQ q (nE s) * c := by
  unfold atP atQ
  by_cases h : 0 < nE s
  · rw [if_pos h, if_pos h]
    exact ⟨2 ^ K, Nat.two_pow_pos _, rfl, by rw [pow_split K hK h, Nat.mul_assoc]⟩
  · rw [if_neg h, if_neg h]
    exact ⟨2 ^ s, Nat.two_pow_pos _, by rw [pow_split2 K hK h, Nat.mul_assoc], rfl⟩
theorem at_div (K : Nat) (hK : K = 1074) (hq : 0 < q) : atP p (nE s) / atQ q (nE s) = p * 2 ^ K / q / 2 ^ s := by
  obtain ⟨c, hc, h1, h2⟩ := at_scale (p := p) (q := q) (s := s) K hK
  rw [Nat.div_div_eq_div_mul, h1, h2, Nat.mul_div_mul_right _ _ hc]
theorem at_rn (K : Nat) (hK : K = 1074) (hq : 0 < q) : rn (atP p (nE s)) (atQ q (nE s)) = rn (p * 2 ^ K) (q * 2 ^ s) := by
  obtain ⟨c, hc, h1, h2⟩ := at_scale (p := p) (q := q) (s := s) K hK
  rw [h1, h2, rn_scale (atQ_pos hq) hc]
theorem bl_shift (T s : Nat) : bl (T / 2 ^ s) = bl T - s := by
  rcases Nat.eq_zero_or_pos (T / 2 ^ s) with h | h
  · rw [h, bl_zero]
    have hlt : T < 2 ^ s := by
      rcases Nat.lt_or_ge T (2 ^ s) with c | c
      · exact c
      · exact absurd (Nat.div_pos c (Nat.two_pow_pos s)) (by omega)
    have := bl_le hlt
    omega
  · have hT : 0 < T := Nat.lt_of_lt_of_le h (Nat.div_le_self _ _)
    have h1 := bl_bounds hT
    have h2 := bl_bounds h
    have a1 : bl (T / 2 ^ s) ≤ bl T - s := by
      refine bl_le ?_
      rw [Nat.div_lt_iff_lt_mul (Nat.two_pow_pos s), ← Nat.pow_add]
      exact Nat.lt_of_lt_of_le h1.2.2 (Nat.pow_le_pow_right (by decide) (show bl T ≤ bl T - s + s by omega))
    have a2 : bl T ≤ bl (T / 2 ^ s) + s := by
      refine bl_le ?_
      rw [Nat.pow_add]
      exact (Nat.div_lt_iff_lt_mul (Nat.two_pow_pos s)).1 h2.2.2
    omega
theorem start_le (K : Nat) (hK : K = 1074) (hp : 0 < p) (hq : 0 < q) (hs : (s : Int) - 1074 = if ((bl p : Nat) : Int) - ((bl q : Nat) : Int) - 54 < -1074 then -1074 else ((bl p : Nat) : Int) - ((bl q : Nat) : Int) - 54) : s ≤ nearS K p q := by
  unfold nearS
  split at hs
  · omega
  · have h1 := (bl_bounds hp).2.1
    have hp0 : 0 < bl p := by
      rcases Nat.eq_zero_or_pos (bl p) with h | h
      · have := bl_lt (x := p); rw [h] at this; omega
      · exact h
    have h2 := bl_lt (x := q)
    have h3 : 2 ^ (bl p - 1 + K - bl q) ≤ p * 2 ^ K / q := by
      rw [Nat.le_div_iff_mul_le hq]
      refine Nat.le_trans (Nat.mul_le_mul_left _ (Nat.le_of_lt h2)) ?_
      rw [← Nat.pow_add, show bl p - 1 + K - bl q + bl q = bl p - 1 + K by omega, Nat.pow_add]
      exact Nat.mul_le_mul_right _ h1
    have h4 : bl p - 1 + K - bl q < bl (p * 2 ^ K / q) := by
      rcases Nat.lt_or_ge (bl p - 1 + K - bl q) (bl (p * 2 ^ K / q)) with c | c
      · exact c
      · have h5 := bl_lt (x := p * 2 ^ K / q)
        have h6 : 2 ^ bl (p * 2 ^ K / q) ≤ 2 ^ (bl p - 1 + K - bl q) := Nat.pow_le_pow_right (by decide) c
        omega
    omega
theorem hf_1 {a b : Nat} (hb : 0 < b) : hf a b = 1 ↔ b < a % b + a % b := by
  unfold hf
  rw [show a % b * 2 ^ 1 = a % b + a % b by omega]
  unfold cmpI
  repeat' split
  all_goals omega
theorem hf_0 {a b : Nat} (hb : 0 < b) : hf a b = 0 ↔ a % b + a % b = b := by
  unfold hf
  rw [show a % b * 2 ^ 1 = a % b + a % b by omega]
  unfold cmpI
  repeat' split
  all_goals omega
theorem at_next {K : Nat} (h : s ≤ nearS K p q) (hb : 53 < bl (p * 2 ^ K / q / 2 ^ s)) : s + 1 ≤ nearS K p q := by
  rw [bl_shift] at hb
  unfold nearS; omega
theorem at_end {K : Nat} (h : s ≤ nearS K p q) (hb : ¬ 53 < bl (p * 2 ^ K / q / 2 ^ s)) : s = nearS K p q := by
  rw [bl_shift] at hb
  unfold nearS at h ⊢; omega
theorem at_lt {K : Nat} (hs : s = nearS K p q) : p * 2 ^ K / q / 2 ^ s < 9007199254740992 := by
  have h1 : bl (p * 2 ^ K / q / 2 ^ s) ≤ 53 := by rw [bl_shift, hs]; unfold nearS; omega
  have h2 := bl_lt (x := p * 2 ^ K / q / 2 ^ s)
  exact Nat.lt_of_lt_of_le h2 (Nat.pow_le_pow_right (by decide) h1)
theorem at_H {K h : Nat} (hs : s = nearS K p q) (h1 : h = rn (p * 2 ^ K) (q * 2 ^ s)) : h = nearH K p q := by
  rw [h1, hs]; rfl
theorem nearS_le {K l : Nat} (hq : 0 < q) (h : bl p ≤ l) : nearS K p q ≤ l + K := by
  unfold nearS
  have : bl (p * 2 ^ K / q) ≤ l + K := by
    refine bl_le (Nat.lt_of_le_of_lt (Nat.div_le_self _ _) ?_)
    rw [Nat.pow_add]
    exact Nat.mul_lt_mul_of_pos_right (Nat.lt_of_lt_of_le bl_lt (Nat.pow_le_pow_right (by decide) h)) (Nat.two_pow_pos _)
  omega
end

end Go.Proofs.YtfgnleoaibcegaaGreat.Rg

namespace Go.Proofs.YtfgnleoaibcegaaGreat.Rg

open Go.RowKit

section

variable {l x q : Nat} {v v1 v2 : Value} {w : World}
theorem d_left_z (K : Nat) {e : Int} (h : (tN B32 l x).p v w) (hl : l ≤ big) (h0 : 0 ≤ e) (he : e ≤ (K : Int)) (hK : K ≤ 16777216) : Calls Tryz.prog 17 #[v, .int .i64 e] w (Ret (tN B32 (l + K) (x * 2 ^ e.toNat)) w) := by
  have := d_leftK K (k := e.toNat) (w := w) h hl (by omega) hK
  rw [show ((e.toNat : Nat) : Int) = e by omega] at this; exact this
theorem d_uint_lt (hx : x < 9007199254740992) (h1 : (tN B32 l x).p v1 w) (b1 : l ≤ big) : Calls Tryz.prog 56 #[v1] w (Ret (tT [tV (.int .u64 ((x : Nat) : Int)), tV (.bool true)]) w) := by
  have hb : x < B64 := Nat.lt_trans hx (by decide)
  have e1 : uintOf x = x := by unfold uintOf; rw [if_pos hb]
  have e2 : fitsU x = true := by unfold fitsU; simpa using hb
  have := d_uint h1 b1
  rw [e1, e2] at this; exact this
theorem tN_up {b m l x : Nat} (h : l ≤ m) : ∀ v w, (tN b l x).p v w → (tN b m x).p v w := fun v w h1 => tN_le h _ _ h1
variable {p : Nat} {e : Int}
theorem at_to {L1 L2 P1 Q1 : Nat} {z : Int} (hP : P1 = atP p e) (hQ : Q1 = atQ q e) (hz : z = hf P1 Q1) (hL : L1 ≤ L2) : ∀ v w, (tT [tN B32 L1 (P1 / Q1), tV (.int .i64 z)]).p v w → (tT [tN B32 L2 (atP p e / atQ q e), tV (.int .i64 (hf (atP p e) (atQ q e)))]).p v w := by
  rw [← hP, ← hQ, ← hz]
  exact to2 (tN_up hL) (fun _ _ h => h)
theorem atP_1 (h : 0 < e) : p = atP p e := by unfold atP; rw [if_pos h]
theorem atQ_1 (h : 0 < e) : q * 2 ^ e.toNat = atQ q e := by unfold atQ; rw [if_pos h]
theorem atP_2 (h : ¬ 0 < e) : p * 2 ^ (-e).toNat = atP p e := by unfold atP; rw [if_neg h]
theorem atQ_2 (h : ¬ 0 < e) : q = atQ q e := by unfold atQ; rw [if_neg h]
theorem hf_z {a b : Nat} (h : a % b = 0) : (-2 : Int) = hf a b := by unfold hf; rw [if_pos h]
theorem hf_n {a b : Nat} (h : ¬ a % b = 0) : cmpI (a % b * 2 ^ 1) b = hf a b := by unfold hf; rw [if_neg h]
end
theorem retct_n32 {fn : Func} {w0 : World} {a : Act} {w : World} {t1 t2 p1 l x : Nat} {u : Value} (h : fn.results = #[.cell t1 30, .tmp t2]) (s1 : Sl a t1 (.pointer (some ⟨p1, 0, none⟩))) (s2 : Sl a t2 u) (hdf : a.defers = [])
    (c1 : Cell 30 (tN B32 l x) p1 w) (hb : Below w0.heap.size w0 w) : bodyPost Tryz.prog fn (Ret (tT [tN B32 l x, tV u]) w0) .ret a w := by
  obtain ⟨v1, b1, h1⟩ := c1
  refine bodyPost_ret (v := .tuple #[v1, u]) ?_ hdf ⟨_, rfl, ⟨[v1, u], rfl, h1, rfl, trivial⟩, hb⟩
  obtain ⟨A, n, c, rfl, -⟩ := h1
  have e1 := b1.cell 0
  unfold Sl at s1 s2
  simp [Value.cells] at e1
  simp [results, h, go_sem, s1, s2, e1]
theorem f_negE {z : Int} (h : -1000000000 ≤ z ∧ z ≤ 1000000000) (w : World) : (Op.unary .neg (.int .i64 z)).run Tryz.prog w = .ok (.int .i64 (-z)) w := by
  have e : IntKind.i64.wrap (-z) = -z := by rw [IntKind.wrap_i64]; omega
  simp [go_sem, e]
theorem z_gt0' {z : Int} {ox oy : Operand} {id : TypeId} (w : World) : (do eqGuard .gtr id ox oy (.int .i64 z) (.int .i64 0); binOp .gtr id (.int .i64 z) (.int .i64 0) : Sem Value).run Tryz.prog w = .ok (.bool (decide (0 < z))) w := by
  simp [go_sem]
theorem o_hf1 {a b : Nat} {ox oy : Operand} {id : TypeId} (hb : 0 < b) (w : World) : (do eqGuard .eql id ox oy (.int .i64 (hf a b)) (.int .i64 1); binOp .eql id (.int .i64 (hf a b)) (.int .i64 1) : Sem Value).run Tryz.prog w = .ok (.bool (decide (b < a % b + a % b))) w := by
  have e : decide (hf a b = 1) = decide (b < a % b + a % b) := decide_eq_decide.2 (hf_1 hb)
  rw [← e]
  by_cases hc : hf a b = 1 <;> simp [go_sem, hc]
theorem o_hf0 {a b : Nat} {ox oy : Operand} {id : TypeId} (hb : 0 < b) (w : World) : (do eqGuard .eql id ox oy (.int .i64 (hf a b)) (.int .i64 0); binOp .eql id (.int .i64 (hf a b)) (.int .i64 0) : Sem Value).run Tryz.prog w = .ok (.bool (decide (a % b + a % b = b))) w := by
  have e : decide (hf a b = 0) = decide (a % b + a % b = b) := decide_eq_decide.2 (hf_0 hb)
  rw [← e]
  by_cases hc : hf a b = 0 <;> simp [go_sem, hc]
def ds1 (p q : Nat) : Int := ((bl p : Nat) : Int) - ((bl q : Nat) : Int)
def ds2 (p q : Nat) : Int := ds1 p q - 54
theorem o_ds1 {p q : Nat} {ox oy : Operand} {id : TypeId} (h : bl p ≤ 1000000) (h2 : bl q ≤ 1000000) (w : World) : (do eqGuard .sub id ox oy (.int .i64 ((bl p : Nat) : Int)) (.int .i64 ((bl q : Nat) : Int)); binOp .sub id (.int .i64 ((bl p : Nat) : Int)) (.int .i64 ((bl q : Nat) : Int)) : Sem Value).run Tryz.prog w = .ok (.int .i64 (ds1 p q)) w := by
  have e : IntKind.i64.wrap (((bl p : Nat) : Int) - ((bl q : Nat) : Int)) = ds1 p q := by unfold ds1; rw [IntKind.wrap_i64]; omega
  simp [go_sem, e]
theorem o_ds2 {p q : Nat} {ox oy : Operand} {id : TypeId} (h : bl p ≤ 1000000) (h2 : bl q ≤ 1000000) (w : World) : (do eqGuard .sub id ox oy (.int .i64 (ds1 p q)) (.int .i64 54); binOp .sub id (.int .i64 (ds1 p q)) (.int .i64 54) : Sem Value).run Tryz.prog w = .ok (.int .i64 (ds2 p q)) w := by
  have e : IntKind.i64.wrap (ds1 p q - 54) = ds2 p q := by unfold ds2 ds1; rw [IntKind.wrap_i64]; omega
  simp [go_sem, e]
theorem ds_s (p q : Nat) : ∃ s : Nat, nE s = (if -1074 > ds2 p q then -1074 else ds2 p q) := by
  by_cases h : -1074 > ds2 p q
  · exact ⟨0, by rw [if_pos h]; rfl⟩
  · exact ⟨(ds2 p q + 1074).toNat, by rw [if_neg h]; unfold nE; omega⟩
theorem ds_le {K p q s : Nat} (hK : K = 1074) (hp : 0 < p) (hq : 0 < q) (h : nE s = (if -1074 > ds2 p q then -1074 else ds2 p q)) : s ≤ nearS K p q := by
  refine start_le K hK hp hq ?_
  unfold nE ds2 ds1 at h
  split at h <;> split <;> omega
theorem o_53 {T : Nat} {ox oy : Operand} {id : TypeId} (w : World) : (do eqGuard .gtr id ox oy (.int .i64 ((bl T : Nat) : Int)) (.int .i64 53); binOp .gtr id (.int .i64 ((bl T : Nat) : Int)) (.int .i64 53) : Sem Value).run Tryz.prog w = .ok (.bool (decide (53 < bl T))) w := by
  have e : decide ((53 : Int) < ((bl T : Nat) : Int)) = decide (53 < bl T) := by rw [decide_eq_decide]; omega
  rw [← e]
  simp only [eqGuard]; simp [go_sem]
theorem o_rem2 {h : Nat} {ox oy : Operand} {id : TypeId} (w : World) : (do eqGuard .rem id ox oy (.int .u64 ((h : Nat) : Int)) (.int .u64 2); binOp .rem id (.int .u64 ((h : Nat) : Int)) (.int .u64 2) : Sem Value).run Tryz.prog w = .ok (.int .u64 ((h % 2 : Nat) : Int)) w := by
  simp [go_sem]
  exact Int.tmod_eq_emod_of_nonneg (by omega)
theorem o_u1 {h : Nat} {ox oy : Operand} {id : TypeId} (hh : h < 9007199254740992) (w : World) : (do eqGuard .add id ox oy (.int .u64 ((h : Nat) : Int)) (.int .u64 1); binOp .add id (.int .u64 ((h : Nat) : Int)) (.int .u64 1) : Sem Value).run Tryz.prog w = .ok (.int .u64 ((h + 1 : Nat) : Int)) w := by
  have e : IntKind.u64.wrap (((h : Nat) : Int) + 1) = ((h + 1 : Nat) : Int) := by rw [IntKind.wrap_u64]; omega
  simp [go_sem, e]
theorem o_is53 {h : Nat} {ox oy : Operand} {id : TypeId} (w : World) : (do eqGuard .eql id ox oy (.int .u64 ((h : Nat) : Int)) (.int .u64 9007199254740992); binOp .eql id (.int .u64 ((h : Nat) : Int)) (.int .u64 9007199254740992) : Sem Value).run Tryz.prog w = .ok (.bool (decide (h = 9007199254740992))) w := by
  by_cases hc : h = 9007199254740992
  · subst hc; simp [go_sem]
  · have : ¬ ((h : Nat) : Int) = 9007199254740992 := by omega
    simp [go_sem, hc, this]
theorem o_least {s : Nat} {ox oy : Operand} {id : TypeId} (hs : s ≤ 3000) (w : World) : (do eqGuard .sub id ox oy (.int .i64 (nE s)) (.int .i64 (-1074)); binOp .sub id (.int .i64 (nE s)) (.int .i64 (-1074)) : Sem Value).run Tryz.prog w = .ok (.int .i64 ((s : Nat) : Int)) w := by
  have e : IntKind.i64.wrap (nE s + 1074) = ((s : Nat) : Int) := by unfold nE; rw [IntKind.wrap_i64]; omega
  simp [go_sem, e]
theorem o_sub52 {h : Nat} {ox oy : Operand} {id : TypeId} (h1 : 4503599627370496 ≤ h) (h2 : h ≤ 9007199254740992) (w : World) : (do eqGuard .sub id ox oy (.int .u64 ((h : Nat) : Int)) (.int .u64 4503599627370496); binOp .sub id (.int .u64 ((h : Nat) : Int)) (.int .u64 4503599627370496) : Sem Value).run Tryz.prog w = .ok (.int .u64 ((h - 4503599627370496 : Nat) : Int)) w := by
  have e : IntKind.u64.wrap (((h : Nat) : Int) - 4503599627370496) = ((h - 4503599627370496 : Nat) : Int) := by rw [IntKind.wrap_u64]; omega
  simp [go_sem, e]
theorem o_add {a b : Nat} {ox oy : Operand} {id : TypeId} (h1 : a + b < 18446744073709551616) (w : World) : (do eqGuard .add id ox oy (.int .u64 ((a : Nat) : Int)) (.int .u64 ((b : Nat) : Int)); binOp .add id (.int .u64 ((a : Nat) : Int)) (.int .u64 ((b : Nat) : Int)) : Sem Value).run Tryz.prog w = .ok (.int .u64 ((a + b : Nat) : Int)) w := by
  have e : IntKind.u64.wrap (((a : Nat) : Int) + ((b : Nat) : Int)) = ((a + b : Nat) : Int) := by rw [IntKind.wrap_u64]; omega
  simp [go_sem, e]
theorem cv_s {s : Nat} (h : s ≤ 4000) (w : World) : (convert 3 23 (.int .i64 ((s : Nat) : Int))).run Tryz.prog w = .ok (.int .u64 ((s : Nat) : Int)) w := by
  have e : IntKind.u64.wrap ((s : Nat) : Int) = ((s : Nat) : Int) := by rw [IntKind.wrap_u64]; omega
  simp [go_sem, e]
set_option maxRecDepth 10000 in
set_option maxHeartbeats 2000000 in
theorem d_at {l p q : Nat} {e : Int} {v0 : Value} {w : World} (h0 : (tR B32 l l p q).p v0 w) (hq : 0 < q) (hl : l ≤ 200000) (he : -1074 ≤ e ∧ e ≤ 300000) :
    Calls Tryz.prog 55 #[v0, .int .i64 (e)] w (Ret (tT [tN B32 (l + 300000) (atP p e / atQ q e), tV (.int .i64 (hf (atP p e) (atQ q e)))]) w) := by
 refine enter Tryz.func55 rfl Tryz.ntmps55 (by simp) ?_
 intro a hz hd ha
 have S0 := ha 0 _ rfl
 have H0 := h0
 have S1 := ha 1 _ rfl
 clear ha
 have HB : Below w.heap.size w w := Below.refl _ _
 refine wp_seq ?_
 refine rt [rB 0 32 (tR B32 l l p q) none 0, rB 1 30 (tN B32 0 0) none 0, rV (.int .i64 0)] hz hd ?_ ?_
 refine ⟨?_, ?_, ?_, trivial⟩
 exact zBox hz (so S0 H0) box_r32
 exact zNew hz (fun _ => tN_nil) al_n32
 exact zAs hz kc
 clear hz hd
 intro a' γ' W' hz hd hC hk hh
 clear S0 H0
 replace S1 := kp hk S1
 obtain ⟨p1, S2, Cp1, lp1, gp1⟩ := gotB hz 0 hC hh rfl rfl rfl rfl rfl rfl
 obtain ⟨p2, S4, Cp2, lp2, gp2⟩ := gotB hz 1 hC hh rfl rfl rfl rfl rfl rfl
 have S5 := gV hz 2 hh
 have n_p1_p2 : p1 ≠ p2 := by intro e; rw [e, gp2] at gp1; omega
 have bp2 := Nat.le_trans HB.size lp2
 clear lp1 gp1 lp2 gp2
 replace HB := aB HB hC
 clear hC hk hh
 refine wp_seq ?_
 refine rt [rV (.pointer (some ⟨p1, 0, none⟩)), rT (tN B32 l p), rVar 2 30 1, rB 2 30 (tN B32 l p) (some 2) 3] hz hd ?_ ?_
 refine ⟨?_, ?_, ?_, ?_, trivial⟩
 exact sFA rfl rfl rfl hz rfl (Gd.none_ rfl) rfl (sv S2) (fun w => by simp [go_sem])
 exact zLdP hz (sd 0 rfl) Cp1 ldp_r32
 exact zAl hz nd_slice al_n32
 exact zSt (sd 1 rfl) st_n32
 clear hz hd
 intro a' γ' W' hz hd hC hk hh
 have ep1 := Cp1.lt
 have ep2 := Cp2.lt
 replace Cp1 := kC hC Cp1
 have tp2 := Cp2.lt
 replace Cp2 := kC hC Cp2
 replace S1 := kp hk S1
 replace S2 := kp hk S2
 replace S4 := kp hk S4
 replace S5 := kp hk S5
 obtain ⟨p3, S6, Cp3, lp3, gp3⟩ := gotB hz 3 hC hh rfl rfl rfl rfl rfl rfl
 have n_p3_p2 : p3 ≠ p2 := by omega
 have n_p1_p3 : p1 ≠ p3 := by have := ep1; omega
 have n_p2_p3 : p2 ≠ p3 := by have := ep2; omega
 have bp3 := Nat.le_trans HB.size lp3
 clear lp3 gp3
 clear tp2
 clear ep1 ep2
 replace HB := aB HB hC
 clear hC hk hh
 refine wp_seq ?_
 refine rt [rV (.pointer (some ⟨p1, 1, none⟩)), rT (tN B32 l q), rVar 2 30 1, rB 2 30 (tN B32 l q) (some 2) 3] hz hd ?_ ?_
 refine ⟨?_, ?_, ?_, ?_, trivial⟩
 exact sFA rfl rfl rfl hz rfl (Gd.none_ rfl) rfl (sv S2) (fun w => by simp [go_sem])
 exact zLdP hz (sd 0 rfl) Cp1 ldq_r32
 exact zAl hz nd_slice al_n32
 exact zSt (sd 1 rfl) st_n32
 clear hz hd
 intro a' γ' W' hz hd hC hk hh
 have ep1 := Cp1.lt
 have ep2 := Cp2.lt
 have ep3 := Cp3.lt
 clear Cp1
 have tp2 := Cp2.lt
 replace Cp2 := kC hC Cp2
 have tp3 := Cp3.lt
 replace Cp3 := kC hC Cp3
 replace S1 := kp hk S1
 clear S2
 replace S4 := kp hk S4
 replace S5 := kp hk S5
 replace S6 := kp hk S6
 obtain ⟨p4, S7, Cp4, lp4, gp4⟩ := gotB hz 3 hC hh rfl rfl rfl rfl rfl rfl
 have n_p4_p2 : p4 ≠ p2 := by omega
 have n_p4_p3 : p4 ≠ p3 := by omega
 have n_p2_p4 : p2 ≠ p4 := by have := ep2; omega
 have n_p3_p4 : p3 ≠ p4 := by have := ep3; omega
 have bp4 := Nat.le_trans HB.size lp4
 clear lp4 gp4
 clear tp2 tp3
 clear ep1 ep2 ep3
 replace HB := aB HB hC
 clear hC hk hh
 refine wp_seq ?_
 refine wp_seq ?_
 refine rt [rV (.int .i64 (e)), rV (.bool (decide (0 < e)))] hz hd ?_ ?_
 refine ⟨?_, ?_, trivial⟩
 exact zMv hz (sv S1)
 exact sBin rfl rfl rfl hz rfl (Gd.none_ rfl) rfl (sd 0 rfl) kc (fun w => z_gt0' w)
 clear hz hd
 intro a' γ' W' hz hd hC hk hh
 have tp2 := Cp2.lt
 replace Cp2 := kC hC Cp2
 have tp3 := Cp3.lt
 replace Cp3 := kC hC Cp3
 have tp4 := Cp4.lt
 replace Cp4 := kC hC Cp4
 replace S1 := kp hk S1
 replace S4 := kp hk S4
 replace S5 := kp hk S5
 replace S6 := kp hk S6
 replace S7 := kp hk S7
 have S15 := gV hz 1 hh
 clear tp2 tp3 tp4
 replace HB := aB HB hC
 clear hC hk hh
 by_cases hc5 : 0 < e
 rw [decide_eq_true hc5] at S15
 refine wp_cond_true S15.ev ?_
 refine region_text (M := [p4]) [rT (tN B32 l q), rV (.int .i64 (e)), rT (tN B32 (l + 300000) (q * 2 ^ e.toNat)), rE 0 30 (tN B32 (l + 300000) (q * 2 ^ e.toNat)) p4] hz hd (by kernel_rfl) ?_ ?_
 refine ⟨?_, ?_, ?_, ?_, trivial⟩
 exact sLoadM rfl rfl rfl hz rfl (Gd.none_ rfl) rfl (sv S7) Cp4 (k := 0) (by simp [tagOf]) (by kernel_rfl) ld_n32
 exact zMv hz (sv S1)
 exact zC2 hz Tryz.func17 (sd 0 rfl) (sd 1 rfl) (k01 (fun _ _ h0 => d_left_z 300000 (e := e) h0 (by rw [big_eq]; omega) (by omega) (by omega) (by decide)))
 exact zSE rfl (sv S7) (by simp [tagOf]) (Cp4.var tN_nd) (sd 2 rfl) st_n32
 clear hz hd
 intro a' γ' W' hz hd hC hk hh
 have tp2 := Cp2.lt
 replace Cp2 := kC hC Cp2 (by simp [tagOf, n_p2_p4])
 have tp3 := Cp3.lt
 replace Cp3 := kC hC Cp3 (by simp [tagOf, n_p3_p4])
 replace Cp4 := gotE (T := tN B32 (l + 300000) (q * 2 ^ e.toNat)) (id := 30) (p := p4) 3 hh rfl rfl
 clear S1
 replace S4 := kp hk S4
 replace S5 := kp hk S5
 replace S6 := kp hk S6
 replace S7 := kp hk S7
 clear S15
 clear tp2 tp3
 replace HB := aM HB hC
 clear hC hk hh
 refine wp_seq ?_
 refine rt [rT (tN B32 l p), rT (tN B32 (l + 300000) (q * 2 ^ e.toNat)), rT (tT [tN B32 l (p / (q * 2 ^ e.toNat)), tN B32 l (p % (q * 2 ^ e.toNat))]), rT (tT [tN B32 l (p / (q * 2 ^ e.toNat)), tN B32 l (p % (q * 2 ^ e.toNat))]), rT (tN B32 l (p / (q * 2 ^ e.toNat))), rT (tN B32 l (p % (q * 2 ^ e.toNat))), rVar 6 30 1, rVar 7 30 1, rB 6 30 (tN B32 l (p / (q * 2 ^ e.toNat))) (some 6) 7, rB 7 30 (tN B32 l (p % (q * 2 ^ e.toNat))) (some 7) 8] hz hd ?_ ?_
 refine ⟨?_, ?_, ?_, ?_, ?_, ?_, ?_, ?_, ?_, ?_, trivial⟩
 exact zLd hz (sv S6) Cp3 ld_n32
 exact zLd hz (sv S7) Cp4 ld_n32
 exact zC2 hz Tryz.func82 (sd 0 rfl) (sd 1 rfl) (fun _ _ _ h0 h1 => d_divmod h0 h1 (by rw [big_eq]; omega) (by rw [big_eq]; omega) (Nat.mul_pos hq (Nat.two_pow_pos _)))
 exact zMv hz (sd 2 rfl)
 exact zExt hz (sd 3 rfl)
 exact zExt hz (sd 3 rfl)
 exact zAl hz nd_slice al_n32
 exact zAl hz nd_slice al_n32
 exact zSt (sd 4 rfl) st_n32
 exact zSt (sd 5 rfl) st_n32
 clear hz hd
 intro a' γ' W' hz hd hC hk hh
 have ep2 := Cp2.lt
 have ep3 := Cp3.lt
 have ep4 := Cp4.lt
 have tp2 := Cp2.lt
 replace Cp2 := kC hC Cp2
 have tp3 := Cp3.lt
 clear Cp3
 have tp4 := Cp4.lt
 replace Cp4 := kC hC Cp4
 replace S4 := kp hk S4
 replace S5 := kp hk S5
 clear S6
 replace S7 := kp hk S7
 obtain ⟨p6, S8, Cp6, lp6, gp6⟩ := gotB hz 8 hC hh rfl rfl rfl rfl rfl rfl
 obtain ⟨p7, S9, Cp7, lp7, gp7⟩ := gotB hz 9 hC hh rfl rfl rfl rfl rfl rfl
 have n_p6_p2 : p6 ≠ p2 := by omega
 have n_p6_p4 : p6 ≠ p4 := by omega
 have n_p6_p7 : p6 ≠ p7 := by intro e; rw [e, gp7] at gp6; omega
 have n_p7_p2 : p7 ≠ p2 := by omega
 have n_p7_p4 : p7 ≠ p4 := by omega
 have n_p7_p6 : p7 ≠ p6 := by intro e; rw [e, gp6] at gp7; omega
 have n_p2_p6 : p2 ≠ p6 := by have := ep2; omega
 have n_p4_p6 : p4 ≠ p6 := by have := ep4; omega
 have n_p2_p7 : p2 ≠ p7 := by have := ep2; omega
 have n_p4_p7 : p4 ≠ p7 := by have := ep4; omega
 have bp6 := Nat.le_trans HB.size lp6
 have bp7 := Nat.le_trans HB.size lp7
 clear lp6 gp6 lp7 gp7
 clear tp2 tp3 tp4
 clear ep2 ep3 ep4
 replace HB := aB HB hC
 clear hC hk hh
 refine wp_seq ?_
 refine wp_seq ?_
 refine rt [rT (tN B32 l (p % (q * 2 ^ e.toNat))), rV (.bool (decide (p % (q * 2 ^ e.toNat) = 0)))] hz hd ?_ ?_
 refine ⟨?_, ?_, trivial⟩
 exact zLd hz (sv S9) Cp7 ld_n32
 exact zC1 hz Tryz.func64 (sd 0 rfl) (fun _ _ h0 => d_zero h0)
 clear hz hd
 intro a' γ' W' hz hd hC hk hh
 have tp2 := Cp2.lt
 replace Cp2 := kC hC Cp2
 have tp4 := Cp4.lt
 replace Cp4 := kC hC Cp4
 have tp6 := Cp6.lt
 replace Cp6 := kC hC Cp6
 have tp7 := Cp7.lt
 replace Cp7 := kC hC Cp7
 replace S4 := kp hk S4
 replace S5 := kp hk S5
 replace S7 := kp hk S7
 replace S8 := kp hk S8
 replace S9 := kp hk S9
 have S30 := gV hz 1 hh
 clear tp2 tp4 tp6 tp7
 replace HB := aB HB hC
 clear hC hk hh
 by_cases hc8 : p % (q * 2 ^ e.toNat) = 0
 rw [decide_eq_true hc8] at S30
 refine wp_cond_true S30.ev ?_
 refine wp_seq ?_
 refine region_text (M := [p2]) [rT (tN B32 l (p / (q * 2 ^ e.toNat))), rE 0 30 (tN B32 l (p / (q * 2 ^ e.toNat))) p2, rV (.int .i64 (-2))] hz hd (by kernel_rfl) ?_ ?_
 refine ⟨?_, ?_, ?_, trivial⟩
 exact zLd hz (sv S8) Cp6 ld_n32 (by simp [tagOf, n_p6_p2])
 exact zSE rfl (sv S4) (by simp [tagOf]) (Cp2.var tN_nd) (sd 0 rfl) st_n32
 exact zAs hz kc
 clear hz hd
 intro a' γ' W' hz hd hC hk hh
 replace Cp2 := gotE (T := tN B32 l (p / (q * 2 ^ e.toNat))) (id := 30) (p := p2) 1 hh rfl rfl
 have tp4 := Cp4.lt
 replace Cp4 := kC hC Cp4 (by simp [tagOf, n_p4_p2])
 have tp6 := Cp6.lt
 replace Cp6 := kC hC Cp6 (by simp [tagOf, n_p6_p2])
 have tp7 := Cp7.lt
 replace Cp7 := kC hC Cp7 (by simp [tagOf, n_p7_p2])
 replace S4 := kp hk S4
 clear S5
 replace S7 := kp hk S7
 replace S8 := kp hk S8
 replace S9 := kp hk S9
 clear S30
 have S5 := gV hz 2 hh
 clear tp4 tp6 tp7
 replace HB := aM HB hC
 clear hC hk hh
 refine wp_ret ?_
 refine ret_to (T := tT [tN B32 l (p / (q * 2 ^ e.toNat)), tV (.int .i64 (-2))]) (retct_n32 (by kernel_rfl) S4 S5 hd Cp2 HB) ?_
 exact at_to (atP_1 hc5) (atQ_1 hc5) (hf_z hc8) (by omega)
 rw [decide_eq_false hc8] at S30
 refine wp_cond_false S30.ev ?_
 refine wp_skip ?_
 refine wp_seq ?_
 refine region_drawn (M := [p2]) (
  rT (tN B32 l (p / (q * 2 ^ e.toNat))) ::
  rT (tN B32 l (p % (q * 2 ^ e.toNat))) ::
  rT (tN B32 (l + 1) ((p % (q * 2 ^ e.toNat)) * 2 ^ 1)) ::
  rT (tN B32 (l + 300000) (q * 2 ^ e.toNat)) ::
  rT (tV (.int .i64 (cmpI ((p % (q * 2 ^ e.toNat)) * 2 ^ 1) (q * 2 ^ e.toNat)))) ::
  rE 0 30 (tN B32 l (p / (q * 2 ^ e.toNat))) p2 ::
  rT (tV (.int .i64 (cmpI ((p % (q * 2 ^ e.toNat)) * 2 ^ 1) (q * 2 ^ e.toNat)))) ::
  []) hz hd (by kernel_rfl) (by kernel_rfl) ?_ ?_
 refine ⟨?_, ?_, ?_, ?_, ?_, ?_, ?_, trivial⟩
 exact zLd hz (sv S8) Cp6 ld_n32 (by simp [tagOf, n_p6_p2])
 exact zLd hz (sv S9) Cp7 ld_n32 (by simp [tagOf, n_p7_p2])
 exact zC2 hz Tryz.func17 (sd 1 rfl) (kc (v := .int .i64 1)) (k01 (fun _ _ h0 => d_leftK 1 (k := 1) h0 (by rw [big_eq]; omega) (by decide) (by decide)))
 exact zLd hz (sv S7) Cp4 ld_n32 (by simp [tagOf, n_p4_p2])
 exact zC2 hz Tryz.func66 (sd 2 rfl) (sd 3 rfl) (fun _ _ _ h0 h1 => d_cmp h0 h1 (by rw [big_eq]; omega) (by rw [big_eq]; omega))
 exact zSE rfl (sv S4) (by simp [tagOf]) (Cp2.var tN_nd) (sd 0 rfl) st_n32
 exact zAs hz (sd 4 rfl)
 clear hz hd
 intro a' γ' W' hz hd hC hk hh
 replace Cp2 := gotE (T := tN B32 l (p / (q * 2 ^ e.toNat))) (id := 30) (p := p2) 5 hh rfl rfl
 have tp4 := Cp4.lt
 clear Cp4
 have tp6 := Cp6.lt
 clear Cp6
 have tp7 := Cp7.lt
 clear Cp7
 replace S4 := kp hk S4
 clear S5
 clear S7
 clear S8
 clear S9
 clear S30
 have S5 := gV hz 6 hh
 clear tp4 tp6 tp7
 replace HB := aM HB hC
 clear hC hk hh
 refine wp_ret ?_
 refine ret_to (T := tT [tN B32 l (p / (q * 2 ^ e.toNat)), tV (.int .i64 (cmpI ((p % (q * 2 ^ e.toNat)) * 2 ^ 1) (q * 2 ^ e.toNat)))]) (retct_n32 (by kernel_rfl) S4 S5 hd Cp2 HB) ?_
 exact at_to (atP_1 hc5) (atQ_1 hc5) (hf_n hc8) (by omega)
 rw [decide_eq_false hc5] at S15
 refine wp_cond_false S15.ev ?_
 refine region_text (M := [p3]) [rT (tN B32 l p), rV (.int .i64 (e)), rV (.int .i64 (-e)), rT (tN B32 (l + 300000) (p * 2 ^ (-e).toNat)), rE 0 30 (tN B32 (l + 300000) (p * 2 ^ (-e).toNat)) p3] hz hd (by kernel_rfl) ?_ ?_
 refine ⟨?_, ?_, ?_, ?_, ?_, trivial⟩
 exact sLoadM rfl rfl rfl hz rfl (Gd.none_ rfl) rfl (sv S6) Cp3 (k := 0) (by simp [tagOf]) (by kernel_rfl) ld_n32
 exact zMv hz (sv S1)
 exact sUn rfl rfl rfl hz rfl (Gd.none_ rfl) rfl (sd 1 rfl) (fun w => f_negE (by omega) w)
 exact zC2 hz Tryz.func17 (sd 0 rfl) (sd 2 rfl) (k01 (fun _ _ h0 => d_left_z 300000 (e := -e) h0 (by rw [big_eq]; omega) (by omega) (by omega) (by decide)))
 exact zSE rfl (sv S6) (by simp [tagOf]) (Cp3.var tN_nd) (sd 3 rfl) st_n32
 clear hz hd
 intro a' γ' W' hz hd hC hk hh
 have tp2 := Cp2.lt
 replace Cp2 := kC hC Cp2 (by simp [tagOf, n_p2_p3])
 replace Cp3 := gotE (T := tN B32 (l + 300000) (p * 2 ^ (-e).toNat)) (id := 30) (p := p3) 4 hh rfl rfl
 have tp4 := Cp4.lt
 replace Cp4 := kC hC Cp4 (by simp [tagOf, n_p4_p3])
 clear S1
 replace S4 := kp hk S4
 replace S5 := kp hk S5
 replace S6 := kp hk S6
 replace S7 := kp hk S7
 clear S15
 clear tp2 tp4
 replace HB := aM HB hC
 clear hC hk hh
 refine wp_seq ?_
 refine rt [rT (tN B32 (l + 300000) (p * 2 ^ (-e).toNat)), rT (tN B32 l q), rT (tT [tN B32 (l + 300000) ((p * 2 ^ (-e).toNat) / q), tN B32 (l + 300000) ((p * 2 ^ (-e).toNat) % q)]), rT (tT [tN B32 (l + 300000) ((p * 2 ^ (-e).toNat) / q), tN B32 (l + 300000) ((p * 2 ^ (-e).toNat) % q)]), rT (tN B32 (l + 300000) ((p * 2 ^ (-e).toNat) / q)), rT (tN B32 (l + 300000) ((p * 2 ^ (-e).toNat) % q)), rVar 6 30 1, rVar 7 30 1, rB 6 30 (tN B32 (l + 300000) ((p * 2 ^ (-e).toNat) / q)) (some 6) 7, rB 7 30 (tN B32 (l + 300000) ((p * 2 ^ (-e).toNat) % q)) (some 7) 8] hz hd ?_ ?_
 refine ⟨?_, ?_, ?_, ?_, ?_, ?_, ?_, ?_, ?_, ?_, trivial⟩
 exact zLd hz (sv S6) Cp3 ld_n32
 exact zLd hz (sv S7) Cp4 ld_n32
 exact zC2 hz Tryz.func82 (sd 0 rfl) (sd 1 rfl) (fun _ _ _ h0 h1 => d_divmod h0 h1 (by rw [big_eq]; omega) (by rw [big_eq]; omega) hq)
 exact zMv hz (sd 2 rfl)
 exact zExt hz (sd 3 rfl)
 exact zExt hz (sd 3 rfl)
 exact zAl hz nd_slice al_n32
 exact zAl hz nd_slice al_n32
 exact zSt (sd 4 rfl) st_n32
 exact zSt (sd 5 rfl) st_n32
 clear hz hd
 intro a' γ' W' hz hd hC hk hh
 have ep2 := Cp2.lt
 have ep3 := Cp3.lt
 have ep4 := Cp4.lt
 have tp2 := Cp2.lt
 replace Cp2 := kC hC Cp2
 have tp3 := Cp3.lt
 clear Cp3
 have tp4 := Cp4.lt
 replace Cp4 := kC hC Cp4
 replace S4 := kp hk S4
 replace S5 := kp hk S5
 clear S6
 replace S7 := kp hk S7
 obtain ⟨p9, S8, Cp9, lp9, gp9⟩ := gotB hz 8 hC hh rfl rfl rfl rfl rfl rfl
 obtain ⟨p10, S9, Cp10, lp10, gp10⟩ := gotB hz 9 hC hh rfl rfl rfl rfl rfl rfl
 have n_p9_p2 : p9 ≠ p2 := by omega
 have n_p9_p4 : p9 ≠ p4 := by omega
 have n_p9_p10 : p9 ≠ p10 := by intro e; rw [e, gp10] at gp9; omega
 have n_p10_p2 : p10 ≠ p2 := by omega
 have n_p10_p4 : p10 ≠ p4 := by omega
 have n_p10_p9 : p10 ≠ p9 := by intro e; rw [e, gp9] at gp10; omega
 have n_p2_p9 : p2 ≠ p9 := by have := ep2; omega
 have n_p4_p9 : p4 ≠ p9 := by have := ep4; omega
 have n_p2_p10 : p2 ≠ p10 := by have := ep2; omega
 have n_p4_p10 : p4 ≠ p10 := by have := ep4; omega
 have bp9 := Nat.le_trans HB.size lp9
 have bp10 := Nat.le_trans HB.size lp10
 clear lp9 gp9 lp10 gp10
 clear tp2 tp3 tp4
 clear ep2 ep3 ep4
 replace HB := aB HB hC
 clear hC hk hh
 refine wp_seq ?_
 refine wp_seq ?_
 refine rt [rT (tN B32 (l + 300000) ((p * 2 ^ (-e).toNat) % q)), rV (.bool (decide ((p * 2 ^ (-e).toNat) % q = 0)))] hz hd ?_ ?_
 refine ⟨?_, ?_, trivial⟩
 exact zLd hz (sv S9) Cp10 ld_n32
 exact zC1 hz Tryz.func64 (sd 0 rfl) (fun _ _ h0 => d_zero h0)
 clear hz hd
 intro a' γ' W' hz hd hC hk hh
 have tp2 := Cp2.lt
 replace Cp2 := kC hC Cp2
 have tp4 := Cp4.lt
 replace Cp4 := kC hC Cp4
 have tp9 := Cp9.lt
 replace Cp9 := kC hC Cp9
 have tp10 := Cp10.lt
 replace Cp10 := kC hC Cp10
 replace S4 := kp hk S4
 replace S5 := kp hk S5
 replace S7 := kp hk S7
 replace S8 := kp hk S8
 replace S9 := kp hk S9
 have S30 := gV hz 1 hh
 clear tp2 tp4 tp9 tp10
 replace HB := aB HB hC
 clear hC hk hh
 by_cases hc11 : (p * 2 ^ (-e).toNat) % q = 0
 rw [decide_eq_true hc11] at S30
 refine wp_cond_true S30.ev ?_
 refine wp_seq ?_
 refine region_text (M := [p2]) [rT (tN B32 (l + 300000) ((p * 2 ^ (-e).toNat) / q)), rE 0 30 (tN B32 (l + 300000) ((p * 2 ^ (-e).toNat) / q)) p2, rV (.int .i64 (-2))] hz hd (by kernel_rfl) ?_ ?_
 refine ⟨?_, ?_, ?_, trivial⟩
 exact zLd hz (sv S8) Cp9 ld_n32 (by simp [tagOf, n_p9_p2])
 exact zSE rfl (sv S4) (by simp [tagOf]) (Cp2.var tN_nd) (sd 0 rfl) st_n32
 exact zAs hz kc
 clear hz hd
 intro a' γ' W' hz hd hC hk hh
 replace Cp2 := gotE (T := tN B32 (l + 300000) ((p * 2 ^ (-e).toNat) / q)) (id := 30) (p := p2) 1 hh rfl rfl
 have tp4 := Cp4.lt
 replace Cp4 := kC hC Cp4 (by simp [tagOf, n_p4_p2])
 have tp9 := Cp9.lt
 replace Cp9 := kC hC Cp9 (by simp [tagOf, n_p9_p2])
 have tp10 := Cp10.lt
 replace Cp10 := kC hC Cp10 (by simp [tagOf, n_p10_p2])
 replace S4 := kp hk S4
 clear S5
 replace S7 := kp hk S7
 replace S8 := kp hk S8
 replace S9 := kp hk S9
 clear S30
 have S5 := gV hz 2 hh
 clear tp4 tp9 tp10
 replace HB := aM HB hC
 clear hC hk hh
 refine wp_ret ?_
 refine ret_to (T := tT [tN B32 (l + 300000) ((p * 2 ^ (-e).toNat) / q), tV (.int .i64 (-2))]) (retct_n32 (by kernel_rfl) S4 S5 hd Cp2 HB) ?_
 exact at_to (atP_2 hc5) (atQ_2 hc5) (hf_z hc11) (by omega)
 rw [decide_eq_false hc11] at S30
 refine wp_cond_false S30.ev ?_
 refine wp_skip ?_
 refine wp_seq ?_
 refine region_drawn (M := [p2]) (
  rT (tN B32 (l + 300000) ((p * 2 ^ (-e).toNat) / q)) ::
  rT (tN B32 (l + 300000) ((p * 2 ^ (-e).toNat) % q)) ::
  rT (tN B32 ((l + 300000) + 1) (((p * 2 ^ (-e).toNat) % q) * 2 ^ 1)) ::
  rT (tN B32 l q) ::
  rT (tV (.int .i64 (cmpI (((p * 2 ^ (-e).toNat) % q) * 2 ^ 1) q))) ::
  rE 0 30 (tN B32 (l + 300000) ((p * 2 ^ (-e).toNat) / q)) p2 ::
  rT (tV (.int .i64 (cmpI (((p * 2 ^ (-e).toNat) % q) * 2 ^ 1) q))) ::
  []) hz hd (by kernel_rfl) (by kernel_rfl) ?_ ?_
 refine ⟨?_, ?_, ?_, ?_, ?_, ?_, ?_, trivial⟩
 exact zLd hz (sv S8) Cp9 ld_n32 (by simp [tagOf, n_p9_p2])
 exact zLd hz (sv S9) Cp10 ld_n32 (by simp [tagOf, n_p10_p2])
 exact zC2 hz Tryz.func17 (sd 1 rfl) (kc (v := .int .i64 1)) (k01 (fun _ _ h0 => d_leftK 1 (k := 1) h0 (by rw [big_eq]; omega) (by decide) (by decide)))
 exact zLd hz (sv S7) Cp4 ld_n32 (by simp [tagOf, n_p4_p2])
 exact zC2 hz Tryz.func66 (sd 2 rfl) (sd 3 rfl) (fun _ _ _ h0 h1 => d_cmp h0 h1 (by rw [big_eq]; omega) (by rw [big_eq]; omega))
 exact zSE rfl (sv S4) (by simp [tagOf]) (Cp2.var tN_nd) (sd 0 rfl) st_n32
 exact zAs hz (sd 4 rfl)
 clear hz hd
 intro a' γ' W' hz hd hC hk hh
 replace Cp2 := gotE (T := tN B32 (l + 300000) ((p * 2 ^ (-e).toNat) / q)) (id := 30) (p := p2) 5 hh rfl rfl
 have tp4 := Cp4.lt
 clear Cp4
 have tp9 := Cp9.lt
 clear Cp9
 have tp10 := Cp10.lt
 clear Cp10
 replace S4 := kp hk S4
 clear S5
 clear S7
 clear S8
 clear S9
 clear S30
 have S5 := gV hz 6 hh
 clear tp4 tp9 tp10
 replace HB := aM HB hC
 clear hC hk hh
 refine wp_ret ?_
 refine ret_to (T := tT [tN B32 (l + 300000) ((p * 2 ^ (-e).toNat) / q), tV (.int .i64 (cmpI (((p * 2 ^ (-e).toNat) % q) * 2 ^ 1) q))]) (retct_n32 (by kernel_rfl) S4 S5 hd Cp2 HB) ?_
 exact at_to (atP_2 hc5) (atQ_2 hc5) (hf_n hc11) (by omega)

theorem d_at_s {K s l p q : Nat} {v : Value} {w : World} (eK : K = 1074) (hq : 0 < q) (h : (tR B32 l l p q).p v w) (hl : l ≤ 200000) (hs : s ≤ 300000) : Calls Tryz.prog 55 #[v, .int .i64 (nE s)] w (Ret (tT [tN B32 (l + 300000) (p * 2 ^ K / q / 2 ^ s), tV (.int .i64 (hf (atP p (nE s)) (atQ q (nE s))))]) w) := by
  have := d_at (e := nE s) h hq hl (by unfold nE; omega)
  rw [at_div K eK hq] at this; exact this
theorem tof_to {p q a : Nat} {b : Bool} (ha : a = flN (tfD p q)) (hb : b = decide (tfD p q < 9218868437227405312)) : ∀ v w, (tT [tV (.int .u64 ((a : Nat) : Int)), tV (.bool b)]).p v w → (tT [tV (.int .u64 ((flN (tfD p q) : Nat) : Int)), tV (.bool (decide (tfD p q < 9218868437227405312)))]).p v w := by
  rw [ha, hb]; exact fun _ _ h => h

set_option maxRecDepth 10000 in
set_option maxHeartbeats 2000000 in
theorem d_tofloat {l p q : Nat} {v0 : Value} {w : World} (h0 : (tR B32 l l p q).p v0 w) (hq : 0 < q) (hl : l ≤ 200000) (hpl : bl p ≤ l) (hql : bl q ≤ l) :
    Calls Tryz.prog 9 #[v0] w (Ret (tT [tV (.int .u64 ((flN (tfD p q) : Nat) : Int)), tV (.bool (decide (tfD p q < 9218868437227405312)))]) w) := by
 refine enter Tryz.func9 rfl Tryz.ntmps9 (by simp) ?_
 intro a hz hd ha
 have S0 := ha 0 _ rfl
 have H0 := h0
 clear ha
 have HB : Below w.heap.size w w := Below.refl _ _
 obtain ⟨K, eK⟩ : ∃ K : Nat, K = 1074 := ⟨_, rfl⟩
 have eN : tfD p q = nearS K p q * 4503599627370496 + nearH K p q := by rw [eK]; rfl
 refine wp_seq ?_
 refine rt [rB 0 32 (tR B32 l l p q) none 0, rV (.int .u64 0), rV (.bool false)] hz hd ?_ ?_
 refine ⟨?_, ?_, ?_, trivial⟩
 exact zBox hz (so S0 H0) box_r32
 exact zAs hz kc
 exact zAs hz kc
 clear hz hd
 intro a' γ' W' hz hd hC hk hh
 clear S0 H0
 obtain ⟨p1, S1, Cp1, lp1, gp1⟩ := gotB hz 0 hC hh rfl rfl rfl rfl rfl rfl
 have S2 := gV hz 1 hh
 have S3 := gV hz 2 hh
 clear lp1 gp1
 replace HB := aB HB hC
 clear hC hk hh
 refine wp_seq ?_
 refine wp_seq ?_
 by_cases hc2 : p = 0
 refine rt [rT (tR B32 l l p q), rV (.int .i64 0), rV (.bool true)] hz hd ?_ ?_
 refine ⟨?_, ?_, ?_, trivial⟩
 exact zLd hz (sv S1) Cp1 ld_r32
 exact zC1 hz Tryz.func53 (sd 0 rfl) (fun _ _ h0 => d_sign_z h0 (by omega) (by omega) (decide_eq_true hc2))
 exact sBin rfl rfl rfl hz rfl (Gd.none_ rfl) rfl (sd 1 rfl) kc (fun w => by simp [go_sem])
 clear hz hd
 intro a' γ' W' hz hd hC hk hh
 replace Cp1 := kC hC Cp1
 replace S1 := kp hk S1
 replace S2 := kp hk S2
 replace S3 := kp hk S3
 have S11 := gV hz 2 hh
 replace HB := aB HB hC
 clear hC hk hh
 refine wp_cond_true S11.ev ?_
 refine wp_seq ?_
 refine rt [rV (.int .u64 0), rV (.bool true)] hz hd ?_ ?_
 refine ⟨?_, ?_, trivial⟩
 exact zAs hz kc
 exact zAs hz kc
 clear hz hd
 intro a' γ' W' hz hd hC hk hh
 replace Cp1 := kC hC Cp1
 replace S1 := kp hk S1
 clear S2
 clear S3
 clear S11
 have S2 := gV hz 0 hh
 have S3 := gV hz 1 hh
 replace HB := aB HB hC
 clear hC hk hh
 refine wp_ret ?_
 refine ret_to (T := tT [tV (.int .u64 0), tV (.bool true)]) (rett2 (by kernel_rfl) S2 S3 hd HB) ?_
 exact tof_to (tfD_zero hc2 hq).1 (tfD_zero hc2 hq).2
 have hp0 : 0 < p := Nat.pos_of_ne_zero hc2
 refine rt [rT (tR B32 l l p q), rV (.int .i64 1), rV (.bool false)] hz hd ?_ ?_
 refine ⟨?_, ?_, ?_, trivial⟩
 exact zLd hz (sv S1) Cp1 ld_r32
 exact zC1 hz Tryz.func53 (sd 0 rfl) (fun _ _ h0 => d_sign_p h0 (by omega) (by omega) (decide_eq_false hc2))
 exact sBin rfl rfl rfl hz rfl (Gd.none_ rfl) rfl (sd 1 rfl) kc (fun w => by simp [go_sem])
 clear hz hd
 intro a' γ' W' hz hd hC hk hh
 replace Cp1 := kC hC Cp1
 replace S1 := kp hk S1
 replace S2 := kp hk S2
 replace S3 := kp hk S3
 have S11 := gV hz 2 hh
 replace HB := aB HB hC
 clear hC hk hh
 refine wp_cond_false S11.ev ?_
 refine wp_skip ?_
 refine wp_seq ?_
 obtain ⟨s, hs0⟩ := ds_s p q
 have hss := ds_le eK hp0 hq hs0
 have hSl := nearS_le (K := K) hq hpl
 refine region_drawn (M := []) (
  rT (tV (.pointer (some ⟨p1, 0, none⟩))) ::
  rT (tN B32 l p) ::
  rT (tV (.int .i64 ((bl p : Nat) : Int))) ::
  rT (tV (.pointer (some ⟨p1, 1, none⟩))) ::
  rT (tN B32 l q) ::
  rT (tV (.int .i64 ((bl q : Nat) : Int))) ::
  rT (tV (.int .i64 (ds1 p q))) ::
  rT (tV (.int .i64 (ds2 p q))) ::
  rT (tV (.int .i64 (nE s))) ::
  rT (tV (.int .i64 (nE s))) ::
  []) hz hd (by kernel_rfl) (by kernel_rfl) ?_ ?_
 refine ⟨?_, ?_, ?_, ?_, ?_, ?_, ?_, ?_, ?_, ?_, trivial⟩
 exact sFA rfl rfl rfl hz rfl (Gd.none_ rfl) rfl (sv S1) (fun w => by simp [go_sem])
 exact zLdP hz (sd 0 rfl) Cp1 ldp_r32
 exact zC1 hz Tryz.func54 (sd 1 rfl) (fun _ _ h0 => d_len h0 (by rw [big_eq]; omega))
 exact sFA rfl rfl rfl hz rfl (Gd.none_ rfl) rfl (sv S1) (fun w => by simp [go_sem])
 exact zLdP hz (sd 3 rfl) Cp1 ldq_r32
 exact zC1 hz Tryz.func54 (sd 4 rfl) (fun _ _ h0 => d_len h0 (by rw [big_eq]; omega))
 exact sBin rfl rfl rfl hz rfl (Gd.none_ rfl) rfl (sd 2 rfl) (sd 5 rfl) (fun w => o_ds1 (by omega) (by omega) w)
 exact sBin rfl rfl rfl hz rfl (Gd.none_ rfl) rfl (sd 6 rfl) kc (fun w => o_ds2 (by omega) (by omega) w)
 exact zB2max hz rfl (sd 7 rfl) (kc (v := .int .i64 (-1074))) (fun w => run_max2 hs0 w)
 exact zAs hz (sd 8 rfl)
 clear hz hd
 intro a' γ' W' hz hd hC hk hh
 replace Cp1 := kC hC Cp1
 replace S1 := kp hk S1
 replace S2 := kp hk S2
 replace S3 := kp hk S3
 clear S11
 have S4 := gV hz 9 hh
 replace HB := aB HB hC
 clear hC hk hh
 refine wp_seq ?_
 refine rt [rT (tR B32 l l p q), rV (.int .i64 (nE s)), rT (tT [tN B32 (l + 300000) (p * 2 ^ K / q / 2 ^ s), tV (.int .i64 (hf (atP p (nE s)) (atQ q (nE s))))]), rT (tT [tN B32 (l + 300000) (p * 2 ^ K / q / 2 ^ s), tV (.int .i64 (hf (atP p (nE s)) (atQ q (nE s))))]), rT (tN B32 (l + 300000) (p * 2 ^ K / q / 2 ^ s)), rV (.int .i64 (hf (atP p (nE s)) (atQ q (nE s)))), rVar 6 30 1, rB 6 30 (tN B32 (l + 300000) (p * 2 ^ K / q / 2 ^ s)) (some 6) 7, rV (.int .i64 (hf (atP p (nE s)) (atQ q (nE s))))] hz hd ?_ ?_
 refine ⟨?_, ?_, ?_, ?_, ?_, ?_, ?_, ?_, ?_, trivial⟩
 exact zLd hz (sv S1) Cp1 ld_r32
 exact zMv hz (sv S4)
 exact zC2 hz Tryz.func55 (sd 0 rfl) (sd 1 rfl) (k01 (fun _ _ h0 => d_at_s eK hq h0 hl (by omega)))
 exact zMv hz (sd 2 rfl)
 exact zExt hz (sd 3 rfl)
 exact zExt hz (sd 3 rfl)
 exact zAl hz nd_slice al_n32
 exact zSt (sd 4 rfl) st_n32
 exact zAs hz (sd 5 rfl)
 clear hz hd
 intro a' γ' W' hz hd hC hk hh
 have ep1 := Cp1.lt
 replace Cp1 := kC hC Cp1
 replace S1 := kp hk S1
 replace S2 := kp hk S2
 replace S3 := kp hk S3
 replace S4 := kp hk S4
 obtain ⟨p3, S5, Cp3, lp3, gp3⟩ := gotB hz 7 hC hh rfl rfl rfl rfl rfl rfl
 have S6 := gV hz 8 hh
 have n_p1_p3 : p1 ≠ p3 := by have := ep1; omega
 have bp3 := Nat.le_trans HB.size lp3
 clear lp3 gp3
 clear ep1
 replace HB := aB HB hC
 clear hC hk hh
 refine wp_seq ?_
 refine wp_block ?_
 refine wp_loop_ghost (fun k a W => ∃ (s : Nat), k = nearS K p q - s ∧ a.tmps.size = 73 ∧ a.defers = [] ∧ Below w.heap.size w W ∧ Sl a 1 (.pointer (some ⟨p1, 0, none⟩)) ∧ Sl a 2 (.int .u64 0) ∧ Sl a 3 (.bool false) ∧ Sl a 4 (.int .i64 (nE s)) ∧ Sl a 5 (.pointer (some ⟨p3, 0, none⟩)) ∧ Sl a 6 (.int .i64 (hf (atP p (nE s)) (atQ q (nE s)))) ∧ Cell 32 (tR B32 l l p q) p1 W ∧ Cell 30 (tN B32 (l + 300000) (p * 2 ^ K / q / 2 ^ s)) p3 W ∧ s ≤ nearS K p q) _ ⟨s, rfl, hz, hd, HB, S1, S2, S3, S4, S5, S6, Cp1, Cp3, hss⟩ ?_
 clear S1 S2 S3 S4 S5 S6 Cp1 Cp3 hz hd HB
 rintro k a W ⟨s, rfl, hz, hd, HB, S1, S2, S3, S4, S5, S6, Cp1, Cx, hss⟩
 refine wp_seq ?_
 refine wp_seq ?_
 refine rt [rT (tN B32 (l + 300000) (p * 2 ^ K / q / 2 ^ s)), rV (.int .i64 ((bl (p * 2 ^ K / q / 2 ^ s) : Nat) : Int)), rV (.bool (decide (53 < bl (p * 2 ^ K / q / 2 ^ s))))] hz hd ?_ ?_
 refine ⟨?_, ?_, ?_, trivial⟩
 exact zLd hz (sv S5) Cx ld_n32
 exact zC1 hz Tryz.func54 (sd 0 rfl) (fun _ _ h0 => d_len h0 (by rw [big_eq]; omega))
 exact sBin rfl rfl rfl hz rfl (Gd.none_ rfl) rfl (sd 1 rfl) kc (fun w => o_53 w)
 clear hz hd
 intro a' γ' W' hz hd hC hk hh
 replace Cp1 := kC hC Cp1
 have tp3 := Cx.lt
 replace Cx := kC hC Cx
 replace S1 := kp hk S1
 replace S2 := kp hk S2
 replace S3 := kp hk S3
 replace S4 := kp hk S4
 replace S5 := kp hk S5
 replace S6 := kp hk S6
 have S29 := gV hz 2 hh
 clear tp3
 replace HB := aB HB hC
 clear hC hk hh
 by_cases hc4 : 53 < bl (p * 2 ^ K / q / 2 ^ s)
 rw [decide_eq_true hc4] at S29
 refine wp_cond_true S29.ev ?_
 refine wp_skip ?_
 refine wp_block ?_
 refine wp_seq ?_
 refine rt [rV (.int .i64 (nE s)), rV (.int .i64 (nE (s + 1))), rV (.int .i64 (nE (s + 1)))] hz hd ?_ ?_
 refine ⟨?_, ?_, ?_, trivial⟩
 exact zMv hz (sv S4)
 exact sBin rfl rfl rfl hz rfl (Gd.none_ rfl) rfl (sd 0 rfl) kc (fun w => f_nE1 (by omega) w)
 exact zAs hz (sd 1 rfl)
 clear hz hd
 intro a' γ' W' hz hd hC hk hh
 replace Cp1 := kC hC Cp1
 have tp3 := Cx.lt
 replace Cx := kC hC Cx
 replace S1 := kp hk S1
 replace S2 := kp hk S2
 replace S3 := kp hk S3
 clear S4
 replace S5 := kp hk S5
 replace S6 := kp hk S6
 replace S29 := kp hk S29
 have S4 := gV hz 2 hh
 clear tp3
 replace HB := aB HB hC
 clear hC hk hh
 refine region_text (M := [p3]) [rT (tR B32 l l p q), rV (.int .i64 (nE (s + 1))), rT (tT [tN B32 (l + 300000) (p * 2 ^ K / q / 2 ^ ((s + 1))), tV (.int .i64 (hf (atP p (nE ((s + 1)))) (atQ q (nE ((s + 1))))))]), rT (tT [tN B32 (l + 300000) (p * 2 ^ K / q / 2 ^ ((s + 1))), tV (.int .i64 (hf (atP p (nE ((s + 1)))) (atQ q (nE ((s + 1))))))]), rT (tN B32 (l + 300000) (p * 2 ^ K / q / 2 ^ ((s + 1)))), rV (.int .i64 (hf (atP p (nE ((s + 1)))) (atQ q (nE ((s + 1)))))), rE 0 30 (tN B32 (l + 300000) (p * 2 ^ K / q / 2 ^ ((s + 1)))) p3, rV (.int .i64 (hf (atP p (nE ((s + 1)))) (atQ q (nE ((s + 1))))))] hz hd (by kernel_rfl) ?_ ?_
 refine ⟨?_, ?_, ?_, ?_, ?_, ?_, ?_, ?_, trivial⟩
 exact zLd hz (sv S1) Cp1 ld_r32 (by simp [tagOf, n_p1_p3])
 exact zMv hz (sv S4)
 exact zC2 hz Tryz.func55 (sd 0 rfl) (sd 1 rfl) (k01 (fun _ _ h0 => d_at_s eK hq h0 hl (by omega)))
 exact zMv hz (sd 2 rfl)
 exact zExt hz (sd 3 rfl)
 exact zExt hz (sd 3 rfl)
 exact zSE rfl (sv S5) (by simp [tagOf]) (Cx.var tN_nd) (sd 4 rfl) st_n32
 exact zAs hz (sd 5 rfl)
 clear hz hd
 intro a' γ' W' hz hd hC hk hh
 replace Cp1 := kC hC Cp1 (by simp [tagOf, n_p1_p3])
 replace Cx := gotE (T := tN B32 (l + 300000) (p * 2 ^ K / q / 2 ^ ((s + 1)))) (id := 30) (p := p3) 6 hh rfl rfl
 replace S1 := kp hk S1
 replace S2 := kp hk S2
 replace S3 := kp hk S3
 replace S5 := kp hk S5
 clear S6
 replace S29 := kp hk S29
 replace S4 := kp hk S4
 have S6 := gV hz 7 hh
 replace HB := aM HB hC
 clear hC hk hh
 show ∃ n', n' < _ ∧ _
 refine ⟨_, ?_, s + 1, rfl, hz, hd, HB, S1, S2, S3, S4, S5, S6, Cp1, Cx, (at_next hss hc4)⟩
 have := at_next hss (by assumption); omega
 rw [decide_eq_false hc4] at S29
 refine wp_cond_false S29.ev ?_
 refine wp_exit ?_
 refine wp_seq ?_
 have hsS := at_end hss hc4
 refine rt [rT (tN B32 (l + 300000) (p * 2 ^ K / q / 2 ^ s)), rT (tT [tV (.int .u64 ((p * 2 ^ K / q / 2 ^ s : Nat) : Int)), tV (.bool true)]), rT (tT [tV (.int .u64 ((p * 2 ^ K / q / 2 ^ s : Nat) : Int)), tV (.bool true)]), rV (.int .u64 ((p * 2 ^ K / q / 2 ^ s : Nat) : Int)), rV (.bool true), rV (.int .u64 ((p * 2 ^ K / q / 2 ^ s : Nat) : Int)), rV (.bool true)] hz hd ?_ ?_
 refine ⟨?_, ?_, ?_, ?_, ?_, ?_, ?_, trivial⟩
 exact zLd hz (sv S5) Cx ld_n32
 exact zC1 hz Tryz.func56 (sd 0 rfl) (fun _ _ h0 => d_uint_lt (at_lt hsS) h0 (by rw [big_eq]; omega))
 exact zMv hz (sd 1 rfl)
 exact zExt hz (sd 2 rfl)
 exact zExt hz (sd 2 rfl)
 exact zAs hz (sd 3 rfl)
 exact zAs hz (sd 4 rfl)
 clear hz hd
 intro a' γ' W' hz hd hC hk hh
 clear Cp1
 have tp3 := Cx.lt
 clear Cx
 clear S1
 replace S2 := kp hk S2
 replace S3 := kp hk S3
 replace S4 := kp hk S4
 clear S5
 replace S6 := kp hk S6
 clear S29
 have S7 := gV hz 5 hh
 clear tp3
 replace HB := aB HB hC
 clear hC hk hh
 refine wp_join (fun a W => ∃ (h : Nat), a.tmps.size = 73 ∧ a.defers = [] ∧ Below w.heap.size w W ∧ Sl a 2 (.int .u64 0) ∧ Sl a 3 (.bool false) ∧ Sl a 4 (.int .i64 (nE s)) ∧ Sl a 7 (.int .u64 ((h : Nat) : Int)) ∧ h = nearH K p q) ?_ ?_
 refine wp_seq ?_
 by_cases hc5 : atQ q (nE s) < atP p (nE s) % atQ q (nE s) + atP p (nE s) % atQ q (nE s)
 refine rt [rV (.int .i64 (hf (atP p (nE s)) (atQ q (nE s)))), rV (.bool true), rV (.bool true), rV undef, rV undef, rV undef, rV undef, rV undef, rV undef, rV undef, rV (.bool true)] hz hd ?_ ?_
 refine ⟨?_, ?_, ?_, ?_, ?_, ?_, ?_, ?_, ?_, ?_, ?_, trivial⟩
 exact zMv hz (sv S6)
 exact sBin rfl rfl rfl hz rfl (Gd.none_ rfl) rfl (sd 0 rfl) kc (fun w => run_t (P := atQ q (nE s) < atP p (nE s) % atQ q (nE s) + atP p (nE s) % atQ q (nE s)) ((fun w => o_hf1 (atQ_pos hq) w) w) hc5)
 exact zMv hz (sd 1 rfl)
 exact zSkU hz (gN 2 rfl)
 exact zSkU hz (gN 2 rfl)
 exact zSkU hz (gN 2 rfl)
 exact zSkU hz (gU 5 rfl)
 exact zSkU hz (gU 5 rfl)
 exact zSkU hz (gU 5 rfl)
 exact zSkU hz (gN 2 rfl)
 exact zPT hz (sd 2 rfl) kc
 clear hz hd
 intro a' γ' W' hz hd hC hk hh
 replace S2 := kp hk S2
 replace S3 := kp hk S3
 replace S4 := kp hk S4
 clear S6
 replace S7 := kp hk S7
 have S53 := gV hz 10 hh
 replace HB := aB HB hC
 clear hC hk hh
 refine wp_cond_true S53.ev ?_
 refine rt [rV (.int .u64 ((p * 2 ^ K / q / 2 ^ s : Nat) : Int)), rV (.int .u64 ((p * 2 ^ K / q / 2 ^ s + 1 : Nat) : Int)), rV (.int .u64 ((p * 2 ^ K / q / 2 ^ s + 1 : Nat) : Int))] hz hd ?_ ?_
 refine ⟨?_, ?_, ?_, trivial⟩
 exact zMv hz (sv S7)
 exact sBin rfl rfl rfl hz rfl (Gd.none_ rfl) rfl (sd 0 rfl) kc (fun w => o_u1 (at_lt hsS) w)
 exact zAs hz (sd 1 rfl)
 clear hz hd
 intro a' γ' W' hz hd hC hk hh
 replace S2 := kp hk S2
 replace S3 := kp hk S3
 replace S4 := kp hk S4
 clear S7
 clear S53
 have S7 := gV hz 2 hh
 replace HB := aB HB hC
 clear hC hk hh
 refine join_n ?_
 exact ⟨(p * 2 ^ K / q / 2 ^ s + 1), hz, hd, HB, S2, S3, S4, S7, (at_H hsS (by rw [← at_rn K eK hq, (rn_up1 hc5), at_div K eK hq]))⟩
 by_cases hc6 : atP p (nE s) % atQ q (nE s) + atP p (nE s) % atQ q (nE s) = atQ q (nE s)
 refine rt [rV (.int .i64 (hf (atP p (nE s)) (atQ q (nE s)))), rV (.bool false), rV (.bool false), rV (.int .i64 (hf (atP p (nE s)) (atQ q (nE s)))), rV (.bool true), rV (.bool true), rV (.int .u64 ((p * 2 ^ K / q / 2 ^ s : Nat) : Int)), rV (.int .u64 ((p * 2 ^ K / q / 2 ^ s % 2 : Nat) : Int)), rV (.bool (decide (p * 2 ^ K / q / 2 ^ s % 2 = 1))), rV (.bool (decide (p * 2 ^ K / q / 2 ^ s % 2 = 1))), rV (.bool (decide (p * 2 ^ K / q / 2 ^ s % 2 = 1)))] hz hd ?_ ?_
 refine ⟨?_, ?_, ?_, ?_, ?_, ?_, ?_, ?_, ?_, ?_, ?_, trivial⟩
 exact zMv hz (sv S6)
 exact sBin rfl rfl rfl hz rfl (Gd.none_ rfl) rfl (sd 0 rfl) kc (fun w => run_f (P := atQ q (nE s) < atP p (nE s) % atQ q (nE s) + atP p (nE s) % atQ q (nE s)) ((fun w => o_hf1 (atQ_pos hq) w) w) hc5)
 exact zMv hz (sd 1 rfl)
 exact zMv hz (sv S6) (g := gT 2 rfl)
 exact sBin rfl rfl rfl hz rfl (gT 2 rfl) rfl (sd 3 rfl) kc (fun w => run_t (P := atP p (nE s) % atQ q (nE s) + atP p (nE s) % atQ q (nE s) = atQ q (nE s)) ((fun w => o_hf0 (atQ_pos hq) w) w) hc6)
 exact zMv hz (sd 4 rfl) (g := gT 2 rfl)
 exact zMv hz (sv S7) (g := gT 5 rfl)
 exact sBin rfl rfl rfl hz rfl (gT 5 rfl) rfl (sd 6 rfl) kc (fun w => o_rem2 w)
 exact sBin rfl rfl rfl hz rfl (gT 5 rfl) rfl (sd 7 rfl) kc (fun w => f_is1 w)
 exact zPT hz (sd 5 rfl) (sd 8 rfl) (g := gT 2 rfl)
 exact zPF hz (sd 2 rfl) (sd 9 rfl)
 clear hz hd
 intro a' γ' W' hz hd hC hk hh
 replace S2 := kp hk S2
 replace S3 := kp hk S3
 replace S4 := kp hk S4
 clear S6
 replace S7 := kp hk S7
 have S53 := gV hz 10 hh
 replace HB := aB HB hC
 clear hC hk hh
 by_cases hc7 : p * 2 ^ K / q / 2 ^ s % 2 = 1
 rw [decide_eq_true hc7] at S53
 refine wp_cond_true S53.ev ?_
 refine rt [rV (.int .u64 ((p * 2 ^ K / q / 2 ^ s : Nat) : Int)), rV (.int .u64 ((p * 2 ^ K / q / 2 ^ s + 1 : Nat) : Int)), rV (.int .u64 ((p * 2 ^ K / q / 2 ^ s + 1 : Nat) : Int))] hz hd ?_ ?_
 refine ⟨?_, ?_, ?_, trivial⟩
 exact zMv hz (sv S7)
 exact sBin rfl rfl rfl hz rfl (Gd.none_ rfl) rfl (sd 0 rfl) kc (fun w => o_u1 (at_lt hsS) w)
 exact zAs hz (sd 1 rfl)
 clear hz hd
 intro a' γ' W' hz hd hC hk hh
 replace S2 := kp hk S2
 replace S3 := kp hk S3
 replace S4 := kp hk S4
 clear S7
 clear S53
 have S7 := gV hz 2 hh
 replace HB := aB HB hC
 clear hC hk hh
 refine join_n ?_
 exact ⟨(p * 2 ^ K / q / 2 ^ s + 1), hz, hd, HB, S2, S3, S4, S7, (at_H hsS (by rw [← at_rn K eK hq, (rn_up2 hc6 (by rw [at_div K eK hq]; exact hc7)), at_div K eK hq]))⟩
 rw [decide_eq_false hc7] at S53
 refine wp_cond_false S53.ev ?_
 refine wp_skip ?_
 refine join_n ?_
 exact ⟨(p * 2 ^ K / q / 2 ^ s), hz, hd, HB, S2, S3, S4, S7, (at_H hsS (by rw [← at_rn K eK hq, (rn_no2 hc5 (by rw [at_div K eK hq]; exact hc7)), at_div K eK hq]))⟩
 refine rt [rV (.int .i64 (hf (atP p (nE s)) (atQ q (nE s)))), rV (.bool false), rV (.bool false), rV (.int .i64 (hf (atP p (nE s)) (atQ q (nE s)))), rV (.bool false), rV (.bool false), rV undef, rV undef, rV undef, rV (.bool false), rV (.bool false)] hz hd ?_ ?_
 refine ⟨?_, ?_, ?_, ?_, ?_, ?_, ?_, ?_, ?_, ?_, ?_, trivial⟩
 exact zMv hz (sv S6)
 exact sBin rfl rfl rfl hz rfl (Gd.none_ rfl) rfl (sd 0 rfl) kc (fun w => run_f (P := atQ q (nE s) < atP p (nE s) % atQ q (nE s) + atP p (nE s) % atQ q (nE s)) ((fun w => o_hf1 (atQ_pos hq) w) w) hc5)
 exact zMv hz (sd 1 rfl)
 exact zMv hz (sv S6) (g := gT 2 rfl)
 exact sBin rfl rfl rfl hz rfl (gT 2 rfl) rfl (sd 3 rfl) kc (fun w => run_f (P := atP p (nE s) % atQ q (nE s) + atP p (nE s) % atQ q (nE s) = atQ q (nE s)) ((fun w => o_hf0 (atQ_pos hq) w) w) hc6)
 exact zMv hz (sd 4 rfl) (g := gT 2 rfl)
 exact zSkU hz (gN 5 rfl)
 exact zSkU hz (gN 5 rfl)
 exact zSkU hz (gN 5 rfl)
 exact zPF hz (sd 5 rfl) kc (g := gT 2 rfl)
 exact zPF hz (sd 2 rfl) (sd 9 rfl)
 clear hz hd
 intro a' γ' W' hz hd hC hk hh
 replace S2 := kp hk S2
 replace S3 := kp hk S3
 replace S4 := kp hk S4
 clear S6
 replace S7 := kp hk S7
 have S53 := gV hz 10 hh
 replace HB := aB HB hC
 clear hC hk hh
 refine wp_cond_false S53.ev ?_
 refine wp_skip ?_
 refine join_n ?_
 exact ⟨(p * 2 ^ K / q / 2 ^ s), hz, hd, HB, S2, S3, S4, S7, (at_H hsS (by rw [← at_rn K eK hq, (rn_no1 hc5 hc6), at_div K eK hq]))⟩
 clear S2 S3 S4 S6 S7 hz hd HB
 rintro a W ⟨h, hz, hd, HB, S2, S3, S4, S7, hh⟩
 have hH := nearH_up (K := K) (p := p) hq
 rw [← hh] at hH
 have hlo : 4503599627370496 ≤ h ∨ s = 0 := by
   by_cases c : nearS K p q = 0
   · exact Or.inr (hsS.trans c)
   · exact Or.inl (hh ▸ nearH_lo hq c)
 refine wp_seq ?_
 refine wp_seq ?_
 refine rt [rV (.int .u64 ((h : Nat) : Int)), rV (.bool (decide (h = 9007199254740992)))] hz hd ?_ ?_
 refine ⟨?_, ?_, trivial⟩
 exact zMv hz (sv S7)
 exact sBin rfl rfl rfl hz rfl (Gd.none_ rfl) rfl (sd 0 rfl) kc (fun w => o_is53 w)
 clear hz hd
 intro a' γ' W' hz hd hC hk hh
 replace S2 := kp hk S2
 replace S3 := kp hk S3
 replace S4 := kp hk S4
 replace S7 := kp hk S7
 have S57 := gV hz 1 hh
 replace HB := aB HB hC
 clear hC hk hh
 by_cases hc8 : h = 9007199254740992
 rw [decide_eq_true hc8] at S57
 refine wp_cond_true S57.ev ?_
 refine wp_seq ?_
 refine rt [rV (.int .u64 4503599627370496)] hz hd ?_ ?_
 refine ⟨?_, trivial⟩
 exact zAs hz kc
 clear hz hd
 intro a' γ' W' hz hd hC hk hh
 replace S2 := kp hk S2
 replace S3 := kp hk S3
 replace S4 := kp hk S4
 clear S7
 clear S57
 have S7 := gV hz 0 hh
 replace HB := aB HB hC
 clear hC hk hh
 refine rt [rV (.int .i64 (nE s)), rV (.int .i64 (nE (s + 1))), rV (.int .i64 (nE (s + 1)))] hz hd ?_ ?_
 refine ⟨?_, ?_, ?_, trivial⟩
 exact zMv hz (sv S4)
 exact sBin rfl rfl rfl hz rfl (Gd.none_ rfl) rfl (sd 0 rfl) kc (fun w => f_nE1 (by omega) w)
 exact zAs hz (sd 1 rfl)
 clear hz hd
 intro a' γ' W' hz hd hC hk hh
 replace S2 := kp hk S2
 replace S3 := kp hk S3
 clear S4
 replace S7 := kp hk S7
 have S4 := gV hz 2 hh
 replace HB := aB HB hC
 clear hC hk hh
 refine wp_seq ?_
 refine wp_seq ?_
 refine rt [rV (.int .i64 (nE (s + 1))), rV (.bool (decide (2046 ≤ s + 1)))] hz hd ?_ ?_
 refine ⟨?_, ?_, trivial⟩
 exact zMv hz (sv S4)
 exact sBin rfl rfl rfl hz rfl (Gd.none_ rfl) rfl (sd 0 rfl) kc (fun w => f_nhi w)
 clear hz hd
 intro a' γ' W' hz hd hC hk hh
 replace S2 := kp hk S2
 replace S3 := kp hk S3
 replace S7 := kp hk S7
 replace S4 := kp hk S4
 have S61 := gV hz 1 hh
 replace HB := aB HB hC
 clear hC hk hh
 by_cases hc9 : 2046 ≤ s + 1
 rw [decide_eq_true hc9] at S61
 refine wp_cond_true S61.ev ?_
 refine wp_seq ?_
 refine rt [rV (.int .u64 0), rV (.bool false)] hz hd ?_ ?_
 refine ⟨?_, ?_, trivial⟩
 exact zAs hz kc
 exact zAs hz kc
 clear hz hd
 intro a' γ' W' hz hd hC hk hh
 clear S2
 clear S3
 replace S7 := kp hk S7
 replace S4 := kp hk S4
 clear S61
 have S2 := gV hz 0 hh
 have S3 := gV hz 1 hh
 replace HB := aB HB hC
 clear hC hk hh
 refine wp_ret ?_
 refine ret_to (T := tT [tV (.int .u64 0), tV (.bool false)]) (rett2 (by kernel_rfl) S2 S3 hd HB) ?_
 exact tof_to (by have x2 := hc8; have x3 := hc9; rw [eN, ← hsS, ← hh]; unfold flN; rw [if_neg (by omega)]) (by have x2 := hc8; have x3 := hc9; rw [eN, ← hsS, ← hh, decide_eq_false (by omega)])
 rw [decide_eq_false hc9] at S61
 refine wp_cond_false S61.ev ?_
 refine wp_skip ?_
 refine wp_seq ?_
 refine wp_seq ?_
 refine rt [rV (.int .u64 4503599627370496), rV (.bool false)] hz hd ?_ ?_
 refine ⟨?_, ?_, trivial⟩
 exact zMv hz (sv S7)
 exact sBin rfl rfl rfl hz rfl (Gd.none_ rfl) rfl (sd 0 rfl) kc (fun w => by kernel_rfl)
 clear hz hd
 intro a' γ' W' hz hd hC hk hh
 replace S2 := kp hk S2
 replace S3 := kp hk S3
 replace S7 := kp hk S7
 replace S4 := kp hk S4
 clear S61
 have S63 := gV hz 1 hh
 replace HB := aB HB hC
 clear hC hk hh
 refine wp_cond_false S63.ev ?_
 refine wp_skip ?_
 refine wp_seq ?_
 refine rt [rV (.int .i64 (nE (s + 1))), rV (.int .i64 ((s + 1 : Nat) : Int)), rV (.int .i64 ((s + 1 + 1 : Nat) : Int)), rV (.int .u64 ((s + 1 + 1 : Nat) : Int)), rV (.int .u64 (((s + 1 + 1) * 4503599627370496 : Nat) : Int)), rV (.int .u64 4503599627370496), rV (.int .u64 ((4503599627370496 - 4503599627370496 : Nat) : Int)), rV (.int .u64 (((s + 1 + 1) * 4503599627370496 + (4503599627370496 - 4503599627370496) : Nat) : Int)), rV (.int .u64 (((s + 1 + 1) * 4503599627370496 + (4503599627370496 - 4503599627370496) : Nat) : Int)), rV (.bool true)] hz hd ?_ ?_
 refine ⟨?_, ?_, ?_, ?_, ?_, ?_, ?_, ?_, ?_, ?_, trivial⟩
 exact zMv hz (sv S4)
 exact sBin rfl rfl rfl hz rfl (Gd.none_ rfl) rfl (sd 0 rfl) kc (fun w => o_least (by have := hc9; omega) w)
 exact sBin rfl rfl rfl hz rfl (Gd.none_ rfl) rfl (sd 1 rfl) kc (fun w => n_succ (by omega) w)
 exact sConv (T' := tV (.int .i64 ((s + 1 + 1 : Nat) : Int))) rfl rfl rfl hz rfl (Gd.none_ rfl) rfl (sd 2 rfl) (fun v_ w_ h_ => by have h_ : v_ = .int .i64 ((s + 1 + 1 : Nat) : Int) := h_; subst h_; exact ⟨_, by exact cv_s (by omega) _, rfl⟩)
 exact sBin rfl rfl rfl hz rfl (Gd.none_ rfl) rfl (sd 3 rfl) kc (fun w => f_nshl (by omega) w)
 exact zMv hz (sv S7)
 exact sBin rfl rfl rfl hz rfl (Gd.none_ rfl) rfl (sd 5 rfl) kc (fun w => o_sub52 (by decide) (by decide) w)
 exact sBin rfl rfl rfl hz rfl (Gd.none_ rfl) rfl (sd 4 rfl) (sd 6 rfl) (fun w => o_add (by omega) w)
 exact zAs hz (sd 7 rfl)
 exact zAs hz kc
 clear hz hd
 intro a' γ' W' hz hd hC hk hh
 clear S2
 clear S3
 clear S7
 clear S4
 clear S63
 have S2 := gV hz 8 hh
 have S3 := gV hz 9 hh
 replace HB := aB HB hC
 clear hC hk hh
 refine wp_ret ?_
 refine ret_to (T := tT [tV (.int .u64 (((s + 1 + 1) * 4503599627370496 + (4503599627370496 - 4503599627370496) : Nat) : Int)), tV (.bool true)]) (rett2 (by kernel_rfl) S2 S3 hd HB) ?_
 exact tof_to (by have x2 := hc8; have x3 := hc9; rw [eN, ← hsS, ← hh]; unfold flN; rw [if_pos (by omega)]; omega) (by have x2 := hc8; have x3 := hc9; rw [eN, ← hsS, ← hh, decide_eq_true (by omega)])
 rw [decide_eq_false hc8] at S57
 refine wp_cond_false S57.ev ?_
 refine wp_skip ?_
 refine wp_seq ?_
 refine wp_seq ?_
 refine rt [rV (.int .i64 (nE s)), rV (.bool (decide (2046 ≤ s)))] hz hd ?_ ?_
 refine ⟨?_, ?_, trivial⟩
 exact zMv hz (sv S4)
 exact sBin rfl rfl rfl hz rfl (Gd.none_ rfl) rfl (sd 0 rfl) kc (fun w => f_nhi w)
 clear hz hd
 intro a' γ' W' hz hd hC hk hh
 replace S2 := kp hk S2
 replace S3 := kp hk S3
 replace S4 := kp hk S4
 replace S7 := kp hk S7
 clear S57
 have S61 := gV hz 1 hh
 replace HB := aB HB hC
 clear hC hk hh
 by_cases hc10 : 2046 ≤ s
 rw [decide_eq_true hc10] at S61
 refine wp_cond_true S61.ev ?_
 refine wp_seq ?_
 refine rt [rV (.int .u64 0), rV (.bool false)] hz hd ?_ ?_
 refine ⟨?_, ?_, trivial⟩
 exact zAs hz kc
 exact zAs hz kc
 clear hz hd
 intro a' γ' W' hz hd hC hk hh
 clear S2
 clear S3
 replace S4 := kp hk S4
 replace S7 := kp hk S7
 clear S61
 have S2 := gV hz 0 hh
 have S3 := gV hz 1 hh
 replace HB := aB HB hC
 clear hC hk hh
 refine wp_ret ?_
 refine ret_to (T := tT [tV (.int .u64 0), tV (.bool false)]) (rett2 (by kernel_rfl) S2 S3 hd HB) ?_
 exact tof_to (by have x2 := hc8; have x3 := hc10; rw [eN, ← hsS, ← hh]; unfold flN; rw [if_neg (by omega)]) (by have x2 := hc8; have x3 := hc10; rw [eN, ← hsS, ← hh, decide_eq_false (by omega)])
 rw [decide_eq_false hc10] at S61
 refine wp_cond_false S61.ev ?_
 refine wp_skip ?_
 refine wp_seq ?_
 refine wp_seq ?_
 refine rt [rV (.int .u64 ((h : Nat) : Int)), rV (.bool (decide (h < 4503599627370496)))] hz hd ?_ ?_
 refine ⟨?_, ?_, trivial⟩
 exact zMv hz (sv S7)
 exact sBin rfl rfl rfl hz rfl (Gd.none_ rfl) rfl (sd 0 rfl) kc (fun w => f_n52 w)
 clear hz hd
 intro a' γ' W' hz hd hC hk hh
 replace S2 := kp hk S2
 replace S3 := kp hk S3
 replace S4 := kp hk S4
 replace S7 := kp hk S7
 clear S61
 have S63 := gV hz 1 hh
 replace HB := aB HB hC
 clear hC hk hh
 by_cases hc11 : h < 4503599627370496
 rw [decide_eq_true hc11] at S63
 refine wp_cond_true S63.ev ?_
 refine wp_seq ?_
 refine rt [rV (.int .u64 ((h : Nat) : Int)), rV (.int .u64 ((h : Nat) : Int)), rV (.bool true)] hz hd ?_ ?_
 refine ⟨?_, ?_, ?_, trivial⟩
 exact zMv hz (sv S7)
 exact zAs hz (sd 0 rfl)
 exact zAs hz kc
 clear hz hd
 intro a' γ' W' hz hd hC hk hh
 clear S2
 clear S3
 replace S4 := kp hk S4
 replace S7 := kp hk S7
 clear S63
 have S2 := gV hz 1 hh
 have S3 := gV hz 2 hh
 replace HB := aB HB hC
 clear hC hk hh
 refine wp_ret ?_
 refine ret_to (T := tT [tV (.int .u64 ((h : Nat) : Int)), tV (.bool true)]) (rett2 (by kernel_rfl) S2 S3 hd HB) ?_
 exact tof_to (by have x2 := hc8; have x3 := hc10; have x4 := hc11; rw [eN, ← hsS, ← hh]; unfold flN; rw [if_pos (by omega)]; omega) (by have x2 := hc8; have x3 := hc10; have x4 := hc11; rw [eN, ← hsS, ← hh, decide_eq_true (by omega)])
 rw [decide_eq_false hc11] at S63
 refine wp_cond_false S63.ev ?_
 refine wp_skip ?_
 refine wp_seq ?_
 refine rt [rV (.int .i64 (nE s)), rV (.int .i64 ((s : Nat) : Int)), rV (.int .i64 ((s + 1 : Nat) : Int)), rV (.int .u64 ((s + 1 : Nat) : Int)), rV (.int .u64 (((s + 1) * 4503599627370496 : Nat) : Int)), rV (.int .u64 ((h : Nat) : Int)), rV (.int .u64 ((h - 4503599627370496 : Nat) : Int)), rV (.int .u64 (((s + 1) * 4503599627370496 + (h - 4503599627370496) : Nat) : Int)), rV (.int .u64 (((s + 1) * 4503599627370496 + (h - 4503599627370496) : Nat) : Int)), rV (.bool true)] hz hd ?_ ?_
 refine ⟨?_, ?_, ?_, ?_, ?_, ?_, ?_, ?_, ?_, ?_, trivial⟩
 exact zMv hz (sv S4)
 exact sBin rfl rfl rfl hz rfl (Gd.none_ rfl) rfl (sd 0 rfl) kc (fun w => o_least (by have := hc10; omega) w)
 exact sBin rfl rfl rfl hz rfl (Gd.none_ rfl) rfl (sd 1 rfl) kc (fun w => n_succ (by omega) w)
 exact sConv (T' := tV (.int .i64 ((s + 1 : Nat) : Int))) rfl rfl rfl hz rfl (Gd.none_ rfl) rfl (sd 2 rfl) (fun v_ w_ h_ => by have h_ : v_ = .int .i64 ((s + 1 : Nat) : Int) := h_; subst h_; exact ⟨_, by exact cv_s (by omega) _, rfl⟩)
 exact sBin rfl rfl rfl hz rfl (Gd.none_ rfl) rfl (sd 3 rfl) kc (fun w => f_nshl (by omega) w)
 exact zMv hz (sv S7)
 exact sBin rfl rfl rfl hz rfl (Gd.none_ rfl) rfl (sd 5 rfl) kc (fun w => o_sub52 (by omega) (by omega) w)
 exact sBin rfl rfl rfl hz rfl (Gd.none_ rfl) rfl (sd 4 rfl) (sd 6 rfl) (fun w => o_add (by omega) w)
 exact zAs hz (sd 7 rfl)
 exact zAs hz kc
 clear hz hd
 intro a' γ' W' hz hd hC hk hh
 clear S2
 clear S3
 clear S4
 clear S7
 clear S63
 have S2 := gV hz 8 hh
 have S3 := gV hz 9 hh
 replace HB := aB HB hC
 clear hC hk hh
 refine wp_ret ?_
 refine ret_to (T := tT [tV (.int .u64 (((s + 1) * 4503599627370496 + (h - 4503599627370496) : Nat) : Int)), tV (.bool true)]) (rett2 (by kernel_rfl) S2 S3 hd HB) ?_
 exact tof_to (by have x2 := hc8; have x3 := hc10; have x4 := hc11; rw [eN, ← hsS, ← hh]; unfold flN; rw [if_pos (by omega)]; omega) (by have x2 := hc8; have x3 := hc10; have x4 := hc11; rw [eN, ← hsS, ← hh, decide_eq_true (by omega)])

end Go.Proofs.YtfgnleoaibcegaaGreat.Rg

namespace Go.Proofs.YtfgnleoaibcegaaGreat.Rg

open Go.RowKit
section

variable {a q N n k : Nat} {X : List Nat}
end
section

variable {l p q : Nat} {x : Rat} {v : Value} {w : World} {z : Int}
end

end Go.Proofs.YtfgnleoaibcegaaGreat.Rg

namespace Go.Proofs.YtfgnleoaibcegaaGreat.Rg

open Go.RowKit

theorem bat_take3 {w : World} {A : Option Addr} {n c k : Nat} {l : List Nat} (h : BAt w A n c l) (hk : k ≤ n) : BAt w A k c (l.take k) := by
  refine ⟨⟨by rw [bv_length, List.length_take, h.len]; omega, fun hk0 => ?_⟩, fun d hd => h.byte d (List.mem_of_mem_take hd)⟩
  obtain ⟨ad, e, hlt, hc⟩ := h.reads.2 (by omega)
  refine ⟨ad, e, hlt, fun j u hu => hc j u ?_⟩
  have hj : j < k := by have := (List.getElem?_eq_some_iff.1 hu).1; rw [bv_length, List.length_take] at this; omega
  unfold bv at hu ⊢
  rw [List.map_take, List.getElem?_take_of_lt hj] at hu
  exact hu
set_option maxHeartbeats 400000 in
theorem cut3_any (A : Option Addr) (n c : Nat) (l : List Nat) (w : World) (h : BAt w A n c l) (hnc : n ≤ c) :
    Calls Tryz.prog 38 #[.slice A n c] w fun e w' => ∃ n1, e = .returned (.slice A n1 c) ∧ BAt w' A n1 c (l.take 300) ∧ n1 ≤ 300 ∧ n1 ≤ c ∧ w = w' := by
  by_cases hn : n ≤ 300
  · have hl : l.take 300 = l := List.take_of_length_le (by rw [h.len]; exact hn)
    have b1 : decide ((300 : Int) < (n : Int)) = false := decide_eq_false (by omega)
    rw [hl]
    have H := Lib.hid h
    clear h
    go_enter Tryz.func38, Tryz.ntmps38
    go_wp2_with fail
    go_ret
    exact ⟨n, rfl, H.out, hn, hnc, rfl⟩
  · have hb := bat_take3 h (show 300 ≤ n by omega)
    have b1 : decide ((300 : Int) < (n : Int)) = true := decide_eq_true (by omega)
    have b2 : (300 : Int) ≤ (c : Int) := by omega
    have H := Lib.hid hb
    clear hb h
    go_enter Tryz.func38, Tryz.ntmps38
    go_wp2_with fail
    go_ret
    exact ⟨300, rfl, H.out, by omega, by omega, rfl⟩
theorem l_cut3 {lim : Nat} {l : List Nat} {v1 : Value} {w : World} (h1 : (tBy lim l).p v1 w) :
    Calls Tryz.prog 38 #[v1] w (Ret (tBy 300 (l.take 300)) w) := by
  obtain ⟨A, n, c, rfl, h, h2, -⟩ := h1
  refine (cut3_any A n c l w h h2).mono ?_
  rintro e w' ⟨k, rfl, hd, hk, hkc, rfl⟩
  exact ⟨_, rfl, ⟨A, k, c, rfl, hd, hkc, hk⟩, Below.refl _ _⟩
theorem bev_bits3 {l : List Nat} {m : Nat} (hm : 2400 ≤ m) (h : ∀ d ∈ l, d < 256) : bev (l.take 300) < 2 ^ m := by
  refine Nat.lt_of_lt_of_le (bev_lt fun d hd => h d (List.mem_of_mem_take hd)) ?_
  rw [show (256 : Nat) = 2 ^ 8 from rfl, ← Nat.pow_mul]
  exact Nat.pow_le_pow_right (by omega) (by have := List.length_take_le 300 l; omega)
theorem tBy_bits3 {v : Value} {w : World} {m lim : Nat} {l : List Nat} (hm : 2400 ≤ m) (h : (tBy lim l).p v w) : bev (l.take 300) < 2 ^ m := by
  obtain ⟨A, n, c, rfl, h, -, -⟩ := h
  exact bev_bits3 hm h.byte
theorem one_2400 {m : Nat} (hm : 2400 ≤ m) : 1 < 2 ^ m := Nat.one_lt_two_pow (by omega)
def mk3 (l k : List Nat) : Rat := mkRat (bev (l.take 300)) (und (bev (k.take 300)))
theorem ret2_q {fn : Func} {w0 : World} {a : Act} {w : World} {t1 t2 p1 p2 l1 l2 : Nat} {x1 x2 : Rat} (h : fn.results = #[.cell t1 28, .cell t2 32]) (s1 : Sl a t1 (.pointer (some ⟨p1, 0, none⟩))) (s2 : Sl a t2 (.pointer (some ⟨p2, 0, none⟩))) (hdf : a.defers = [])
    (c1 : Cell 28 (tQ B64 l1 x1) p1 w) (c2 : Cell 32 (tQ B32 l2 x2) p2 w) (hb : Below w0.heap.size w0 w) : bodyPost Tryz.prog fn (Ret (tT [tQ B64 l1 x1, tQ B32 l2 x2]) w0) .ret a w := by
  obtain ⟨v1, b1, h1⟩ := c1
  obtain ⟨v2, b2, h2⟩ := c2
  refine bodyPost_ret (v := .tuple #[v1, v2]) ?_ hdf ⟨_, rfl, ⟨[v1, v2], rfl, h1, h2, trivial⟩, hb⟩
  obtain ⟨p, q, ⟨A, n, c, A2, n2, c2, rfl, -⟩, -⟩ := h1
  obtain ⟨p', q', ⟨A', n', c', A3, n3, c3, rfl, -⟩, -⟩ := h2
  have e1 := b1.cell 0
  have e2 := b2.cell 0
  have e3 := b1.cell 1
  have e4 := b2.cell 1
  unfold Sl at s1 s2
  simp [Value.cells] at e1 e2 e3 e4
  simp [results, h, go_sem, s1, s2, e1, e2, e3, e4]

set_option maxRecDepth 10000 in
set_option maxHeartbeats 2000000 in
theorem l_made3 {m : Nat} {l k : List Nat} {v0 v1 : Value} {w : World} (h0 : (tBy 9223372036854775807 l).p v0 w) (h1 : (tBy 9223372036854775807 k).p v1 w) (hm : 2400 ≤ m) :
    Calls Tryz.prog 7 #[v0, v1] w (Ret (tT [tQ B64 m (mk3 l k), tQ B32 m (mk3 l k)]) w) := by
 refine enter Tryz.func7 rfl Tryz.ntmps7 (by simp) ?_
 intro a hz hd ha
 have S0 := ha 0 _ rfl
 have H0 := h0
 have S1 := ha 1 _ rfl
 have H1 := h1
 clear ha
 have HB : Below w.heap.size w w := Below.refl _ _
 have hP := Lib.hid (tBy_bits3 hm h0)
 have hQ := Lib.hid (tBy_bits3 hm h1)
 refine wp_seq ?_
 refine rt [rB 0 28 (tQ B64 1 0) none 0, rB 1 32 (tR B32 0 0 0 0) none 0] hz hd ?_ ?_
 refine ⟨?_, ?_, trivial⟩
 exact zNew hz (fun _ => tQ_nil) al_r64
 exact zNew hz (fun _ => tR_nil) al_r32
 clear hz hd
 intro a' γ' W' hz hd hC hk hh
 replace S0 := kp hk S0
 replace H0 := Ty.aft _ H0 hC
 replace S1 := kp hk S1
 replace H1 := Ty.aft _ H1 hC
 obtain ⟨p1, S4, Cp1, lp1, gp1⟩ := gotB hz 0 hC hh rfl rfl rfl rfl rfl rfl
 obtain ⟨p2, S5, Cp2, lp2, gp2⟩ := gotB hz 1 hC hh rfl rfl rfl rfl rfl rfl
 have n_p1_p2 : p1 ≠ p2 := by intro e; rw [e, gp2] at gp1; omega
 have n_p2_p1 : p2 ≠ p1 := by intro e; rw [e, gp1] at gp2; omega
 have bp1 := Nat.le_trans HB.size lp1
 have bp2 := Nat.le_trans HB.size lp2
 clear lp1 gp1 lp2 gp2
 replace HB := aB HB hC
 clear hC hk hh
 refine wp_seq ?_
 refine rt [rT (tBy 9223372036854775807 l), rT (tBy 300 (l.take 300)), rT (tBy 9223372036854775807 k), rT (tBy 300 (k.take 300)), rT (tBy 300 (l.take 300)), rT (tBy 300 (k.take 300))] hz hd ?_ ?_
 refine ⟨?_, ?_, ?_, ?_, ?_, ?_, trivial⟩
 exact zMv hz (so S0 H0)
 exact zC1 hz Tryz.func38 (sd 0 rfl) (fun _ _ h0 => l_cut3 h0)
 exact zMv hz (so S1 H1)
 exact zC1 hz Tryz.func38 (sd 2 rfl) (fun _ _ h0 => l_cut3 h0)
 exact zAs hz (sd 1 rfl)
 exact zAs hz (sd 3 rfl)
 clear hz hd
 intro a' γ' W' hz hd hC hk hh
 have tp1 := Cp1.lt
 replace Cp1 := kC hC Cp1
 have tp2 := Cp2.lt
 replace Cp2 := kC hC Cp2
 clear S0 H0
 clear S1 H1
 replace S4 := kp hk S4
 replace S5 := kp hk S5
 obtain ⟨v0, S0, H0⟩ := got hz 4 hh rfl rfl rfl rfl
 obtain ⟨v1, S1, H1⟩ := got hz 5 hh rfl rfl rfl rfl
 clear tp1 tp2
 replace HB := aB HB hC
 clear hC hk hh
 refine wp_seq ?_
 refine rt [rT (tBy 300 (l.take 300)), rT (tN B64 300 (bev (l.take 300))), rT (tBy 300 (k.take 300)), rT (tN B64 300 (bev (k.take 300))), rT (tT [tQ B64 m (mkRat (bev (l.take 300)) (bev (k.take 300))), tV (.bool (decide (bev (k.take 300) ≠ 0)))]), rT (tT [tQ B64 m (mkRat (bev (l.take 300)) (bev (k.take 300))), tV (.bool (decide (bev (k.take 300) ≠ 0)))]), rT (tQ B64 m (mkRat (bev (l.take 300)) (bev (k.take 300)))), rV (.bool (decide (bev (k.take 300) ≠ 0))), rVar 8 28 2, rB 8 28 (tQ B64 m (mkRat (bev (l.take 300)) (bev (k.take 300)))) (some 8) 9, rV (.bool (decide (bev (k.take 300) ≠ 0)))] hz hd ?_ ?_
 refine ⟨?_, ?_, ?_, ?_, ?_, ?_, ?_, ?_, ?_, ?_, ?_, trivial⟩
 exact zMv hz (so S0 H0)
 exact zC1 hz Tryz.func21 (sd 0 rfl) (fun _ _ h0 => c_fb h0 (by decide))
 exact zMv hz (so S1 H1)
 exact zC1 hz Tryz.func21 (sd 2 rfl) (fun _ _ h0 => c_fb h0 (by decide))
 exact zC2 hz Tryz.func20 (sd 1 rfl) (sd 3 rfl) (fun _ _ _ h0 h1 => cq_from (l := m) h0 h1 (by decide) (by decide) hP.out hQ.out (by omega))
 exact zMv hz (sd 4 rfl)
 exact zExt hz (sd 5 rfl)
 exact zExt hz (sd 5 rfl)
 exact zAl hz nd_rat al_r64
 exact zSt (sd 6 rfl) st_q64
 exact zAs hz (sd 7 rfl)
 clear hz hd
 intro a' γ' W' hz hd hC hk hh
 have ep1 := Cp1.lt
 have ep2 := Cp2.lt
 have tp1 := Cp1.lt
 replace Cp1 := kC hC Cp1
 have tp2 := Cp2.lt
 replace Cp2 := kC hC Cp2
 replace S4 := kp hk S4
 replace S5 := kp hk S5
 replace S0 := kp hk S0
 replace H0 := Ty.aft _ H0 hC
 replace S1 := kp hk S1
 replace H1 := Ty.aft _ H1 hC
 obtain ⟨p3, S6, Cp3, lp3, gp3⟩ := gotB hz 9 hC hh rfl rfl rfl rfl rfl rfl
 have S7 := gV hz 10 hh
 have n_p3_p1 : p3 ≠ p1 := by omega
 have n_p3_p2 : p3 ≠ p2 := by omega
 have n_p1_p3 : p1 ≠ p3 := by have := ep1; omega
 have n_p2_p3 : p2 ≠ p3 := by have := ep2; omega
 have bp3 := Nat.le_trans HB.size lp3
 clear lp3 gp3
 clear tp1 tp2
 clear ep1 ep2
 replace HB := aB HB hC
 clear hC hk hh
 refine wp_seq ?_
 refine rt [rT (tBy 300 (l.take 300)), rT (tN B32 300 (bev (l.take 300))), rT (tBy 300 (k.take 300)), rT (tN B32 300 (bev (k.take 300))), rT (tT [tQ B32 m (mkRat (bev (l.take 300)) (bev (k.take 300))), tV (.bool (decide (bev (k.take 300) ≠ 0)))]), rT (tT [tQ B32 m (mkRat (bev (l.take 300)) (bev (k.take 300))), tV (.bool (decide (bev (k.take 300) ≠ 0)))]), rT (tQ B32 m (mkRat (bev (l.take 300)) (bev (k.take 300)))), rV (.bool (decide (bev (k.take 300) ≠ 0))), rVar 8 32 2, rB 8 32 (tQ B32 m (mkRat (bev (l.take 300)) (bev (k.take 300)))) (some 8) 9, rV (.bool (decide (bev (k.take 300) ≠ 0)))] hz hd ?_ ?_
 refine ⟨?_, ?_, ?_, ?_, ?_, ?_, ?_, ?_, ?_, ?_, ?_, trivial⟩
 exact zMv hz (so S0 H0)
 exact zC1 hz Tryz.func39 (sd 0 rfl) (fun _ _ h0 => d_fb h0 (by decide))
 exact zMv hz (so S1 H1)
 exact zC1 hz Tryz.func39 (sd 2 rfl) (fun _ _ h0 => d_fb h0 (by decide))
 exact zC2 hz Tryz.func15 (sd 1 rfl) (sd 3 rfl) (fun _ _ _ h0 h1 => dq_from (l := m) h0 h1 (by decide) (by decide) hP.out hQ.out (by omega))
 exact zMv hz (sd 4 rfl)
 exact zExt hz (sd 5 rfl)
 exact zExt hz (sd 5 rfl)
 exact zAl hz nd_rat al_r32
 exact zSt (sd 6 rfl) st_q32
 exact zAs hz (sd 7 rfl)
 clear hz hd
 intro a' γ' W' hz hd hC hk hh
 have ep1 := Cp1.lt
 have ep2 := Cp2.lt
 have ep3 := Cp3.lt
 have tp1 := Cp1.lt
 replace Cp1 := kC hC Cp1
 have tp2 := Cp2.lt
 replace Cp2 := kC hC Cp2
 have tp3 := Cp3.lt
 replace Cp3 := kC hC Cp3
 replace S4 := kp hk S4
 replace S5 := kp hk S5
 replace S0 := kp hk S0
 replace H0 := Ty.aft _ H0 hC
 clear S1 H1
 replace S6 := kp hk S6
 replace S7 := kp hk S7
 obtain ⟨p4, S8, Cp4, lp4, gp4⟩ := gotB hz 9 hC hh rfl rfl rfl rfl rfl rfl
 have S9 := gV hz 10 hh
 have n_p4_p1 : p4 ≠ p1 := by omega
 have n_p4_p2 : p4 ≠ p2 := by omega
 have n_p4_p3 : p4 ≠ p3 := by omega
 have n_p1_p4 : p1 ≠ p4 := by have := ep1; omega
 have n_p2_p4 : p2 ≠ p4 := by have := ep2; omega
 have n_p3_p4 : p3 ≠ p4 := by have := ep3; omega
 have bp4 := Nat.le_trans HB.size lp4
 clear lp4 gp4
 clear tp1 tp2 tp3
 clear ep1 ep2 ep3
 replace HB := aB HB hC
 clear hC hk hh
 refine wp_seq ?_
 refine wp_seq ?_
 by_cases hc5 : bev (k.take 300) ≠ 0
 rw [decide_eq_true hc5] at S7
 rw [decide_eq_true hc5] at S9
 refine rt [rV (.bool true), rV (.bool false)] hz hd ?_ ?_
 refine ⟨?_, ?_, trivial⟩
 exact zMv hz (sv S7)
 exact zNot hz (sd 0 rfl)
 clear hz hd
 intro a' γ' W' hz hd hC hk hh
 have tp1 := Cp1.lt
 replace Cp1 := kC hC Cp1
 have tp2 := Cp2.lt
 replace Cp2 := kC hC Cp2
 have tp3 := Cp3.lt
 replace Cp3 := kC hC Cp3
 have tp4 := Cp4.lt
 replace Cp4 := kC hC Cp4
 replace S4 := kp hk S4
 replace S5 := kp hk S5
 replace S0 := kp hk S0
 replace H0 := Ty.aft _ H0 hC
 replace S6 := kp hk S6
 clear S7
 replace S8 := kp hk S8
 replace S9 := kp hk S9
 have S31 := gV hz 1 hh
 clear tp1 tp2 tp3 tp4
 replace HB := aB HB hC
 clear hC hk hh
 refine wp_cond_false S31.ev ?_
 refine wp_skip ?_
 refine wp_seq ?_
 refine wp_seq ?_
 refine rt [rV (.bool true), rV (.bool false)] hz hd ?_ ?_
 refine ⟨?_, ?_, trivial⟩
 exact zMv hz (sv S9)
 exact zNot hz (sd 0 rfl)
 clear hz hd
 intro a' γ' W' hz hd hC hk hh
 have tp1 := Cp1.lt
 replace Cp1 := kC hC Cp1
 have tp2 := Cp2.lt
 replace Cp2 := kC hC Cp2
 have tp3 := Cp3.lt
 replace Cp3 := kC hC Cp3
 have tp4 := Cp4.lt
 replace Cp4 := kC hC Cp4
 replace S4 := kp hk S4
 replace S5 := kp hk S5
 replace S0 := kp hk S0
 replace H0 := Ty.aft _ H0 hC
 replace S6 := kp hk S6
 replace S8 := kp hk S8
 clear S9
 clear S31
 have S40 := gV hz 1 hh
 clear tp1 tp2 tp3 tp4
 replace HB := aB HB hC
 clear hC hk hh
 refine wp_cond_false S40.ev ?_
 refine wp_skip ?_
 refine wp_seq ?_
 refine region_drawn (M := [p1, p2]) (
  rT (tQ B64 m (mkRat (bev (l.take 300)) (bev (k.take 300)))) ::
  rT (tQ B32 m (mkRat (bev (l.take 300)) (bev (k.take 300)))) ::
  rE 0 28 (tQ B64 m (mkRat (bev (l.take 300)) (bev (k.take 300)))) p1 ::
  rE 1 32 (tQ B32 m (mkRat (bev (l.take 300)) (bev (k.take 300)))) p2 ::
  []) hz hd (by kernel_rfl) (by kernel_rfl) ?_ ?_
 refine ⟨?_, ?_, ?_, ?_, trivial⟩
 exact zLd hz (sv S6) Cp3 ld_q64 (by simp [tagOf, n_p3_p1, n_p3_p2])
 exact zLd hz (sv S8) Cp4 ld_q32 (by simp [tagOf, n_p4_p1, n_p4_p2])
 exact zSE rfl (sv S4) (by simp [tagOf]) (Cp1.var tQ_nd) (sd 0 rfl) st_q64
 exact zSE rfl (sv S5) (by simp [tagOf, n_p2_p1]) (Cp2.var tR_nd) (sd 1 rfl) st_q32
 clear hz hd
 intro a' γ' W' hz hd hC hk hh
 replace Cp1 := gotE (T := tQ B64 m (mkRat (bev (l.take 300)) (bev (k.take 300)))) (id := 28) (p := p1) 2 hh rfl rfl
 replace Cp2 := gotE (T := tQ B32 m (mkRat (bev (l.take 300)) (bev (k.take 300)))) (id := 32) (p := p2) 3 hh rfl rfl
 have tp3 := Cp3.lt
 clear Cp3
 have tp4 := Cp4.lt
 clear Cp4
 replace S4 := kp hk S4
 replace S5 := kp hk S5
 clear S0 H0
 clear S6
 clear S8
 clear S40
 clear tp3 tp4
 replace HB := RelC.aftM HB hC (by intro m hm; simp at hm; rcases hm with rfl | rfl <;> assumption)
 clear hC hk hh
 refine wp_ret ?_
 refine ret_to (T := tT [tQ B64 m (mkRat (bev (l.take 300)) (bev (k.take 300))), tQ B32 m (mkRat (bev (l.take 300)) (bev (k.take 300)))]) (ret2_q (by kernel_rfl) S4 S5 hd Cp1 Cp2 HB) ?_
 exact to2 (tQ_to (by decide) (by unfold mk3; rw [und_of hc5]) (by omega)) (tQ_to (by decide) (by unfold mk3; rw [und_of hc5]) (by omega))
 rw [decide_eq_false hc5] at S7
 rw [decide_eq_false hc5] at S9
 refine rt [rV (.bool false), rV (.bool true)] hz hd ?_ ?_
 refine ⟨?_, ?_, trivial⟩
 exact zMv hz (sv S7)
 exact zNot hz (sd 0 rfl)
 clear hz hd
 intro a' γ' W' hz hd hC hk hh
 have tp1 := Cp1.lt
 replace Cp1 := kC hC Cp1
 have tp2 := Cp2.lt
 replace Cp2 := kC hC Cp2
 have tp3 := Cp3.lt
 replace Cp3 := kC hC Cp3
 have tp4 := Cp4.lt
 replace Cp4 := kC hC Cp4
 replace S4 := kp hk S4
 replace S5 := kp hk S5
 replace S0 := kp hk S0
 replace H0 := Ty.aft _ H0 hC
 replace S6 := kp hk S6
 clear S7
 replace S8 := kp hk S8
 replace S9 := kp hk S9
 have S31 := gV hz 1 hh
 clear tp1 tp2 tp3 tp4
 replace HB := aB HB hC
 clear hC hk hh
 refine wp_cond_true S31.ev ?_
 refine region_text (M := [p3]) [rT (tBy 300 (l.take 300)), rT (tN B64 300 (bev (l.take 300))), rT (tN B64 1 1), rT (tT [tQ B64 m (mkRat (bev (l.take 300)) 1), tV (.bool (decide (1 ≠ 0)))]), rT (tT [tQ B64 m (mkRat (bev (l.take 300)) 1), tV (.bool (decide (1 ≠ 0)))]), rT (tQ B64 m (mkRat (bev (l.take 300)) 1)), rV (.bool (decide (1 ≠ 0))), rE 0 28 (tQ B64 m (mkRat (bev (l.take 300)) 1)) p3] hz hd (by kernel_rfl) ?_ ?_
 refine ⟨?_, ?_, ?_, ?_, ?_, ?_, ?_, ?_, trivial⟩
 exact zMv hz (so S0 H0)
 exact zC1 hz Tryz.func21 (sd 0 rfl) (fun _ _ h0 => c_fb h0 (by decide))
 exact zC1 hz Tryz.func40 (kc (v := .int .u64 1)) (k1 (fun _ => c_of (by decide)))
 exact zC2 hz Tryz.func20 (sd 1 rfl) (sd 2 rfl) (fun _ _ _ h0 h1 => cq_from (l := m) h0 h1 (by decide) (by decide) hP.out (one_2400 hm) (by omega))
 exact zMv hz (sd 3 rfl)
 exact zExt hz (sd 4 rfl)
 exact zExt hz (sd 4 rfl)
 exact zSE rfl (sv S6) (by simp [tagOf]) (Cp3.var tQ_nd) (sd 5 rfl) st_q64
 clear hz hd
 intro a' γ' W' hz hd hC hk hh
 have tp1 := Cp1.lt
 replace Cp1 := kC hC Cp1 (by simp [tagOf, n_p1_p3])
 have tp2 := Cp2.lt
 replace Cp2 := kC hC Cp2 (by simp [tagOf, n_p2_p3])
 replace Cp3 := gotE (T := tQ B64 m (mkRat (bev (l.take 300)) 1)) (id := 28) (p := p3) 7 hh rfl rfl
 have tp4 := Cp4.lt
 replace Cp4 := kC hC Cp4 (by simp [tagOf, n_p4_p3])
 replace S4 := kp hk S4
 replace S5 := kp hk S5
 replace S0 := kp hk S0
 replace H0 := Ty.aft _ H0 hC
 replace S6 := kp hk S6
 replace S8 := kp hk S8
 replace S9 := kp hk S9
 clear S31
 clear tp1 tp2 tp4
 replace HB := aM HB hC
 clear hC hk hh
 refine wp_seq ?_
 refine wp_seq ?_
 refine rt [rV (.bool false), rV (.bool true)] hz hd ?_ ?_
 refine ⟨?_, ?_, trivial⟩
 exact zMv hz (sv S9)
 exact zNot hz (sd 0 rfl)
 clear hz hd
 intro a' γ' W' hz hd hC hk hh
 have tp1 := Cp1.lt
 replace Cp1 := kC hC Cp1
 have tp2 := Cp2.lt
 replace Cp2 := kC hC Cp2
 have tp3 := Cp3.lt
 replace Cp3 := kC hC Cp3
 have tp4 := Cp4.lt
 replace Cp4 := kC hC Cp4
 replace S4 := kp hk S4
 replace S5 := kp hk S5
 replace S0 := kp hk S0
 replace H0 := Ty.aft _ H0 hC
 replace S6 := kp hk S6
 replace S8 := kp hk S8
 clear S9
 have S40 := gV hz 1 hh
 clear tp1 tp2 tp3 tp4
 replace HB := aB HB hC
 clear hC hk hh
 refine wp_cond_true S40.ev ?_
 refine region_text (M := [p4]) [rT (tBy 300 (l.take 300)), rT (tN B32 300 (bev (l.take 300))), rT (tN B32 2 1), rT (tT [tQ B32 m (mkRat (bev (l.take 300)) 1), tV (.bool (decide (1 ≠ 0)))]), rT (tT [tQ B32 m (mkRat (bev (l.take 300)) 1), tV (.bool (decide (1 ≠ 0)))]), rT (tQ B32 m (mkRat (bev (l.take 300)) 1)), rV (.bool (decide (1 ≠ 0))), rE 0 32 (tQ B32 m (mkRat (bev (l.take 300)) 1)) p4] hz hd (by kernel_rfl) ?_ ?_
 refine ⟨?_, ?_, ?_, ?_, ?_, ?_, ?_, ?_, trivial⟩
 exact zMv hz (so S0 H0)
 exact zC1 hz Tryz.func39 (sd 0 rfl) (fun _ _ h0 => d_fb h0 (by decide))
 exact zC1 hz Tryz.func16 (kc (v := .int .u64 1)) (k1 (fun _ => d_of (by decide)))
 exact zC2 hz Tryz.func15 (sd 1 rfl) (sd 2 rfl) (fun _ _ _ h0 h1 => dq_from (l := m) h0 h1 (by decide) (by decide) hP.out (one_2400 hm) (by omega))
 exact zMv hz (sd 3 rfl)
 exact zExt hz (sd 4 rfl)
 exact zExt hz (sd 4 rfl)
 exact zSE rfl (sv S8) (by simp [tagOf]) (Cp4.var tQ_nd) (sd 5 rfl) st_q32
 clear hz hd
 intro a' γ' W' hz hd hC hk hh
 have tp1 := Cp1.lt
 replace Cp1 := kC hC Cp1 (by simp [tagOf, n_p1_p4])
 have tp2 := Cp2.lt
 replace Cp2 := kC hC Cp2 (by simp [tagOf, n_p2_p4])
 have tp3 := Cp3.lt
 replace Cp3 := kC hC Cp3 (by simp [tagOf, n_p3_p4])
 replace Cp4 := gotE (T := tQ B32 m (mkRat (bev (l.take 300)) 1)) (id := 32) (p := p4) 7 hh rfl rfl
 replace S4 := kp hk S4
 replace S5 := kp hk S5
 clear S0 H0
 replace S6 := kp hk S6
 replace S8 := kp hk S8
 clear S40
 clear tp1 tp2 tp3
 replace HB := aM HB hC
 clear hC hk hh
 refine wp_seq ?_
 refine region_drawn (M := [p1, p2]) (
  rT (tQ B64 m (mkRat (bev (l.take 300)) 1)) ::
  rT (tQ B32 m (mkRat (bev (l.take 300)) 1)) ::
  rE 0 28 (tQ B64 m (mkRat (bev (l.take 300)) 1)) p1 ::
  rE 1 32 (tQ B32 m (mkRat (bev (l.take 300)) 1)) p2 ::
  []) hz hd (by kernel_rfl) (by kernel_rfl) ?_ ?_
 refine ⟨?_, ?_, ?_, ?_, trivial⟩
 exact zLd hz (sv S6) Cp3 ld_q64 (by simp [tagOf, n_p3_p1, n_p3_p2])
 exact zLd hz (sv S8) Cp4 ld_q32 (by simp [tagOf, n_p4_p1, n_p4_p2])
 exact zSE rfl (sv S4) (by simp [tagOf]) (Cp1.var tQ_nd) (sd 0 rfl) st_q64
 exact zSE rfl (sv S5) (by simp [tagOf, n_p2_p1]) (Cp2.var tR_nd) (sd 1 rfl) st_q32
 clear hz hd
 intro a' γ' W' hz hd hC hk hh
 replace Cp1 := gotE (T := tQ B64 m (mkRat (bev (l.take 300)) 1)) (id := 28) (p := p1) 2 hh rfl rfl
 replace Cp2 := gotE (T := tQ B32 m (mkRat (bev (l.take 300)) 1)) (id := 32) (p := p2) 3 hh rfl rfl
 have tp3 := Cp3.lt
 clear Cp3
 have tp4 := Cp4.lt
 clear Cp4
 replace S4 := kp hk S4
 replace S5 := kp hk S5
 clear S6
 clear S8
 clear tp3 tp4
 replace HB := RelC.aftM HB hC (by intro m hm; simp at hm; rcases hm with rfl | rfl <;> assumption)
 clear hC hk hh
 refine wp_ret ?_
 refine ret_to (T := tT [tQ B64 m (mkRat (bev (l.take 300)) 1), tQ B32 m (mkRat (bev (l.take 300)) 1)]) (ret2_q (by kernel_rfl) S4 S5 hd Cp1 Cp2 HB) ?_
 exact to2 (tQ_to (by decide) (by unfold mk3; rw [Decidable.not_not.1 hc5]; rfl) (by omega)) (tQ_to (by decide) (by unfold mk3; rw [Decidable.not_not.1 hc5]; rfl) (by omega))

section

variable {P : Program} {ops : Array Oper} {Q : Exit → Act → World → Prop} {a0 : Act} {M : List Nat} {W : World} {rels : List Rel} {i : Nat} {o : Oper} {T : Ty} {N d : Nat} {x y : Operand}
end

section

variable {a : Act} {γ : Nat → Nat} {w : World} {t N : Nat} {l : List Oper} {rels : List Rel} {M : List Nat} {W : World} {T : Ty}
end
section

variable {l p q : Nat} {x : Rat} {v : Value} {w : World} {z : Int}
theorem tQ_pq (h : (tQ B32 l x).p v w) (hp : x.num.toNat = p) (hq : x.den = q) : (tR B32 l l p q).p v w ∧ 0 < q ∧ bl p ≤ l ∧ bl q ≤ l := by
  obtain ⟨p', q', h1, e1, e2, h3, h4, h5⟩ := tQ32 h
  have ep : p' = p := by rw [e1] at hp; simpa using hp
  have eq : q' = q := by rw [← e2, hq]
  subst ep; subst eq
  exact ⟨h1, h3, bl_le h4, bl_le h5⟩
theorem dq_tofloat (h : (tQ B32 l x).p v w) (hp : x.num.toNat = p) (hq : x.den = q) (hl : l ≤ 200000) : Calls Tryz.prog 9 #[v] w (Ret (tT [tV (.int .u64 ((flN (tfD p q) : Nat) : Int)), tV (.bool (decide (tfD p q < 9218868437227405312)))]) w) := by
  obtain ⟨h1, h2, h3, h4⟩ := tQ_pq h hp hq
  exact d_tofloat h1 h2 hl h3 h4
end
end Go.Proofs.YtfgnleoaibcegaaGreat.Rg

namespace Go.Proofs.YtfgnleoaibcegaaGreat.Rg

open Go.RowKit Go.ChangeShapes Go.WideShapes Go.ChangeAt Go.Deep

theorem ret_out3 {P : Program} {f : FuncId} {args : Array Value} {w : World} {v : Value} (h : Calls P f args w (Ret (tV v) w)) : Calls P f args w fun e w' => e = .returned v ∧ Below w.heap.size w w' := by
  refine h.mono ?_
  rintro e w' ⟨u, rfl, h1, h2⟩
  have h1 : u = v := h1
  exact ⟨by rw [h1], h2⟩
theorem u64_r {a : Int} (h : (Lit.int .u64 a).wf = true) : ∃ u : Nat, a = (u : Int) ∧ u < 18446744073709551616 := by
  simp only [Lit.wf, decide_eq_true_eq, Bool.and_eq_true] at h
  have e1 : IntKind.u64.max = 18446744073709551615 := by decide
  have e2 : IntKind.u64.min = 0 := by decide
  rw [e1, e2] at h
  exact ⟨a.toNat, by omega, by omega⟩
end Go.Proofs.YtfgnleoaibcegaaGreat.Rg
