/-
  Walks and plain laws.
-/
set_option linter.unusedVariables false
set_option linter.unusedSimpArgs false
namespace Go.Proofs.YtfgnleoaibcegaaGreat

def B64 : Nat := 18446744073709551616
def B32 : Nat := 4294967296
theorem B64_eq : B64 = 18446744073709551616 := rfl
theorem B32_eq : B32 = 4294967296 := rfl

def val (b : Nat) : List Nat → Nat
  | [] => 0
  | d :: l => d + b * val b l

def digs (b x : Nat) : List Nat := if h : x = 0 ∨ b < 2 then [] else x % b :: digs b (x / b)
termination_by x
decreasing_by
  have h1 : x ≠ 0 ∧ ¬ b < 2 := by
    constructor
    · intro e; exact h (Or.inl e)
    · intro e; exact h (Or.inr e)
  exact Nat.div_lt_self (by omega) (by omega)

theorem digs_zero (b : Nat) : digs b 0 = [] := by unfold digs; simp
theorem digs_pos {b x : Nat} (hb : 2 ≤ b) (hx : 0 < x) : digs b x = x % b :: digs b (x / b) := by
  rw [digs, dif_neg (by omega)]

theorem val_digs {b : Nat} (hb : 2 ≤ b) (x : Nat) : val b (digs b x) = x := by
  induction x using Nat.strongRecOn with
  | _ x ih =>
    rcases Nat.eq_zero_or_pos x with rfl | hx
    · rw [digs_zero]; rfl
    · rw [digs_pos hb hx, val, ih _ (Nat.div_lt_self hx (by omega))]
      exact Nat.mod_add_div x b

theorem digs_lt {b : Nat} (hb : 2 ≤ b) (x : Nat) : ∀ d ∈ digs b x, d < b := by
  induction x using Nat.strongRecOn with
  | _ x ih =>
    rcases Nat.eq_zero_or_pos x with rfl | hx
    · rw [digs_zero]; simp
    · rw [digs_pos hb hx]
      intro d hd
      rcases List.mem_cons.1 hd with rfl | hd
      · exact Nat.mod_lt _ (by omega)
      · exact ih _ (Nat.div_lt_self hx (by omega)) d hd

theorem val_lt {b : Nat} (hb : 2 ≤ b) : ∀ (l : List Nat), (∀ d ∈ l, d < b) → val b l < b ^ l.length
  | [], _ => by simp [val]
  | d :: l, h => by
    have h1 := val_lt hb l (fun d hd => h d (List.mem_cons_of_mem _ hd))
    have h2 := h d (List.mem_cons_self)
    have h3 : b * (val b l + 1) ≤ b * b ^ l.length := Nat.mul_le_mul_left b h1
    rw [Nat.mul_add] at h3
    rw [val, List.length_cons, Nat.pow_succ, Nat.mul_comm (b ^ l.length)]
    omega

theorem val_append (b : Nat) : ∀ (l m : List Nat), val b (l ++ m) = val b l + b ^ l.length * val b m
  | [], m => by simp [val]
  | d :: l, m => by
    rw [List.cons_append, val, val, val_append b l m, List.length_cons, Nat.pow_succ, Nat.mul_add, Nat.mul_comm (b ^ l.length) b, Nat.mul_assoc, Nat.add_assoc]

theorem val_replicate (b n : Nat) : val b (List.replicate n 0) = 0 := by
  induction n with
  | zero => rfl
  | succ n ih => rw [List.replicate_succ, val, ih]; simp

theorem val_snoc (b : Nat) (l : List Nat) (d : Nat) : val b (l ++ [d]) = val b l + b ^ l.length * d := by
  rw [val_append]; simp [val]

theorem digs_val {b : Nat} (hb : 2 ≤ b) : ∀ (l : List Nat), (∀ d ∈ l, d < b) → (∀ h : l ≠ [], l.getLast h ≠ 0) → digs b (val b l) = l
  | [], _, _ => by simp [val, digs_zero]
  | d :: l, h, hl => by
    have hd := h d (List.mem_cons_self)
    have hrec := digs_val hb l (fun d hd => h d (List.mem_cons_of_mem _ hd)) (fun hne => by have := hl (by simp); rwa [List.getLast_cons hne] at this)
    have hpos : 0 < val b (d :: l) := by
      rw [val]
      rcases l with _ | ⟨e, l⟩
      · have := hl (by simp); simp at this; omega
      · have hv : 0 < val b (e :: l) := by
          rcases Nat.eq_zero_or_pos (val b (e :: l)) with h0 | h0
          · rw [h0, digs_zero] at hrec; cases hrec
          · exact h0
        have := Nat.mul_pos (show 0 < b by omega) hv
        omega
    rw [digs_pos hb hpos, val]
    rw [Nat.add_mul_mod_self_left, Nat.mod_eq_of_lt hd, Nat.add_mul_div_left _ _ (by omega), Nat.div_eq_of_lt hd, Nat.zero_add, hrec]

theorem digs_nil_iff {b : Nat} (hb : 2 ≤ b) (x : Nat) : digs b x = [] ↔ x = 0 := by
  constructor
  · intro h
    have := val_digs hb x
    rw [h] at this
    simpa [val] using this.symm
  · rintro rfl; exact digs_zero b
theorem digs_length_zero {b : Nat} (hb : 2 ≤ b) (x : Nat) : (digs b x).length = 0 ↔ x = 0 := by
  rw [List.length_eq_zero_iff]; exact digs_nil_iff hb x

theorem lt_pow_length {b : Nat} (hb : 2 ≤ b) (x : Nat) : x < b ^ (digs b x).length := by
  have := val_lt hb _ (digs_lt hb x)
  rwa [val_digs hb] at this

theorem digs_div {b : Nat} (hb : 2 ≤ b) (x i : Nat) : digs b (x / b ^ i) = (digs b x).drop i := by
  induction i generalizing x with
  | zero => simp
  | succ i ih =>
    rcases Nat.eq_zero_or_pos x with rfl | hx
    · simp [digs_zero]
    · rw [Nat.pow_succ, Nat.mul_comm, ← Nat.div_div_eq_div_mul, ih, digs_pos hb hx]
      simp

theorem digs_length_le {b : Nat} (hb : 2 ≤ b) {x k : Nat} (h : x < b ^ k) : (digs b x).length ≤ k := by
  have h0 : x / b ^ k = 0 := Nat.div_eq_of_lt h
  have := digs_div hb x k
  rw [h0, digs_zero] at this
  have := congrArg List.length this
  simp at this
  omega

theorem pow_length_le {b : Nat} (hb : 2 ≤ b) {x : Nat} (hx : 0 < x) : b ^ ((digs b x).length - 1) ≤ x := by
  rcases Nat.lt_or_ge x (b ^ ((digs b x).length - 1)) with h | h
  · have h1 := digs_length_le hb h
    have h2 : (digs b x).length ≠ 0 := by rw [Ne, digs_length_zero hb]; omega
    omega
  · exact h

theorem digs_getD {b : Nat} (hb : 2 ≤ b) (x i : Nat) : (digs b x).getD i 0 = x / b ^ i % b := by
  have h := digs_div hb x i
  rcases Nat.eq_zero_or_pos (x / b ^ i) with h0 | h0
  · rw [h0, digs_zero] at h
    have := congrArg List.length h
    simp at this
    rw [h0, List.getD_eq_getElem?_getD, List.getElem?_eq_none (by omega)]
    simp
  · have h1 := digs_pos hb h0
    rw [h] at h1
    have h2 : ((digs b x).drop i)[0]? = some (x / b ^ i % b) := by rw [h1]; rfl
    rw [List.getElem?_drop, Nat.add_zero] at h2
    rw [List.getD_eq_getElem?_getD, h2]; rfl

theorem low_succ (b x i : Nat) : x % b ^ (i + 1) = x % b ^ i + b ^ i * (x / b ^ i % b) := Nat.mod_pow_succ

theorem val_take {b : Nat} (hb : 2 ≤ b) (l : List Nat) (hl : ∀ d ∈ l, d < b) (i : Nat) : val b (l.take i) = val b l % b ^ i := by
  have h := val_append b (l.take i) (l.drop i)
  rw [List.take_append_drop] at h
  have hlt := val_lt hb (l.take i) (fun d hd => hl d (List.mem_of_mem_take hd))
  by_cases hi : i ≤ l.length
  · rw [List.length_take, Nat.min_eq_left hi] at h hlt
    rw [h, Nat.add_mul_mod_self_left, Nat.mod_eq_of_lt hlt]
  · rw [List.take_of_length_le (by omega)]
    have := val_lt hb l hl
    rw [Nat.mod_eq_of_lt]
    exact Nat.lt_of_lt_of_le this (Nat.pow_le_pow_right (by omega) (by omega))

theorem val_getD {b : Nat} (hb : 2 ≤ b) (l : List Nat) (hl : ∀ d ∈ l, d < b) (i : Nat) : l.getD i 0 = val b l / b ^ i % b := by
  induction l generalizing i with
  | nil => simp [val]
  | cons d l ih =>
    have hd := hl d (List.mem_cons_self)
    cases i with
    | zero => simp [val, Nat.add_mul_mod_self_left, Nat.mod_eq_of_lt hd]
    | succ i =>
      have := ih (fun d hd => hl d (List.mem_cons_of_mem _ hd)) i
      rw [List.getD_cons_succ, this, val, Nat.pow_succ, Nat.mul_comm (b ^ i), ← Nat.div_div_eq_div_mul, Nat.add_mul_div_left _ _ (by omega), Nat.div_eq_of_lt hd, Nat.zero_add]

theorem getD_lt {b : Nat} (hb : 2 ≤ b) {l : List Nat} (hl : ∀ d ∈ l, d < b) (i : Nat) : l.getD i 0 < b := by
  rw [List.getD_eq_getElem?_getD]
  rcases Nat.lt_or_ge i l.length with h | h
  · rw [List.getElem?_eq_getElem h]; exact hl _ (List.getElem_mem h)
  · rw [List.getElem?_eq_none h]; simp; omega

theorem digs_take {b : Nat} (hb : 2 ≤ b) {l : List Nat} (hl : ∀ d ∈ l, d < b) {m : Nat} (hm : m ≤ l.length) (hz : val b (l.take m) = val b l) (hn : m = 0 ∨ l.getD (m - 1) 0 ≠ 0) : digs b (val b l) = l.take m := by
  rw [← hz]
  refine digs_val hb _ (fun d hd => hl d (List.mem_of_mem_take hd)) (fun hne => ?_)
  have hm0 : 0 < m := by
    rcases Nat.eq_zero_or_pos m with rfl | h
    · simp at hne
    · exact h
  have hg := hn.resolve_left (by omega)
  rw [List.getLast_eq_getElem]
  rw [List.getD_eq_getElem?_getD, List.getElem?_eq_getElem (by omega)] at hg
  simpa [List.length_take, Nat.min_eq_left hm] using hg

theorem take_drop_zero {b : Nat} {l : List Nat} {m : Nat} (hm : m < l.length) (h0 : l.getD m 0 = 0) (hz : val b (l.take (m + 1)) = val b l) : val b (l.take m) = val b l := by
  have : l.take (m + 1) = l.take m ++ [l.getD m 0] := by
    rw [List.take_succ_eq_append_getElem hm, List.getD_eq_getElem?_getD, List.getElem?_eq_getElem hm]; rfl
  rw [this, val_snoc, h0] at hz
  omega
end Go.Proofs.YtfgnleoaibcegaaGreat
