/-
  Walks and plain laws.
-/
import Derived.Test.YtfgnleoaibcegaaGreatXM0
set_option linter.unusedVariables false
set_option linter.unusedSimpArgs false
namespace Go.Proofs.YtfgnleoaibcegaaGreat

theorem two_le_ten : 2 ≤ 10 := by decide

def decs (x : Nat) : List Nat := if x = 0 then [0] else digs 10 x
def txt (x : Nat) : List Nat := (decs x).reverse.map (· + 48)

theorem decs_zero : decs 0 = [0] := rfl
theorem decs_pos {x : Nat} (h : 0 < x) : decs x = digs 10 x := if_neg (by omega)
theorem decs_lt (x : Nat) : ∀ d ∈ decs x, d < 10 := by
  rcases Nat.eq_zero_or_pos x with rfl | h
  · intro d hd; rw [decs_zero] at hd; simp at hd; omega
  · rw [decs_pos h]; exact digs_lt two_le_ten x
theorem val_decs (x : Nat) : val 10 (decs x) = x := by
  rcases Nat.eq_zero_or_pos x with rfl | h
  · rfl
  · rw [decs_pos h]; exact val_digs two_le_ten x
theorem txt_byte (x : Nat) : ∀ d ∈ txt x, 48 ≤ d ∧ d ≤ 57 := by
  intro d hd
  unfold txt at hd
  rw [List.mem_map] at hd
  obtain ⟨k, hk, rfl⟩ := hd
  have := decs_lt x k (List.mem_reverse.1 hk)
  omega
theorem txt_length (x : Nat) : (txt x).length = (decs x).length := by simp [txt]
theorem txt_pos (x : Nat) : 0 < (txt x).length := by
  rw [txt_length]
  rcases Nat.eq_zero_or_pos x with rfl | h
  · rw [decs_zero]; simp
  · rw [decs_pos h]
    have := (digs_length_zero two_le_ten x)
    omega
structure TxIs (x L Y : Nat) (D : List Nat) : Prop where
  eq : D = (List.range L).map fun i => x / 10 ^ i % 10 + 48
  rest : Y = x / 10 ^ L
  need : L = 0 ∨ L = 1 ∨ 0 < x / 10 ^ (L - 1)
theorem TxIs.start (x : Nat) : TxIs x 0 x [] := ⟨rfl, by simp, .inl rfl⟩
theorem TxIs.len {x L Y : Nat} {D : List Nat} (h : TxIs x L Y D) : D.length = L := by rw [h.eq]; simp
theorem TxIs.next {x L Y : Nat} {D : List Nat} (h : TxIs x L Y D) (hg : 0 < Y ∨ L = 0) : TxIs x (L + 1) (Y / 10) (D ++ [Y % 10 + 48]) := by
  refine ⟨?_, ?_, ?_⟩
  · rw [h.eq, List.range_succ, List.map_append, h.rest]; rfl
  · rw [h.rest, Nat.pow_succ, Nat.div_div_eq_div_mul]
  · rw [Nat.add_sub_cancel, ← h.rest]; omega
theorem TxIs.done {x L : Nat} {D : List Nat} (h : TxIs x L 0 D) (hL : 0 < L) : D = (decs x).map (· + 48) := by
  have hr := h.rest
  have hn := h.need
  rw [h.eq]
  rcases Nat.eq_zero_or_pos x with rfl | hx
  · have : L = 1 := by
      rcases hn with h | h | h
      · omega
      · exact h
      · simp at h
    subst this
    rfl
  · have hlt : x < 10 ^ L := by
      rcases (Nat.div_eq_zero_iff).1 hr.symm with h | h
      · have := Nat.pow_pos (n := L) (show 0 < 10 by omega); omega
      · exact h
    have hge : 10 ^ (L - 1) ≤ x := by
      rcases hn with h | h | h
      · omega
      · subst h; exact hx
      · exact Nat.le_of_not_lt fun hc => by rw [Nat.div_eq_of_lt hc] at h; omega
    have hlen : (digs 10 x).length = L := by
      have h1 := digs_length_le two_le_ten hlt
      rcases Nat.lt_or_ge (digs 10 x).length L with h2 | h2
      · exfalso
        have h3 := lt_pow_length two_le_ten x
        have h4 : 10 ^ (digs 10 x).length ≤ 10 ^ (L - 1) := Nat.pow_le_pow_right (by omega) (by omega)
        omega
      · omega
    rw [decs_pos hx]
    refine List.ext_getElem (by simp [hlen]) fun i h1 h2 => ?_
    have hi : i < (digs 10 x).length := by simpa using h2
    have := digs_getD two_le_ten x i
    rw [List.getD_eq_getElem?_getD, List.getElem?_eq_getElem hi] at this
    simp at this
    simp [this]
theorem TxIs.small {x L Y n : Nat} {D : List Nat} (h : TxIs x L Y D) (hx : x < 2 ^ n) : L ≤ n + 1 := by
  rcases h.need with h1 | h1 | h1
  · omega
  · omega
  · have h2 : 10 ^ (L - 1) ≤ x := Nat.le_of_not_lt fun hc => by rw [Nat.div_eq_of_lt hc] at h1; omega
    have h3 : 2 ^ (L - 1) ≤ 10 ^ (L - 1) := Nat.pow_le_pow_left (by omega) _
    have h4 : 2 ^ (L - 1) < 2 ^ n := by omega
    have := (Nat.pow_lt_pow_iff_right (show 1 < 2 by omega)).1 h4
    omega
theorem chunk_step {k r X : Nat} (hk : k < 18) : (r + 10 ^ (18 - k) * X) % 10 = r % 10 ∧ (r + 10 ^ (18 - k) * X) / 10 = r / 10 + 10 ^ (18 - (k + 1)) * X := by
  rw [show 18 - k = (18 - (k + 1)) + 1 by omega, Nat.pow_succ', Nat.mul_assoc]
  exact ⟨Nat.add_mul_mod_self_left _ _ _, Nat.add_mul_div_left _ _ (by omega)⟩

def readD (l : List Nat) : Nat := val 10 ((l.map (· - 48)).reverse)
def isDig (d : Nat) : Bool := decide (48 ≤ d) && decide (d ≤ 57)
theorem readD_nil : readD [] = 0 := rfl
theorem readD_snoc (l : List Nat) (d : Nat) : readD (l ++ [d]) = 10 * readD l + (d - 48) := by
  unfold readD
  rw [List.map_append, List.reverse_append]
  simp only [List.map_cons, List.map_nil, List.reverse_cons, List.reverse_nil, List.nil_append, List.cons_append, val]
  omega
theorem readD_append (l m : List Nat) : readD (l ++ m) = readD l * 10 ^ m.length + readD m := by
  unfold readD
  rw [List.map_append, List.reverse_append, val_append, List.length_reverse, List.length_map, Nat.add_comm, Nat.mul_comm]
theorem readD_lt (l : List Nat) (h : ∀ d ∈ l, d ≤ 57) : readD l < 10 ^ l.length := by
  unfold readD
  have := val_lt two_le_ten ((l.map (· - 48)).reverse) (fun d hd => by
    rw [List.mem_reverse, List.mem_map] at hd
    obtain ⟨e, he, rfl⟩ := hd
    have := h e he
    omega)
  simpa using this
theorem readD_txt (x : Nat) : readD (txt x) = x := by
  unfold readD txt
  rw [List.map_map]
  have e : ((fun x : Nat => x - 48) ∘ fun x => x + 48) = id := by funext k; simp
  rw [e, List.map_id, List.reverse_reverse]
  exact val_decs x
def parseOk (l : List Nat) : Bool := decide (1 ≤ l.length) && decide (l.length ≤ 400) && l.all isDig
def parseV (l : List Nat) : Nat := if parseOk l then readD l else 0
theorem parseOk_txt (x : Nat) : parseOk (txt x) = decide ((txt x).length ≤ 400) := by
  unfold parseOk
  rw [decide_eq_true (show 1 ≤ (txt x).length from txt_pos x), Bool.true_and, List.all_eq_true.2 (fun d hd => by have := txt_byte x d hd; simp [isDig]; omega), Bool.and_true]
theorem parseV_txt {x : Nat} (h : (txt x).length ≤ 400) : parseV (txt x) = x := by
  unfold parseV
  rw [parseOk_txt, decide_eq_true h, if_pos rfl, readD_txt]
end Go.Proofs.YtfgnleoaibcegaaGreat
