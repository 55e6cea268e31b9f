/-
  Walks and plain laws.
-/
import Derived.Test.YtfgnleoaibcegaaGreatXAQ
import Derived.Test.YtfgnleoaibcegaaGreatXAR
set_option linter.unusedVariables false
set_option linter.unusedSimpArgs false
namespace Go.Proofs.YtfgnleoaibcegaaGreat

open Go.RowKit

theorem Dg.take {w : World} {g : Nat} {l : List Nat} (h : Dg w g l) (m : Nat) : Dg w g (l.take m) := by
  obtain ⟨t, h⟩ := h
  refine ⟨dv (l.drop m) ++ t, ?_⟩
  rw [← List.append_assoc, ← dv_append, List.take_append_drop]
  exact h
theorem Dg.grown {w w' : World} {g : Nat} {l : List Nat} {row : Option Nat} (h : Dg w g l) (hb : w.grownBy w' row) (hg : some g ≠ row) : Dg w' g l := by
  obtain ⟨t, h⟩ := h
  exact ⟨t, Blk.grown h hb hg⟩
theorem own_slice {w : World} {base n : Nat} {e : TypeId} {size : Nat} {v : Value} {xs : List Value} (h : w.ownsRow base e size v n xs) : ∃ A c, v = .slice A n c := by
  rcases h.2 with ⟨rfl, rfl⟩ | ⟨g, cap, cur, rfl, _⟩
  · exact ⟨none, 0, rfl⟩
  · exact ⟨_, cap, rfl⟩

structure Td (base : Nat) (w : World) (A : Option Addr) (n c : Nat) (L : List Nat) : Prop where
  len : L.length = n
  cap : n ≤ c
  room : c ≤ maxLen
  at_ : (A = none ∧ n = 0) ∨ ∃ g, A = some ⟨g, 0, none⟩ ∧ base ≤ g ∧ Dg w g L
theorem Td.drew {base n c : Nat} {w : World} {A : Option Addr} {L : List Nat} (h : Td base w A n c L) : Td base w.drew A n c L := ⟨h.len, h.cap, h.room, h.at_⟩
theorem Td.below {base n c : Nat} {w w' : World} {A : Option Addr} {L : List Nat} (h : Td base w A n c L) (hb : Below w.heap.size w w') : Td base w' A n c L := by
  refine ⟨h.len, h.cap, h.room, ?_⟩
  rcases h.at_ with h1 | ⟨g, h1, h2, h3⟩
  · exact .inl h1
  · exact .inr ⟨g, h1, h2, h3.below hb h3.lt⟩
theorem Td.grown {base n c k b : Nat} {w w' : World} {A : Option Addr} {L : List Nat} {v : Value} {xs : List Value} (h : Td base w A n c L) (ho : w.ownsRow b 5 1 v k xs) (hg : w.grownBy w' v.ownBlock) : Td base w' A n c L := by
  refine ⟨h.len, h.cap, h.room, ?_⟩
  rcases h.at_ with h1 | ⟨g, h1, h2, t, h3⟩
  · exact .inl h1
  · exact .inr ⟨g, h1, h2, t, Blk.grown h3 hg (Ne.symm (own_blk_ne ho h3 (by decide)))⟩

theorem slice_nil_eq (w : World) (a : Option Addr) (n c : Nat) : (binOp .eql 24 (.slice a n c) (.slice none 0 0)).run Tryz.prog w = .ok (.bool a.isNone) w := Lib.run_eql_slice_nil (P := Tryz.prog) w _ 23 a n c 0 0 Tryz.underlying24

theorem digit_parts : ∃ i0, Tryz.prog.info? 23 = some i0 ∧ i0.zero = some (.int .u64 0) ∧ i0.size = 1 ∧ i0.bytes = 8 := by
  have h := info_digit
  cases hq : Tryz.prog.info? 23 with
  | none => rw [hq] at h; cases h
  | some i =>
    rw [hq] at h
    simp at h
    exact ⟨i, rfl, h.1, h.2.1, h.2.2⟩

set_option maxHeartbeats 400000 in
theorem clone_td (A : Option Addr) (n c x : Nat) (w : World) (h : DAt B64 w A n c x) (hn : n ≤ 1099511627776) :
    Calls Tryz.prog 94 #[.slice A n c] w fun e w' => ∃ A' c', e = .returned (.slice A' n c') ∧ Td w.heap.size w' A' n c' (digs B64 x) ∧ Below w.heap.size w w' := by
  obtain ⟨i0, hi0, hz0, hz1, hz2⟩ := digit_parts
  have he := slice_nil_eq
  have ha := h.reads
  have hlen := h.len
  rcases A with _ | ad
  · have h0 : n = 0 := by
      rcases Nat.eq_zero_or_pos n with h | h
      · exact h
      · obtain ⟨ad, h, _⟩ := ha.2 h; cases h
    subst h0
    clear h ha
    go_enter Tryz.func94, Tryz.ntmps94
    go_wp2
    go_ret
    exact ⟨_, _, rfl, ⟨hlen, Nat.le_refl _, Nat.zero_le _, .inl ⟨rfl, rfl⟩⟩, Below.refl _ _⟩
  · clear h
    go_enter Tryz.func94, Tryz.ntmps94
    go_wp2_with (first
      | (at_builtin
         refine wpList_append_any _ rfl (.tmp 5) (.tmp 6) _ rfl w.heap.size 23 i0 _ 1 8 Tryz.underlying24 hi0 hz0 hz1 hz2 rfl (by omega) (.slice (some ⟨w.heap.size, 0, none⟩) 0 0) 0 [] rfl
           ⟨by simp, .inr ⟨w.heap.size, 0, #[], rfl, Nat.le_refl _, ?_, by omega, by simp [maxLen], by simp, by simp⟩⟩ w.heap.size (some ad) n c (dv (digs B64 x)) rfl ?_ (dv_one _) (by simp only [maxLen]; omega) (by omega) (by simp) ?_
         · exact heap_alloc_new w _
         · exact ha.alloc (Nat.le_refl _) _
         intro v1 w1 hown1 hg1 hat1))
    go_ret
    obtain ⟨A', c', rfl⟩ := own_slice hown1
    simp only [Nat.zero_add, List.nil_append] at hown1 ⊢
    refine ⟨A', c', rfl, ?_, ((Below.refl _ _).alloc (Nat.le_refl _) _).grown hg1 (by simp) (fun k hk => ?_)⟩
    · rcases hown1.2 with ⟨e, hz⟩ | ⟨g, c2, cur, e, hg, hh, h1, h2, h3, h4⟩
      · injection e with e1 e2 e3
        subst e1 e2 e3
        exact ⟨hlen, Nat.le_refl _, Nat.zero_le _, .inl ⟨rfl, rfl⟩⟩
      · injection e with e1 e2 e3
        subst e1 e3
        refine ⟨hlen, h1, h2, .inr ⟨g, rfl, hg, cur.toList.drop (n * 1), ?_⟩⟩
        unfold Blk
        rw [← h4, List.take_append_drop]
        simpa using hh
    · simp [Value.ownBlock] at hk
      omega

set_option maxRecDepth 100000 in
set_option maxHeartbeats 2000000 in
theorem small_grown (g : Nat) (L : List Nat) (n c x y : Nat) (w : World) (hg : Dg w g L) (hl : L.length = n) (hd : ∀ d ∈ L, d < B64) (hx : val B64 L = x) (hy : y < B64) (hy0 : 0 < y) (hn : n ≤ 1099511627776) :
    Calls Tryz.prog 95 #[.slice (some ⟨g, 0, none⟩) n c, .int .u64 (y : Int)] w fun e w' => e = .returned (.int .u64 ((x % y : Nat) : Int)) ∧ w.grownBy w' (some g) ∧ ∃ L', Dg w' g L' ∧ L'.length = n ∧ (∀ d ∈ L', d < B64) ∧ val B64 L' = x / y := by
  have hS := Lib.hid (SmIs.start (y := y) hl hd hx)
  clear hl hd hx
  go_enter Tryz.func95, Tryz.ntmps95
  go_wp2_with fail
  go_loopw [5, 6] (fun rv iv wr => ∃ (i r : Nat) (L : List Nat), i ≤ n ∧ rv = .int .u64 (r : Int) ∧ iv = .int .i64 ((i : Int) - 1) ∧ SmIs x y n i r L ∧ Dg wr g L ∧ w.grownBy wr (some g)) (fun _ i _ => (intOf i + 1).toNat)
  case atStart => exact ⟨n, 0, L, by omega, rfl, by go_num, hS.out, hg, World.grownBy.refl w _⟩
  case round =>
    clear hg hS
    rename_i wr
    obtain ⟨i, r, L, hi, rfl, rfl, hS, hg, hb⟩ := hrel
    by_cases hi0 : 0 < i
    · obtain ⟨j, rfl⟩ : ∃ j, i = j + 1 := ⟨i - 1, by omega⟩
      obtain ⟨hN, hr, hdl⟩ := hS.next hy0 (by omega)
      have hc := hg.cell (i := j) (by rw [hS.len]; omega)
      have hf := hg.frozen j
      have hset := fun d => hg.set_ j d
      have e1 : (((j + 1 : Nat) : Int) - 1) = (j : Int) := by omega
      have HN := Lib.hid hN
      have HSET := Lib.hid hset
      clear hS hN hset
      rw [e1]
      generalize L.getD j 0 = d at *
      go_wp2_with fail
      refine (div64_any r d y hy hr hdl _).mono ?_
      rintro e w1 ⟨rfl, hw1⟩
      obtain ⟨hs1, hf1, hb1⟩ : (∀ q : Nat, Dg (w1.setCell ⟨g, j, none⟩ (.int .u64 (q : Int))) g (L.set j q)) ∧ w1.frozen? ⟨g, j, none⟩ = false ∧ w.grownBy w1 (some g) := by
        rcases hw1 with rfl | rfl
        · exact ⟨HSET.out, hf, hb⟩
        · exact ⟨HSET.out, hf, ⟨hb.os, hb.tape, hb.output, hb.size, hb.block⟩⟩
      have hc1 : w1.cell? ⟨g, j, none⟩ = some (.int .u64 (d : Int)) := by
        rcases hw1 with rfl | rfl
        · exact hc
        · exact hc
      clear hw1
      have HS1 := Lib.hid hs1
      have HB1 := Lib.hid (fun q : Nat => grown_set hb1 j (.int .u64 (q : Int)))
      clear hs1 hb1 hb hg hc hf
      generalize (r * B64 + d) / y = q' at *
      generalize (r * B64 + d) % y = r' at *
      go_wp2_with fail
      go_roundw
      case rel => exact ⟨j, r', _, by omega, rfl, by go_num, HN.out, HS1.out _, HB1.out _⟩
      case measure => simp [intOf]
    · obtain rfl : i = 0 := by omega
      have he := hS.eq
      have hrem := hS.rem
      rw [Nat.pow_zero, Nat.mod_one, Nat.div_one, Nat.zero_add, Nat.one_mul] at he
      rw [Nat.pow_zero, Nat.div_one] at hrem
      have hlen := hS.len
      have hdig := hS.dig
      have HE := Lib.hid he; have HR := Lib.hid hrem
      clear he hrem hS
      go_wp2_with fail
      exact bodyPost_ret (v := .int .u64 (r : Int)) (by simp [results, Tryz.results95, go_sem]) rfl ⟨by rw [HR.out], hb, L, hg, hlen, hdig, HE.out⟩

set_option maxHeartbeats 400000 in
theorem small_none (A : Option Addr) (c y : Nat) (w : World) : Calls Tryz.prog 95 #[.slice A 0 c, .int .u64 (y : Int)] w fun e w' => e = .returned (.int .u64 0) ∧ w = w' := by
  go_enter Tryz.func95, Tryz.ntmps95
  go_wp2_with fail
  go_loopw [5, 6] (fun rv iv wr => rv = .int .u64 0 ∧ iv = .int .i64 (-1) ∧ w = wr) (fun _ _ _ => 0)
  case atStart => exact ⟨rfl, rfl, rfl⟩
  case round =>
    obtain ⟨rfl, rfl, rfl⟩ := hrel
    go_wp2_with fail
    go_ret
    exact ⟨rfl, rfl⟩

def KeepsRows (w w' : World) : Prop := ∀ base v k xs, w.ownsRow base 5 1 v k xs → w'.ownsRow base 5 1 v k xs
theorem KeepsRows.refl (w : World) : KeepsRows w w := fun _ _ _ _ h => h
theorem KeepsRows.below {w w' : World} (h : Below w.heap.size w w') : KeepsRows w w' := fun base v k xs ho =>
  ho.kept (row := none) ⟨h.os, h.tape, h.output, h.size, fun j hj _ => h.block j hj⟩ (by
    rcases hb : v.ownBlock with _ | g
    · exact .inl rfl
    · exact .inr (by simp))

theorem small_td (w0 : World) (A : Option Addr) (L : List Nat) (n c x y : Nat) (w : World) (h : Td w0.heap.size w A n c L) (hb : Below w0.heap.size w0 w) (hd : ∀ d ∈ L, d < B64) (hx : val B64 L = x) (hy : y < B64) (hy0 : 0 < y) (hn : n ≤ 1099511627776) :
    Calls Tryz.prog 95 #[.slice A n c, .int .u64 (y : Int)] w fun e w' => e = .returned (.int .u64 ((x % y : Nat) : Int)) ∧ Below w0.heap.size w0 w' ∧ KeepsRows w w' ∧ ∃ L', Td w0.heap.size w' A n c L' ∧ (∀ d ∈ L', d < B64) ∧ val B64 L' = x / y := by
  rcases h.at_ with ⟨rfl, h0⟩ | ⟨g, rfl, hg, hdg⟩
  · have hL : L = [] := List.eq_nil_of_length_eq_zero (by rw [h.len]; exact h0)
    subst h0
    subst hL
    subst hx
    refine (small_none none c y w).mono ?_
    rintro e w' ⟨rfl, rfl⟩
    refine ⟨by simp [val], hb, KeepsRows.refl _, [], h, by simp, by simp [val]⟩
  · refine (small_grown g L n c x y w hdg h.len hd hx hy hy0 hn).mono ?_
    rintro e w' ⟨rfl, hgr, L', h1, h2, h3, h4⟩
    have hbw : Below w0.heap.size w w' := ⟨hgr.os, hgr.tape, hgr.output, hgr.size, fun k hk => hgr.block k (by have := hb.size; omega) (by intro e; injection e; omega)⟩
    refine ⟨rfl, hb.trans hbw, fun base v k xs ho => ?_, L', ⟨h2, h.cap, h.room, .inr ⟨g, rfl, hg, h1⟩⟩, h3, h4⟩
    obtain ⟨t, ht⟩ := hdg
    exact ho.kept hgr (.inr (own_blk_ne ho ht (by decide)))

set_option maxHeartbeats 400000 in
theorem trim_none (A : Option Addr) (c : Nat) (w : World) : Calls Tryz.prog 69 #[.slice A 0 c] w fun e w' => e = .returned (.agg #[.slice A 0 c]) ∧ Below w.heap.size w w' := by
  go_enter Tryz.func69, Tryz.ntmps69
  go_wp2
  go_loop [0] (fun v => v = .slice A 0 c) (fun _ => 0)
  case atStart => rfl
  case round =>
    subst hrel
    go_wp2
    exact bodyPost_ret (v := .agg #[.slice A 0 c]) (by simp [results, Tryz.results69, go_sem]) rfl ⟨rfl, (Below.refl _ _).alloc (Nat.le_refl _) _⟩

set_option maxHeartbeats 400000 in
theorem trim_own (g : Nat) (l : List Nat) (c : Nat) (w : World) (h : Dg w g l) (hd : ∀ d ∈ l, d < B64) (hl : l.length ≤ c) (hc : c ≤ maxLen) :
    Calls Tryz.prog 69 #[.slice (some ⟨g, 0, none⟩) l.length c] w fun e w' => ∃ m : Nat, e = .returned (.agg #[.slice (some ⟨g, 0, none⟩) m c]) ∧ m ≤ l.length ∧ digs B64 (val B64 l) = l.take m ∧ Below w.heap.size w w' := by
  have hc' := hc
  unfold maxLen at hc
  have hlt := h.lt
  go_enter Tryz.func69, Tryz.ntmps69
  go_wp2
  go_loop [0] (fun v => ∃ m : Nat, m ≤ l.length ∧ v = .slice (some ⟨g, 0, none⟩) m c ∧ val B64 (l.take m) = val B64 l) (fun v => match v with | .slice _ n _ => n | _ => 0)
  case atStart => exact ⟨l.length, Nat.le_refl _, rfl, by rw [List.take_length]⟩
  case round =>
    obtain ⟨m, hm, rfl, hz⟩ := hrel
    have HZ := Lib.hid hz
    have HD := Lib.hid hd
    clear hz hd
    by_cases hm0 : 0 < m
    · have hcell := h.cell (i := m - 1) (by omega)
      have H := Lib.hid h
      clear h
      by_cases hd0 : l.getD (m - 1) 0 = 0
      · have HD0 := Lib.hid hd0
        rw [hd0] at hcell
        clear hd0
        go_wp2
        refine ⟨⟨m - 1, by omega, rfl, ?_⟩, ?_⟩
        · exact take_drop_zero (by omega) HD0.out (by rw [Nat.sub_add_cancel (by omega)]; exact HZ.out)
        · show m - 1 < m; omega
      · have hne : (((l.getD (m - 1) 0 : Nat) : Int) == 0) = false := by rw [beq_eq_false_iff_ne]; omega
        have HD0 := Lib.hid hd0
        clear hd0
        generalize hx : l.getD (m - 1) 0 = x at hcell hne
        clear hx
        go_wp2
        exact bodyPost_ret (v := .agg #[.slice (some ⟨g, 0, none⟩) m c]) (by simp [results, Tryz.results69, go_sem]) rfl ⟨_, rfl, hm, digs_take two_le_B64 HD.out hm HZ.out (.inr HD0.out), (Below.refl _ _).alloc (Nat.le_refl _) _⟩
    · obtain rfl : m = 0 := by omega
      go_wp2
      exact bodyPost_ret (v := .agg #[.slice (some ⟨g, 0, none⟩) 0 c]) (by simp [results, Tryz.results69, go_sem]) rfl ⟨_, rfl, hm, digs_take two_le_B64 HD.out hm HZ.out (.inl rfl), (Below.refl _ _).alloc (Nat.le_refl _) _⟩

theorem trim_td (base : Nat) (A : Option Addr) (L : List Nat) (n c x : Nat) (w : World) (h : Td base w A n c L) (hd : ∀ d ∈ L, d < B64) (hx : val B64 L = x) :
    Calls Tryz.prog 69 #[.slice A n c] w fun e w' => ∃ m : Nat, e = .returned (.agg #[.slice A m c]) ∧ m ≤ n ∧ Td base w' A m c (digs B64 x) ∧ Below w.heap.size w w' := by
  rcases h.at_ with ⟨rfl, h0⟩ | ⟨g, rfl, hg, hdg⟩
  · have hL : L = [] := List.eq_nil_of_length_eq_zero (by rw [h.len]; exact h0)
    subst h0
    subst hL
    subst hx
    refine (trim_none none c w).mono ?_
    rintro e w' ⟨rfl, hb⟩
    exact ⟨0, rfl, Nat.le_refl _, ⟨by simp [val, digs_zero], h.cap, h.room, .inl ⟨rfl, rfl⟩⟩, hb⟩
  · have hlen := h.len
    subst hlen
    refine (trim_own g L c w hdg hd h.cap h.room).mono ?_
    rintro e w' ⟨m, rfl, hm, hdig, hb⟩
    rw [hx] at hdig
    refine ⟨m, rfl, hm, ⟨by rw [hdig, List.length_take]; omega, Nat.le_trans hm h.cap, h.room, .inr ⟨g, rfl, hg, ?_⟩⟩, hb⟩
    rw [hdig]
    exact (hdg.take m).below hb hdg.lt
end Go.Proofs.YtfgnleoaibcegaaGreat
