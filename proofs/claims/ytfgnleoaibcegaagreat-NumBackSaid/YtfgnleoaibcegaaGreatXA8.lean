/-
  Walks and plain laws.
-/
import Derived.Test.YtfgnleoaibcegaaGreatXA7
set_option linter.unusedVariables false
set_option linter.unusedSimpArgs false
namespace Go.Proofs.YtfgnleoaibcegaaGreat

open Go.RowKit

def bv (l : List Nat) : List Value := l.map fun (d : Nat) => .int .u8 (d : Int)
theorem bv_length (l : List Nat) : (bv l).length = l.length := by simp [bv]
theorem bv_get (l : List Nat) (j : Nat) (h : j < l.length) : (bv l)[j]? = some (.int .u8 ((l.getD j 0 : Nat) : Int)) := by simp [bv, h]
structure BAt (w : World) (A : Option Addr) (n c : Nat) (l : List Nat) : Prop where
  reads : Reads w w.heap.size 1 A n (bv l)
  byte : ∀ d ∈ l, d < 256
theorem BAt.len {w : World} {A : Option Addr} {n c : Nat} {l : List Nat} (h : BAt w A n c l) : l.length = n := by have := h.reads.1; rw [bv_length] at this; omega
theorem BAt.below {w w' : World} {A : Option Addr} {n c : Nat} {l : List Nat} (h : BAt w A n c l) (hb : Below w.heap.size w w') : BAt w' A n c l := ⟨(h.reads.below hb).more hb.size, h.byte⟩
theorem BAt.flat {w : World} {A : Option Addr} {n c : Nat} {l : List Nat} (h : BAt w A n c l) (hn : 0 < n) : ∃ g off, A = some ⟨g, off, none⟩ ∧ g < w.heap.size ∧ ∀ j, j < n → w.cell? ⟨g, off + j, none⟩ = some (.int .u8 ((l.getD j 0 : Nat) : Int)) := by
  obtain ⟨g, off, rfl, hg, hc⟩ := h.reads.flat hn (by omega)
  exact ⟨g, off, rfl, hg, fun j hj => hc j _ (bv_get _ j (by rw [h.len]; exact hj))⟩

def bev (l : List Nat) : Nat := val 256 l.reverse

theorem or_fits {d e k : Nat} (hd : d < 2 ^ k) (h : d + e * 2 ^ k < B64) : bits .or .u64 (d : Int) (IntKind.u64.wrap (IntKind.u64.wrap (e : Int) * 2 ^ k)) = ((d + e * 2 ^ k : Nat) : Int) := by
  have hp : 0 < 2 ^ k := Nat.two_pow_pos _
  have he : e < B64 := Nat.lt_of_le_of_lt (Nat.le_trans (Nat.le_mul_of_pos_right e hp) (Nat.le_add_left _ _)) h
  rw [wrap_nat he]
  have e1 : (e : Int) * 2 ^ k = ((e * 2 ^ k : Nat) : Int) := by simp
  rw [e1, wrap_nat (by omega)]
  rw [B64_eq] at h
  rw [u64_or_nat d (e * 2 ^ k) (by omega) (by omega)]
  congr 1
  rw [Nat.or_comm, Nat.mul_comm e, ← Nat.two_pow_add_eq_or_of_lt hd]
  omega

theorem pow256 (i : Nat) : (256 : Nat) ^ i = B64 ^ (i / 8) * 2 ^ (8 * (i % 8)) := by
  rw [B64_pow_two, show (256 : Nat) = 2 ^ 8 from rfl, ← Nat.pow_mul, ← Nat.pow_add]
  congr 1
  omega
theorem take_succ_val {b : Nat} {l : List Nat} {i : Nat} (hi : i < l.length) : val b (l.take (i + 1)) = val b (l.take i) + b ^ i * l.getD i 0 := by
  rw [List.take_succ_eq_append_getElem hi, val_snoc, List.length_take, Nat.min_eq_left (by omega), List.getD_eq_getElem?_getD, List.getElem?_eq_getElem hi]; rfl
theorem rev_get {l : List Nat} {i n : Nat} (hn : l.length = n) (hi : i < n) : l.reverse.getD i 0 = l.getD (n - 1 - i) 0 := by
  rw [List.getD_eq_getElem?_getD, List.getD_eq_getElem?_getD, List.getElem?_reverse (by omega), hn]

structure FbIs (l : List Nat) (n i : Nat) (D : List Nat) : Prop where
  len : D.length = (n + 7) / 8
  dig : ∀ d ∈ D, d < B64
  eq : val B64 D = val 256 (l.reverse.take i)
theorem FbIs.start (l : List Nat) (n : Nat) : FbIs l n 0 (List.replicate ((n + 7) / 8) 0) :=
  ⟨by simp, fun d hd => by rw [List.eq_of_mem_replicate hd]; decide, by rw [val_replicate]; simp [val]⟩
theorem FbIs.next {l : List Nat} {n i : Nat} {D : List Nat} (h : FbIs l n i D) (hl : l.length = n) (hb : ∀ d ∈ l, d < 256) (hi : i < n) :
    D.getD (i / 8) 0 < 2 ^ (8 * (i % 8)) ∧ D.getD (i / 8) 0 + l.getD (n - 1 - i) 0 * 2 ^ (8 * (i % 8)) < B64 ∧ FbIs l n (i + 1) (D.set (i / 8) (D.getD (i / 8) 0 + l.getD (n - 1 - i) 0 * 2 ^ (8 * (i % 8)))) := by
  have hbr : ∀ d ∈ l.reverse, d < 256 := fun d hd => hb d (List.mem_reverse.1 hd)
  have hR := val_lt (b := 256) (by omega) (l.reverse.take i) (fun d hd => hbr d (List.mem_of_mem_take hd))
  rw [List.length_take, List.length_reverse, hl, Nat.min_eq_left (by omega), ← h.eq, pow256] at hR
  have hd := val_getD two_le_B64 D h.dig (i / 8)
  have hp : 0 < B64 ^ (i / 8) := Nat.pow_pos (by decide)
  have h1 : D.getD (i / 8) 0 < 2 ^ (8 * (i % 8)) := by
    rw [hd]
    exact Nat.lt_of_le_of_lt (Nat.mod_le _ _) ((Nat.div_lt_iff_lt_mul hp).2 (by rw [Nat.mul_comm]; exact hR))
  have he : l.getD (n - 1 - i) 0 < 256 := getD_lt (by omega) hb _
  have h2 : D.getD (i / 8) 0 + l.getD (n - 1 - i) 0 * 2 ^ (8 * (i % 8)) < B64 := by
    have h3 : l.getD (n - 1 - i) 0 * 2 ^ (8 * (i % 8)) ≤ 255 * 2 ^ (8 * (i % 8)) := Nat.mul_le_mul_right _ (by omega)
    have h4 : 256 * 2 ^ (8 * (i % 8)) ≤ B64 := by
      rw [B64_pow, show (256 : Nat) = 2 ^ 8 from rfl, ← Nat.pow_add]
      exact Nat.pow_le_pow_right (by omega) (by omega)
    omega
  refine ⟨h1, h2, by rw [List.length_set]; exact h.len, set_dig h.dig h2, ?_⟩
  have hv := val_set (b := B64) D (i / 8) (D.getD (i / 8) 0 + l.getD (n - 1 - i) 0 * 2 ^ (8 * (i % 8))) (by rw [h.len]; omega)
  rw [take_succ_val (by rw [List.length_reverse]; omega), ← h.eq, rev_get hl hi, pow256]
  rw [Nat.mul_add] at hv
  have e1 : B64 ^ (i / 8) * (l.getD (n - 1 - i) 0 * 2 ^ (8 * (i % 8))) = B64 ^ (i / 8) * 2 ^ (8 * (i % 8)) * l.getD (n - 1 - i) 0 := by
    rw [Nat.mul_assoc, Nat.mul_comm (2 ^ _)]
  omega
theorem FbIs.done {l : List Nat} {n : Nat} {D : List Nat} (h : FbIs l n n D) (hl : l.length = n) : val B64 D = bev l := by
  rw [h.eq, List.take_of_length_le (by rw [List.length_reverse]; omega)]; rfl

structure OneRel (w0 : World) (r g : Nat) (l : List Nat) (wr : World) : Prop where
  br : wr.cell? ⟨r, 0, none⟩ = some (.slice none 0 0)
  fr : wr.frozen? ⟨r, 0, none⟩ = false
  dg : Dg wr g l
  bel : Below w0.heap.size w0 wr
  hr : w0.heap.size ≤ r
  hg : r < g
section

variable {w0 wr w1 : World} {r g : Nat} {l : List Nat}
theorem OneRel.drew (h : OneRel w0 r g l wr) : OneRel w0 r g l wr.drew := ⟨h.br, h.fr, h.dg, h.bel.drew, h.hr, h.hg⟩
theorem OneRel.below (h : OneRel w0 r g l wr) (hb : Below wr.heap.size wr w1) : OneRel w0 r g l w1 := by
  have hlt := h.dg.lt
  have hg := h.hg
  exact ⟨(hb.cell (by simp; omega)).trans h.br, (hb.frozen (by simp; omega)).trans h.fr, h.dg.below hb hlt, h.bel.trans (hb.mono h.bel.size), h.hr, hg⟩
theorem OneRel.set_ (h : OneRel w0 r g l wr) (k d : Nat) : OneRel w0 r g (l.set k d) (wr.setCell ⟨g, k, none⟩ (.int .u64 (d : Int))) := by
  have hg := h.hg
  have hr := h.hr
  refine ⟨?_, ?_, h.dg.set_ k d, h.bel.setCell (by simp; omega) _, hr, hg⟩
  · rw [World.cell?_setCell_other _ _ _ _ (by intro e; injection e; omega)]; exact h.br
  · rw [World.frozen?_of_block (w := wr) (Below.heap_setCell _ _ _ _ (by simp; omega))]; exact h.fr
theorem OneRel.start (w : World) (t : TypeId) (l : List Nat) : OneRel w w.heap.size (w.heap.size + 1) l ((w.alloc (.cells #[.slice none 0 0] t)).alloc (.cells (dva l) 23)) :=
  ⟨((Blk.new w _ _).alloc _).cell 0, ((Blk.new w _ _).alloc _).frozen 0, by have := Dg.new (w.alloc (.cells #[.slice none 0 0] t)) l; simpa using this, ((Below.refl _ _).alloc (Nat.le_refl _) _).alloc (by simp) _, Nat.le_refl _, by omega⟩
end

set_option maxRecDepth 100000 in
set_option maxHeartbeats 1000000 in
theorem frombytes_any (A : Option Addr) (n c : Nat) (l : List Nat) (w : World) (h : BAt w A n c l) (hn : n ≤ 1099511627776) :
    Calls Tryz.prog 21 #[.slice A n c] w fun e w' => ∃ A n c, e = .returned (.agg #[.slice A n c]) ∧ DAt B64 w' A n c (bev l) ∧ Below w.heap.size w w' := by
  have hmk := run_make_digits ((n + 7) / 8) (by omega)
  rw [show (((n + 7) / 8 : Nat) : Int) = ((n : Int) + 7) / 8 by omega] at hmk
  have HS := Lib.hid (OneRel.start w 26 (List.replicate ((n + 7) / 8) 0))
  have HL := Lib.hid h.len
  have HB := Lib.hid h.byte
  go_enter Tryz.func21, Tryz.ntmps21
  go_wp2_with fail
  clear hmk
  have hr0 := HS.out
  generalize (w.alloc (.cells #[.slice none 0 0] 26)).alloc (.cells (dva (List.replicate ((n + 7) / 8) 0)) 23) = W at hr0 ⊢
  generalize hgd : w.heap.size + 1 = gd at hr0 ⊢
  clear HS
  go_loopw [12] (fun iv wr => ∃ (i : Nat) (D : List Nat), i ≤ n ∧ iv = .int .i64 i ∧ FbIs l n i D ∧ OneRel w w.heap.size gd D wr) (fun i _ => n - (intOf i).toNat)
  case atStart => exact ⟨0, _, by omega, rfl, FbIs.start l n, hr0⟩
  case round =>
    clear hr0
    obtain ⟨i, D, hi, rfl, hF, hr⟩ := hrel
    by_cases hlt : i < n
    · obtain ⟨gx, ox, rfl, hg, hc⟩ := h.flat (by omega)
      have hc1 := (hr.bel.cell (p := ⟨gx, ox + (n - 1 - i), none⟩) hg).trans (hc (n - 1 - i) (by omega))
      have hd1 := hr.dg.cell (i := i / 8) (by rw [hF.len]; omega)
      have hf1 := hr.dg.frozen (i / 8)
      have hi8 : i / 8 < (n + 7) / 8 := by omega
      obtain ⟨q1, q2, q3⟩ := hF.next HL.out HB.out hlt
      have hset := fun d => hr.set_ (i / 8) d
      generalize l.getD (n - 1 - i) 0 = e at *
      generalize D.getD (i / 8) 0 = d at *
      have HN := Lib.hid q3; have HO := Lib.hid (or_fits q1 q2); have HSET := Lib.hid hset
      clear hc q1 q2 q3 hset hF
      have i0 : (0 : Int) ≤ (n : Int) - 1 - (i : Int) := by omega
      go_wp2
      go_region
      go_wp2
      go_roundw
      case rel => exact ⟨i + 1, _, by omega, by go_num, HN.out, by rw [HO.out]; exact (HSET.out _).drew⟩
      case measure => simp [intOf]; omega
    · obtain rfl : n = i := by omega
      have hv := hF.done HL.out
      have hdig := hF.dig
      have hlen := hF.len
      have HV := Lib.hid hv
      clear hv hF h
      go_wp2_with fail
      refine (trim_at gd D ((n + 7) / 8) ((n + 7) / 8) _ hr.dg hdig hlen (Nat.le_refl _) (by unfold maxLen; omega)).mono ?_
      rintro e w3 ⟨A3, n3, c3, rfl, hd3, hb3⟩
      rw [HV.out] at hd3
      have hr3 := hr.below hb3
      have r1 := hr3.br
      have r2 := hr3.fr
      have HF := Lib.hid (hd3.put r1 (.slice A3 n3 c3))
      have HBl := Lib.hid (hr3.bel.setCell (p := ⟨w.heap.size, 0, none⟩) (Nat.le_refl _) (.slice A3 n3 c3))
      clear hd3 hb3 hr hr3 hlen
      go_wp2
      exact bodyPost_ret (v := .agg #[.slice A3 n3 c3]) (by simp [results, Tryz.results21, go_sem, r1]) rfl ⟨_, _, _, rfl, HF.out, HBl.out⟩
end Go.Proofs.YtfgnleoaibcegaaGreat
