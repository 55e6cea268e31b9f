/-
  Walks and plain laws.
-/
import Derived.Test.YtfgnleoaibcegaaGreatXAU
set_option linter.unusedVariables false
set_option linter.unusedSimpArgs false
namespace Go.Proofs.YtfgnleoaibcegaaGreat

open Go.RowKit

set_option maxHeartbeats 400000 in
theorem fold_mul (A : Option Addr) (n c x : Nat) (A' : Option Addr) (n' c' y : Nat) (w : World) (hx : DAt B64 w A n c x) (hy : DAt B64 w A' n' c' y) (hn : n ≤ 1099511627776) (hn' : n' ≤ 1099511627776) :
    Calls Tryz.prog 126 #[.agg #[.slice A' n' c'], .func (.func 43) #[.agg #[.slice A n c]] #[]] w fun e w' => ∃ A3 n3 c3, e = .returned (.agg #[.slice A3 n3 c3]) ∧ DAt B64 w' A3 n3 c3 (x * y) ∧ Below w.heap.size w w' := by
  have hb : Below w.heap.size w ((w.alloc (.cells #[.slice A' n' c'] 26)).alloc (.cells #[.slice none 0 0] 26)) := ((Below.refl _ _).alloc (Nat.le_refl _) _).alloc (by simp) _
  have hx1 := hx.below hb
  have hy1 := hy.below hb
  go_enter Tryz.func126, Tryz.ntmps126
  go_wp2_with fail
  refine (mul_any A n c x A' n' c' y _ hx1 hy1 hn hn').mono ?_
  rintro e w1 ⟨A3, n3, c3, rfl, hd1, hb1⟩
  have hb2 : Below (w.heap.size + 1 + 1) ((w.alloc (.cells #[.slice A' n' c'] 26)).alloc (.cells #[.slice none 0 0] 26)) w1 := hb1.mono (by simp)
  have r1 : w1.cell? ⟨w.heap.size + 1, 0, none⟩ = some (.slice none 0 0) := by have := res_cell (w := w.alloc (.cells #[.slice A' n' c'] 26)) hb2 (by simp); simpa using this
  have r2 : w1.frozen? ⟨w.heap.size + 1, 0, none⟩ = false := by have := res_free (w := w.alloc (.cells #[.slice A' n' c'] 26)) hb2 (by simp); simpa using this
  have HF := Lib.hid (hd1.put r1 (.slice A3 n3 c3))
  have HB := Lib.hid ((hb.trans (hb2.mono (by omega))).setCell (p := ⟨w.heap.size + 1, 0, none⟩) (by simp) (.slice A3 n3 c3))
  clear hd1 hb1 hb2 hx1 hy1 hb
  go_wp2
  exact bodyPost_ret (v := .agg #[.slice A3 n3 c3]) (by simp [results, Tryz.results126, go_sem, r1]) rfl ⟨_, _, _, rfl, HF.out, HB.out⟩

set_option maxHeartbeats 400000 in
theorem fold_add (A : Option Addr) (n c x : Nat) (A' : Option Addr) (n' c' y : Nat) (w : World) (hx : DAt B64 w A n c x) (hy : DAt B64 w A' n' c' y) (hn : n ≤ 1099511627776) (hn' : n' ≤ 1099511627776) :
    Calls Tryz.prog 126 #[.agg #[.slice A' n' c'], .func (.func 50) #[.agg #[.slice A n c]] #[]] w fun e w' => ∃ A3 n3 c3, e = .returned (.agg #[.slice A3 n3 c3]) ∧ DAt B64 w' A3 n3 c3 (x + y) ∧ Below w.heap.size w w' := by
  have hb : Below w.heap.size w ((w.alloc (.cells #[.slice A' n' c'] 26)).alloc (.cells #[.slice none 0 0] 26)) := ((Below.refl _ _).alloc (Nat.le_refl _) _).alloc (by simp) _
  have hx1 := hx.below hb
  have hy1 := hy.below hb
  go_enter Tryz.func126, Tryz.ntmps126
  go_wp2_with fail
  refine (add_any A n c x A' n' c' y _ hx1 hy1 hn hn').mono ?_
  rintro e w1 ⟨A3, n3, c3, rfl, hd1, hb1⟩
  have hb2 : Below (w.heap.size + 1 + 1) ((w.alloc (.cells #[.slice A' n' c'] 26)).alloc (.cells #[.slice none 0 0] 26)) w1 := hb1.mono (by simp)
  have r1 : w1.cell? ⟨w.heap.size + 1, 0, none⟩ = some (.slice none 0 0) := by have := res_cell (w := w.alloc (.cells #[.slice A' n' c'] 26)) hb2 (by simp); simpa using this
  have r2 : w1.frozen? ⟨w.heap.size + 1, 0, none⟩ = false := by have := res_free (w := w.alloc (.cells #[.slice A' n' c'] 26)) hb2 (by simp); simpa using this
  have HF := Lib.hid (hd1.put r1 (.slice A3 n3 c3))
  have HB := Lib.hid ((hb.trans (hb2.mono (by omega))).setCell (p := ⟨w.heap.size + 1, 0, none⟩) (by simp) (.slice A3 n3 c3))
  clear hd1 hb1 hb2 hx1 hy1 hb
  go_wp2
  exact bodyPost_ret (v := .agg #[.slice A3 n3 c3]) (by simp [results, Tryz.results126, go_sem, r1]) rfl ⟨_, _, _, rfl, HF.out, HB.out⟩

def bytesL (u : ByteArray) : List Nat := u.data.toList.map UInt8.toNat
theorem bytesL_length (u : ByteArray) : (bytesL u).length = u.size := by unfold bytesL; rw [List.length_map, Array.length_toList]; rfl
theorem bytesL_lt (u : ByteArray) : ∀ d ∈ bytesL u, d < 256 := by
  intro d hd
  obtain ⟨b, _, rfl⟩ := List.mem_map.1 hd
  exact b.toNat_lt
theorem bytesL_get (u : ByteArray) (i : Nat) (h : i < u.size) : ((u[i]'h).toNat : Int) = (((bytesL u).getD i 0 : Nat) : Int) := by
  have h2 : i < u.data.toList.length := by rw [Array.length_toList]; exact h
  unfold bytesL
  rw [List.getD_eq_getElem?_getD, List.getElem?_map, List.getElem?_eq_getElem h2]
  rfl
theorem bytesL_extract (u : ByteArray) (n : Nat) (h : n ≤ u.size) : bytesL (u.extract n u.size) = (bytesL u).drop n := by
  unfold bytesL
  rw [ByteArray.data_extract, ← List.map_drop]
  congr 1
  rw [Array.toList_extract]
  show List.take (u.size - n) (List.drop n u.data.toList) = _
  refine List.take_of_length_le ?_
  rw [List.length_drop, Array.length_toList]
  exact Nat.le_refl _
theorem bytesL_strB (l : List Nat) (h : ∀ d ∈ l, d < 256) : bytesL (strB l) = l := by
  unfold bytesL strB
  rw [strOfNums_data, List.map_map, List.map_map]
  conv => rhs; rw [← List.map_id l]
  refine List.map_congr_left fun d hd => ?_
  simp [UInt8.toNat_ofNat', Nat.mod_eq_of_lt (h d hd)]
theorem run_index_byte (u : ByteArray) (i : Nat) (h : i < u.size) (w : World) : (Instr.index 9 (.string u) (.int .i64 (i : Int))).run Tryz.prog w = .ok (.int .u8 (((bytesL u).getD i 0 : Nat) : Int)) w := by
  rw [run_index_string w 9 u .i64 (i : Int) Tryz.underlying9, dif_pos ⟨by omega, by omega⟩, ← bytesL_get u i h]
  simp
theorem run_slice_bytes (u : ByteArray) (n : Nat) (h : n ≤ u.size) (w : World) : (Instr.slice 9 (.string u) (some (.int .i64 (n : Int))) none none).run Tryz.prog w = .ok (.string (u.extract n u.size)) w := by
  rw [run_slice_string_l w 9 u Tryz.underlying9 .i64 (n : Int) (by omega) (by omega)]
  simp

structure ChIs (L : List Nat) (k sc v : Nat) : Prop where
  sc : sc = 10 ^ k
  v : v = readD (L.take k)
  dig : (L.take k).all isDig = true
theorem ChIs.start (L : List Nat) : ChIs L 0 1 0 := ⟨rfl, by simp [readD_nil], by simp⟩
theorem take_snoc {L : List Nat} {k : Nat} (hk : k < L.length) : L.take (k + 1) = L.take k ++ [L.getD k 0] := by
  rw [List.take_succ_eq_append_getElem hk, List.getD_eq_getElem?_getD, List.getElem?_eq_getElem hk]; rfl
theorem isDig_le {d : Nat} (h : isDig d = true) : 48 ≤ d ∧ d ≤ 57 := by simpa [isDig] using h
theorem all_dig_le {l : List Nat} (h : l.all isDig = true) : ∀ d ∈ l, d ≤ 57 := fun d hd => (isDig_le (List.all_eq_true.1 h d hd)).2
theorem ChIs.next {L : List Nat} {k sc v : Nat} (h : ChIs L k sc v) (hk : k < L.length) (hd : 48 ≤ L.getD k 0) (hd2 : L.getD k 0 ≤ 57) : ChIs L (k + 1) (10 * sc) (10 * v + (L.getD k 0 - 48)) := by
  refine ⟨by rw [h.sc, Nat.pow_succ, Nat.mul_comm], by rw [take_snoc hk, readD_snoc, h.v], ?_⟩
  rw [take_snoc hk, List.all_append, h.dig, Bool.true_and]
  generalize L.getD k 0 = d at *
  simp [isDig]; omega
theorem ChIs.lt {L : List Nat} {k sc v : Nat} (h : ChIs L k sc v) (hk : k < 18) : sc ≤ 100000000000000000 ∧ v < 100000000000000000 := by
  have h1 : 10 ^ k ≤ 10 ^ 17 := Nat.pow_le_pow_right (by omega) (by omega)
  have h2 := readD_lt (L.take k) (all_dig_le h.dig)
  have h3 : 10 ^ (L.take k).length ≤ 10 ^ 17 := Nat.pow_le_pow_right (by omega) (by rw [List.length_take]; omega)
  rw [← h.v] at h2
  rw [← h.sc] at h1
  have e : (10 : Nat) ^ 17 = 100000000000000000 := rfl
  rw [e] at h1 h3
  exact ⟨h1, Nat.lt_of_lt_of_le h2 h3⟩
theorem ChIs.lt18 {L : List Nat} {k sc v : Nat} (h : ChIs L k sc v) (hk : k ≤ 18) : sc < B64 ∧ v < B64 := by
  have h1 : 10 ^ k ≤ 10 ^ 18 := Nat.pow_le_pow_right (by omega) (by omega)
  have h2 := readD_lt (L.take k) (all_dig_le h.dig)
  have h3 : 10 ^ (L.take k).length ≤ 10 ^ 18 := Nat.pow_le_pow_right (by omega) (by rw [List.length_take]; omega)
  rw [← h.v] at h2
  rw [← h.sc] at h1
  have e : (10 : Nat) ^ 18 = 1000000000000000000 := rfl
  rw [e] at h1 h3
  rw [B64_eq]
  omega
theorem ChIs.chunk {l L : List Nat} {i n sc v : Nat} (h : ChIs L n sc v) (hL : L = l.drop i) (hn : n ≤ L.length) (hd : (l.take i).all isDig = true) :
    readD (l.take i) * sc + v = readD (l.take (i + n)) ∧ (l.take (i + n)).all isDig = true := by
  have e : l.take (i + n) = l.take i ++ L.take n := by rw [hL, List.take_add]
  rw [e, readD_append, List.all_append, hd, h.dig, h.sc, h.v, List.length_take, Nat.min_eq_left hn]
  exact ⟨rfl, rfl⟩
theorem parse_bad {l L : List Nat} {i k : Nat} (hL : L = l.drop i) (hk : k < L.length) (hd : ¬ (48 ≤ L.getD k 0 ∧ L.getD k 0 ≤ 57)) : parseOk l = false ∧ parseV l = 0 := by
  have h1 : parseOk l = false := by
    unfold parseOk
    have : l.all isDig = false := by
      rw [List.all_eq_false]
      refine ⟨L.getD k 0, ?_, by generalize L.getD k 0 = d at *; simp [isDig]; omega⟩
      rw [List.getD_eq_getElem?_getD, List.getElem?_eq_getElem hk]
      have : L[k] ∈ l := List.mem_of_mem_drop (by rw [← hL]; exact List.getElem_mem hk)
      simpa using this
    rw [this, Bool.and_false]
  exact ⟨h1, by unfold parseV; rw [h1]; rfl⟩
theorem parse_good {l : List Nat} (h1 : 1 ≤ l.length) (h2 : l.length ≤ 400) (h : l.all isDig = true) : parseOk l = true ∧ parseV l = readD l := by
  have h3 : parseOk l = true := by unfold parseOk; rw [decide_eq_true h1, decide_eq_true h2, h]; rfl
  exact ⟨h3, by unfold parseV; rw [h3]; rfl⟩

structure PsRel (w0 : World) (A : Option Addr) (n c x : Nat) (wr : World) : Prop where
  bp : wr.cell? ⟨w0.heap.size + 1, 0, none⟩ = some (.slice A n c)
  fp : wr.frozen? ⟨w0.heap.size + 1, 0, none⟩ = false
  b2 : wr.cell? ⟨w0.heap.size, 0, none⟩ = some (.slice none 0 0)
  f2 : wr.frozen? ⟨w0.heap.size, 0, none⟩ = false
  dx : DAt B64 wr A n c x
  bel : Below w0.heap.size w0 wr
  sz : w0.heap.size + 1 + 1 ≤ wr.heap.size
section

variable {w0 wr w1 : World} {A : Option Addr} {n c x : Nat}
theorem PsRel.start (w : World) : PsRel w none 0 0 0 ((w.alloc (.cells #[.slice none 0 0] 26)).alloc (.cells #[.slice none 0 0] 26)) := by
  have c0 := (Blk.new w 26 #[.slice none 0 0]).alloc (.cells #[.slice none 0 0] 26)
  have c1 := (Blk.new (w.alloc (.cells #[.slice none 0 0] 26)) 26 #[.slice none 0 0])
  simp only [World.size_alloc] at c1
  exact ⟨c1.cell 0, c1.frozen 0, c0.cell 0, c0.frozen 0, DAt.nil, ((Below.refl _ _).alloc (Nat.le_refl _) _).alloc (by simp) _, by simp⟩
theorem PsRel.below (h : PsRel w0 A n c x wr) (hb : Below wr.heap.size wr w1) : PsRel w0 A n c x w1 := by
  have h4 := h.sz
  have h5 := hb.size
  exact ⟨(hb.cell (by simp; omega)).trans h.bp, (hb.frozen (by simp; omega)).trans h.fp, (hb.cell (by simp; omega)).trans h.b2, (hb.frozen (by simp; omega)).trans h.f2, h.dx.below hb, h.bel.trans (hb.mono (by omega)), by omega⟩
theorem PsRel.drew (h : PsRel w0 A n c x wr) : PsRel w0 A n c x wr.drew := ⟨h.bp, h.fp, h.b2, h.f2, h.dx.drew, h.bel.drew, h.sz⟩
theorem PsRel.set_ (h : PsRel w0 A n c x wr) {A3 : Option Addr} {n3 c3 y : Nat} (hd : DAt B64 wr A3 n3 c3 y) : PsRel w0 A3 n3 c3 y (wr.setCell ⟨w0.heap.size + 1, 0, none⟩ (.slice A3 n3 c3)) := by
  refine ⟨World.cell?_setCell_same _ _ _ h.bp, by rw [World.frozen?_setCell]; exact h.fp, ?_, by rw [World.frozen?_setCell]; exact h.f2, hd.put h.bp _, h.bel.setCell (by simp) _, by simpa [World.setCell] using h.sz⟩
  rw [World.cell?_setCell_other _ _ _ _ (by intro e; injection e; omega)]; exact h.b2
end

end Go.Proofs.YtfgnleoaibcegaaGreat
