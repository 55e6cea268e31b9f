/-
  Walks and plain laws.
-/
import Derived.Test.YtfgnleoaibcegaaGreatXAS
import Derived.Laws.BytesArg
set_option linter.unusedVariables false
set_option linter.unusedSimpArgs false
namespace Go.Proofs.YtfgnleoaibcegaaGreat

open Go.RowKit

def Bw (w : World) (g : Nat) (l : List Nat) : Prop := ∃ tail : List Value, Blk w g 5 (bv l ++ tail).toArray
section

variable {w w' : World} {g : Nat} {l : List Nat}
theorem Bw.lt (h : Bw w g l) : g < w.heap.size := by obtain ⟨t, h⟩ := h; exact Blk.lt h
theorem Bw.cell (h : Bw w g l) {i : Nat} (hi : i < l.length) : w.cell? ⟨g, i, none⟩ = some (.int .u8 ((l.getD i 0 : Nat) : Int)) := by
  obtain ⟨t, h⟩ := h
  rw [Blk.cell h, List.getElem?_toArray, List.getElem?_append_left (by rw [bv_length]; exact hi)]; exact bv_get l i hi
theorem Bw.frozen (h : Bw w g l) (i : Nat) : w.frozen? ⟨g, i, none⟩ = false := by obtain ⟨t, h⟩ := h; exact Blk.frozen h i
theorem Bw.set_ (h : Bw w g l) (i d : Nat) : Bw (w.setCell ⟨g, i, none⟩ (.int .u8 (d : Int))) g (l.set i d) := by
  obtain ⟨t, h⟩ := h
  have := Blk.set_ h i (.int .u8 (d : Int))
  rw [List.setIfInBounds_toArray, List.set_append] at this
  by_cases hi : i < (bv l).length
  · rw [if_pos hi] at this
    exact ⟨t, by rw [show bv (l.set i d) = (bv l).set i (.int .u8 (d : Int)) by simp [bv, List.map_set]]; exact this⟩
  · rw [if_neg hi] at this
    rw [bv_length] at hi
    exact ⟨_, by rw [List.set_eq_of_length_le (by omega)]; exact this⟩
theorem Bw.drew (h : Bw w g l) : Bw w.drew g l := h
theorem Bw.below {B : Nat} (h : Bw w g l) (hb : Below B w w') (hg : g < B) : Bw w' g l := by obtain ⟨t, h⟩ := h; exact ⟨t, Blk.below h hb hg⟩
theorem Bw.of_own {base n : Nat} {v : Value} (h : w.ownsRow base 5 1 v n (bv l)) (hn : 0 < n) : ∃ g c, v = .slice (some ⟨g, 0, none⟩) n c ∧ base ≤ g ∧ Bw w g l ∧ l.length = n ∧ n ≤ c ∧ c ≤ maxLen := by
  have hl := h.1
  rw [bv_length, Nat.mul_one] at hl
  rcases h.2 with ⟨_, e⟩ | ⟨g, cap, cur, rfl, hg, hh, h1, h2, h3, h4⟩
  · omega
  · refine ⟨g, cap, rfl, hg, ⟨cur.toList.drop (n * 1), ?_⟩, hl, h1, h2⟩
    unfold Blk
    rw [← h4, List.take_append_drop]
    simpa using hh
end
theorem bv_append (l m : List Nat) : bv (l ++ m) = bv l ++ bv m := by simp [bv]
theorem byte_parts : ∃ i0, Tryz.prog.info? 5 = some i0 ∧ i0.zero = some (.int .u8 0) ∧ i0.size = 1 ∧ i0.bytes = 1 := by
  have h := info_byte
  cases hq : Tryz.prog.info? 5 with
  | none => rw [hq] at h; cases h
  | some i =>
    rw [hq] at h
    simp at h
    exact ⟨i, rfl, h.1, h.2.1, h.2.2⟩
theorem one_read (w : World) (u : Value) (t : TypeId) : Reads (w.alloc (.cells #[u] t)) (w.heap.size + 1) 1 (some ⟨w.heap.size, 0, none⟩) 1 [u] :=
  ⟨rfl, fun _ => ⟨_, rfl, Nat.lt_succ_self _, fun j v hv => by
    rcases j with _ | j
    · simp at hv; subst hv; rw [Addr.add_lit]; exact (Blk.new w t #[u]).cell 0
    · simp at hv⟩⟩

def strB (l : List Nat) : ByteArray := strOfNums (l.map fun (d : Nat) => (d : Int))
theorem strB_size (l : List Nat) : (strB l).size = l.length := by unfold strB; rw [strOfNums_size, List.length_map]
theorem run_string_of_own (w : World) (g n c : Nat) (l : List Nat) (h : Bw w g l) (hl : l.length = n) : (convert 22 9 (.slice (some ⟨g, 0, none⟩) n c)).run Tryz.prog w = .ok (.string (strB l)) w := by
  refine run_convert_bytes_arg (P := Tryz.prog) w 22 5 Tryz.underlying22 Tryz.underlying5 g 0 n c (l.map fun (d : Nat) => (d : Int)) (by rw [List.length_map]; exact hl) (fun i hi => ?_) 9 Tryz.underlying9
  rw [Nat.zero_add, h.cell (by omega)]
  simp only [List.getD_eq_getElem?_getD, List.getElem?_map]
  rw [List.getElem?_eq_getElem (by omega)]
  rfl

structure RvIs (D : List Nat) (n i : Nat) (R : List Nat) : Prop where
  len : R.length = n
  get : ∀ k, k < n → R.getD k 0 = if k < i ∨ n ≤ k + i then D.getD (n - 1 - k) 0 else D.getD k 0
theorem RvIs.start {D : List Nat} {n : Nat} (h : D.length = n) : RvIs D n 0 D := ⟨h, fun k hk => by rw [if_neg (by omega)]⟩
theorem getD_set_self {l : List Nat} {i d : Nat} (h : i < l.length) : (l.set i d).getD i 0 = d := by
  rw [List.getD_eq_getElem?_getD, List.getElem?_set_self h]; rfl
theorem RvIs.next {D R : List Nat} {n i j : Nat} (h : RvIs D n i R) (hj : i + j + 1 = n) (hlt : i < j) : RvIs D n (i + 1) ((R.set i (R.getD j 0)).set j (R.getD i 0)) := by
  refine ⟨by rw [List.length_set, List.length_set]; exact h.len, fun k hk => ?_⟩
  have hi := h.get i (by omega)
  have hjg := h.get j (by omega)
  rw [if_neg (by omega)] at hi hjg
  by_cases h1 : k = j
  · subst h1
    rw [getD_set_self (by rw [List.length_set, h.len]; omega), hi, if_pos (by omega), show n - 1 - k = i by omega]
  · rw [getD_set_ne (Ne.symm h1)]
    by_cases h2 : k = i
    · subst h2
      rw [getD_set_self (by rw [h.len]; omega), hjg, if_pos (by omega), show n - 1 - k = j by omega]
    · rw [getD_set_ne (Ne.symm h2), h.get k hk]
      by_cases h3 : k < i ∨ n ≤ k + i
      · rw [if_pos h3, if_pos (by omega)]
      · rw [if_neg h3, if_neg (by omega)]
theorem RvIs.done {D R : List Nat} {n i j : Nat} (h : RvIs D n i R) (hD : D.length = n) (hj : i + j + 1 = n) (hge : j ≤ i) : R = D.reverse := by
  refine List.ext_getElem (by rw [List.length_reverse, h.len, hD]) fun k h1 h2 => ?_
  have hk : k < n := by rw [← h.len]; exact h1
  have hg := h.get k hk
  rw [List.getD_eq_getElem?_getD, List.getElem?_eq_getElem h1] at hg
  have e : ∀ m, m < n → D.getD m 0 = D[m]?.getD 0 := fun m _ => by rw [List.getD_eq_getElem?_getD]
  rw [List.getElem_reverse]
  have hkk : n - 1 - k < D.length := by omega
  have e2 : D.getD (n - 1 - k) 0 = D[n - 1 - k] := by rw [List.getD_eq_getElem?_getD, List.getElem?_eq_getElem hkk]; rfl
  have e3 : R[k] = D.getD (n - 1 - k) 0 := by
    by_cases h3 : k < i ∨ n ≤ k + i
    · rw [if_pos h3] at hg; exact hg
    · rw [if_neg h3] at hg
      have : n - 1 - k = k := by omega
      rw [this]; exact hg
  rw [e3, e2]
  congr 1
  omega

set_option maxRecDepth 100000 in
set_option maxHeartbeats 2000000 in
theorem reverse_any (g n c : Nat) (D : List Nat) (w : World) (h : Bw w g D) (hl : D.length = n) (hn0 : 0 < n) (hn : n ≤ 4611686018427387904) :
    Calls Tryz.prog 110 #[.slice (some ⟨g, 0, none⟩) n c] w fun e w' => e = .returned (.tuple #[]) ∧ Bw w' g D.reverse ∧ w.grownBy w' (some g) := by
  have HS := Lib.hid (RvIs.start hl)
  have HL := Lib.hid hl
  clear hl
  go_enter Tryz.func110, Tryz.ntmps110
  go_wp2_with fail
  go_loopw [2, 3] (fun iv jv wr => ∃ (i j : Nat) (R : List Nat), i + j + 1 = n ∧ i ≤ j + 1 ∧ iv = .int .i64 i ∧ jv = .int .i64 j ∧ RvIs D n i R ∧ Bw wr g R ∧ w.grownBy wr (some g)) (fun _ jv _ => (intOf jv).toNat)
  case atStart => exact ⟨0, n - 1, D, by omega, by omega, rfl, by go_num, HS.out, h, World.grownBy.refl w _⟩
  case round =>
    clear h HS
    rename_i wr
    obtain ⟨i, j, R, hij, hij2, rfl, rfl, hR, hB, hg⟩ := hrel
    by_cases hlt : i < j
    · have hci := hB.cell (i := i) (by rw [hR.len]; omega)
      have hcj := hB.cell (i := j) (by rw [hR.len]; omega)
      have hfi := hB.frozen i
      have hfj := hB.frozen j
      have hN := hR.next hij hlt
      have hset := fun a b => ((hB.set_ i a).set_ j b)
      have hgs := fun a b : Nat => grown_set (grown_set hg i (.int .u8 (a : Int))) j (.int .u8 (b : Int))
      have g1 : (i : Int) < (n : Int) := by omega
      have g2 : (j : Int) < (n : Int) := by omega
      generalize R.getD i 0 = di at *
      generalize R.getD j 0 = dj at *
      have HN := Lib.hid hN; have HSET := Lib.hid hset; have HGS := Lib.hid hgs
      have sc : ∀ v, (wr.setCell ⟨g, i, none⟩ v).cell? ⟨g, j, none⟩ = some (.int .u8 (dj : Int)) := fun v => by
        rw [World.cell?_setCell_other _ _ _ _ (by intro e; injection e; omega)]; exact hcj
      clear hN hset hgs hR hB hg
      go_wp2_with fail
      go_region
      go_wp2_with fail
      go_roundw
      case rel => exact ⟨i + 1, j - 1, _, by omega, by omega, by go_num, by go_num, HN.out, (HSET.out _ _).drew, ⟨(HGS.out dj di).os, (HGS.out dj di).tape, (HGS.out dj di).output, (HGS.out dj di).size, (HGS.out dj di).block⟩⟩
      case measure => simp [intOf]; omega
    · have hD := hR.done HL.out hij (by omega)
      subst hD
      clear hR
      go_wp2_with fail
      go_end0
      exact ⟨rfl, hB, hg⟩
end Go.Proofs.YtfgnleoaibcegaaGreat
