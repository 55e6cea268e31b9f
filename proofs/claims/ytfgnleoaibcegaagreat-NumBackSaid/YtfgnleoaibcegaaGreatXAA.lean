/-
  Walks and plain laws.
-/
import Derived.Test.YtfgnleoaibcegaaGreatXA9
set_option linter.unusedVariables false
set_option linter.unusedSimpArgs false
namespace Go.Proofs.YtfgnleoaibcegaaGreat

open Go.RowKit

theorem shr_digit (x q s i : Nat) (hs : s < 64) :
    (x / B64 ^ (q + i) % B64 / 2 ^ s) ||| (x / B64 ^ (q + i + 1) % B64 * 2 ^ (64 - s) % B64) = x / 2 ^ (64 * q + s) / B64 ^ i % B64 := by
  rw [B64_pow_two, B64_pow_two, B64_pow_two, B64_pow]
  apply Nat.eq_of_testBit_eq
  intro j
  simp only [Nat.testBit_or, Nat.testBit_mod_two_pow, Nat.testBit_div_two_pow, Nat.testBit_mul_two_pow]
  by_cases hj : j < 64
  · by_cases h1 : j + s < 64
    · have h2 : ¬ 64 - s ≤ j := by omega
      simp [hj, h1, h2]
      congr 1; omega
    · have h2 : 64 - s ≤ j := by omega
      have h3 : j - (64 - s) < 64 := by omega
      simp [hj, h1, h2, h3]
      congr 1; omega
  · have h1 : ¬ j + s < 64 := by omega
    simp [hj, h1]
theorem or_digit {a b s e : Nat} (ha : a < B64) (hb : b < B64) (hs : s < 64) (h : (a / 2 ^ s) ||| (b * 2 ^ (64 - s) % B64) = e) :
    bits .or .u64 ((a : Int) / 2 ^ s) (IntKind.u64.wrap ((b : Int) * 2 ^ (64 - s))) = (e : Int) := by
  have e1 : (a : Int) / 2 ^ s = ((a / 2 ^ s : Nat) : Int) := by simp
  have e2 : IntKind.u64.wrap ((b : Int) * 2 ^ (64 - s)) = ((b * 2 ^ (64 - s) % B64 : Nat) : Int) := by
    rw [IntKind.wrap_u64, B64_eq]; simp
  have h1 : a / 2 ^ s ≤ a := Nat.div_le_self ..
  have h2 : b * 2 ^ (64 - s) % B64 < B64 := Nat.mod_lt _ (by decide)
  rw [e1, e2, ← h]
  rw [B64_eq] at *
  exact u64_or_nat _ _ (by omega) h2

def zd (z i : Nat) : List Nat := (List.range i).map fun j => z / B64 ^ j % B64
theorem zd_len (z i : Nat) : (zd z i).length = i := by simp [zd]
theorem zd_succ (z i : Nat) : zd z (i + 1) = zd z i ++ [z / B64 ^ i % B64] := by simp [zd, List.range_succ]
theorem zd_val (z i : Nat) : val B64 (zd z i) = z % B64 ^ i := by
  induction i with
  | zero => simp [zd, val, Nat.mod_one]
  | succ i ih => rw [zd_succ, val_snoc, zd_len, ih, low_succ]
theorem zd_lt (z i : Nat) : ∀ d ∈ zd z i, d < B64 := by
  intro d hd
  obtain ⟨j, _, rfl⟩ := List.mem_map.1 hd
  exact Nat.mod_lt _ (by decide)
theorem shr_lt {x n k : Nat} (h : x < B64 ^ n) (hk : bl x ≤ 64 * n) : x / 2 ^ k < B64 ^ (n - k / 64) := by
  rw [B64_pow_two] at *
  rw [Nat.div_lt_iff_lt_mul (Nat.two_pow_pos _), ← Nat.pow_add]
  exact Nat.lt_of_lt_of_le h (Nat.pow_le_pow_right (by omega) (by omega))

structure RiRel (w0 : World) (A : Option Addr) (n c r g : Nat) (l : List Nat) (wr : World) : Prop where
  bx : wr.cell? ⟨w0.heap.size, 0, none⟩ = some (.slice A n c)
  one : OneRel w0 r g l wr
  lt : w0.heap.size < r
section

variable {w0 wr w1 : World} {A : Option Addr} {n c r g : Nat} {l : List Nat}
theorem RiRel.drew (h : RiRel w0 A n c r g l wr) : RiRel w0 A n c r g l wr.drew := ⟨h.bx, h.one.drew, h.lt⟩
theorem RiRel.below (h : RiRel w0 A n c r g l wr) (hb : Below wr.heap.size wr w1) : RiRel w0 A n c r g l w1 := by
  have := h.one.dg.lt
  have := h.one.hg
  have := h.lt
  exact ⟨(hb.cell (by simp; omega)).trans h.bx, h.one.below hb, h.lt⟩
theorem RiRel.set_ (h : RiRel w0 A n c r g l wr) (k d : Nat) : RiRel w0 A n c r g (l.set k d) (wr.setCell ⟨g, k, none⟩ (.int .u64 (d : Int))) := by
  have := h.one.hg
  have := h.lt
  refine ⟨?_, h.one.set_ k d, h.lt⟩
  rw [World.cell?_setCell_other _ _ _ _ (by intro e; injection e; omega)]; exact h.bx
end
theorem ri_start_ {w w1 : World} {A : Option Addr} {n c : Nat} {l : List Nat} (hb2 : Below (w.heap.size + 1 + 1) ((w.alloc (.cells #[.slice A n c] 26)).alloc (.cells #[.slice none 0 0] 26)) w1) (r0 : w1.cell? ⟨w.heap.size, 0, none⟩ = some (.slice A n c)) :
    RiRel w A n c (w.heap.size + 1) w1.heap.size l (w1.alloc (.cells (dva l) 23)) := by
  have hs := hb2.size
  simp at hs
  have r1 : w1.cell? ⟨w.heap.size + 1, 0, none⟩ = some (.slice none 0 0) := by have := res_cell (w := w.alloc (.cells #[.slice A n c] 26)) hb2 (by simp); simpa using this
  have r2 : w1.frozen? ⟨w.heap.size + 1, 0, none⟩ = false := by have := res_free (w := w.alloc (.cells #[.slice A n c] 26)) hb2 (by simp); simpa using this
  have bw : Below w1.heap.size w1 (w1.alloc (.cells (dva l) 23)) := (Below.refl _ _).alloc (Nat.le_refl _) _
  have b0 : Below w.heap.size w w1 := (((Below.refl _ _).alloc (Nat.le_refl _) _).alloc (by simp) _).trans (hb2.mono (by omega))
  exact ⟨(bw.cell (by simp; omega)).trans r0, ⟨(bw.cell (by simp; omega)).trans r1, (bw.frozen (by simp; omega)).trans r2, Dg.new _ _, b0.trans (bw.mono (by omega)), by omega, by omega⟩, by omega⟩

set_option maxRecDepth 100000 in
set_option maxHeartbeats 2000000 in
theorem right_any (A : Option Addr) (n c x : Nat) (k : Int) (w : World) (h : DAt B64 w A n c x) (hn : n ≤ 1099511627776) (hk : k ≤ 9223372036854775807) :
    Calls Tryz.prog 46 #[.agg #[.slice A n c], .int .i64 k] w fun e w' => ∃ A n c, e = .returned (.agg #[.slice A n c]) ∧ DAt B64 w' A n c (x / 2 ^ k.toNat) ∧ Below w.heap.size w w' := by
  by_cases h0 : k ≤ 0
  · have e0 : k.toNat = 0 := by omega
    rw [e0]
    have h' := h.below (((Below.refl _ _).alloc (Nat.le_refl _) (.cells #[.slice A n c] 26)).alloc (by simp) (.cells #[.slice A n c] 26))
    have HF := Lib.hid h'
    clear h' e0
    go_enter Tryz.func46, Tryz.ntmps46
    go_wp2
    refine bodyPost_ret (v := .agg #[.slice A n c]) (by simp [results, Tryz.results46, go_sem]) rfl ⟨_, _, _, rfl, by simpa using HF.out, ((Below.refl _ _).alloc (Nat.le_refl _) _).alloc (by simp) _⟩
  · obtain ⟨k, rfl⟩ := Int.eq_ofNat_of_zero_le (show 0 ≤ k by omega)
    rw [Int.toNat_natCast]
    have h1 := h.below (((Below.refl _ _).alloc (Nat.le_refl _) (.cells #[.slice A n c] 26)).alloc (by simp) (.cells #[.slice none 0 0] 26))
    by_cases hge : bl x ≤ k
    · have hz : x / 2 ^ k = 0 := Nat.div_eq_of_lt (Nat.lt_of_lt_of_le bl_lt (Nat.pow_le_pow_right (by omega) hge))
      have HZ := Lib.hid hz
      clear hz
      go_enter Tryz.func46, Tryz.ntmps46
      go_wp2_with fail
      refine (len_any A n c x _ h1 hn).mono ?_
      rintro e w1 ⟨rfl, hb1⟩
      have hb2 : Below (w.heap.size + 1 + 1) ((w.alloc (.cells #[.slice A n c] 26)).alloc (.cells #[.slice none 0 0] 26)) w1 := hb1.mono (by simp)
      have r1 : w1.cell? ⟨w.heap.size + 1, 0, none⟩ = some (.slice none 0 0) := by have := res_cell (w := w.alloc (.cells #[.slice A n c] 26)) hb2 (by simp); simpa using this
      have r2 : w1.frozen? ⟨w.heap.size + 1, 0, none⟩ = false := by have := res_free (w := w.alloc (.cells #[.slice A n c] 26)) hb2 (by simp); simpa using this
      clear h1
      go_wp2
      refine bodyPost_ret (v := .agg #[.slice none 0 0]) (by simp [results, Tryz.results46, go_sem, r1]) rfl ⟨_, _, _, rfl, by rw [HZ.out]; exact DAt.nil, ?_⟩
      exact ((((Below.refl _ _).alloc (Nat.le_refl _) _).alloc (by simp) _).trans (hb2.mono (by omega))).setCell (by simp) _
    · have hx64 : bl x ≤ 64 * n := bl_le (by have := h.lt two_le_B64; rwa [B64_pow_two] at this)
      have hmk := run_make_digits (n - k / 64) (by omega)
      rw [show ((n - k / 64 : Nat) : Int) = (n : Int) - (k : Int) / 64 by omega] at hmk
      go_enter Tryz.func46, Tryz.ntmps46
      go_wp2_with fail
      refine (len_any A n c x _ h1 hn).mono ?_
      rintro e w1 ⟨rfl, hb1⟩
      have hb2 : Below (w.heap.size + 1 + 1) ((w.alloc (.cells #[.slice A n c] 26)).alloc (.cells #[.slice none 0 0] 26)) w1 := hb1.mono (by simp)
      have r0 : w1.cell? ⟨w.heap.size, 0, none⟩ = some (.slice A n c) := (hb2.cell (by simp; omega)).trans (((Blk.new w 26 #[.slice A n c]).alloc _).cell 0)
      have hr0 : RiRel w A n c (w.heap.size + 1) w1.heap.size (List.replicate (n - k / 64) 0) (w1.alloc (.cells (dva (List.replicate (n - k / 64) 0)) 23)) := ri_start_ hb2 r0
      clear hb1 hb2 h1
      go_wp2_with fail
      generalize w1.alloc (.cells (dva (List.replicate (n - k / 64) 0)) 23) = W at hr0 ⊢
      generalize w1.heap.size = g at *
      clear hmk r0
      have HDV := Lib.hid (shr_lt (k := k) (h.lt two_le_B64) hx64)
      go_loopw [26] (fun iv wr => ∃ i : Nat, i ≤ n - k / 64 ∧ iv = .int .i64 i ∧ RiRel w A n c (w.heap.size + 1) g (zd (x / 2 ^ k) i ++ List.replicate (n - k / 64 - i) 0) wr) (fun i _ => n - (intOf i).toNat)
      case atStart => exact ⟨0, by omega, rfl, by simpa [zd] using hr0⟩
      case round =>
        clear hr0
        obtain ⟨i, hi, rfl, hr⟩ := hrel
        by_cases hlt : i < n - k / 64
        · obtain ⟨gx, ox, rfl, hg, hc⟩ := h.flat two_le_B64 (by omega)
          have hc1 := (hr.one.bel.cell (p := ⟨gx, ox + (k / 64 + i), none⟩) hg).trans (hc (k / 64 + i) (by omega))
          have hb1 := hr.bx
          have hrd := hr.drew
          have hdl := fun wz (hz : Below w.heap.size w wz) => at_int (some ⟨gx, ox, none⟩) n c x ((k : Int) / 64 + (i : Int) + 1) (by omega) wz (h.below hz)
          rw [show ((k : Int) / 64 + (i : Int) + 1).toNat = k / 64 + i + 1 by omega] at hdl
          have hor := or_digit (Nat.mod_lt _ (by decide)) (Nat.mod_lt _ (by decide)) (show k % 64 < 64 by omega) (shr_digit x (k / 64) (k % 64) i (by omega))
          rw [show 64 * (k / 64) + k % 64 = k by omega] at hor
          have hset := fun wz (hz : RiRel w (some ⟨gx, ox, none⟩) n c (w.heap.size + 1) g (zd (x / 2 ^ k) i ++ List.replicate (n - k / 64 - i) 0) wz) => hz.set_ i (x / 2 ^ k / B64 ^ i % B64)
          rw [set_next (zd_len _ _) hlt, ← zd_succ] at hset
          have hlen : i < (zd (x / 2 ^ k) i ++ List.replicate (n - k / 64 - i) 0).length := by simp [zd_len]; omega
          generalize x / B64 ^ (k / 64 + i) % B64 = d1 at hc1 hor
          generalize x / B64 ^ (k / 64 + i + 1) % B64 = d2 at hdl hor
          generalize x / 2 ^ k / B64 ^ i % B64 = d3 at hor hset
          generalize zd (x / 2 ^ k) i ++ List.replicate (n - k / 64 - i) 0 = L at *
          have HOR := Lib.hid hor; have HSET := Lib.hid hset; have HDL := Lib.hid hdl
          clear hor hset hdl hc
          have i0 : (0 : Int) ≤ (k : Int) / 64 + (i : Int) := by omega
          have i1 : (k : Int) / 64 + (i : Int) < (n : Int) := by omega
          have i2 : (i : Int) < ((n - k / 64 : Nat) : Int) := by omega
          have i3 : (k / 64 + i) < n := by omega
          have hgl := hr.one.hg
          have hgw := hr.lt
          have f1 : (k : Int).tdiv 64 = (k : Int) / 64 := Int.tdiv_eq_ediv_of_nonneg (by omega)
          have f2 : (k : Int).tmod 64 = (k : Int) % 64 := Int.tmod_eq_emod_of_nonneg (by omega)
          have f3 : IntKind.i64.wrap ((k : Int) / 64) = (k : Int) / 64 := IntWalk.i64_in _ (by omega)
          have f4 : IntKind.i64.wrap ((k : Int) / 64 + (i : Int)) = (k : Int) / 64 + (i : Int) := IntWalk.i64_in _ (by omega)
          have f5 : IntKind.i64.wrap ((k : Int) / 64 + (i : Int) + 1) = (k : Int) / 64 + (i : Int) + 1 := IntWalk.i64_in _ (by omega)
          have f6 : IntKind.i64.wrap (64 - (k : Int) % 64) = 64 - (k : Int) % 64 := IntWalk.i64_in _ (by omega)
          have f7 : ((k : Int) / 64 + (i : Int)).toNat = k / 64 + i := by omega
          have f8 : (0 : Int) ≤ 64 - (k : Int) % 64 := by omega
          have f9 : (64 - (k : Int) % 64).toNat = 64 - k % 64 := by omega
          have f10 : ((k : Int) % 64).toNat = k % 64 := by omega
          have f11 : (0 : Int) ≤ (k : Int) % 64 := by omega
          go_wp2_with fail
          go_region_held3 (fun w' => w'.cell? ⟨w.heap.size, 0, none⟩ = some (.slice (some ⟨gx, ox, none⟩) n c) ∧ w'.cell? ⟨gx, ox + (k / 64 + i), none⟩ = some (.int .u64 (d1 : Int))) (first | exact ⟨hk1 _, hk2 _⟩ | exact ⟨hr2.bx, hc2⟩ | go_keep)
            (first | (go_at_call 98; refine (HDL.out _ ?_).mono ?_; exact hrd.one.bel; rintro e wa ⟨rfl, hba⟩; have hr2 := hrd.below hba; have hst := hr2.one.dg.cell hlen; have hfz := hr2.one.dg.frozen i; have hc2 := (hba.cell (by simp; have := hr.one.hr; have := hr.one.dg.lt; omega)).trans hc1; have hk1 := fun v => (World.cell?_setCell_other wa ⟨g, i, none⟩ ⟨w.heap.size, 0, none⟩ v (by intro e; injection e; omega)).trans hr2.bx; have hk2 := fun v => (World.cell?_setCell_other wa ⟨g, i, none⟩ ⟨gx, ox + (k / 64 + i), none⟩ v (by intro e; injection e; omega)).trans hc2))
          clear f1 f2 f3 f4 f5 f6 f7 f8 f9 f10 f11 hk1 hk2
          have hr4 := HSET.out _ hr2
          have HR4 := Lib.hid hr4
          clear hr4
          go_wp2
          go_roundw
          case rel => exact ⟨i + 1, by omega, by go_num, by rw [HOR.out]; exact HR4.out⟩
          case measure => simp [intOf]; omega
        · have hie : n - k / 64 = i := by omega
          have hie' : (n - k / 64 : Nat) - i = 0 := by omega
          rw [hie', List.replicate_zero, List.append_nil] at hr
          have hzl := zd_len (x / 2 ^ k) i
          have hzv : val B64 (zd (x / 2 ^ k) i) = x / 2 ^ k := by rw [zd_val, Nat.mod_eq_of_lt]; rw [← hie]; exact HDV.out
          have HZV := Lib.hid hzv; have HIE := Lib.hid hie
          have hzd := zd_lt (x / 2 ^ k) i
          clear hzv hie hie'
          have hni : n - k / 64 ≤ i := by omega
          go_wp2_with fail
          refine (trim_at g _ (n - k / 64) (n - k / 64) _ hr.one.dg hzd (by rw [zd_len]; exact HIE.out.symm) (Nat.le_refl _) (by unfold maxLen; omega)).mono ?_
          rintro e w3 ⟨A3, n3, c3, rfl, hd3, hb3⟩
          rw [HZV.out] at hd3
          have hr3 := hr.below hb3
          have r1 := hr3.one.br
          have r2 := hr3.one.fr
          have HF := Lib.hid (hd3.put r1 (.slice A3 n3 c3))
          have HBl := Lib.hid (hr3.one.bel.setCell (p := ⟨w.heap.size + 1, 0, none⟩) (by simp) (.slice A3 n3 c3))
          clear hd3 hb3 hr hr3 hzl hzd
          go_wp2
          exact bodyPost_ret (v := .agg #[.slice A3 n3 c3]) (by simp [results, Tryz.results46, go_sem, r1]) rfl ⟨_, _, _, rfl, HF.out, HBl.out⟩
end Go.Proofs.YtfgnleoaibcegaaGreat
