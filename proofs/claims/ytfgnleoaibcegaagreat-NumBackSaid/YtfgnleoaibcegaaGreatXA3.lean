/-
  Walks and plain laws.
-/
import Derived.Test.YtfgnleoaibcegaaGreatXA2
set_option linter.unusedVariables false
set_option linter.unusedSimpArgs false
namespace Go.Proofs.YtfgnleoaibcegaaGreat

open Go.RowKit

theorem run_sub64' (x y c : Nat) (hc : c ≤ 1) (w : World) :
    (callFunc 100 #[.int .u64 (x : Int), .int .u64 (y : Int), .int .u64 (c : Int)]).run Tryz.prog w = .ok (.value (.tuple #[.int .u64 ((sub64 x y c : Nat) : Int), .int .u64 ((brw64 x y c : Nat) : Int)])) w := by
  rw [run_callFunc_extern Tryz.func100 (by kernel_rfl) (by kernel_rfl) (by kernel_rfl) (e := sub64Entry) (by kernel_rfl), run_sub64_ x y c hc]
  simp only [Result.andThen, sub64, brw64, B64]

structure DiffIs (x y k cy : Nat) (D : List Nat) : Prop where
  len : D.length = k
  dig : ∀ d ∈ D, d < B64
  eq : val B64 D + y % B64 ^ k = x % B64 ^ k + B64 ^ k * cy
theorem DiffIs.start (x y : Nat) : DiffIs x y 0 0 [] := ⟨rfl, by simp, by simp [val, Nat.mod_one]⟩
theorem DiffIs.next {x y k cy : Nat} {D : List Nat} (h : DiffIs x y k cy D) (hcy : cy ≤ 1) : DiffIs x y (k + 1) (brw64 (x / B64 ^ k % B64) (y / B64 ^ k % B64) cy) (D ++ [sub64 (x / B64 ^ k % B64) (y / B64 ^ k % B64) cy]) := by
  refine ⟨by simp [h.len], fun d hd => ?_, ?_⟩
  · rcases List.mem_append.1 hd with hd | hd
    · exact h.dig d hd
    · simp at hd; rw [hd]; exact sub_lt _ _ _
  · have h1 := sub_brw (x := x / B64 ^ k % B64) (y := y / B64 ^ k % B64) (Nat.mod_lt _ (by decide)) (Nat.mod_lt _ (by decide)) hcy
    have h2 := h.eq
    rw [val_snoc, h.len, low_succ, low_succ, Nat.pow_succ]
    generalize x / B64 ^ k % B64 = p at *
    generalize y / B64 ^ k % B64 = q at *
    generalize sub64 p q cy = s at *
    generalize brw64 p q cy = t at *
    have h3 : B64 ^ k * s + B64 ^ k * q + B64 ^ k * cy = B64 ^ k * p + B64 ^ k * B64 * t := by
      rw [Nat.mul_assoc, ← Nat.mul_add, ← Nat.mul_add, h1, Nat.mul_add]
    omega
theorem diff_fits {Q x y v cy : Nat} (hx : x < Q) (hv : v < Q) (e : v + y = x + Q * cy) (hcy : cy ≤ 1) : (y ≤ x → cy = 0 ∧ v = x - y) ∧ (x < y → cy = 1) := by
  have hc : cy = 0 ∨ cy = 1 := by omega
  rcases hc with rfl | rfl
  · simp only [Nat.mul_zero] at e
    exact ⟨fun h => ⟨rfl, by omega⟩, fun h => by omega⟩
  · simp only [Nat.mul_one] at e
    exact ⟨fun h => by omega, fun h => rfl⟩
theorem DiffIs.done {x y N cy n n' : Nat} {D : List Nat} (h : DiffIs x y N cy D) (hcy : cy ≤ 1) (hx : x < B64 ^ n) (hy : y < B64 ^ n') (hn : n ≤ N) (hn' : n' ≤ N) : (y ≤ x → cy = 0 ∧ val B64 D = x - y) ∧ (x < y → cy = 1) := by
  have e := h.eq
  have hv := val_lt two_le_B64 D h.dig
  rw [h.len] at hv
  have p0 : (0 : Nat) < B64 := by decide
  have p1 : B64 ^ n ≤ B64 ^ N := Nat.pow_le_pow_right p0 hn
  have p2 : B64 ^ n' ≤ B64 ^ N := Nat.pow_le_pow_right p0 hn'
  rw [Nat.mod_eq_of_lt (Nat.lt_of_lt_of_le hx p1), Nat.mod_eq_of_lt (Nat.lt_of_lt_of_le hy p2)] at e
  exact diff_fits (Nat.lt_of_lt_of_le hx p1) hv e hcy

set_option maxRecDepth 100000 in
set_option maxHeartbeats 1000000 in
theorem sub_any (A : Option Addr) (n c x : Nat) (A' : Option Addr) (n' c' y : Nat) (w : World) (hx : DAt B64 w A n c x) (hy : DAt B64 w A' n' c' y) (hn : n ≤ 1099511627776) (hn' : n' ≤ 1099511627776) :
    Calls Tryz.prog 47 #[.agg #[.slice A n c], .agg #[.slice A' n' c']] w fun e w' => ∃ A n c, e = .returned (.tuple #[.agg #[.slice A n c], .bool (decide (y ≤ x))]) ∧ DAt B64 w' A n c (x - y) ∧ Below w.heap.size w w' := by
  have hmk := fun (N : Nat) (h : N ≤ 35184372088832) (w : World) => (run_make_digits N h w)
  go_enter Tryz.func47, Tryz.ntmps47
  go_wp2_with fail
  refine (longest_any A A' n c n' c' (w.heap.size + 3) _ ?_ ?_ (by omega) (by omega)).mono ?_
  · have := (Blk.new (((w.alloc (.cells #[.slice A n c] 26)).alloc (.cells #[.slice A' n' c'] 26)).alloc (.cells #[.slice none 0 0] 26)) 24 #[.slice A n c, .slice A' n' c']).cell 0
    simpa using this
  · have := (Blk.new (((w.alloc (.cells #[.slice A n c] 26)).alloc (.cells #[.slice A' n' c'] 26)).alloc (.cells #[.slice none 0 0] 26)) 24 #[.slice A n c, .slice A' n' c']).cell 1
    simpa using this
  rintro e w1 ⟨rfl, hw1⟩
  have hN : max n n' ≤ 1099511627776 := by omega
  have HN := Lib.hid (show n ≤ max n n' ∧ n' ≤ max n n' by omega)
  generalize max n n' = N at *
  have hmk1 := hmk N (by omega)
  clear hmk
  have hx0 := two_start (l := List.replicate (N) 0) hx hy hw1
  clear hw1 hx hy
  go_wp2_with fail
  generalize w1.alloc (.cells (dva (List.replicate (N) 0)) 23) = W at hx0 ⊢
  generalize w1.heap.size = g at *
  go_loopw [7, 18] (fun cv iv wr => ∃ (k cy : Nat) (D : List Nat), k ≤ N ∧ iv = .int .i64 k ∧ cv = .int .u64 (cy : Int) ∧ cy ≤ 1 ∧ DiffIs x y k cy D ∧ TwoRel w A n c x A' n' c' y g (D ++ List.replicate (N - k) 0) wr) (fun _ i _ => N - (intOf i).toNat)
  case atStart => exact ⟨0, 0, [], by omega, rfl, rfl, by omega, DiffIs.start x y, by simpa using hx0⟩
  case round =>
    clear hx0
    obtain ⟨k, cy, D, hk, rfl, rfl, hcy, hs, hr⟩ := hrel
    by_cases hlt : k < N
    · have hb1 : wr.cell? ⟨w.heap.size, 0, none⟩ = some (.slice A n c) := hr.bx
      have hb2 : wr.cell? ⟨w.heap.size + 1, 0, none⟩ = some (.slice A' n' c') := hr.by_
      obtain ⟨p, hp⟩ : ∃ p, p = x / B64 ^ k % B64 := ⟨_, rfl⟩
      obtain ⟨q, hq⟩ : ∃ q, q = y / B64 ^ k % B64 := ⟨_, rfl⟩
      have ax := fun (wz : World) (h : DAt B64 wz A n c x) => (at_any A n c x k wz h)
      have ay := fun (wz : World) (h : DAt B64 wz A' n' c' y) => (at_any A' n' c' y k wz h)
      have hsn := hs.next hcy
      have hpl : p < B64 := by rw [hp]; exact Nat.mod_lt _ (by decide)
      have hql : q < B64 := by rw [hq]; exact Nat.mod_lt _ (by decide)
      rw [← hp] at ax
      rw [← hq] at ay
      rw [← hp, ← hq] at hsn
      have AX := Lib.hid ax; have AY := Lib.hid ay; have HS := Lib.hid hsn
      have hs0 := hs.len
      clear ax ay hsn hp hq hs
      have hadd := run_sub64' p q cy hcy
      have hcy2 := brw_le p q cy
      have HC2 := Lib.hid hcy2
      clear hpl hql hcy2
      have hk0 : (0 : Int) ≤ (k : Int) := by omega
      have hk1 : (k : Int) < (N : Int) := by omega
      have hgl := hr.hg
      have hrd := hr.drew
      go_wp2_with fail
      go_region_held3 (fun w' => w'.cell? ⟨w.heap.size, 0, none⟩ = some (.slice A n c) ∧ w'.cell? ⟨w.heap.size + 1, 0, none⟩ = some (.slice A' n' c')) (first | exact ⟨hr4.bx, hr4.by_⟩ | exact ⟨hr3.bx, hr3.by_⟩ | exact ⟨hr2.bx, hr2.by_⟩ | go_keep)
        (first | (go_at_call 98; (with_reducible refine (AX.out _ ?_).mono ?_); exact hrd.dx; rintro e wa ⟨rfl, hba⟩; have hr2 := hrd.below hba) | (go_at_call 98; (with_reducible refine (AY.out _ ?_).mono ?_); exact hr2.dy; rintro e wb ⟨rfl, hbb⟩; have hr3 := hr2.below hbb; have hr4 := hr3.set_ k (sub64 p q cy); have hst := hr3.dg.cell (i := k) (by simp [hs0]; omega); have hfz := hr3.dg.frozen k))
      go_wp2
      go_roundw
      case rel =>
        refine ⟨k + 1, _, _, by omega, by go_num, rfl, HC2.out, HS.out, ?_⟩
        rw [set_next hs0 (by omega)] at hr4
        exact hr4
      case measure => simp [intOf]; omega
    · obtain rfl : N = k := by omega
      have hs0 := hs.len
      simp only [Nat.sub_self, List.replicate_zero, List.append_nil] at hr
      have h2 : (y ≤ x → cy = 0 ∧ val B64 D = x - y) ∧ (x < y → cy = 1) := by
        have := HN.out
        exact DiffIs.done hs hcy (hr.dx0.lt two_le_B64) (hr.dy0.lt two_le_B64) (by omega) (by omega)
      have hdig := hs.dig
      have hlt := hr.dg.lt
      have hgg := hr.hg
      clear hs
      by_cases hyx : y ≤ x
      · obtain ⟨rfl, hv⟩ := h2.1 hyx
        have HV := Lib.hid hv
        have HY := Lib.hid (decide_eq_true hyx)
        clear hv h2
        go_wp2_with fail
        refine (trim_at g D N N _ hr.dg hdig hs0 (Nat.le_refl _) (by unfold maxLen; omega)).mono ?_
        rintro e w3 ⟨A3, n3, c3, rfl, hd3, hb3⟩
        rw [HV.out] at hd3
        have hr3 := hr.below hb3
        have r1 := hr3.br
        have r2 := hr3.fr
        have HF := Lib.hid (hd3.put r1 (.slice A3 n3 c3))
        have HB := Lib.hid (hr3.bel.setCell (p := ⟨w.heap.size + 1 + 1, 0, none⟩) (by simp; omega) (.slice A3 n3 c3))
        clear hd3 hb3 hr hr3 hs0
        go_wp2
        refine bodyPost_ret (v := .tuple #[.agg #[.slice A3 n3 c3], .bool true]) (by simp [results, Tryz.results47, go_sem, r1]) rfl ⟨_, _, _, by rw [HY.out], HF.out, HB.out⟩
      · obtain rfl := h2.2 (by omega)
        have HY := Lib.hid (decide_eq_false hyx)
        have HZ := Lib.hid (show x - y = 0 by omega)
        clear h2
        have r1 := hr.br
        have r2 := hr.fr
        have hb := hr.bel.setCell (p := ⟨w.heap.size + 1 + 1, 0, none⟩) (by simp; omega) (.slice none 0 0)
        have HB := Lib.hid hb
        clear hb
        go_wp2
        refine bodyPost_ret (v := .tuple #[.agg #[.slice none 0 0], .bool false]) (by simp [results, Tryz.results47, go_sem, r1]) rfl ⟨_, _, _, by rw [HY.out], by rw [HZ.out]; exact DAt.nil, HB.out⟩
end Go.Proofs.YtfgnleoaibcegaaGreat
