/-
  Walks and plain laws.
-/
import Derived.Test.YtfgnleoaibcegaaGreatXA1
set_option linter.unusedVariables false
set_option linter.unusedSimpArgs false
namespace Go.Proofs.YtfgnleoaibcegaaGreat

open Go.RowKit

structure TwoRel (w0 : World) (A : Option Addr) (n c x : Nat) (A' : Option Addr) (n' c' y : Nat) (g : Nat) (l : List Nat) (wr : World) : Prop where
  dx0 : DAt B64 w0 A n c x
  dy0 : DAt B64 w0 A' n' c' y
  bx : wr.cell? ⟨w0.heap.size, 0, none⟩ = some (.slice A n c)
  by_ : wr.cell? ⟨w0.heap.size + 1, 0, none⟩ = some (.slice A' n' c')
  br : wr.cell? ⟨w0.heap.size + 1 + 1, 0, none⟩ = some (.slice none 0 0)
  fr : wr.frozen? ⟨w0.heap.size + 1 + 1, 0, none⟩ = false
  dg : Dg wr g l
  bel : Below w0.heap.size w0 wr
  hg : w0.heap.size + 2 < g

section

variable {w0 wr w1 : World} {A A' : Option Addr} {n c x n' c' y g : Nat} {l : List Nat}
theorem TwoRel.dx (h : TwoRel w0 A n c x A' n' c' y g l wr) : DAt B64 wr A n c x := h.dx0.below h.bel
theorem TwoRel.dy (h : TwoRel w0 A n c x A' n' c' y g l wr) : DAt B64 wr A' n' c' y := h.dy0.below h.bel
theorem TwoRel.drew (h : TwoRel w0 A n c x A' n' c' y g l wr) : TwoRel w0 A n c x A' n' c' y g l wr.drew := ⟨h.dx0, h.dy0, h.bx, h.by_, h.br, h.fr, h.dg, h.bel.drew, h.hg⟩
theorem TwoRel.below (h : TwoRel w0 A n c x A' n' c' y g l wr) (hb : Below wr.heap.size wr w1) : TwoRel w0 A n c x A' n' c' y g l w1 := by
  have hlt := h.dg.lt
  have hg := h.hg
  exact ⟨h.dx0, h.dy0, (hb.cell (by simp; omega)).trans h.bx, (hb.cell (by simp; omega)).trans h.by_, (hb.cell (by simp; omega)).trans h.br, (hb.frozen (by simp; omega)).trans h.fr, h.dg.below hb hlt, h.bel.trans (hb.mono h.bel.size), hg⟩
theorem TwoRel.set_ (h : TwoRel w0 A n c x A' n' c' y g l wr) (k d : Nat) : TwoRel w0 A n c x A' n' c' y g (l.set k d) (wr.setCell ⟨g, k, none⟩ (.int .u64 (d : Int))) := by
  have hg := h.hg
  refine ⟨h.dx0, h.dy0, ?_, ?_, ?_, ?_, h.dg.set_ k d, h.bel.setCell (by simp; omega) _, hg⟩
  · rw [World.cell?_setCell_other _ _ _ _ (by intro e; injection e; omega)]; exact h.bx
  · rw [World.cell?_setCell_other _ _ _ _ (by intro e; injection e; omega)]; exact h.by_
  · rw [World.cell?_setCell_other _ _ _ _ (by intro e; injection e; omega)]; exact h.br
  · rw [World.frozen?_of_block (w := wr) (Below.heap_setCell _ _ _ _ (by simp; omega))]; exact h.fr
end

theorem DAt.far {b : Nat} {w : World} {A : Option Addr} {n c x : Nat} (h : DAt b w A n c x) {p : Addr} (hp : ∀ a, A = some a → a.block ≠ p.block) (u : Value) : DAt b (w.setCell p u) A n c x := by
  refine ⟨⟨h.reads.1, fun hn => ?_⟩, h.cap, h.room⟩
  obtain ⟨ad, e, hb, hc⟩ := h.reads.2 hn
  refine ⟨ad, e, by simpa [World.setCell] using hb, fun j v hv => ?_⟩
  rw [World.cell?_setCell_other]
  · exact hc j v hv
  · intro e'
    exact hp ad e (by rw [← block_of_add ad j, ← e'])

theorem two_start {w w1 : World} {A A' : Option Addr} {n c x n' c' y : Nat} {l : List Nat} (hx : DAt B64 w A n c x) (hy : DAt B64 w A' n' c' y)
    (hw : ((((w.alloc (.cells #[.slice A n c] 26)).alloc (.cells #[.slice A' n' c'] 26)).alloc (.cells #[.slice none 0 0] 26)).alloc (.cells #[.slice A n c, .slice A' n' c'] 24)) = w1) :
    TwoRel w A n c x A' n' c' y w1.heap.size l (w1.alloc (.cells (dva l) 23)) := by
  have hs : w1.heap.size = w.heap.size + 4 := by rw [← hw]; simp
  have hb : Below w.heap.size w w1 := by
    rw [← hw]
    exact ((((Below.refl _ _).alloc (Nat.le_refl _) _).alloc (by simp) _).alloc (by simp; omega) _).alloc (by simp; omega) _
  have c0 : Blk w1 w.heap.size 26 #[.slice A n c] := by rw [← hw]; exact (((Blk.new w _ _).alloc _).alloc _).alloc _
  have c1 : Blk w1 (w.heap.size + 1) 26 #[.slice A' n' c'] := by
    rw [← hw]; have := (((Blk.new (w.alloc (.cells #[.slice A n c] 26)) 26 #[.slice A' n' c']).alloc (.cells #[.slice none 0 0] 26)).alloc (.cells #[.slice A n c, .slice A' n' c'] 24)); simpa using this
  have c2 : Blk w1 (w.heap.size + 1 + 1) 26 #[.slice none 0 0] := by
    rw [← hw]; have := ((Blk.new ((w.alloc (.cells #[.slice A n c] 26)).alloc (.cells #[.slice A' n' c'] 26)) 26 #[.slice none 0 0]).alloc (.cells #[.slice A n c, .slice A' n' c'] 24)); simpa using this
  exact ⟨hx, hy, (c0.alloc _).cell 0, (c1.alloc _).cell 0, (c2.alloc _).cell 0, (c2.alloc _).frozen 0, Dg.new _ _, hb.alloc (by omega) _, by omega⟩

structure SumIs (x y k cy : Nat) (D : List Nat) : Prop where
  len : D.length = k
  dig : ∀ d ∈ D, d < B64
  eq : val B64 D + B64 ^ k * cy = x % B64 ^ k + y % B64 ^ k
theorem set_next {D : List Nat} {k N d : Nat} (hD : D.length = k) (hk : k < N) : (D ++ List.replicate (N - k) 0).set k d = (D ++ [d]) ++ List.replicate (N - (k + 1)) 0 := by
  rw [show N - k = (N - (k + 1)) + 1 by omega, List.replicate_succ, List.set_append_right _ _ (by omega), hD, Nat.sub_self, List.set_cons_zero]
  simp
theorem sum_fits {P Pn Pn' Q x y v cy : Nat} (hx : x < Pn) (hy : y < Pn') (h1 : Pn ≤ P) (h2 : Pn' ≤ P) (h3 : P * 2 ≤ Q) (e : v + Q * cy = x + y) : cy = 0 ∧ v = x + y := by
  have hc : cy = 0 := by
    rcases Nat.eq_zero_or_pos cy with h0 | h0
    · exact h0
    · have := Nat.mul_le_mul_left Q h0
      omega
  subst hc
  exact ⟨rfl, by omega⟩
theorem SumIs.done {x y N cy n n' : Nat} {D : List Nat} (h : SumIs x y (N + 1) cy D) (hx : x < B64 ^ n) (hy : y < B64 ^ n') (hn : n ≤ N) (hn' : n' ≤ N) : cy = 0 ∧ val B64 D = x + y := by
  have e := h.eq
  have p0 : (0 : Nat) < B64 := by decide
  have p1 : B64 ^ n ≤ B64 ^ N := Nat.pow_le_pow_right p0 hn
  have p2 : B64 ^ n' ≤ B64 ^ N := Nat.pow_le_pow_right p0 hn'
  have p4 : B64 ^ N * 2 ≤ B64 ^ (N + 1) := by rw [Nat.pow_succ]; exact Nat.mul_le_mul_left _ two_le_B64
  have p5 : B64 ^ N ≤ B64 ^ (N + 1) := Nat.pow_le_pow_right p0 (by omega)
  rw [Nat.mod_eq_of_lt (Nat.lt_of_lt_of_le hx (Nat.le_trans p1 p5)), Nat.mod_eq_of_lt (Nat.lt_of_lt_of_le hy (Nat.le_trans p2 p5))] at e
  exact sum_fits hx hy p1 p2 p4 e
theorem SumIs.start (x y : Nat) : SumIs x y 0 0 [] := ⟨rfl, by simp, by simp [val, Nat.mod_one]⟩
theorem SumIs.next {x y k cy : Nat} {D : List Nat} (h : SumIs x y k cy D) : SumIs x y (k + 1) (hi64 (x / B64 ^ k % B64 + y / B64 ^ k % B64 + cy)) (D ++ [lo64 (x / B64 ^ k % B64 + y / B64 ^ k % B64 + cy)]) := by
  refine ⟨by simp [h.len], fun d hd => ?_, ?_⟩
  · rcases List.mem_append.1 hd with hd | hd
    · exact h.dig d hd
    · simp at hd; rw [hd]; exact lo_lt _
  · have h1 := lo_hi (x / B64 ^ k % B64 + y / B64 ^ k % B64 + cy)
    have h2 := h.eq
    rw [val_snoc, h.len, low_succ, low_succ, Nat.pow_succ]
    generalize x / B64 ^ k % B64 = p at *
    generalize y / B64 ^ k % B64 = q at *
    generalize lo64 (p + q + cy) = s at *
    generalize hi64 (p + q + cy) = t at *
    have h3 : B64 ^ k * s + B64 ^ k * B64 * t = B64 ^ k * p + B64 ^ k * q + B64 ^ k * cy := by
      rw [Nat.mul_assoc, ← Nat.mul_add, h1, Nat.mul_add, Nat.mul_add]
    omega

set_option maxRecDepth 100000 in
set_option maxHeartbeats 1000000 in
theorem add_any (A : Option Addr) (n c x : Nat) (A' : Option Addr) (n' c' y : Nat) (w : World) (hx : DAt B64 w A n c x) (hy : DAt B64 w A' n' c' y) (hn : n ≤ 1099511627776) (hn' : n' ≤ 1099511627776) :
    Calls Tryz.prog 50 #[.agg #[.slice A n c], .agg #[.slice A' n' c']] w fun e w' => ∃ A n c, e = .returned (.agg #[.slice A n c]) ∧ DAt B64 w' A n c (x + y) ∧ Below w.heap.size w w' := by
  have hmk := fun (N : Nat) (h : N + 1 ≤ 35184372088832) (w : World) => (run_make_digits (N + 1) h w)
  go_enter Tryz.func50, Tryz.ntmps50
  go_wp2_with fail
  refine (longest_any A A' n c n' c' (w.heap.size + 3) _ ?_ ?_ (by omega) (by omega)).mono ?_
  · have := (Blk.new (((w.alloc (.cells #[.slice A n c] 26)).alloc (.cells #[.slice A' n' c'] 26)).alloc (.cells #[.slice none 0 0] 26)) 24 #[.slice A n c, .slice A' n' c']).cell 0
    simpa using this
  · have := (Blk.new (((w.alloc (.cells #[.slice A n c] 26)).alloc (.cells #[.slice A' n' c'] 26)).alloc (.cells #[.slice none 0 0] 26)) 24 #[.slice A n c, .slice A' n' c']).cell 1
    simpa using this
  rintro e w1 ⟨rfl, hw1⟩
  have hN : max n n' ≤ 1099511627776 := by omega
  have HN := Lib.hid (show n ≤ max n n' ∧ n' ≤ max n n' by omega)
  generalize max n n' = N at *
  have hmk1 := hmk N (by omega)
  rw [show ((N + 1 : Nat) : Int) = (N : Int) + 1 by omega] at hmk1
  clear hmk
  have hx0 := two_start (l := List.replicate (N + 1) 0) hx hy hw1
  clear hw1 hx hy
  go_wp2_with fail
  generalize w1.alloc (.cells (dva (List.replicate (N + 1) 0)) 23) = W at hx0 ⊢
  generalize w1.heap.size = g at *
  go_loopw [6, 18] (fun cv iv wr => ∃ (k cy : Nat) (D : List Nat), k ≤ N + 1 ∧ iv = .int .i64 k ∧ cv = .int .u64 (cy : Int) ∧ cy ≤ 1 ∧ SumIs x y k cy D ∧ TwoRel w A n c x A' n' c' y g (D ++ List.replicate (N + 1 - k) 0) wr) (fun _ i _ => N + 1 - (intOf i).toNat)
  case atStart => exact ⟨0, 0, [], by omega, rfl, rfl, by omega, SumIs.start x y, by simpa using hx0⟩
  case round =>
    clear hx0
    obtain ⟨k, cy, D, hk, rfl, rfl, hcy, hs, hr⟩ := hrel
    by_cases hlt : k < N + 1
    · have hb1 : wr.cell? ⟨w.heap.size, 0, none⟩ = some (.slice A n c) := hr.bx
      have hb2 : wr.cell? ⟨w.heap.size + 1, 0, none⟩ = some (.slice A' n' c') := hr.by_
      obtain ⟨p, hp⟩ : ∃ p, p = x / B64 ^ k % B64 := ⟨_, rfl⟩
      obtain ⟨q, hq⟩ : ∃ q, q = y / B64 ^ k % B64 := ⟨_, rfl⟩
      have ax := fun (wz : World) (h : DAt B64 wz A n c x) => (at_any A n c x k wz h)
      have ay := fun (wz : World) (h : DAt B64 wz A' n' c' y) => (at_any A' n' c' y k wz h)
      have hsn := hs.next
      have hpl : p < B64 := by rw [hp]; exact Nat.mod_lt _ (by decide)
      have hql : q < B64 := by rw [hq]; exact Nat.mod_lt _ (by decide)
      rw [← hp] at ax
      rw [← hq] at ay
      rw [← hp, ← hq] at hsn
      have AX := Lib.hid ax; have AY := Lib.hid ay; have HS := Lib.hid hsn
      have hs0 := hs.len
      clear ax ay hsn hp hq hs
      have hadd := run_add64' p q cy hcy
      have hcy2 := hi_le hpl hql hcy
      have HC2 := Lib.hid hcy2
      clear hpl hql hcy2
      have hk0 : (0 : Int) ≤ (k : Int) := by omega
      have hk1 : (k : Int) < (N : Int) + 1 := by omega
      have hgl := hr.hg
      have hrd := hr.drew
      go_wp2_with fail
      go_region_held3 (fun w' => w'.cell? ⟨w.heap.size, 0, none⟩ = some (.slice A n c) ∧ w'.cell? ⟨w.heap.size + 1, 0, none⟩ = some (.slice A' n' c')) (first | exact ⟨hr4.bx, hr4.by_⟩ | exact ⟨hr3.bx, hr3.by_⟩ | exact ⟨hr2.bx, hr2.by_⟩ | go_keep)
        (first | (go_at_call 98; (with_reducible refine (AX.out _ ?_).mono ?_); exact hrd.dx; rintro e wa ⟨rfl, hba⟩; have hr2 := hrd.below hba) | (go_at_call 98; (with_reducible refine (AY.out _ ?_).mono ?_); exact hr2.dy; rintro e wb ⟨rfl, hbb⟩; have hr3 := hr2.below hbb; have hr4 := hr3.set_ k (lo64 (p + q + cy)); have hst := hr3.dg.cell (i := k) (by simp [hs0]; omega); have hfz := hr3.dg.frozen k))
      go_wp2
      go_roundw
      case rel =>
        refine ⟨k + 1, _, _, by omega, by go_num, rfl, HC2.out, HS.out, ?_⟩
        rw [set_next hs0 (by omega)] at hr4
        exact hr4
      case measure => simp [intOf]; omega
    · obtain rfl : k = N + 1 := by omega
      have hs0 := hs.len
      simp only [Nat.sub_self, List.replicate_zero, List.append_nil] at hr
      have h2 : cy = 0 ∧ val B64 D = x + y := by
        have := HN.out
        exact SumIs.done hs (hr.dx0.lt two_le_B64) (hr.dy0.lt two_le_B64) (by omega) (by omega)
      obtain ⟨-, hv⟩ := h2
      have hdig := hs.dig
      have hr1 := hr
      have HV := Lib.hid hv
      clear hs hv
      go_wp2_with fail
      refine (trim_at g D (N + 1) (N + 1) _ hr.dg hdig hs0 (Nat.le_refl _) (by unfold maxLen; omega)).mono ?_
      rintro e w3 ⟨A3, n3, c3, rfl, hd3, hb3⟩
      rw [HV.out] at hd3
      have hr3 := hr.below hb3
      have r1 := hr3.br
      have r2 := hr3.fr
      have HF := Lib.hid (hd3.put r1 (.slice A3 n3 c3))
      have HB := Lib.hid (hr3.bel.setCell (p := ⟨w.heap.size + 1 + 1, 0, none⟩) (by simp; omega) (.slice A3 n3 c3))
      clear hd3 hb3 hr hr1 hr3 hs0
      go_wp2
      exact bodyPost_ret (v := .agg #[.slice A3 n3 c3]) (by simp [results, Tryz.results50, go_sem, r1]) rfl ⟨_, _, _, rfl, HF.out, HB.out⟩
end Go.Proofs.YtfgnleoaibcegaaGreat
