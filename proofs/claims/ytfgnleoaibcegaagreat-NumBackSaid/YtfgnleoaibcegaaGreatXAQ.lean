/-
  Walks and plain laws.
-/
import Derived.Test.YtfgnleoaibcegaaGreatXAP
set_option linter.unusedVariables false
set_option linter.unusedSimpArgs false
namespace Go.Proofs.YtfgnleoaibcegaaGreat

open Go.RowKit

set_option maxHeartbeats 1000000 in
theorem divmod_main (A : Option Addr) (n c x : Nat) (A' : Option Addr) (n' c' y : Nat) (w : World) (hx : DAt B64 w A n c x) (hy : DAt B64 w A' n' c' y) (hn : n ≤ 1099511627776) (hn' : n' ≤ 1099511627776) (hyx : y ≤ x) (hyB : B64 ≤ y) :
    Calls Tryz.prog 45 #[.agg #[.slice A n c], .agg #[.slice A' n' c']] w fun e w' => ∃ A3 n3 c3 A4 n4 c4, e = .returned (.tuple #[.agg #[.slice A3 n3 c3], .agg #[.slice A4 n4 c4], .bool true]) ∧ DAt B64 w' A3 n3 c3 (x / y) ∧ DAt B64 w' A4 n4 c4 (x % y) ∧ Below w.heap.size w w' := by
  have hxl := hx.lt two_le_B64
  have hyl := hy.lt two_le_B64
  have hy0 : 0 < y := Nat.lt_of_lt_of_le (by decide) hyB
  have hyg := hy.ge two_le_B64 hy0
  have hn2 : 2 ≤ n' := by
    rcases Nat.lt_or_ge n' 2 with h | h
    · exfalso
      have h1 : B64 ^ n' ≤ B64 ^ 1 := Nat.pow_le_pow_right (by decide) (by omega)
      rw [Nat.pow_one] at h1
      omega
    · exact h
  have hnn : n' ≤ n := hy.le two_le_B64 (Nat.lt_of_le_of_lt hyx hxl)
  obtain ⟨d, s, hd, hdB, hb1, hb2, hs, hVl, hVg⟩ := top_up (by omega) hyl hyg
  obtain ⟨gy, oy, rfl, hgy, hyc⟩ := hy.flat two_le_B64 (by omega)
  have hyc0 := hyc (n' - 1) (by omega)
  rw [← hd] at hyc0
  have hcmp : ¬ cmpI x y < 0 := by unfold cmpI; rw [if_neg (by omega)]; split <;> omega
  have hs64 : s < 64 := by omega
  have hlz := fun wq : World => lz64_any d hdB wq
  rw [show (64 - ((bl d : Nat) : Int)) = (s : Int) by omega] at hlz
  have hp : 0 < 2 ^ s := Nat.two_pow_pos s
  have hx0 : 0 < x := Nat.lt_of_lt_of_le hy0 hyx
  have hUl : x * 2 ^ s < B64 ^ (n + 1) := by
    rw [Nat.pow_succ]
    exact Nat.mul_lt_mul_of_lt_of_le hxl (by rw [B64_pow]; exact Nat.pow_le_pow_right (by omega) (by omega)) (by decide)
  have hUV : x * 2 ^ s < y * 2 ^ s * B64 ^ (n + 1 - n') := by
    rw [Nat.mul_right_comm]
    refine Nat.mul_lt_mul_of_pos_right ?_ hp
    refine Nat.lt_of_lt_of_le hxl ?_
    have h1 : B64 ^ (n' - 1) * B64 ^ (n + 1 - n') ≤ y * B64 ^ (n + 1 - n') := Nat.mul_le_mul_right _ hyg
    rw [← Nat.pow_add, show n' - 1 + (n + 1 - n') = n by omega] at h1
    exact h1
  have hq : x * 2 ^ s / (y * 2 ^ s) = x / y := Nat.mul_div_mul_right _ _ hp
  have hr : x * 2 ^ s % (y * 2 ^ s) / 2 ^ s = x % y := by rw [Nat.mul_mod_mul_right, Nat.mul_div_cancel _ hp]
  have hmain := divmod_walk A n c x gy oy n' c' y d s (y * 2 ^ s) (x * 2 ^ s) (cmpI x y) w hx hy hn hn' hn2 hnn hs64 hVg hUV
    (fun wq h1 h2 => cmp_any A n c x _ n' c' y wq h1 h2 hn hn') hcmp hgy hyc0 hlz
    (fun wq h => left_top _ n' c' y s _ rfl hVl hVg hs64 hn2 hn' wq h)
    (fun wq h => left_up A n c x s _ rfl hUl (Nat.mul_pos hx0 hp) hs64 hn wq h)
  rw [hq, hr] at hmain
  exact hmain

theorem divmod_any (A : Option Addr) (n c x : Nat) (A' : Option Addr) (n' c' y : Nat) (w : World) (hx : DAt B64 w A n c x) (hy : DAt B64 w A' n' c' y) (hn : n ≤ 1099511627776) (hn' : n' ≤ 1099511627776) :
    Calls Tryz.prog 45 #[.agg #[.slice A n c], .agg #[.slice A' n' c']] w fun e w' => ∃ A3 n3 c3 A4 n4 c4, e = .returned (.tuple #[.agg #[.slice A3 n3 c3], .agg #[.slice A4 n4 c4], .bool (nz y)]) ∧ DAt B64 w' A3 n3 c3 (x / y) ∧ DAt B64 w' A4 n4 c4 (modOf x y) ∧ Below w.heap.size w w' := by
  by_cases hs : y = 0 ∨ x < y ∨ y < B64
  · exact divmod_small A n c x A' n' c' y w hx hy hn hn' hs
  · have h0 : 0 < y := by omega
    rw [modOf_pos h0, nz_pos h0]
    exact divmod_main A n c x A' n' c' y w hx hy hn hn' (by omega) (by omega)

theorem DAt.len_le {w w' : World} {A A' : Option Addr} {n c x n' c' y : Nat} (h : DAt B64 w A n c x) (h' : DAt B64 w' A' n' c' y) (hxy : x ≤ y) : n ≤ n' :=
  h.le two_le_B64 (Nat.lt_of_le_of_lt hxy (h'.lt two_le_B64))

structure GcRel (w0 : World) (n0 G : Nat) (A : Option Addr) (n c x : Nat) (A' : Option Addr) (n' c' y : Nat) (wr : World) : Prop where
  bx : wr.cell? ⟨w0.heap.size, 0, none⟩ = some (.slice A n c)
  by_ : wr.cell? ⟨w0.heap.size + 1, 0, none⟩ = some (.slice A' n' c')
  fx : wr.frozen? ⟨w0.heap.size, 0, none⟩ = false
  fy : wr.frozen? ⟨w0.heap.size + 1, 0, none⟩ = false
  b4 : wr.cell? ⟨w0.heap.size + 1 + 1, 0, none⟩ = some (.slice none 0 0)
  f4 : wr.frozen? ⟨w0.heap.size + 1 + 1, 0, none⟩ = false
  dx : DAt B64 wr A n c x
  dy : DAt B64 wr A' n' c' y
  nx : n ≤ n0
  ny : n' ≤ n0
  eq : Nat.gcd x y = G
  bel : Below w0.heap.size w0 wr
  sz : w0.heap.size + 1 + 1 + 1 ≤ wr.heap.size
section

variable {w0 wr w1 : World} {n0 G : Nat} {A A' : Option Addr} {n c x n' c' y : Nat}
theorem GcRel.start {w : World} (hx : DAt B64 w A n c x) (hy : DAt B64 w A' n' c' y) (hn : n ≤ n0) (hn' : n' ≤ n0) :
    GcRel w n0 (Nat.gcd x y) A n c x A' n' c' y (((w.alloc (.cells #[.slice A n c] 26)).alloc (.cells #[.slice A' n' c'] 26)).alloc (.cells #[.slice none 0 0] 26)) := by
  have c0 := ((Blk.new w 26 #[.slice A n c]).alloc (.cells #[.slice A' n' c'] 26)).alloc (.cells #[.slice none 0 0] 26)
  have c1 := (Blk.new (w.alloc (.cells #[.slice A n c] 26)) 26 #[.slice A' n' c']).alloc (.cells #[.slice none 0 0] 26)
  have c2 := (Blk.new ((w.alloc (.cells #[.slice A n c] 26)).alloc (.cells #[.slice A' n' c'] 26)) 26 #[.slice none 0 0])
  have hb : Below w.heap.size w (((w.alloc (.cells #[.slice A n c] 26)).alloc (.cells #[.slice A' n' c'] 26)).alloc (.cells #[.slice none 0 0] 26)) :=
    (((Below.refl _ _).alloc (Nat.le_refl _) _).alloc (by simp) _).alloc (by simp; omega) _
  simp only [World.size_alloc] at c1 c2
  exact ⟨c0.cell 0, c1.cell 0, c0.frozen 0, c1.frozen 0, c2.cell 0, c2.frozen 0, hx.below hb, hy.below hb, hn, hn', rfl, hb, by simp⟩
theorem GcRel.below (h : GcRel w0 n0 G A n c x A' n' c' y wr) (hb : Below wr.heap.size wr w1) : GcRel w0 n0 G A n c x A' n' c' y w1 := by
  have h4 := h.sz
  have h5 := hb.size
  exact ⟨(hb.cell (by simp; omega)).trans h.bx, (hb.cell (by simp; omega)).trans h.by_, (hb.frozen (by simp; omega)).trans h.fx, (hb.frozen (by simp; omega)).trans h.fy, (hb.cell (by simp; omega)).trans h.b4, (hb.frozen (by simp; omega)).trans h.f4, h.dx.below hb, h.dy.below hb, h.nx, h.ny, h.eq, h.bel.trans (hb.mono (by omega)), by omega⟩
theorem GcRel.drew (h : GcRel w0 n0 G A n c x A' n' c' y wr) : GcRel w0 n0 G A n c x A' n' c' y wr.drew :=
  ⟨h.bx, h.by_, h.fx, h.fy, h.b4, h.f4, h.dx.drew, h.dy.drew, h.nx, h.ny, h.eq, h.bel.drew, h.sz⟩
theorem GcRel.next (h : GcRel w0 n0 G A n c x A' n' c' y wr) (hy : 0 < y) {A4 : Option Addr} {n4 c4 : Nat} (h4 : DAt B64 wr A4 n4 c4 (modOf x y)) :
    GcRel w0 n0 G A' n' c' y A4 n4 c4 (modOf x y) ((wr.setCell ⟨w0.heap.size, 0, none⟩ (.slice A' n' c')).setCell ⟨w0.heap.size + 1, 0, none⟩ (.slice A4 n4 c4)) := by
  rw [modOf_pos hy] at h4 ⊢
  have hs := h.sz
  have e1 : (wr.setCell ⟨w0.heap.size, 0, none⟩ (.slice A' n' c')).cell? ⟨w0.heap.size + 1, 0, none⟩ = some (.slice A' n' c') := by
    rw [World.cell?_setCell_other _ _ _ _ (by intro e; injection e; omega)]; exact h.by_
  refine ⟨?_, ?_, ?_, ?_, ?_, ?_, (h.dy.put h.bx _).put e1 _, (h4.put h.bx _).put e1 _, h.ny, ?_, ?_, (h.bel.setCell (Nat.le_refl _) _).setCell (by simp) _, ?_⟩
  · rw [World.cell?_setCell_other _ _ _ _ (by intro e; injection e; omega)]; exact World.cell?_setCell_same _ _ _ h.bx
  · exact World.cell?_setCell_same _ _ _ e1
  · rw [World.frozen?_setCell, World.frozen?_setCell]; exact h.fx
  · rw [World.frozen?_setCell, World.frozen?_setCell]; exact h.fy
  · rw [World.cell?_setCell_other _ _ _ _ (by intro e; injection e; omega), World.cell?_setCell_other _ _ _ _ (by intro e; injection e; omega)]; exact h.b4
  · rw [World.frozen?_setCell, World.frozen?_setCell]; exact h.f4
  · exact Nat.le_trans (DAt.len_le h4 h.dy (Nat.le_of_lt (Nat.mod_lt _ hy))) h.ny
  · rw [← h.eq, Nat.gcd_comm x y, Nat.gcd_rec y x, Nat.gcd_comm]
  · simpa [World.setCell] using hs
end

set_option maxRecDepth 100000 in
set_option maxHeartbeats 2000000 in
theorem gcd_any (A : Option Addr) (n c x : Nat) (A' : Option Addr) (n' c' y : Nat) (w : World) (hx : DAt B64 w A n c x) (hy : DAt B64 w A' n' c' y) (hn : n ≤ 1099511627776) (hn' : n' ≤ 1099511627776) :
    Calls Tryz.prog 105 #[.agg #[.slice A n c], .agg #[.slice A' n' c']] w fun e w' => ∃ A3 n3 c3, e = .returned (.agg #[.slice A3 n3 c3]) ∧ DAt B64 w' A3 n3 c3 (Nat.gcd x y) ∧ Below w.heap.size w w' := by
  have HR0 := Lib.hid (GcRel.start (n0 := 1099511627776) hx hy hn hn')
  clear hx hy
  obtain ⟨G, hG⟩ : ∃ G, G = Nat.gcd x y := ⟨_, rfl⟩
  rw [← hG] at HR0 ⊢
  clear hG hn hn'
  go_enter Tryz.func105, Tryz.ntmps105
  go_wp2_with fail
  generalize (((w.alloc (.cells #[.slice A n c] 26)).alloc (.cells #[.slice A' n' c'] 26)).alloc (.cells #[.slice none 0 0] 26)) = W at *
  go_loopg [7] y (fun k _ wr => ∃ A n c x A' n' c', GcRel w 1099511627776 G A n c x A' n' c' k wr)
  case atStart => exact ⟨_, _, _, _, _, _, _, HR0.out⟩
  case round =>
    clear HR0
    rename_i wr
    obtain ⟨A, n, c, x, A', n', c', hr⟩ := hrel
    have bx := hr.bx
    have bby := hr.by_
    rcases Nat.eq_zero_or_pos gk with hk | hk
    · subst hk
      have hz := (hr.dy.zero_len two_le_B64).2 rfl
      subst hz
      have b4 := hr.b4
      have f4 := hr.f4
      have he := hr.eq
      rw [Nat.gcd_zero_right] at he
      subst he
      have HF := Lib.hid (hr.dx.put b4 (.slice A n c))
      have HB := Lib.hid (hr.bel.setCell (p := ⟨w.heap.size + 1 + 1, 0, none⟩) (by simp; omega) (.slice A n c))
      clear hr
      go_wp2_with fail
      exact bodyPost_ret (v := .agg #[.slice A n c]) (by simp [results, Tryz.results105, go_sem, b4]) rfl ⟨_, _, _, rfl, HF.out, HB.out⟩
    · have hz : (0 : Int) < (n' : Int) := by have := (hr.dy.zero_len two_le_B64); omega
      have HR := Lib.hid hr
      clear hr
      go_wp2_with fail
      refine (divmod_any A n c x A' n' c' gk _ HR.out.dx HR.out.dy HR.out.nx HR.out.ny).mono ?_
      rintro e w1 ⟨A3, n3, c3, A4, n4, c4, rfl, hd3, hd4, hb1⟩
      have hr1 := HR.out.below hb1
      have hA : Below w1.heap.size w1 ((w1.alloc (.cells #[.slice A3 n3 c3] 26)).alloc (.cells #[.slice A4 n4 c4] 26)) := ((Below.refl _ _).alloc (Nat.le_refl _) _).alloc (by simp) _
      have hr2 := hr1.below hA
      have bx := hr2.bx
      have bby := hr2.by_
      have fx := hr2.fx
      have fy := hr2.fy
      have b6 : ((w1.alloc (.cells #[.slice A3 n3 c3] 26)).alloc (.cells #[.slice A4 n4 c4] 26)).cell? ⟨(w1.alloc (.cells #[.slice A3 n3 c3] 26)).heap.size, 0, none⟩ = some (.slice A4 n4 c4) := (Blk.new (w1.alloc (.cells #[.slice A3 n3 c3] 26)) 26 #[.slice A4 n4 c4]).cell 0
      rw [World.size_alloc] at b6
      have hszz : w.heap.size + 1 + 1 + 1 ≤ w1.heap.size := hr1.sz
      have s6 : ∀ v, (((w1.alloc (.cells #[.slice A3 n3 c3] 26)).alloc (.cells #[.slice A4 n4 c4] 26)).setCell ⟨w.heap.size, 0, none⟩ v).cell? ⟨w1.heap.size + 1, 0, none⟩ = some (.slice A4 n4 c4) := fun v => by
        rw [World.cell?_setCell_other _ _ _ _ (by intro e; injection e; omega)]; exact b6
      have sy : ∀ v, (((w1.alloc (.cells #[.slice A3 n3 c3] 26)).alloc (.cells #[.slice A4 n4 c4] 26)).setCell ⟨w.heap.size, 0, none⟩ v).cell? ⟨w.heap.size + 1, 0, none⟩ = some (.slice A' n' c') := fun v => by
        rw [World.cell?_setCell_other _ _ _ _ (by intro e; injection e; omega)]; exact bby
      have HN := Lib.hid (hr2.next hk (hd4.below hA))
      clear HR hb1 hr1 hd3 hd4 hA hr2
      go_wp2_with fail
      go_region
      go_wp2_with fail
      go_roundg (modOf x gk)
      case measure => rw [modOf_pos hk]; exact Nat.mod_lt _ hk
      case rel => exact ⟨_, _, _, _, _, _, _, (HN.out).drew⟩
end Go.Proofs.YtfgnleoaibcegaaGreat
