/-
  Walks and plain laws.
-/
import Derived.Test.YtfgnleoaibcegaaGreatXA6
set_option linter.unusedVariables false
set_option linter.unusedSimpArgs false
namespace Go.Proofs.YtfgnleoaibcegaaGreat

open Go.RowKit

theorem two_start3 {w w1 : World} {A A' : Option Addr} {n c x n' c' y : Nat} {l : List Nat} (hx : DAt B64 w A n c x) (hy : DAt B64 w A' n' c' y)
    (hw : ((w.alloc (.cells #[.slice A n c] 26)).alloc (.cells #[.slice A' n' c'] 26)).alloc (.cells #[.slice none 0 0] 26) = w1) :
    TwoRel w A n c x A' n' c' y w1.heap.size l (w1.alloc (.cells (dva l) 23)) := by
  have hs : w1.heap.size = w.heap.size + 3 := by rw [← hw]; simp
  have hb : Below w.heap.size w w1 := by
    rw [← hw]
    exact (((Below.refl _ _).alloc (Nat.le_refl _) _).alloc (by simp) _).alloc (by simp; omega) _
  have c0 : Blk w1 w.heap.size 26 #[.slice A n c] := by rw [← hw]; exact ((Blk.new w _ _).alloc _).alloc _
  have c1 : Blk w1 (w.heap.size + 1) 26 #[.slice A' n' c'] := by
    rw [← hw]; have := ((Blk.new (w.alloc (.cells #[.slice A n c] 26)) 26 #[.slice A' n' c']).alloc (.cells #[.slice none 0 0] 26)); simpa using this
  have c2 : Blk w1 (w.heap.size + 1 + 1) 26 #[.slice none 0 0] := by
    rw [← hw]; have := (Blk.new ((w.alloc (.cells #[.slice A n c] 26)).alloc (.cells #[.slice A' n' c'] 26)) 26 #[.slice none 0 0]); simpa using this
  exact ⟨hx, hy, (c0.alloc _).cell 0, (c1.alloc _).cell 0, (c2.alloc _).cell 0, (c2.alloc _).frozen 0, Dg.new _ _, hb.alloc (by omega) _, by omega⟩

theorem run_add0 (x y : Nat) (w : World) :
    (callFunc 93 #[.int .u64 (x : Int), .int .u64 (y : Int), .int .u64 0]).run Tryz.prog w = .ok (.value (.tuple #[.int .u64 ((lo64 (x + y) : Nat) : Int), .int .u64 ((hi64 (x + y) : Nat) : Int)])) w := run_add64' x y 0 (by omega) w

theorem wrap_nat {n : Nat} (h : n < B64) : IntKind.u64.wrap (n : Int) = (n : Int) := by
  rw [B64_eq] at h
  rw [IntKind.wrap_u64]; omega
theorem wrap_sum {p q r : Nat} (h : p + q + r < B64) : IntKind.u64.wrap (IntKind.u64.wrap ((p : Int) + (q : Int)) + (r : Int)) = ((p + q + r : Nat) : Int) := by
  have e1 : (p : Int) + (q : Int) = ((p + q : Nat) : Int) := by omega
  rw [e1, wrap_nat (by omega)]
  have e2 : ((p + q : Nat) : Int) + (r : Int) = ((p + q + r : Nat) : Int) := by omega
  rw [e2, wrap_nat h]

theorem TwoRel.xcell {w0 wr : World} {g off g' : Nat} {A' : Option Addr} {n c x n' c' y i : Nat} {l : List Nat} (h : TwoRel w0 (some ⟨g, off, none⟩) n c x A' n' c' y g' l wr) (hi : i < n) :
    wr.cell? ⟨g, off + i, none⟩ = some (.int .u64 ((x / B64 ^ i % B64 : Nat) : Int)) := by
  obtain ⟨g1, o1, e, hg, hc⟩ := h.dx0.flat two_le_B64 (by omega)
  injection e with e; injection e with e1 e2; subst e1; subst e2
  rw [h.bel.cell hg]; exact hc i hi
theorem TwoRel.ycell {w0 wr : World} {g off g' : Nat} {A : Option Addr} {n c x n' c' y i : Nat} {l : List Nat} (h : TwoRel w0 A n c x (some ⟨g, off, none⟩) n' c' y g' l wr) (hi : i < n') :
    wr.cell? ⟨g, off + i, none⟩ = some (.int .u64 ((y / B64 ^ i % B64 : Nat) : Int)) := by
  obtain ⟨g1, o1, e, hg, hc⟩ := h.dy0.flat two_le_B64 (by omega)
  injection e with e; injection e with e1 e2; subst e1; subst e2
  rw [h.bel.cell hg]; exact hc i hi

set_option maxRecDepth 100000 in
set_option maxHeartbeats 2000000 in
theorem mul_any (A : Option Addr) (n c x : Nat) (A' : Option Addr) (n' c' y : Nat) (w : World) (hx : DAt B64 w A n c x) (hy : DAt B64 w A' n' c' y) (hn : n ≤ 1099511627776) (hn' : n' ≤ 1099511627776) :
    Calls Tryz.prog 43 #[.agg #[.slice A n c], .agg #[.slice A' n' c']] w fun e w' => ∃ A n c, e = .returned (.agg #[.slice A n c]) ∧ DAt B64 w' A n c (x * y) ∧ Below w.heap.size w w' := by
  have hmk := run_make_digits (n + n') (by omega)
  rw [show ((n + n' : Nat) : Int) = (n : Int) + (n' : Int) by omega] at hmk
  have HXL := Lib.hid (hx.lt two_le_B64); have HYL := Lib.hid (hy.lt two_le_B64)
  have hx0 : TwoRel w A n c x A' n' c' y (w.heap.size + 1 + 1 + 1) (List.replicate (n + n') 0) ((((w.alloc (.cells #[.slice A n c] 26)).alloc (.cells #[.slice A' n' c'] 26)).alloc (.cells #[.slice none 0 0] 26)).alloc (.cells (dva (List.replicate (n + n') 0)) 23)) := by
    have := two_start3 (l := List.replicate (n + n') 0) hx hy rfl
    simpa using this
  go_enter Tryz.func43, Tryz.ntmps43
  have HX0 := Lib.hid hx0
  clear hx0 hx hy
  go_wp2_with fail
  have hx0 := HX0.out
  clear HX0 hmk
  generalize (((w.alloc (.cells #[.slice A n c] 26)).alloc (.cells #[.slice A' n' c'] 26)).alloc (.cells #[.slice none 0 0] 26)).alloc (.cells (dva (List.replicate (n + n') 0)) 23) = W at hx0 ⊢
  generalize hg : w.heap.size + 1 + 1 + 1 = g at hx0 ⊢
  clear hg
  go_loopw [25] (fun iv wr => ∃ (i : Nat) (L : List Nat), i ≤ n ∧ iv = .int .i64 i ∧ L.length = n + n' ∧ MulOut x y i n' L ∧ TwoRel w A n c x A' n' c' y g L wr) (fun i _ => n - (intOf i).toNat)
  case atStart => exact ⟨0, _, by omega, rfl, by simp, MulOut.start x y n' _, hx0⟩
  case round =>
    clear hx0
    obtain ⟨i, L, hi, rfl, hL, hm, hr⟩ := hrel
    by_cases hlt : i < n
    · obtain ⟨gx, ox, rfl, -, -⟩ := hr.dx0.flat two_le_B64 (by omega)
      have hxc := hr.xcell hlt
      have hby := hr.by_
      have HM := Lib.hid hm.into
      have HLn := Lib.hid hL
      have hal : x / B64 ^ i % B64 < B64 := Nat.mod_lt _ (by decide)
      obtain ⟨a, ha⟩ : ∃ a, a = x / B64 ^ i % B64 := ⟨_, rfl⟩
      rw [← ha] at hxc hal
      have HA := Lib.hid ha
      clear ha hm hL
      obtain ⟨wo, hwo⟩ : ∃ wo : World, wo = wr := ⟨_, rfl⟩
      rw [← hwo] at hr hxc hby ⊢
      clear hwo
      go_wp2_with fail
      go_loopw [8, 33] (fun cv kv wq => ∃ (k cc : Nat) (L : List Nat), k ≤ n' ∧ kv = .int .i64 k ∧ cv = .int .u64 (cc : Int) ∧ L.length = n + n' ∧ MulIn x y i n' k cc L ∧ TwoRel w (some ⟨gx, ox, none⟩) n c x A' n' c' y g L wq) (fun _ k _ => n' - (intOf k).toNat)
      case atStart => exact ⟨0, 0, L, by omega, rfl, rfl, HLn.out, HM.out, hr⟩
      case round =>
        clear hr HM
        rename_i wq
        obtain ⟨k, cc, L, hk, rfl, rfl, hL, hm, hr⟩ := hrel
        by_cases hltk : k < n'
        · obtain ⟨gy, oy, rfl, -, -⟩ := hr.dy0.flat two_le_B64 (by omega)
          have hyc := hr.ycell hltk
          have hbl : y / B64 ^ k % B64 < B64 := Nat.mod_lt _ (by decide)
          have hdc := hr.dg.cell (i := i + k) (by omega)
          have hdf := hr.dg.frozen (i + k)
          have hdl := getD_lt two_le_B64 hm.dig (i + k)
          have hnx := hm.next hltk (by omega)
          have hcl := hm.cl
          have hrs := fun d => hr.set_ (i + k) d
          rw [← HA.out] at hnx
          generalize y / B64 ^ k % B64 = b at *
          generalize L.getD (i + k) 0 = d at *
          have hov := mul_bound hal hbl hdl hcl
          have HNX := Lib.hid hnx; have HRS := Lib.hid hrs
          clear hnx hrs hm
          have hadd := run_add0
          have hk0 : (0 : Int) ≤ (i : Int) + (k : Int) := by omega
          go_wp2_with (go_at_call 92; refine (mul64_any a b hal hbl _).mono ?_; rintro e w1 ⟨rfl, rfl⟩)
          go_roundw
          case rel => exact ⟨k + 1, _, _, by omega, by go_num, by rw [wrap_sum hov.1]; rfl, by rw [List.length_set]; exact hL, HNX.out, HRS.out _⟩
          case measure => simp [intOf]; omega
        · obtain rfl : n' = k := by omega
          have hdone := hm.done HYL.out (by omega)
          have hrs := hr.set_ (i + n') cc
          have hdc := hr.dg.cell (i := i + n') (by omega)
          have hdf := hr.dg.frozen (i + n')
          have hby := hr.by_
          have HD := Lib.hid hdone; have HRS := Lib.hid hrs
          generalize L.getD (i + n') 0 = d at hdc
          clear hdone hrs hm hr
          have hk0 : (0 : Int) ≤ (i : Int) + (n' : Int) := by omega
          go_wp2_with fail
          go_roundw
          case rel => exact ⟨i + 1, _, by omega, by go_num, by rw [List.length_set]; exact hL, HD.out, HRS.out⟩
          case measure => simp [intOf]; omega
    · obtain rfl : n = i := by omega
      have hv : val B64 L = x * y := by rw [hm.eq, Nat.mod_eq_of_lt HXL.out]
      have hdig := hm.dig
      have HV := Lib.hid hv
      clear hv hm
      go_wp2_with fail
      refine (trim_at g L (n + n') (n + n') _ hr.dg hdig hL (Nat.le_refl _) (by unfold maxLen; omega)).mono ?_
      rintro e w3 ⟨A3, n3, c3, rfl, hd3, hb3⟩
      rw [HV.out] at hd3
      have hr3 := hr.below hb3
      have r1 := hr3.br
      have r2 := hr3.fr
      have HF := Lib.hid (hd3.put r1 (.slice A3 n3 c3))
      have HB := Lib.hid (hr3.bel.setCell (p := ⟨w.heap.size + 1 + 1, 0, none⟩) (by simp; omega) (.slice A3 n3 c3))
      clear hd3 hb3 hr hr3 hL
      go_wp2
      exact bodyPost_ret (v := .agg #[.slice A3 n3 c3]) (by simp [results, Tryz.results43, go_sem, r1]) rfl ⟨_, _, _, rfl, HF.out, HB.out⟩
end Go.Proofs.YtfgnleoaibcegaaGreat
