/-
  Walks and plain laws, put together: C0 C1 C2 C3 C4 C5 C6 C7 C8 C9 CA RR RS RT CB CC CD CE RU CF.
-/
import Derived.Test.YtfgnleoaibcegaaGreatXAW
import Derived.Test.YtfgnleoaibcegaaGreatXAX
import Derived.Deep.QuietTactic
import Derived.BigQuiet
import Derived.Test.YtfgnleoaibcegaaGreatXA9
import Derived.Test.YtfgnleoaibcegaaGreatXAC
import Derived.Test.YtfgnleoaibcegaaGreatXAO
import Derived.Below
import Derived.Orders
import Derived.Tactics
import Derived.KernelRfl
import Derived.Test.YtfgnleoaibcegaaGreatXR
import Derived.Deep.RegionHeld3
import Derived.Test.YtfgnleoaibcegaaGreatXAQ
import Derived.Test.YtfgnleoaibcegaaGreatXAU
set_option linter.unusedVariables false
set_option linter.unusedSimpArgs false
namespace Go.Proofs.YtfgnleoaibcegaaGreat.Ref

open Go.RowKit

theorem B32_pow : B32 = 2 ^ 32 := by decide
theorem B32_pow_two (k : Nat) : B32 ^ k = 2 ^ (32 * k) := by rw [B32_pow, ← Nat.pow_mul]
def lo (n : Nat) : Nat := n % B32
def hi (n : Nat) : Nat := n / B32
theorem lo_hi (n : Nat) : lo n + B32 * hi n = n := Nat.mod_add_div n B32
theorem lo_lt (n : Nat) : lo n < B32 := Nat.mod_lt _ (by decide)
structure Wd (z : Int) (s : Nat) : Prop where
  wrap : IntKind.u64.wrap z = (s : Int)
  lt : s < B64
theorem Wd.of {z : Int} {s : Nat} (e : z = (s : Int)) (h : s < B64) : Wd z s := ⟨by rw [e]; exact wrap_nat h, h⟩
theorem rem_lo {s : Nat} : (s : Int).tmod 4294967296 = ((lo s : Nat) : Int) := by
  unfold lo; rw [B32_eq, Int.tmod_eq_emod_of_nonneg (by omega)]; omega
theorem quo_hi {s : Nat} : (s : Int).tdiv 4294967296 = ((hi s : Nat) : Int) := by
  unfold hi; rw [B32_eq, Int.tdiv_eq_ediv_of_nonneg (by omega)]; omega
theorem wrap_hi {s : Nat} (h : s < B64) : IntKind.u64.wrap ((hi s : Nat) : Int) = ((hi s : Nat) : Int) := wrap_nat (Nat.lt_of_le_of_lt (Nat.div_le_self _ _) h)
theorem wrap_lo {s : Nat} : IntKind.u64.wrap ((lo s : Nat) : Int) = ((lo s : Nat) : Int) := wrap_nat (Nat.lt_trans (lo_lt _) (by decide))

set_option maxHeartbeats 400000 in
theorem trim_own (g : Nat) (l : List Nat) (c : Nat) (w : World) (h : Dg w g l) (hd : ∀ d ∈ l, d < B32) (hl : l.length ≤ c) (hc : c ≤ maxLen) :
    Calls Tryz.prog 65 #[.slice (some ⟨g, 0, none⟩) l.length c] w fun e w' => ∃ m : Nat, e = .returned (.agg #[.slice (some ⟨g, 0, none⟩) m c]) ∧ m ≤ l.length ∧ digs B32 (val B32 l) = l.take m ∧ Below w.heap.size w w' := by
  have hc' := hc
  unfold maxLen at hc
  have hlt := h.lt
  have hb : Below w.heap.size w (w.alloc (.cells #[.slice none 0 0] 30)) := (Below.refl _ _).alloc (Nat.le_refl _) _
  have h1 := h.below hb hlt
  have HB := Lib.hid hb
  clear hb
  go_enter Tryz.func65, Tryz.ntmps65
  go_wp2
  go_loop [3] (fun v => ∃ m : Nat, m ≤ l.length ∧ v = .int .i64 m ∧ val B32 (l.take m) = val B32 l) (fun v => (intOf v).toNat)
  case atStart => exact ⟨l.length, Nat.le_refl _, rfl, by rw [List.take_length]⟩
  case round =>
    obtain ⟨m, hm, rfl, hz⟩ := hrel
    have HZ := Lib.hid hz
    have HD := Lib.hid hd
    clear hz hd
    by_cases hm0 : 0 < m
    · have hcell := h1.cell (i := m - 1) (by omega)
      have b1 : decide ((0 : Int) < (m : Int)) = true := decide_eq_true (by omega)
      have b1n : decide (0 < m) = true := decide_eq_true (by omega)
      have b2 : (0 : Int) ≤ (m : Int) - 1 := by omega
      have b3 : (m : Int) ≤ (c : Int) := by omega
      have H := Lib.hid h1
      clear h h1
      by_cases hd0 : l.getD (m - 1) 0 = 0
      · have HD0 := Lib.hid hd0
        rw [hd0] at hcell
        clear hd0
        go_wp2
        refine ⟨⟨m - 1, by omega, by go_num, ?_⟩, ?_⟩
        · exact take_drop_zero (by omega) HD0.out (by rw [Nat.sub_add_cancel (by omega)]; exact HZ.out)
        · simp [intOf]; omega
      · have hne : (((l.getD (m - 1) 0 : Nat) : Int) == 0) = false := by rw [beq_eq_false_iff_ne]; omega
        have HD0 := Lib.hid hd0
        clear hd0
        generalize hx : l.getD (m - 1) 0 = x at hcell hne
        clear hx
        go_wp2
        exact bodyPost_ret (v := .agg #[.slice (some ⟨g, 0, none⟩) m c]) (by simp [results, Tryz.results65, go_sem]) rfl ⟨_, rfl, hm, digs_take two_le_B32 HD.out hm HZ.out (.inr HD0.out), (Below.refl _ _).alloc (Nat.le_refl _) _⟩
    · obtain rfl : m = 0 := by omega
      have b1 : decide ((0 : Int) < ((0 : Nat) : Int)) = false := by decide
      go_wp2
      exact bodyPost_ret (v := .agg #[.slice (some ⟨g, 0, none⟩) 0 c]) (by simp [results, Tryz.results65, go_sem]) rfl ⟨_, rfl, hm, digs_take two_le_B32 HD.out hm HZ.out (.inl rfl), (Below.refl _ _).alloc (Nat.le_refl _) _⟩
set_option maxHeartbeats 400000 in
theorem trim_none (c : Nat) (w : World) : Calls Tryz.prog 65 #[.slice none 0 c] w fun e w' => e = .returned (.agg #[.slice none 0 c]) ∧ Below w.heap.size w w' := by
  go_enter Tryz.func65, Tryz.ntmps65
  go_wp2
  go_loop [3] (fun v => v = .int .i64 0) (fun _ => 0)
  case atStart => rfl
  case round =>
    subst hrel
    go_wp2
    exact bodyPost_ret (v := .agg #[.slice none 0 c]) (by simp [results, Tryz.results65, go_sem]) rfl ⟨rfl, (Below.refl _ _).alloc (Nat.le_refl _) _⟩

theorem trim_td (base : Nat) (A : Option Addr) (L : List Nat) (n c x : Nat) (w : World) (h : Td base w A n c L) (hd : ∀ d ∈ L, d < B32) (hx : val B32 L = x) :
    Calls Tryz.prog 65 #[.slice A n c] w fun e w' => ∃ m : Nat, e = .returned (.agg #[.slice A m c]) ∧ m ≤ n ∧ DAt B32 w' A m c x ∧ Below w.heap.size w w' := by
  rcases h.at_ with ⟨rfl, h0⟩ | ⟨g, rfl, hg, hdg⟩
  · have hL : L = [] := List.eq_nil_of_length_eq_zero (by rw [h.len]; exact h0)
    subst h0
    subst hL
    subst hx
    refine (trim_none c w).mono ?_
    rintro e w' ⟨rfl, hb⟩
    exact ⟨0, rfl, Nat.le_refl _, DAt.zero c h.room, hb⟩
  · have hlen := h.len
    subst hlen
    refine (trim_own g L c w hdg hd h.cap h.room).mono ?_
    rintro e w' ⟨m, rfl, hm, hdig, hb⟩
    rw [hx] at hdig
    refine ⟨m, rfl, hm, ⟨by rw [hdig]; exact (hdg.below hb hdg.lt).reads m hm, Nat.le_trans hm h.cap, h.room⟩, hb⟩
theorem Td.of_dg {base n c g : Nat} {w : World} {L : List Nat} (h : Dg w g L) (hl : L.length = n) (hg : base ≤ g) (hn : n ≤ c) (hc : c ≤ maxLen) : Td base w (some ⟨g, 0, none⟩) n c L := ⟨hl, hn, hc, .inr ⟨g, rfl, hg, h⟩⟩

theorem two_val (d : Nat) : val B32 [lo d, hi d] = d := by
  have := lo_hi d
  simp only [val]; omega
theorem hi_lt {d : Nat} (h : d < B64) : hi d < B32 := by
  unfold hi; rw [B32_eq]; rw [B64_eq] at h; omega
theorem Dg.two (w : World) (d e : Nat) : Dg (w.alloc (.cells #[.int .u64 (d : Int), .int .u64 (e : Int)] 23)) w.heap.size [d, e] := Dg.new w [d, e]

structure Res (w0 : World) (r : Nat) (wr : World) : Prop where
  br : wr.cell? ⟨r, 0, none⟩ = some (.slice none 0 0)
  fr : wr.frozen? ⟨r, 0, none⟩ = false
  bel : Below w0.heap.size w0 wr
  hr : w0.heap.size ≤ r
  lt : r < wr.heap.size
theorem Res.go {w0 wr w1 : World} {r B : Nat} (h : Res w0 r wr) (hB : r < B) (hb : Below B wr w1) : Res w0 r w1 :=
  ⟨(hb.cell hB).trans h.br, (hb.frozen hB).trans h.fr, h.bel.trans (hb.mono (by have := h.hr; omega)), h.hr, Nat.lt_of_lt_of_le h.lt hb.size⟩
theorem Res.below {w0 wr w1 : World} {r : Nat} (h : Res w0 r wr) (hb : Below wr.heap.size wr w1) : Res w0 r w1 := h.go h.lt hb
theorem Res.start (w : World) : Res w w.heap.size (w.alloc (.cells #[.slice none 0 0] 30)) :=
  ⟨(Blk.new w _ _).cell 0, (Blk.new w _ _).frozen 0, (Below.refl _ _).alloc (Nat.le_refl _) _, Nat.le_refl _, by simp⟩
theorem Res.al {w0 wr : World} {r : Nat} (h : Res w0 r wr) (o : Obj) : Res w0 r (wr.alloc o) := h.below ((Below.refl _ _).alloc (Nat.le_refl _) _)
theorem Res.fin {w0 wr : World} {r : Nat} (h : Res w0 r wr) {A : Option Addr} {n c x : Nat} (hd : DAt B32 wr A n c x) :
    DAt B32 (wr.setCell ⟨r, 0, none⟩ (.slice A n c)) A n c x ∧ Below w0.heap.size w0 (wr.setCell ⟨r, 0, none⟩ (.slice A n c)) :=
  ⟨hd.put h.br _, h.bel.setCell h.hr _⟩

set_option maxHeartbeats 400000 in
theorem of_any (d : Nat) (hd : d < B64) (w : World) :
    Calls Tryz.prog 16 #[.int .u64 (d : Int)] w fun e w' => ∃ A n c', e = .returned (.agg #[.slice A n c']) ∧ DAt B32 w' A n c' d ∧ n ≤ 2 ∧ Below w.heap.size w w' := by
  have f1 := rem_lo (s := d)
  have f2 := quo_hi (s := d)
  have f3 := wrap_hi hd
  have f4 := wrap_lo (s := d)
  have hv := two_val d
  have hl : ∀ e ∈ [lo d, hi d], e < B32 := by
    intro e he
    simp at he
    rcases he with rfl | rfl
    · exact lo_lt _
    · exact hi_lt hd
  have hg : Dg ((w.alloc (.cells #[.slice none 0 0] 30)).alloc (.cells #[.int .u64 ((lo d : Nat) : Int), .int .u64 ((hi d : Nat) : Int)] 23)) (w.heap.size + 1) [lo d, hi d] := by have := Dg.two (w.alloc (.cells #[.slice none 0 0] 30)) (lo d) (hi d); simpa using this
  have HR := Lib.hid ((Res.start w).al (.cells #[.int .u64 ((lo d : Nat) : Int), .int .u64 ((hi d : Nat) : Int)] 23))
  generalize lo d = p at *
  generalize hi d = q at *
  have HV := Lib.hid hv; have HL := Lib.hid hl
  clear hv hl
  go_enter Tryz.func16, Tryz.ntmps16
  go_wp2_with fail
  refine (trim_td 0 _ [p, q] 2 2 d _ (Td.of_dg hg rfl (by omega) (by omega) (by unfold maxLen; omega)) HL.out HV.out).mono ?_
  rintro e w1 ⟨m, rfl, hm, hd1, hb1⟩
  have hr := HR.out.below hb1
  have r1 := hr.br
  have r2 := hr.fr
  have HF := Lib.hid (hr.fin hd1)
  clear hd1 hb1 hg hr f1 f2 f3 f4
  go_wp2
  exact bodyPost_ret (v := .agg #[.slice (some ⟨w.heap.size + 1, 0, none⟩) m 2]) (by simp [results, Tryz.results16, go_sem, r1]) rfl ⟨_, _, _, rfl, HF.out.1, hm, HF.out.2⟩

def dig (x i : Nat) : Nat := x / B32 ^ i % B32
theorem dig_lt (x i : Nat) : dig x i < B32 := Nat.mod_lt _ (by decide)
set_option maxHeartbeats 400000 in
theorem digit_any (A : Option Addr) (n c x i : Nat) (w : World) (h : DAt B32 w A n c x) :
    Calls Tryz.prog 102 #[.slice A n c, .int .i64 (i : Int)] w fun e w' => e = .returned (.int .u64 ((dig x i : Nat) : Int)) ∧ w = w' := by
  have b0 : decide ((i : Int) < 0) = false := decide_eq_false (by omega)
  by_cases hi : i < n
  · obtain ⟨g, off, rfl, hg, hc⟩ := h.flat two_le_B32 (by omega)
    have hc1 := hc i hi
    have b1 : decide ((n : Int) ≤ (i : Int)) = false := decide_eq_false (by omega)
    have b2 : decide (n ≤ i) = false := decide_eq_false (by omega)
    rw [show x / B32 ^ i % B32 = dig x i from rfl] at hc1
    generalize dig x i = d at *
    clear hc h
    go_enter Tryz.func102, Tryz.ntmps102
    go_wp2
    go_ret
    exact ⟨rfl, rfl⟩
  · have hz : dig x i = 0 := by
      unfold dig
      rw [Nat.div_eq_of_lt (Nat.lt_of_lt_of_le (h.lt two_le_B32) (Nat.pow_le_pow_right (by decide) (by omega)))]; rfl
    have b1 : decide ((n : Int) ≤ (i : Int)) = true := decide_eq_true (by omega)
    have b2 : decide (n ≤ i) = true := decide_eq_true (by omega)
    rw [hz]
    clear hz h
    go_enter Tryz.func102, Tryz.ntmps102
    go_wp2
    go_ret
    exact ⟨rfl, rfl⟩
theorem digit_int (A : Option Addr) (n c x : Nat) (i : Int) (h0 : 0 ≤ i) (w : World) (h : DAt B32 w A n c x) :
    Calls Tryz.prog 102 #[.slice A n c, .int .i64 i] w fun e w' => e = .returned (.int .u64 ((dig x i.toNat : Nat) : Int)) ∧ w = w' := by
  obtain ⟨k, rfl⟩ := Int.eq_ofNat_of_zero_le h0
  rw [Int.toNat_natCast]
  exact digit_any A n c x k w h

set_option maxHeartbeats 400000 in
theorem zero_any (A : Option Addr) (n c x : Nat) (w : World) (h : DAt B32 w A n c x) :
    Calls Tryz.prog 64 #[.agg #[.slice A n c]] w fun e w' => e = .returned (.bool (decide (x = 0))) ∧ Below w.heap.size w w' := by
  have hz : ((n : Int) == 0) = decide (x = 0) := by
    have := h.zero_len two_le_B32
    rw [Bool.eq_iff_iff]; simp; omega
  have hz2 : (n == 0) = decide (x = 0) := by
    have := h.zero_len two_le_B32
    rw [Bool.eq_iff_iff]; simp; omega
  generalize decide (x = 0) = b at *
  clear h
  go_enter Tryz.func64, Tryz.ntmps64
  go_wp2
  go_ret
  exact ⟨rfl, (Below.refl _ _).alloc (Nat.le_refl _) _⟩

end Go.Proofs.YtfgnleoaibcegaaGreat.Ref

namespace Go.Proofs.YtfgnleoaibcegaaGreat

open Go.RowKit
theorem DAt.old {b : Nat} {w w' : World} {B : Nat} {A : Option Addr} {n c x : Nat} (h : DAt b w A n c x) (hA : ∀ a, A = some a → 0 < n → a.block < B) (hs : w.heap.size ≤ w'.heap.size) (hk : ∀ p : Addr, p.block < B → w'.cell? p = w.cell? p) : DAt b w' A n c x := by
  refine ⟨⟨h.reads.1, fun hn => ?_⟩, h.cap, h.room⟩
  obtain ⟨ad, e, hb, hc⟩ := h.reads.2 hn
  exact ⟨ad, e, Nat.lt_of_lt_of_le hb hs, fun j v hv => (hk _ (by rw [block_of_add]; exact hA ad e hn)).trans (hc j v hv)⟩
theorem DAt.olds {b : Nat} {w : World} {A : Option Addr} {n c x : Nat} (h : DAt b w A n c x) : ∀ a, A = some a → 0 < n → a.block < w.heap.size := by
  intro a e hn
  obtain ⟨ad, e', hb, _⟩ := h.reads.2 hn
  rw [e'] at e; injection e with e; subst e; exact hb
namespace Ref

structure CmpRel (w0 : World) (A : Option Addr) (n c x : Nat) (A' : Option Addr) (n' c' y : Nat) (wr : World) : Prop where
  dx : DAt B32 wr A n c x
  dy : DAt B32 wr A' n' c' y
  bx : wr.cell? ⟨w0.heap.size, 0, none⟩ = some (.slice A n c)
  by_ : wr.cell? ⟨w0.heap.size + 1, 0, none⟩ = some (.slice A' n' c')
  bel : Below w0.heap.size w0 wr
theorem CmpRel.start {w : World} {A : Option Addr} {n c x : Nat} {A' : Option Addr} {n' c' y : Nat} (hx : DAt B32 w A n c x) (hy : DAt B32 w A' n' c' y) :
    CmpRel w A n c x A' n' c' y ((w.alloc (.cells #[.slice A n c] 30)).alloc (.cells #[.slice A' n' c'] 30)) := by
  have hb : Below w.heap.size w ((w.alloc (.cells #[.slice A n c] 30)).alloc (.cells #[.slice A' n' c'] 30)) := ((Below.refl _ _).alloc (Nat.le_refl _) _).alloc (by simp) _
  exact ⟨hx.below hb, hy.below hb, ((Blk.new w 30 #[.slice A n c]).alloc _).cell 0, by have := (Blk.new (w.alloc (.cells #[.slice A n c] 30)) 30 #[.slice A' n' c']).cell 0; simp at this; simp [this], hb⟩

set_option maxRecDepth 100000 in
set_option maxHeartbeats 1000000 in
theorem cmp_any (A : Option Addr) (n c x : Nat) (A' : Option Addr) (n' c' y : Nat) (w : World) (hx : DAt B32 w A n c x) (hy : DAt B32 w A' n' c' y) (hn : n ≤ 1099511627776) (hn' : n' ≤ 1099511627776) :
    Calls Tryz.prog 66 #[.agg #[.slice A n c], .agg #[.slice A' n' c']] w fun e w' => e = .returned (.int .i64 (cmpI x y)) ∧ Below w.heap.size w w' := by
  obtain ⟨N, hN⟩ : ∃ N, max n n' = N := ⟨_, rfl⟩
  have hN1 : n ≤ N := by omega
  have hN2 : n' ≤ N := by omega
  have hNb : N ≤ 1099511627776 := by omega
  have h0 : x / B32 ^ N = y / B32 ^ N := by
    rw [Nat.div_eq_of_lt (Nat.lt_of_lt_of_le (hx.lt two_le_B32) (Nat.pow_le_pow_right (by decide) hN1)), Nat.div_eq_of_lt (Nat.lt_of_lt_of_le (hy.lt two_le_B32) (Nat.pow_le_pow_right (by decide) hN2))]
  have hr0 := CmpRel.start hx hy
  have hmx : max (n : Int) (n' : Int) = (N : Int) := by omega
  have H0 := Lib.hid h0
  clear h0 hx hy hN
  go_enter Tryz.func66, Tryz.ntmps66
  go_wp2
  clear hmx
  generalize (w.alloc (.cells #[.slice A n c] 30)).alloc (.cells #[.slice A' n' c'] 30) = W at hr0 ⊢
  go_loop [5, 6, 7] (fun v _ _ => ∃ i : Int, -1 ≤ i ∧ i < N ∧ v = .int .i64 i ∧ x / B32 ^ (i + 1).toNat = y / B32 ^ (i + 1).toNat) (fun v _ _ => (intOf v + 1).toNat)
  case atStart => exact ⟨(N : Int) - 1, by omega, by omega, rfl, by rw [show ((N : Int) - 1 + 1).toNat = N by omega]; exact H0.out⟩
  case round =>
    obtain ⟨i, hi1, hi2, rfl, he⟩ := hrel
    have hbx := hr0.bx
    have hby := hr0.by_
    by_cases hi : 0 ≤ i
    · obtain ⟨m, rfl⟩ := Int.eq_ofNat_of_zero_le hi
      rw [show ((m : Int) + 1).toNat = m + 1 by omega] at he
      have hlt := fun h => lt_of_digit (b := B32) two_le_B32 he h
      have hgt := fun h => lt_of_digit (b := B32) two_le_B32 he.symm h
      have heq := fun h => eq_of_digit (b := B32) two_le_B32 he h
      have dxm := digit_any A n c x m W hr0.dx
      have dym := digit_any A' n' c' y m W hr0.dy
      rw [show x / B32 ^ m % B32 = dig x m from rfl, show y / B32 ^ m % B32 = dig y m from rfl] at hlt hgt heq
      generalize dig x m = p at *
      generalize dig y m = q at *
      have HLT := Lib.hid hlt; have HGT := Lib.hid hgt; have HEQ := Lib.hid heq
      have DX := Lib.hid dxm; have DY := Lib.hid dym
      clear hlt hgt heq he dxm dym
      by_cases h1 : p < q
      · have HC := Lib.hid (cmp_lt (HLT.out h1))
        have hd : decide ((p : Int) < (q : Int)) = true := decide_eq_true (by omega)
        have hd2 : decide (p < q) = true := by simp; omega
        go_wp2_with (first | (go_at_call 102; (with_reducible refine DX.out.mono ?_); rintro e w' ⟨rfl, rfl⟩) | (go_at_call 102; (with_reducible refine DY.out.mono ?_); rintro e w' ⟨rfl, rfl⟩))
        go_ret
        exact ⟨by rw [HC.out]; rfl, hr0.bel⟩
      · by_cases h2 : q < p
        · have HC := Lib.hid (cmp_gt (HGT.out h2))
          have hd : decide ((p : Int) < (q : Int)) = false := decide_eq_false (by omega)
          have hd2 : decide (p < q) = false := by simp; omega
          have hd3 : decide ((q : Int) < (p : Int)) = true := decide_eq_true (by omega)
          have hd4 : decide (q < p) = true := by simp; omega
          go_wp2_with (first | (go_at_call 102; (with_reducible refine DX.out.mono ?_); rintro e w' ⟨rfl, rfl⟩) | (go_at_call 102; (with_reducible refine DY.out.mono ?_); rintro e w' ⟨rfl, rfl⟩))
          go_ret
          exact ⟨by rw [HC.out]; rfl, hr0.bel⟩
        · have hpq : p = q := by omega
          have HE := Lib.hid (HEQ.out hpq)
          have hd : decide ((p : Int) < (q : Int)) = false := decide_eq_false (by omega)
          have hd2 : decide (p < q) = false := by simp; omega
          have hd3 : decide ((q : Int) < (p : Int)) = false := decide_eq_false (by omega)
          have hd4 : decide (q < p) = false := by simp; omega
          clear hpq
          go_wp2_with (first | (go_at_call 102; (with_reducible refine DX.out.mono ?_); rintro e w' ⟨rfl, rfl⟩) | (go_at_call 102; (with_reducible refine DY.out.mono ?_); rintro e w' ⟨rfl, rfl⟩))
          go_round
          case rel => exact ⟨(m : Int) - 1, by omega, by omega, rfl, by rw [show ((m : Int) - 1 + 1).toNat = m by omega]; exact HE.out⟩
          case measure => simp [intOf]
    · have hi0 : i = -1 := by omega
      have hxy : x = y := by rw [hi0] at he; simpa using he
      subst hi0
      have HXY := Lib.hid hxy
      clear he hxy
      go_wp2
      go_ret
      exact ⟨by rw [HXY.out, cmp_eq]; rfl, hr0.bel⟩

theorem digit_q (A : Option Addr) (n c x i : Nat) (w : World) (h : DAt B32 w A n c x) (m : Nat) :
    Calls Tryz.prog 102 #[.slice A n c, .int .i64 (i : Int)] (w.drewN m) fun e w'' => e = .returned (.int .u64 ((dig x i : Nat) : Int)) ∧ ∃ k, w'' = w.drewN k :=
  (digit_any A n c x i (w.drewN m) ⟨h.reads.drewN m, h.cap, h.room⟩).mono fun _ _ h => ⟨h.1, m, h.2.symm⟩

/-! ### Sum, difference: digits put behind one another -/
structure RowRel (w0 : World) (A : Option Addr) (n c x : Nat) (A' : Option Addr) (n' c' y : Nat) (L : Nat) (D : List Nat) (v : Value) (wr : World) : Prop where
  dx : DAt B32 wr A n c x
  dy : DAt B32 wr A' n' c' y
  bx : wr.cell? ⟨w0.heap.size, 0, none⟩ = some (.slice A n c)
  by_ : wr.cell? ⟨w0.heap.size + 1, 0, none⟩ = some (.slice A' n' c')
  br : wr.cell? ⟨w0.heap.size + 1 + 1, 0, none⟩ = some (.slice none 0 0)
  fr : wr.frozen? ⟨w0.heap.size + 1 + 1, 0, none⟩ = false
  own : wr.ownsRow (w0.heap.size + 3) 23 1 v L (dv D)
  bel : Below w0.heap.size w0 wr
  size : w0.heap.size + 3 ≤ wr.heap.size
  ax : ∀ a, A = some a → 0 < n → a.block < w0.heap.size
  ay : ∀ a, A' = some a → 0 < n' → a.block < w0.heap.size
section

variable {w0 wr w1 : World} {A A' : Option Addr} {n c x n' c' y L : Nat} {D : List Nat} {v : Value}
theorem RowRel.drewN (h : RowRel w0 A n c x A' n' c' y L D v wr) (k : Nat) : RowRel w0 A n c x A' n' c' y L D v (wr.drewN k) :=
  ⟨⟨h.dx.reads.drewN k, h.dx.cap, h.dx.room⟩, ⟨h.dy.reads.drewN k, h.dy.cap, h.dy.room⟩, h.bx, h.by_, h.br, h.fr, h.own, ⟨h.bel.os, h.bel.tape, h.bel.output, h.bel.size, h.bel.block⟩, h.size, h.ax, h.ay⟩
theorem RowRel.append {v1 u : Value} {d : Nat} {t : TypeId} (h : RowRel w0 A n c x A' n' c' y L D v wr) (ho : w1.ownsRow (w0.heap.size + 3) 23 1 v1 (L + 1) (dv D ++ [.int .u64 (d : Int)])) (hg : (wr.alloc (.cells #[u] t)).grownBy w1 v.ownBlock) :
    RowRel w0 A n c x A' n' c' y (L + 1) (D ++ [d]) v1 w1 := by
  have hlt : ∀ k, v.ownBlock = some k → w0.heap.size + 3 ≤ k := fun k hk => (h.own.lt k hk).1
  have hsz := h.size
  have keep : ∀ p : Addr, p.block < w0.heap.size + 3 → w1.cell? p = wr.cell? p := fun p hp => by
    have h1 := World.cell?_of_block (hg.block p.block (by simp; omega) (fun e => by have := hlt _ e.symm; omega))
    rw [h1]
    exact World.cell?_alloc_lt wr _ p (by omega)
  have keepf : ∀ p : Addr, p.block < w0.heap.size + 3 → w1.frozen? p = wr.frozen? p := fun p hp => by
    have h1 := World.frozen?_of_block (a := p) (hg.block p.block (by simp; omega) (fun e => by have := hlt _ e.symm; omega))
    rw [h1]
    exact World.frozen?_of_block (a := p) (Below.heap_alloc wr _ p.block (by omega))
  have hs1 : wr.heap.size ≤ w1.heap.size := by have := hg.size; simp at this; omega
  refine ⟨h.dx.old h.ax hs1 (fun p hp => keep p (by omega)), h.dy.old h.ay hs1 (fun p hp => keep p (by omega)), (keep _ (by simp)).trans h.bx, (keep _ (by simp)).trans h.by_, (keep _ (by simp)).trans h.br, (keepf _ (by simp)).trans h.fr, ?_, ?_, by omega, h.ax, h.ay⟩
  · rw [dv_append]; exact ho
  · exact (h.bel.alloc h.bel.size _).grown hg (by simp; omega) (fun k hk => by have := hlt k hk; omega)
end
theorem row_start {w : World} {A A' : Option Addr} {n c x n' c' y : Nat} (hx : DAt B32 w A n c x) (hy : DAt B32 w A' n' c' y) :
    RowRel w A n c x A' n' c' y 0 [] (.slice none 0 0) (((w.alloc (.cells #[.slice A n c] 30)).alloc (.cells #[.slice A' n' c'] 30)).alloc (.cells #[.slice none 0 0] 30)) := by
  have hr := CmpRel.start hx hy
  have hb := (Below.refl w.heap.size w)
  have c0 : Blk ((w.alloc (.cells #[.slice A n c] 30)).alloc (.cells #[.slice A' n' c'] 30)) w.heap.size 30 #[.slice A n c] := (Blk.new w _ _).alloc _
  have c1 : Blk ((w.alloc (.cells #[.slice A n c] 30)).alloc (.cells #[.slice A' n' c'] 30)) (w.heap.size + 1) 30 #[.slice A' n' c'] := by have := Blk.new (w.alloc (.cells #[.slice A n c] 30)) 30 #[.slice A' n' c']; simpa using this
  have hs : ((w.alloc (.cells #[.slice A n c] 30)).alloc (.cells #[.slice A' n' c'] 30)).heap.size = w.heap.size + 1 + 1 := by simp
  have c2 := Blk.new ((w.alloc (.cells #[.slice A n c] 30)).alloc (.cells #[.slice A' n' c'] 30)) 30 #[.slice none 0 0]
  rw [hs] at c2
  exact ⟨hr.dx.al _, hr.dy.al _, (c0.alloc _).cell 0, (c1.alloc _).cell 0, c2.cell 0, c2.frozen 0, World.ownsRow_nil _ _ _ _, hr.bel.alloc hr.bel.size _, by simp, hx.olds, hy.olds⟩

structure SumIs (x y k cy : Nat) (D : List Nat) : Prop where
  len : D.length = k
  dlt : ∀ d ∈ D, d < B32
  eq : val B32 D + B32 ^ k * cy = x % B32 ^ k + y % B32 ^ k
theorem SumIs.start (x y : Nat) : SumIs x y 0 0 [] := ⟨rfl, by simp, by simp [val, Nat.mod_one]⟩
theorem SumIs.next {x y k cy : Nat} {D : List Nat} (h : SumIs x y k cy D) : SumIs x y (k + 1) (hi (dig x k + dig y k + cy)) (D ++ [lo (dig x k + dig y k + cy)]) := by
  refine ⟨by simp [h.len], fun d hd => ?_, ?_⟩
  · rcases List.mem_append.1 hd with hd | hd
    · exact h.dlt d hd
    · simp at hd; rw [hd]; exact lo_lt _
  · have h1 := lo_hi (dig x k + dig y k + cy)
    have h2 := h.eq
    rw [val_snoc, h.len, low_succ, low_succ, Nat.pow_succ]
    rw [show x / B32 ^ k % B32 = dig x k from rfl, show y / B32 ^ k % B32 = dig y k from rfl]
    generalize dig x k = p at *
    generalize dig y k = q at *
    generalize lo (p + q + cy) = s at *
    generalize hi (p + q + cy) = t at *
    have h3 : B32 ^ k * s + B32 ^ k * B32 * t = B32 ^ k * p + B32 ^ k * q + B32 ^ k * cy := by
      rw [Nat.mul_assoc, ← Nat.mul_add, h1, Nat.mul_add, Nat.mul_add]
    omega
theorem SumIs.done {x y N cy n n' : Nat} {D : List Nat} (h : SumIs x y (N + 1) cy D) (hx : x < B32 ^ n) (hy : y < B32 ^ n') (hn : n ≤ N) (hn' : n' ≤ N) : cy = 0 ∧ val B32 D = x + y := by
  have e := h.eq
  have p0 : (0 : Nat) < B32 := by decide
  have p1 : B32 ^ n ≤ B32 ^ N := Nat.pow_le_pow_right p0 hn
  have p2 : B32 ^ n' ≤ B32 ^ N := Nat.pow_le_pow_right p0 hn'
  have p4 : B32 ^ N * 2 ≤ B32 ^ (N + 1) := by rw [Nat.pow_succ]; exact Nat.mul_le_mul_left _ two_le_B32
  have p5 : B32 ^ N ≤ B32 ^ (N + 1) := Nat.pow_le_pow_right p0 (by omega)
  rw [Nat.mod_eq_of_lt (Nat.lt_of_lt_of_le hx (Nat.le_trans p1 p5)), Nat.mod_eq_of_lt (Nat.lt_of_lt_of_le hy (Nat.le_trans p2 p5))] at e
  exact sum_fits hx hy p1 p2 p4 e
theorem hi_le {p q cy : Nat} (hp : p < B32) (hq : q < B32) (hc : cy ≤ 1) : hi (p + q + cy) ≤ 1 := by unfold hi; rw [B32_eq] at *; omega
theorem one_read (w : World) (d : Int) (t : TypeId) : Reads (w.alloc (.cells #[.int .u64 d] t)) (w.heap.size + 1) 1 (some ⟨w.heap.size, 0, none⟩) 1 [.int .u64 d] :=
  ⟨rfl, fun _ => ⟨_, rfl, by simp, fun j u hu => by
    rcases j with _ | j
    · simp at hu; subst hu; exact (Blk.new w t #[.int .u64 d]).cell 0
    · simp at hu⟩⟩

theorem Td.of_own {base k cap : Nat} {w : World} {Av : Option Addr} {D : List Nat} (h : w.ownsRow base 23 1 (.slice Av k cap) k (dv D)) : Td base w Av k cap D := by
  have hl := h.1
  rw [dv_length, Nat.mul_one] at hl
  rcases h.2 with ⟨e, _⟩ | ⟨g, cap', cur, e, hg, hh, h1, h2, h3, h4⟩
  · injection e with e1 e2 e3
    subst e1 e2 e3
    exact ⟨hl, Nat.le_refl _, by unfold maxLen; omega, .inl ⟨rfl, rfl⟩⟩
  · injection e with e1 e2 e3
    subst e1 e3
    refine ⟨hl, h1, h2, .inr ⟨g, rfl, hg, cur.toList.drop (k * 1), ?_⟩⟩
    unfold Blk
    rw [← h4, List.take_append_drop]
    simpa using hh

set_option maxRecDepth 100000 in
set_option maxHeartbeats 1000000 in
theorem plus_any (A : Option Addr) (n c x : Nat) (A' : Option Addr) (n' c' y : Nat) (w : World) (hx : DAt B32 w A n c x) (hy : DAt B32 w A' n' c' y) (hn : n ≤ 1099511627776) (hn' : n' ≤ 1099511627776) :
    Calls Tryz.prog 62 #[.agg #[.slice A n c], .agg #[.slice A' n' c']] w fun e w' => ∃ A n c, e = .returned (.agg #[.slice A n c]) ∧ DAt B32 w' A n c (x + y) ∧ Below w.heap.size w w' := by
  obtain ⟨N, hN⟩ : ∃ N, max n n' = N := ⟨_, rfl⟩
  have hN1 : n ≤ N := by omega
  have hN2 : n' ≤ N := by omega
  have hNb : N ≤ 1099511627776 := by omega
  have hmx : max (n : Int) (n' : Int) = (N : Int) := by omega
  have hxl := hx.lt two_le_B32
  have hyl := hy.lt two_le_B32
  have hr0 := row_start hx hy
  obtain ⟨i0, hi0, hz0, hz1, hz2⟩ := digit_parts
  have HX := Lib.hid hxl; have HY := Lib.hid hyl
  clear hxl hyl hx hy hN
  go_enter Tryz.func62, Tryz.ntmps62
  go_wp2_with fail
  generalize ((w.alloc (.cells #[.slice A n c] 30)).alloc (.cells #[.slice A' n' c'] 30)).alloc (.cells #[.slice none 0 0] 30) = W at hr0 ⊢
  go_loopw [5, 6, 7, 8] (fun lv cv iv sv wr => ∃ (k cy cap : Nat) (D : List Nat) (Av : Option Addr), k ≤ N + 1 ∧ iv = .int .i64 k ∧ cv = .int .u64 (cy : Int) ∧ cy ≤ 1 ∧ lv = .slice Av k cap ∧ SumIs x y k cy D ∧ RowRel w A n c x A' n' c' y k D (.slice Av k cap) wr) (fun _ _ i _ _ => N + 1 - (intOf i).toNat)
  case atStart => exact ⟨0, 0, 0, [], none, by omega, rfl, rfl, by omega, rfl, SumIs.start x y, hr0⟩
  case round =>
    clear hr0
    obtain ⟨k, cy, cap, D, Av, hk, rfl, rfl, hcy, rfl, hs, hr⟩ := hrel
    have hb1 := hr.bx
    have hb2 := hr.by_
    by_cases hlt : k < N + 1
    · have ax := digit_q A n c x k wr hr.dx
      have ay := digit_q A' n' c' y k wr hr.dy
      have hsn := hs.next
      have hpl := dig_lt x k
      have hql := dig_lt y k
      have hc2 := hi_le hpl hql hcy
      generalize dig x k = p at *
      generalize dig y k = q at *
      have f0 : IntKind.u64.wrap ((p : Int) + (q : Int)) = (p : Int) + (q : Int) := by rw [B32_eq] at hpl hql; rw [IntKind.wrap_u64]; omega
      have f1 : IntKind.u64.wrap ((p : Int) + (q : Int) + (cy : Int)) = ((p + q + cy : Nat) : Int) := by rw [B32_eq] at hpl hql; rw [IntKind.wrap_u64]; omega
      have hS : p + q + cy < B64 := by rw [B32_eq] at hpl hql; rw [B64_eq]; omega
      generalize p + q + cy = S at *
      have f2 := rem_lo (s := S)
      have f3 := quo_hi (s := S)
      have f4 := wrap_hi hS
      have f5 := wrap_lo (s := S)
      generalize lo S = l0 at *
      generalize hi S = h0 at *
      have AX := Lib.hid ax; have AY := Lib.hid ay; have HS := Lib.hid hsn; have HR := Lib.hid hr
      have b1 : decide ((k : Int) ≤ (N : Int)) = true := decide_eq_true (by omega)
      have b2 : decide (k ≤ N) = true := decide_eq_true (by omega)
      clear ax ay hsn hs hr hpl hql hS
      go_wp2_with fail
      go_quiet (first | (go_at_call 102; with_reducible exact AX.out _) | (go_at_call 102; with_reducible exact AY.out _))
      have HR1 := Lib.hid (HR.out.drewN nq)
      generalize wr.drewN nq = wd at *
      clear HR
      go_wp2_with (at_builtin; refine wpList_append_any _ rfl (.tmp 31) (.tmp 34) _ rfl (w.heap.size + 3) 23 i0 _ 1 8 Tryz.underlying24 hi0 hz0 hz1 hz2 rfl (by omega) (.slice Av k cap) k (dv D) rfl (HR1.out.own.alloc _) (wd.heap.size + 1) (some ⟨wd.heap.size, 0, none⟩) 1 1 [.int .u64 (l0 : Int)] rfl (one_read _ _ _) (by simp [Value.oneCell']) (by unfold maxLen; omega) (by omega) (by have := HR1.out.size; simp; omega) ?_; intro v1 w4 hown4 hg4 hat4; have hr4 := Lib.hid (HR1.out.append hown4 hg4); obtain ⟨Av1, cv1, rfl⟩ := own_slice hown4)
      refine ⟨⟨k + 1, h0, cv1, _, Av1, by omega, by go_num, rfl, hc2, rfl, HS.out, hr4.out⟩, ?_⟩
      simp [intOf]; omega
    · obtain rfl : k = N + 1 := by omega
      obtain ⟨rfl, hv⟩ := hs.done HX.out HY.out hN1 hN2
      have hD := hs.dlt
      have HV := Lib.hid hv; have HD := Lib.hid hD; have HR := Lib.hid hr
      have b1 : decide (((N + 1 : Nat) : Int) ≤ (N : Int)) = false := decide_eq_false (by omega)
      have b2 : decide (N + 1 ≤ N) = false := decide_eq_false (by omega)
      have b3 : decide ((N : Int) + 1 ≤ (N : Int)) = false := decide_eq_false (by omega)
      clear hv hD hs hr
      go_wp2_with fail
      refine (trim_td _ Av D (N + 1) cap (x + y) wr (Td.of_own HR.out.own) HD.out HV.out).mono ?_
      rintro e w3 ⟨m, rfl, hm, hd3, hb3⟩
      have hsz := HR.out.size
      have r1 : w3.cell? ⟨w.heap.size + 1 + 1, 0, none⟩ = some (.slice none 0 0) := (hb3.cell (by simp; omega)).trans HR.out.br
      have r2 : w3.frozen? ⟨w.heap.size + 1 + 1, 0, none⟩ = false := (hb3.frozen (by simp; omega)).trans HR.out.fr
      have HF := Lib.hid (hd3.put r1 (.slice Av m cap))
      have HB := Lib.hid ((HR.out.bel.trans (hb3.mono HR.out.bel.size)).setCell (p := ⟨w.heap.size + 1 + 1, 0, none⟩) (by simp; omega) (.slice Av m cap))
      clear hd3 hb3 HR
      go_wp2
      exact bodyPost_ret (v := .agg #[.slice Av m cap]) (by simp [results, Tryz.results62, go_sem, r1]) rfl ⟨_, _, _, rfl, HF.out, HB.out⟩
end Ref

end Go.Proofs.YtfgnleoaibcegaaGreat

namespace Go.Proofs.YtfgnleoaibcegaaGreat.Ref

open Go.RowKit

structure DiffIs (x y k cy : Nat) (D : List Nat) : Prop where
  len : D.length = k
  dlt : ∀ d ∈ D, d < B32
  eq : val B32 D + y % B32 ^ k = x % B32 ^ k + B32 ^ k * cy
theorem DiffIs.start (x y : Nat) : DiffIs x y 0 0 [] := ⟨rfl, by simp, by simp [val, Nat.mod_one]⟩
theorem sub_step {p q cy : Nat} (hp : p < B32) (hq : q < B32) (hc : cy ≤ 1) : lo (B32 + p - q - cy) + q + cy = p + B32 * (1 - hi (B32 + p - q - cy)) ∧ hi (B32 + p - q - cy) ≤ 1 := by
  unfold lo hi; rw [B32_eq] at *; omega
theorem DiffIs.next {x y k cy : Nat} {D : List Nat} (h : DiffIs x y k cy D) (hcy : cy ≤ 1) : DiffIs x y (k + 1) (1 - hi (B32 + dig x k - dig y k - cy)) (D ++ [lo (B32 + dig x k - dig y k - cy)]) := by
  refine ⟨by simp [h.len], fun d hd => ?_, ?_⟩
  · rcases List.mem_append.1 hd with hd | hd
    · exact h.dlt d hd
    · simp at hd; rw [hd]; exact lo_lt _
  · have h1 := (sub_step (dig_lt x k) (dig_lt y k) hcy).1
    have h2 := h.eq
    rw [val_snoc, h.len, low_succ, low_succ, Nat.pow_succ]
    rw [show x / B32 ^ k % B32 = dig x k from rfl, show y / B32 ^ k % B32 = dig y k from rfl]
    generalize dig x k = p at *
    generalize dig y k = q at *
    generalize lo (B32 + p - q - cy) = s at *
    generalize 1 - hi (B32 + p - q - cy) = t at *
    have h3 : B32 ^ k * s + B32 ^ k * q + B32 ^ k * cy = B32 ^ k * p + B32 ^ k * B32 * t := by
      rw [Nat.mul_assoc, ← Nat.mul_add, ← Nat.mul_add, h1, Nat.mul_add]
    omega
theorem DiffIs.done {x y cy n n' : Nat} {D : List Nat} (h : DiffIs x y n cy D) (hcy : cy ≤ 1) (hx : x < B32 ^ n) (hyx : y ≤ x) : val B32 D = x - y := by
  have e := h.eq
  have hv := val_lt two_le_B32 D h.dlt
  rw [h.len] at hv
  rw [Nat.mod_eq_of_lt hx, Nat.mod_eq_of_lt (Nat.lt_of_le_of_lt hyx hx)] at e
  exact ((diff_fits hx hv e hcy).1 hyx).2

structure TwoRel (w0 : World) (A : Option Addr) (n c x : Nat) (A' : Option Addr) (n' c' y : Nat) (g : Nat) (l : List Nat) (wr : World) : Prop where
  dx0 : DAt B32 w0 A n c x
  dy0 : DAt B32 w0 A' n' c' y
  bx : wr.cell? ⟨w0.heap.size, 0, none⟩ = some (.slice A n c)
  by_ : wr.cell? ⟨w0.heap.size + 1, 0, none⟩ = some (.slice A' n' c')
  br : wr.cell? ⟨w0.heap.size + 1 + 1, 0, none⟩ = some (.slice none 0 0)
  fr : wr.frozen? ⟨w0.heap.size + 1 + 1, 0, none⟩ = false
  dg : Dg wr g l
  bel : Below w0.heap.size w0 wr
  hg : w0.heap.size + 2 < g

section

variable {w0 wr w1 : World} {A A' : Option Addr} {n c x n' c' y g : Nat} {l : List Nat}
theorem TwoRel.dx (h : TwoRel w0 A n c x A' n' c' y g l wr) : DAt B32 wr A n c x := h.dx0.below h.bel

theorem TwoRel.dy (h : TwoRel w0 A n c x A' n' c' y g l wr) : DAt B32 wr A' n' c' y := h.dy0.below h.bel

theorem TwoRel.drew (h : TwoRel w0 A n c x A' n' c' y g l wr) : TwoRel w0 A n c x A' n' c' y g l wr.drew := ⟨h.dx0, h.dy0, h.bx, h.by_, h.br, h.fr, h.dg, h.bel.drew, h.hg⟩

theorem TwoRel.below (h : TwoRel w0 A n c x A' n' c' y g l wr) (hb : Below wr.heap.size wr w1) : TwoRel w0 A n c x A' n' c' y g l w1 := by
  have hlt := h.dg.lt
  have hg := h.hg
  exact ⟨h.dx0, h.dy0, (hb.cell (by simp; omega)).trans h.bx, (hb.cell (by simp; omega)).trans h.by_, (hb.cell (by simp; omega)).trans h.br, (hb.frozen (by simp; omega)).trans h.fr, h.dg.below hb hlt, h.bel.trans (hb.mono h.bel.size), hg⟩

theorem TwoRel.set_ (h : TwoRel w0 A n c x A' n' c' y g l wr) (k d : Nat) : TwoRel w0 A n c x A' n' c' y g (l.set k d) (wr.setCell ⟨g, k, none⟩ (.int .u64 (d : Int))) := by
  have hg := h.hg
  refine ⟨h.dx0, h.dy0, ?_, ?_, ?_, ?_, h.dg.set_ k d, h.bel.setCell (by simp; omega) _, hg⟩
  · rw [World.cell?_setCell_other _ _ _ _ (by intro e; injection e; omega)]; exact h.bx
  · rw [World.cell?_setCell_other _ _ _ _ (by intro e; injection e; omega)]; exact h.by_
  · rw [World.cell?_setCell_other _ _ _ _ (by intro e; injection e; omega)]; exact h.br
  · rw [World.frozen?_of_block (w := wr) (Below.heap_setCell _ _ _ _ (by simp; omega))]; exact h.fr
theorem TwoRel.drewN (h : TwoRel w0 A n c x A' n' c' y g l wr) (k : Nat) : TwoRel w0 A n c x A' n' c' y g l (wr.drewN k) := by
  obtain ⟨t, hd⟩ := h.dg
  exact ⟨h.dx0, h.dy0, h.bx, h.by_, h.br, h.fr, ⟨t, hd⟩, ⟨h.bel.os, h.bel.tape, h.bel.output, h.bel.size, h.bel.block⟩, h.hg⟩
end
structure MulIn (x y i n' k c : Nat) (L : List Nat) : Prop where
  dig : ∀ d ∈ L, d < B32
  cl : c < B32
  top : ∀ j, i + n' ≤ j → L.getD j 0 = 0
  eq : val B32 L + B32 ^ (i + k) * c = (x % B32 ^ i) * y + B32 ^ i * ((x / B32 ^ i % B32) * (y % B32 ^ k))

structure MulOut (x y i n' : Nat) (L : List Nat) : Prop where
  dig : ∀ d ∈ L, d < B32
  top : ∀ j, i + n' ≤ j → L.getD j 0 = 0
  eq : val B32 L = (x % B32 ^ i) * y

theorem MulOut.start (x y n' m : Nat) : MulOut x y 0 n' (List.replicate m 0) :=
  ⟨fun d hd => by rw [List.eq_of_mem_replicate hd]; decide, fun j _ => by simp [List.getD_eq_getElem?_getD, List.getElem?_replicate]; split <;> rfl, by rw [val_replicate]; simp [Nat.mod_one]⟩

theorem MulOut.into {x y i n' : Nat} {L : List Nat} (h : MulOut x y i n' L) : MulIn x y i n' 0 0 L :=
  ⟨h.dig, by decide, h.top, by rw [h.eq]; simp [Nat.mod_one]⟩

def mulLo (a b d c : Nat) : Nat := lo (a * b + d + c)
def mulHi (a b d c : Nat) : Nat := hi (a * b + d + c)
theorem mul_step (a b d c : Nat) : mulLo a b d c + B32 * mulHi a b d c = a * b + d + c := lo_hi _
theorem mul_bound {a b d c : Nat} (ha : a < B32) (hb : b < B32) (hd : d < B32) (hc : c < B32) : mulHi a b d c < B32 ∧ a * b + d + c < B64 := by
  have h2 : a * b ≤ (B32 - 1) * (B32 - 1) := Nat.mul_le_mul (by omega) (by omega)
  have h5 : (B32 - 1) * (B32 - 1) + 2 * (B32 - 1) + 1 = B32 * B32 := by decide
  have h6 : B32 * B32 = B64 := by decide
  have h7 : a * b + d + c < B64 := by omega
  exact ⟨hi_lt h7, h7⟩
theorem MulIn.next {x y i n' k c : Nat} {L : List Nat} (h : MulIn x y i n' k c L) (hk : k < n') (hL : i + n' < L.length) :
    MulIn x y i n' (k + 1) (mulHi (x / B32 ^ i % B32) (y / B32 ^ k % B32) (L.getD (i + k) 0) c) (L.set (i + k) (mulLo (x / B32 ^ i % B32) (y / B32 ^ k % B32) (L.getD (i + k) 0) c)) := by
  have hd := getD_lt two_le_B32 h.dig (i + k)
  have hs := mul_step (x / B32 ^ i % B32) (y / B32 ^ k % B32) (L.getD (i + k) 0) c
  have hb := (mul_bound (a := x / B32 ^ i % B32) (b := y / B32 ^ k % B32) (Nat.mod_lt _ (by decide)) (Nat.mod_lt _ (by decide)) hd h.cl).1
  have hv := val_set (b := B32) L (i + k) (mulLo (x / B32 ^ i % B32) (y / B32 ^ k % B32) (L.getD (i + k) 0) c) (by omega)
  refine ⟨set_dig h.dig (lo_lt _), hb, fun j hj => by rw [getD_set_ne (by omega)]; exact h.top j hj, ?_⟩
  have he := h.eq
  rw [low_succ B32 y k, ← Nat.add_assoc, Nat.pow_succ]
  generalize x / B32 ^ i % B32 = a at *
  generalize y / B32 ^ k % B32 = b at *
  generalize L.getD (i + k) 0 = d at *
  generalize mulLo a b d c = lo at *
  generalize mulHi a b d c = hi at *
  have e1 := congrArg (B32 ^ (i + k) * ·) hs
  simp only [Nat.mul_add] at e1 ⊢
  have e2 : B32 ^ i * (a * (B32 ^ k * b)) = B32 ^ (i + k) * (a * b) := by
    rw [Nat.pow_add, Nat.mul_assoc, Nat.mul_left_comm a]
  have e3 : B32 ^ (i + k) * B32 * hi = B32 ^ (i + k) * (B32 * hi) := Nat.mul_assoc ..
  rw [e2, e3]
  omega

theorem MulIn.done {x y i n' c : Nat} {L : List Nat} (h : MulIn x y i n' n' c L) (hy : y < B32 ^ n') (hL : i + n' < L.length) : MulOut x y (i + 1) n' (L.set (i + n') c) := by
  have hv := val_set (b := B32) L (i + n') c hL
  rw [h.top (i + n') (Nat.le_refl _)] at hv
  refine ⟨set_dig h.dig h.cl, fun j hj => by rw [getD_set_ne (by omega)]; exact h.top j (by omega), ?_⟩
  have he := h.eq
  rw [Nat.mod_eq_of_lt hy] at he
  rw [low_succ B32 x i, Nat.add_mul, Nat.mul_assoc]
  omega
theorem two_start3 {w w1 : World} {A A' : Option Addr} {n c x n' c' y : Nat} {l : List Nat} (hx : DAt B32 w A n c x) (hy : DAt B32 w A' n' c' y)
    (hw : ((w.alloc (.cells #[.slice A n c] 30)).alloc (.cells #[.slice A' n' c'] 30)).alloc (.cells #[.slice none 0 0] 30) = w1) :
    TwoRel w A n c x A' n' c' y w1.heap.size l (w1.alloc (.cells (dva l) 23)) := by
  have hs : w1.heap.size = w.heap.size + 3 := by rw [← hw]; simp
  have hb : Below w.heap.size w w1 := by
    rw [← hw]
    exact (((Below.refl _ _).alloc (Nat.le_refl _) _).alloc (by simp) _).alloc (by simp; omega) _
  have c0 : Blk w1 w.heap.size 30 #[.slice A n c] := by rw [← hw]; exact ((Blk.new w _ _).alloc _).alloc _
  have c1 : Blk w1 (w.heap.size + 1) 30 #[.slice A' n' c'] := by
    rw [← hw]; have := ((Blk.new (w.alloc (.cells #[.slice A n c] 30)) 30 #[.slice A' n' c']).alloc (.cells #[.slice none 0 0] 30)); simpa using this
  have c2 : Blk w1 (w.heap.size + 1 + 1) 30 #[.slice none 0 0] := by
    rw [← hw]; have := (Blk.new ((w.alloc (.cells #[.slice A n c] 30)).alloc (.cells #[.slice A' n' c'] 30)) 30 #[.slice none 0 0]); simpa using this
  exact ⟨hx, hy, (c0.alloc _).cell 0, (c1.alloc _).cell 0, (c2.alloc _).cell 0, (c2.alloc _).frozen 0, Dg.new _ _, hb.alloc (by omega) _, by omega⟩

theorem TwoRel.xcell {w0 wr : World} {g off g' : Nat} {A' : Option Addr} {n c x n' c' y i : Nat} {l : List Nat} (h : TwoRel w0 (some ⟨g, off, none⟩) n c x A' n' c' y g' l wr) (hi : i < n) :
    wr.cell? ⟨g, off + i, none⟩ = some (.int .u64 ((x / B32 ^ i % B32 : Nat) : Int)) := by
  obtain ⟨g1, o1, e, hg, hc⟩ := h.dx0.flat two_le_B32 (by omega)
  injection e with e; injection e with e1 e2; subst e1; subst e2
  rw [h.bel.cell hg]; exact hc i hi

theorem TwoRel.ycell {w0 wr : World} {g off g' : Nat} {A : Option Addr} {n c x n' c' y i : Nat} {l : List Nat} (h : TwoRel w0 A n c x (some ⟨g, off, none⟩) n' c' y g' l wr) (hi : i < n') :
    wr.cell? ⟨g, off + i, none⟩ = some (.int .u64 ((y / B32 ^ i % B32 : Nat) : Int)) := by
  obtain ⟨g1, o1, e, hg, hc⟩ := h.dy0.flat two_le_B32 (by omega)
  injection e with e; injection e with e1 e2; subst e1; subst e2
  rw [h.bel.cell hg]; exact hc i hi

set_option maxRecDepth 100000 in
set_option maxHeartbeats 2000000 in
theorem times_any (A : Option Addr) (n c x : Nat) (A' : Option Addr) (n' c' y : Nat) (w : World) (hx : DAt B32 w A n c x) (hy : DAt B32 w A' n' c' y) (hn : n ≤ 1099511627776) (hn' : n' ≤ 1099511627776) :
    Calls Tryz.prog 63 #[.agg #[.slice A n c], .agg #[.slice A' n' c']] w fun e w' => ∃ A n c, e = .returned (.agg #[.slice A n c]) ∧ DAt B32 w' A n c (x * y) ∧ Below w.heap.size w w' := by
  have hmk := run_make_digits (n + n') (by omega)
  rw [show ((n + n' : Nat) : Int) = (n : Int) + (n' : Int) by omega] at hmk
  have HXL := Lib.hid (hx.lt two_le_B32); have HYL := Lib.hid (hy.lt two_le_B32)
  have hx0 : TwoRel w A n c x A' n' c' y (w.heap.size + 1 + 1 + 1) (List.replicate (n + n') 0) ((((w.alloc (.cells #[.slice A n c] 30)).alloc (.cells #[.slice A' n' c'] 30)).alloc (.cells #[.slice none 0 0] 30)).alloc (.cells (dva (List.replicate (n + n') 0)) 23)) := by
    have := two_start3 (l := List.replicate (n + n') 0) hx hy rfl
    simpa using this
  go_enter Tryz.func63, Tryz.ntmps63
  have HX0 := Lib.hid hx0
  clear hx0 hx hy
  go_wp2_with fail
  have hx0 := HX0.out
  clear HX0 hmk
  generalize (((w.alloc (.cells #[.slice A n c] 30)).alloc (.cells #[.slice A' n' c'] 30)).alloc (.cells #[.slice none 0 0] 30)).alloc (.cells (dva (List.replicate (n + n') 0)) 23) = W at hx0 ⊢
  generalize hg : w.heap.size + 1 + 1 + 1 = g at hx0 ⊢
  clear hg
  go_loopw [6, 7, 8, 9] (fun iv _ _ _ wr => ∃ (i : Nat) (L : List Nat), i ≤ n ∧ iv = .int .i64 i ∧ L.length = n + n' ∧ MulOut x y i n' L ∧ TwoRel w A n c x A' n' c' y g L wr) (fun i _ _ _ _ => n - (intOf i).toNat)
  case atStart => exact ⟨0, _, by omega, rfl, by simp, MulOut.start x y n' _, hx0⟩
  case round =>
    clear hx0
    obtain ⟨i, L, hin, rfl, hL, hm, hr⟩ := hrel
    have hbx := hr.bx
    by_cases hlt : i < n
    · obtain ⟨gx, ox, rfl, -, -⟩ := hr.dx0.flat two_le_B32 (by omega)
      have HM := Lib.hid hm.into
      have HLn := Lib.hid hL
      have hal : x / B32 ^ i % B32 < B32 := Nat.mod_lt _ (by decide)
      have hxc := fun (wr : World) (L : List Nat) (h : TwoRel w (some ⟨gx, ox, none⟩) n c x A' n' c' y g L wr) => h.xcell hlt
      obtain ⟨a, ha⟩ : ∃ a, a = x / B32 ^ i % B32 := ⟨_, rfl⟩
      rw [← ha] at hxc hal
      have HA := Lib.hid ha
      have HXC := Lib.hid hxc
      clear ha hm hL hxc
      obtain ⟨wo, hwo⟩ : ∃ wo : World, wo = wr := ⟨_, rfl⟩
      rw [← hwo] at hr hbx ⊢
      clear hwo
      go_wp2_with fail
      go_loopw [7, 8, 9] (fun cv kv _ wq => ∃ (k cc : Nat) (L : List Nat), k ≤ n' ∧ kv = .int .i64 k ∧ cv = .int .u64 (cc : Int) ∧ L.length = n + n' ∧ MulIn x y i n' k cc L ∧ TwoRel w (some ⟨gx, ox, none⟩) n c x A' n' c' y g L wq) (fun _ k _ _ => n' - (intOf k).toNat)
      case atStart => exact ⟨0, 0, L, by omega, rfl, rfl, HLn.out, HM.out, hr⟩
      case round =>
        clear hr HM hbx
        obtain ⟨k, cc, L, hk, rfl, rfl, hL, hm, hr⟩ := hrel
        have hbx := hr.bx
        have hby := hr.by_
        by_cases hltk : k < n'
        · obtain ⟨gy, oy, rfl, -, -⟩ := hr.dy0.flat two_le_B32 (by omega)
          have hyc := hr.ycell hltk
          have hxc := HXC.out _ _ hr
          have hbl : y / B32 ^ k % B32 < B32 := Nat.mod_lt _ (by decide)
          have hdc := hr.dg.cell (i := i + k) (by omega)
          have hdf := hr.dg.frozen (i + k)
          have hdl := getD_lt two_le_B32 hm.dig (i + k)
          have hnx := hm.next hltk (by omega)
          have hcl := hm.cl
          have HR := Lib.hid hr
          rw [← HA.out] at hnx
          generalize y / B32 ^ k % B32 = b at *
          generalize L.getD (i + k) 0 = d at *
          have hov := mul_bound hal hbl hdl hcl
          obtain ⟨S, hS⟩ : ∃ S, S = a * b + d + cc := ⟨_, rfl⟩
          have hnx' : MulIn x y i n' (k + 1) (hi S) (L.set (i + k) (lo S)) := by rw [hS]; exact hnx
          have hov2 := hov.2
          have hhi : hi S < B32 := by rw [hS]; exact hov.1
          clear hov hnx
          have f0 : IntKind.u64.wrap ((a : Int) * (b : Int)) = ((a * b : Nat) : Int) := by rw [← Int.natCast_mul]; exact wrap_nat (by omega)
          have f1 : IntKind.u64.wrap (((a * b : Nat) : Int) + (d : Int)) = ((a * b + d : Nat) : Int) := by rw [← Int.natCast_add]; exact wrap_nat (by omega)
          have f2 : IntKind.u64.wrap (((a * b + d : Nat) : Int) + (cc : Int)) = (S : Int) := by rw [hS, ← Int.natCast_add]; exact wrap_nat hov2
          have hS2 : S < B64 := by rw [hS]; exact hov2
          clear hS hov2
          generalize a * b + d = P2 at *
          generalize a * b = P at *
          have f3 := rem_lo (s := S)
          have f4 := quo_hi (s := S)
          have f5 := wrap_hi hS2
          have f6 := wrap_lo (s := S)
          have hset := hr.set_ (i + k) (lo S)
          generalize hi S = h0 at *
          generalize lo S = l0 at *
          have HNX := Lib.hid hnx'; have HR := Lib.hid hr
          have b1 : decide ((k : Int) < (n' : Int)) = true := decide_eq_true (by omega)
          have b2 : decide (k < n') = true := decide_eq_true (by omega)
          have b3 : (0 : Int) ≤ (k : Int) := by omega
          have b4 : (k : Int) < (n' : Int) := by omega
          have b5 : (0 : Int) ≤ (i : Int) := by omega
          have b6 : (i : Int) < (n : Int) := by omega
          have b7 : (0 : Int) ≤ (i : Int) + (k : Int) := by omega
          have b8 : (i : Int) + (k : Int) < (n : Int) + (n' : Int) := by omega
          have b9 : ((i : Int) + (k : Int)).toNat = i + k := by omega
          have b10 : IntKind.i64.wrap ((i : Int) + (k : Int)) = (i : Int) + (k : Int) := IntWalk.i64_in _ (by omega)
          clear hnx' hm hr hset hS2 hdl hbl
          go_wp2_with fail
          go_quiet (fail)
          have HR1 := Lib.hid (HR.out.drewN nq)
          have HR2 := Lib.hid (HR1.out.set_ (i + k) l0)
          have hdc := HR1.out.dg.cell (i := i + k) (by omega)
          have hdf := HR1.out.dg.frozen (i + k)
          generalize wr.drewN nq = wd at *
          generalize L.getD (i + k) 0 = dd at hdc
          clear HR hxc hyc hbx hby b9 b10
          go_wp2
          go_roundw
          case rel => exact ⟨k + 1, _, _, by omega, by go_num, rfl, by rw [List.length_set]; exact hL, HNX.out, HR2.out⟩
          case measure => simp [intOf]; omega
        · obtain rfl : n' = k := by omega
          have hdone := hm.done HYL.out (by omega)
          have hrs := hr.set_ (i + n') cc
          have hdc := hr.dg.cell (i := i + n') (by omega)
          have hdf := hr.dg.frozen (i + n')
          have HD := Lib.hid hdone; have HRS := Lib.hid hrs
          generalize L.getD (i + n') 0 = d at hdc
          clear hdone hrs hm hr
          have hk0 : (0 : Int) ≤ (i : Int) + (n' : Int) := by omega
          go_wp2_with fail
          go_roundw
          case rel => exact ⟨i + 1, _, by omega, by go_num, by rw [List.length_set]; exact hL, HD.out, HRS.out⟩
          case measure => simp [intOf]; omega
    · obtain rfl : n = i := by omega
      have hv : val B32 L = x * y := by rw [hm.eq, Nat.mod_eq_of_lt HXL.out]
      have hdig := hm.dig
      have HV := Lib.hid hv
      clear hv hm
      go_wp2_with fail
      refine (trim_td 0 _ L (n + n') (n + n') (x * y) _ (Td.of_dg hr.dg hL (Nat.zero_le _) (Nat.le_refl _) (by unfold maxLen; omega)) hdig HV.out).mono ?_
      rintro e w3 ⟨m, rfl, hm3, hd3, hb3⟩
      have hr3 := hr.below hb3
      have r1 := hr3.br
      have r2 := hr3.fr
      have HF := Lib.hid (hd3.put r1 (.slice (some ⟨g, 0, none⟩) m (n + n')))
      have HB := Lib.hid (hr3.bel.setCell (p := ⟨w.heap.size + 1 + 1, 0, none⟩) (by simp; omega) (.slice (some ⟨g, 0, none⟩) m (n + n')))
      clear hd3 hb3 hr hr3 hL
      go_wp2
      exact bodyPost_ret (v := .agg #[.slice (some ⟨g, 0, none⟩) m (n + n')]) (by simp [results, Tryz.results63, go_sem, r1]) rfl ⟨_, _, _, rfl, HF.out, HB.out⟩

end Go.Proofs.YtfgnleoaibcegaaGreat.Ref

namespace Go.Proofs.YtfgnleoaibcegaaGreat.Ref

open Go.RowKit

theorem pow256 (i : Nat) : (256 : Nat) ^ i = B32 ^ (i / 4) * 2 ^ (8 * (i % 4)) := by
  rw [B32_pow_two, show (256 : Nat) = 2 ^ 8 from rfl, ← Nat.pow_mul, ← Nat.pow_add]
  congr 1
  omega
theorem add_fits {d e k : Nat} (h : d + e * 2 ^ k < B64) : IntKind.u64.wrap ((d : Int) + IntKind.u64.wrap (IntKind.u64.wrap (e : Int) * 2 ^ k)) = ((d + e * 2 ^ k : Nat) : Int) := by
  have hp : 0 < 2 ^ k := Nat.two_pow_pos _
  have he : e < B64 := Nat.lt_of_le_of_lt (Nat.le_trans (Nat.le_mul_of_pos_right e hp) (Nat.le_add_left _ _)) h
  rw [wrap_nat he]
  have e1 : (e : Int) * 2 ^ k = ((e * 2 ^ k : Nat) : Int) := by simp
  rw [e1, wrap_nat (by omega), ← Int.natCast_add]
  exact wrap_nat h

structure FbIs (l : List Nat) (n i : Nat) (D : List Nat) : Prop where
  len : D.length = (n / 4 + 1)
  dig : ∀ d ∈ D, d < B32
  eq : val B32 D = val 256 (l.reverse.take i)

theorem FbIs.start (l : List Nat) (n : Nat) : FbIs l n 0 (List.replicate ((n / 4 + 1)) 0) :=
  ⟨by simp, fun d hd => by rw [List.eq_of_mem_replicate hd]; decide, by rw [val_replicate]; simp [val]⟩

theorem FbIs.next {l : List Nat} {n i : Nat} {D : List Nat} (h : FbIs l n i D) (hl : l.length = n) (hb : ∀ d ∈ l, d < 256) (hi : i < n) :
    D.getD (i / 4) 0 < 2 ^ (8 * (i % 4)) ∧ D.getD (i / 4) 0 + l.getD (n - 1 - i) 0 * 2 ^ (8 * (i % 4)) < B32 ∧ FbIs l n (i + 1) (D.set (i / 4) (D.getD (i / 4) 0 + l.getD (n - 1 - i) 0 * 2 ^ (8 * (i % 4)))) := by
  have hbr : ∀ d ∈ l.reverse, d < 256 := fun d hd => hb d (List.mem_reverse.1 hd)
  have hR := val_lt (b := 256) (by omega) (l.reverse.take i) (fun d hd => hbr d (List.mem_of_mem_take hd))
  rw [List.length_take, List.length_reverse, hl, Nat.min_eq_left (by omega), ← h.eq, pow256] at hR
  have hd := val_getD two_le_B32 D h.dig (i / 4)
  have hp : 0 < B32 ^ (i / 4) := Nat.pow_pos (by decide)
  have h1 : D.getD (i / 4) 0 < 2 ^ (8 * (i % 4)) := by
    rw [hd]
    exact Nat.lt_of_le_of_lt (Nat.mod_le _ _) ((Nat.div_lt_iff_lt_mul hp).2 (by rw [Nat.mul_comm]; exact hR))
  have he : l.getD (n - 1 - i) 0 < 256 := getD_lt (by omega) hb _
  have h2 : D.getD (i / 4) 0 + l.getD (n - 1 - i) 0 * 2 ^ (8 * (i % 4)) < B32 := by
    have h3 : l.getD (n - 1 - i) 0 * 2 ^ (8 * (i % 4)) ≤ 255 * 2 ^ (8 * (i % 4)) := Nat.mul_le_mul_right _ (by omega)
    have h4 : 256 * 2 ^ (8 * (i % 4)) ≤ B32 := by
      rw [B32_pow, show (256 : Nat) = 2 ^ 8 from rfl, ← Nat.pow_add]
      exact Nat.pow_le_pow_right (by omega) (by omega)
    omega
  refine ⟨h1, h2, by rw [List.length_set]; exact h.len, set_dig h.dig h2, ?_⟩
  have hv := val_set (b := B32) D (i / 4) (D.getD (i / 4) 0 + l.getD (n - 1 - i) 0 * 2 ^ (8 * (i % 4))) (by rw [h.len]; omega)
  rw [take_succ_val (by rw [List.length_reverse]; omega), ← h.eq, rev_get hl hi, pow256]
  rw [Nat.mul_add] at hv
  have e1 : B32 ^ (i / 4) * (l.getD (n - 1 - i) 0 * 2 ^ (8 * (i % 4))) = B32 ^ (i / 4) * 2 ^ (8 * (i % 4)) * l.getD (n - 1 - i) 0 := by
    rw [Nat.mul_assoc, Nat.mul_comm (2 ^ _)]
  omega

theorem FbIs.done {l : List Nat} {n : Nat} {D : List Nat} (h : FbIs l n n D) (hl : l.length = n) : val B32 D = bev l := by
  rw [h.eq, List.take_of_length_le (by rw [List.length_reverse]; omega)]; rfl

set_option maxRecDepth 100000 in
set_option maxHeartbeats 1000000 in
theorem frombytes_any (A : Option Addr) (n c : Nat) (l : List Nat) (w : World) (h : BAt w A n c l) (hn : n ≤ 1099511627776) :
    Calls Tryz.prog 39 #[.slice A n c] w fun e w' => ∃ A n c, e = .returned (.agg #[.slice A n c]) ∧ DAt B32 w' A n c (bev l) ∧ Below w.heap.size w w' := by
  have hmk := run_make_digits ((n / 4 + 1)) (by omega)
  rw [show (((n / 4 + 1) : Nat) : Int) = (n : Int) / 4 + 1 by omega] at hmk
  have HS := Lib.hid (OneRel.start w 30 (List.replicate ((n / 4 + 1)) 0))
  have HL := Lib.hid h.len
  have HB := Lib.hid h.byte
  go_enter Tryz.func39, Tryz.ntmps39
  go_wp2_with fail
  clear hmk
  have hr0 := HS.out
  generalize (w.alloc (.cells #[.slice none 0 0] 30)).alloc (.cells (dva (List.replicate ((n / 4 + 1)) 0)) 23) = W at hr0 ⊢
  generalize hgd : w.heap.size + 1 = gd at hr0 ⊢
  clear HS
  go_loopw [4] (fun iv wr => ∃ (i : Nat) (D : List Nat), i ≤ n ∧ iv = .int .i64 i ∧ FbIs l n i D ∧ OneRel w w.heap.size gd D wr) (fun i _ => n - (intOf i).toNat)
  case atStart => exact ⟨0, _, by omega, rfl, FbIs.start l n, hr0⟩
  case round =>
    clear hr0
    obtain ⟨i, D, hi, rfl, hF, hr⟩ := hrel
    by_cases hlt : i < n
    · obtain ⟨gx, ox, rfl, hg, hc⟩ := h.flat (by omega)
      have hc1 := (hr.bel.cell (p := ⟨gx, ox + (n - 1 - i), none⟩) hg).trans (hc (n - 1 - i) (by omega))
      have hd1 := hr.dg.cell (i := i / 4) (by rw [hF.len]; omega)
      have hf1 := hr.dg.frozen (i / 4)
      have hi8 : i / 4 < (n / 4 + 1) := by omega
      obtain ⟨q1, q2, q3⟩ := hF.next HL.out HB.out hlt
      have hset := fun d => hr.set_ (i / 4) d
      generalize l.getD (n - 1 - i) 0 = e at *
      generalize D.getD (i / 4) 0 = d at *
      have HN := Lib.hid q3; have HO := Lib.hid (add_fits (Nat.lt_trans q2 (show B32 < B64 by decide))); have HSET := Lib.hid hset
      clear hc q1 q2 q3 hset hF
      have i0 : (0 : Int) ≤ (n : Int) - 1 - (i : Int) := by omega
      go_wp2
      go_region
      go_wp2
      go_roundw
      case rel => exact ⟨i + 1, _, by omega, by go_num, HN.out, by rw [HO.out]; exact (HSET.out _).drew⟩
      case measure => simp [intOf]; omega
    · obtain rfl : n = i := by omega
      have hv := hF.done HL.out
      have hdig := hF.dig
      have hlen := hF.len
      have HV := Lib.hid hv
      clear hv hF h
      go_wp2_with fail
      refine (trim_td 0 _ D (n / 4 + 1) (n / 4 + 1) (bev l) _ (Td.of_dg hr.dg hlen (Nat.zero_le _) (Nat.le_refl _) (by unfold maxLen; omega)) hdig HV.out).mono ?_
      rintro e w3 ⟨m3, rfl, hm3, hd3, hb3⟩
      have hr3 := hr.below hb3
      have r1 := hr3.br
      have r2 := hr3.fr
      have HF := Lib.hid (hd3.put r1 (.slice (some ⟨gd, 0, none⟩) m3 (n / 4 + 1)))
      have HBl := Lib.hid (hr3.bel.setCell (p := ⟨w.heap.size, 0, none⟩) (Nat.le_refl _) (.slice (some ⟨gd, 0, none⟩) m3 (n / 4 + 1)))
      clear hd3 hb3 hr hr3 hlen
      go_wp2
      exact bodyPost_ret (v := .agg #[.slice (some ⟨gd, 0, none⟩) m3 (n / 4 + 1)]) (by simp [results, Tryz.results39, go_sem, r1]) rfl ⟨_, _, _, rfl, HF.out, HBl.out⟩

theorem bl_half {v : Nat} (h : 0 < v) : bl v = bl (v / 2) + 1 := by
  rcases Nat.lt_or_ge v 2 with h1 | h1
  · obtain rfl : v = 1 := by omega
    rfl
  · have := bl_div (x := v) (K := 1) (by simpa using h1)
    rw [Nat.pow_one] at this; omega
theorem top_digit {x n : Nat} (hn : 0 < n) (h1 : x < B32 ^ n) (h2 : B32 ^ (n - 1) ≤ x) : dig x (n - 1) = x / B32 ^ (n - 1) ∧ 0 < x / B32 ^ (n - 1) := by
  have hp : 0 < B32 ^ (n - 1) := Nat.pow_pos (by decide)
  constructor
  · apply Nat.mod_eq_of_lt
    rw [Nat.div_lt_iff_lt_mul hp, Nat.mul_comm, ← Nat.pow_succ, show (n - 1).succ = n by omega]
    exact h1
  · exact Nat.div_pos h2 hp
theorem bl_top {x n : Nat} (hn : 0 < n) (h1 : x < B32 ^ n) (h2 : B32 ^ (n - 1) ≤ x) : bl x = 32 * (n - 1) + bl (dig x (n - 1)) := by
  rw [(top_digit hn h1 h2).1, B32_pow_two]
  rw [B32_pow_two] at h2
  exact bl_div h2

set_option maxRecDepth 100000 in
set_option maxHeartbeats 1000000 in
theorem len_any (A : Option Addr) (n c x : Nat) (w : World) (h : DAt B32 w A n c x) (hn : n ≤ 1099511627776) :
    Calls Tryz.prog 54 #[.agg #[.slice A n c]] w fun e w' => e = .returned (.int .i64 ((bl x : Nat) : Int)) ∧ Below w.heap.size w w' := by
  by_cases h0 : x = 0
  · have hn0 := (h.zero_len two_le_B32).2 h0
    subst h0 hn0
    rw [bl_zero]
    clear h
    go_enter Tryz.func54, Tryz.ntmps54
    go_wp2
    go_ret
    exact ⟨rfl, (Below.refl _ _).alloc (Nat.le_refl _) _⟩
  · have hn0 : 0 < n := Nat.pos_of_ne_zero fun e => h0 ((h.zero_len two_le_B32).1 e)
    have e1 : ((n : Int) == 0) = false := by simp; omega
    have e2 : (n == 0) = false := by simp; omega
    have hbl := bl_top hn0 (h.lt two_le_B32) (h.ge two_le_B32 (Nat.pos_of_ne_zero h0))
    obtain ⟨g, off, rfl, hg, hc⟩ := h.flat two_le_B32 hn0
    have hc1 := hc (n - 1) (by omega)
    rw [show x / B32 ^ (n - 1) % B32 = dig x (n - 1) from rfl] at hc1
    have hdl := dig_lt x (n - 1)
    have hb : Below w.heap.size w (w.alloc (.cells #[.slice (some ⟨g, off, none⟩) n c] 30)) := (Below.refl _ _).alloc (Nat.le_refl _) _
    have hc2 := (hb.cell (p := ⟨g, off + (n - 1), none⟩) hg).trans hc1
    have hc3 : (w.alloc (.cells #[.slice (some ⟨g, off, none⟩) n c] 30)).cell? ⟨w.heap.size, 0, none⟩ = some (.slice (some ⟨g, off, none⟩) n c) := (Blk.new w 30 #[.slice (some ⟨g, off, none⟩) n c]).cell 0
    generalize dig x (n - 1) = T at *
    have hTb : bl T ≤ 32 := bl_le (by rw [← B32_pow]; exact hdl)
    rw [B32_eq] at hdl
    have HB := Lib.hid hb; have HBL := Lib.hid hbl
    clear hc hb hc1 hbl h h0
    have i0 : (0 : Int) ≤ (n : Int) - 1 := by omega
    go_enter Tryz.func54, Tryz.ntmps54
    go_wp2
    clear hc2 hc3
    go_loop [3, 4] (fun cv vv => ∃ v j : Nat, vv = .int .u64 (v : Int) ∧ cv = .int .i64 (32 * ((n : Int) - 1) + (j : Int)) ∧ j + bl v = bl T ∧ v ≤ T) (fun _ v => (intOf v).toNat)
    case atStart => exact ⟨T, 0, rfl, by simp, by omega, Nat.le_refl _⟩
    case round =>
      obtain ⟨v, j, rfl, rfl, hj, hv⟩ := hrel
      by_cases hv0 : 0 < v
      · have hh := bl_half hv0
        have f1 : (v : Int).tdiv 2 = ((v / 2 : Nat) : Int) := by rw [Int.tdiv_eq_ediv_of_nonneg (by omega)]; omega
        have f2 : IntKind.u64.wrap ((v / 2 : Nat) : Int) = ((v / 2 : Nat) : Int) := wrap_nat (by rw [B64_eq]; omega)
        have b1 : decide ((0 : Int) < (v : Int)) = true := decide_eq_true (by omega)
        have b2 : decide (0 < v) = true := decide_eq_true (by omega)
        have HH := Lib.hid (show j + 1 + bl (v / 2) = bl T by omega)
        have hj1 : j ≤ 32 := by omega
        have hv2 : v / 2 < v := by omega
        have hv3 : v / 2 ≤ T := by omega
        clear hh hj
        generalize v / 2 = u at *
        go_wp2
        go_round
        case rel => exact ⟨u, j + 1, rfl, by go_num, HH.out, hv3⟩
        case measure => simp [intOf]; omega
      · obtain rfl : v = 0 := by omega
        rw [bl_zero] at hj
        have HJ := Lib.hid hj
        clear hj
        have b1 : decide ((0 : Int) < ((0 : Nat) : Int)) = false := by decide
        go_wp2
        go_ret
        refine ⟨?_, HB.out⟩
        rw [HBL.out, ← HJ.out]
        simp
        omega

theorem bit_shift (x i : Nat) : (dig x (i / 32) / 2 ^ (i % 32) % 2 = 1) ↔ x.testBit i = true := by
  unfold dig
  have e : x / B32 ^ (i / 32) % B32 / 2 ^ (i % 32) % 2 = 1 ↔ (x / B32 ^ (i / 32) % B32).testBit (i % 32) = true := by
    rw [Nat.testBit_eq_decide_div_mod_eq]; simp
  rw [e, B32_pow_two, B32_pow, Nat.testBit_mod_two_pow, Nat.testBit_div_two_pow]
  rw [show i % 32 + 32 * (i / 32) = i by omega]
  simp [Nat.mod_lt]
theorem mod_two_bit {d k : Nat} {b : Bool} (h : d / 2 ^ k % 2 = 1 ↔ b = true) : (((d : Int) / 2 ^ k).tmod 2 == 1) = b := by
  have e : (d : Int) / 2 ^ k = ((d / 2 ^ k : Nat) : Int) := by simp
  rw [e, Int.tmod_eq_emod_of_nonneg (a := ((d / 2 ^ k : Nat) : Int)) (Int.natCast_nonneg _), Bool.eq_iff_iff, ← h]
  simp
  omega

set_option maxHeartbeats 400000 in
theorem bit_any (A : Option Addr) (n c x : Nat) (i : Int) (w : World) (h : DAt B32 w A n c x) (hi : i ≤ 9223372036854775807) :
    Calls Tryz.prog 83 #[.agg #[.slice A n c], .int .i64 i] w fun e w' => e = .returned (.bool (bitOf x i)) ∧ Below w.heap.size w w' := by
  by_cases h0 : 0 ≤ i
  · have h' := h.below ((Below.refl _ _).alloc (Nat.le_refl _) (.cells #[.slice A n c] 30))
    have hd : decide (0 ≤ i) = true := decide_eq_true h0
    have hq : 0 ≤ i / 32 := by omega
    have HB : bitOf x i = x.testBit i.toNat := by unfold bitOf; rw [hd]; rfl
    have HBH := Lib.hid HB
    clear HB
    have hbs := bit_shift x i.toNat
    rw [show i.toNat / 32 = (i / 32).toNat by omega, show i.toNat % 32 = (i % 32).toNat by omega] at hbs
    have hat := digit_int A n c x (i / 32) hq _ h'
    have hdl := dig_lt x (i / 32).toNat
    generalize dig x (i / 32).toNat = d at hbs hdl hat
    have hE := mod_two_bit (k := (i % 32).toNat) hbs
    have HE := Lib.hid hE
    have HAT := Lib.hid hat
    clear hbs hat hE
    go_enter Tryz.func83, Tryz.ntmps83
    go_wp2_with (go_at_call 102; (with_reducible refine HAT.out.mono ?_); rintro e w1 ⟨rfl, rfl⟩)
    go_ret
    refine ⟨?_, (Below.refl _ _).alloc (Nat.le_refl _) _⟩
    rw [HBH.out, ← HE.out]
    rfl
  · have hd : decide (0 ≤ i) = false := decide_eq_false h0
    have HB : bitOf x i = false := by unfold bitOf; rw [hd]; rfl
    have HBH := Lib.hid HB
    clear HB h
    go_enter Tryz.func83, Tryz.ntmps83
    go_wp2
    go_ret
    exact ⟨by rw [HBH.out]; rfl, (Below.refl _ _).alloc (Nat.le_refl _) _⟩

theorem two_digits {x : Nat} (h : x < B64) : dig x 0 + dig x 1 * 4294967296 = x := by
  unfold dig
  rw [B64_eq] at h
  rw [B32_eq, Nat.pow_zero, Nat.pow_one, Nat.div_one]
  omega
set_option maxHeartbeats 400000 in
theorem uint_any (A : Option Addr) (n c x : Nat) (w : World) (h : DAt B32 w A n c x) (hn : n ≤ 1099511627776) :
    Calls Tryz.prog 56 #[.agg #[.slice A n c]] w fun e w' => e = .returned (.tuple #[.int .u64 ((uintOf x : Nat) : Int), .bool (fitsU x)]) ∧ Below w.heap.size w w' := by
  have hb0 : Below w.heap.size w (w.alloc (.cells #[.slice A n c] 30)) := (Below.refl _ _).alloc (Nat.le_refl _) _
  by_cases h2 : 2 < n
  · have hx : ¬ x < B64 := by
      have h0 : x ≠ 0 := fun e => by have := (h.zero_len two_le_B32).2 e; omega
      have h1 := h.ge two_le_B32 (Nat.pos_of_ne_zero h0)
      have h3 : B32 ^ 2 ≤ B32 ^ (n - 1) := Nat.pow_le_pow_right (by decide) (by omega)
      have h4 : B32 ^ 2 = B64 := by decide
      omega
    rw [uint_great hx, fits_great hx]
    have b1 : decide ((2 : Int) < (n : Int)) = true := decide_eq_true (by omega)
    have b2 : decide (2 < n) = true := decide_eq_true h2
    have HB := Lib.hid hb0
    clear h hx hb0
    go_enter Tryz.func56, Tryz.ntmps56
    go_wp2
    go_ret2
    exact ⟨rfl, HB.out⟩
  · have hx : x < B64 := by
      have h1 := h.lt two_le_B32
      have h3 : B32 ^ n ≤ B32 ^ 2 := Nat.pow_le_pow_right (by decide) (by omega)
      have h4 : B32 ^ 2 = B64 := by decide
      omega
    rw [uint_small hx, fits_small hx]
    have b1 : decide ((2 : Int) < (n : Int)) = false := decide_eq_false (by omega)
    have b2 : decide (2 < n) = false := decide_eq_false h2
    have hd := h.below hb0
    have d0 := digit_q A n c x 0 _ hd
    have d1 := digit_q A n c x 1 _ hd
    rw [show ((0 : Nat) : Int) = 0 from rfl] at d0
    rw [show ((1 : Nat) : Int) = 1 from rfl] at d1
    have e2 := two_digits hx
    have l0 := dig_lt x 0
    have l1 := dig_lt x 1
    have hc0 : (w.alloc (.cells #[.slice A n c] 30)).cell? ⟨w.heap.size, 0, none⟩ = some (.slice A n c) := (Blk.new w 30 #[.slice A n c]).cell 0
    generalize dig x 0 = p at *
    generalize dig x 1 = q at *
    have f1 : IntKind.u64.wrap ((q : Int) * 4294967296) = (q : Int) * 4294967296 := by rw [B32_eq] at l1; rw [IntKind.wrap_u64]; omega
    have f2 : IntKind.u64.wrap ((p : Int) + (q : Int) * 4294967296) = (x : Int) := by rw [B32_eq] at l0 l1; rw [IntKind.wrap_u64]; omega
    have D0 := Lib.hid d0; have D1 := Lib.hid d1; have HB := Lib.hid hb0
    clear d0 d1 e2 hd hb0 h hx l0 l1
    go_enter Tryz.func56, Tryz.ntmps56
    go_wp2_with fail
    generalize w.alloc (.cells #[.slice A n c] 30) = W at *
    go_quiet (first | (go_at_call 102; with_reducible exact D0.out _) | (go_at_call 102; with_reducible exact D1.out _))
    go_wp2_with fail
    go_ret2
    exact ⟨rfl, ⟨HB.out.os, HB.out.tape, HB.out.output, HB.out.size, HB.out.block⟩⟩

structure RowRel1 (w0 : World) (A : Option Addr) (n c x : Nat) (L : Nat) (D : List Nat) (v : Value) (wr : World) : Prop where
  dx : DAt B32 wr A n c x
  bx : wr.cell? ⟨w0.heap.size, 0, none⟩ = some (.slice A n c)
  br : wr.cell? ⟨w0.heap.size + 1, 0, none⟩ = some (.slice none 0 0)
  fr : wr.frozen? ⟨w0.heap.size + 1, 0, none⟩ = false
  own : wr.ownsRow (w0.heap.size + 2) 23 1 v L (dv D)
  bel : Below w0.heap.size w0 wr
  size : w0.heap.size + 2 ≤ wr.heap.size
  ax : ∀ a, A = some a → 0 < n → a.block < w0.heap.size
section

variable {w0 wr w1 : World} {A : Option Addr} {n c x L : Nat} {D : List Nat} {v : Value}
theorem RowRel1.drewN (h : RowRel1 w0 A n c x L D v wr) (k : Nat) : RowRel1 w0 A n c x L D v (wr.drewN k) :=
  ⟨⟨h.dx.reads.drewN k, h.dx.cap, h.dx.room⟩, h.bx, h.br, h.fr, h.own, ⟨h.bel.os, h.bel.tape, h.bel.output, h.bel.size, h.bel.block⟩, h.size, h.ax⟩
theorem RowRel1.append {v1 u : Value} {d : Nat} {t : TypeId} (h : RowRel1 w0 A n c x L D v wr) (ho : w1.ownsRow (w0.heap.size + 2) 23 1 v1 (L + 1) (dv D ++ [.int .u64 (d : Int)])) (hg : (wr.alloc (.cells #[u] t)).grownBy w1 v.ownBlock) :
    RowRel1 w0 A n c x (L + 1) (D ++ [d]) v1 w1 := by
  have hlt : ∀ k, v.ownBlock = some k → w0.heap.size + 2 ≤ k := fun k hk => (h.own.lt k hk).1
  have hsz := h.size
  have keep : ∀ p : Addr, p.block < w0.heap.size + 2 → w1.cell? p = wr.cell? p := fun p hp => by
    have h1 := World.cell?_of_block (hg.block p.block (by simp; omega) (fun e => by have := hlt _ e.symm; omega))
    rw [h1]
    exact World.cell?_alloc_lt wr _ p (by omega)
  have keepf : ∀ p : Addr, p.block < w0.heap.size + 2 → w1.frozen? p = wr.frozen? p := fun p hp => by
    have h1 := World.frozen?_of_block (a := p) (hg.block p.block (by simp; omega) (fun e => by have := hlt _ e.symm; omega))
    rw [h1]
    exact World.frozen?_of_block (a := p) (Below.heap_alloc wr _ p.block (by omega))
  have hs1 : wr.heap.size ≤ w1.heap.size := by have := hg.size; simp at this; omega
  refine ⟨h.dx.old h.ax hs1 (fun p hp => keep p (by omega)), (keep _ (by simp)).trans h.bx, (keep _ (by simp)).trans h.br, (keepf _ (by simp)).trans h.fr, ?_, ?_, by omega, h.ax⟩
  · rw [dv_append]; exact ho
  · exact (h.bel.alloc h.bel.size _).grown hg (by simp; omega) (fun k hk => by have := hlt k hk; omega)
end
theorem row1_start {w : World} {A : Option Addr} {n c x : Nat} (hx : DAt B32 w A n c x) :
    RowRel1 w A n c x 0 [] (.slice none 0 0) ((w.alloc (.cells #[.slice A n c] 30)).alloc (.cells #[.slice none 0 0] 30)) := by
  have hb : Below w.heap.size w ((w.alloc (.cells #[.slice A n c] 30)).alloc (.cells #[.slice none 0 0] 30)) := ((Below.refl _ _).alloc (Nat.le_refl _) _).alloc (by simp) _
  have c1 := Blk.new (w.alloc (.cells #[.slice A n c] 30)) 30 #[.slice none 0 0]
  rw [show (w.alloc (.cells #[.slice A n c] 30)).heap.size = w.heap.size + 1 by simp] at c1
  exact ⟨hx.below hb, ((Blk.new w _ _).alloc _).cell 0, c1.cell 0, c1.frozen 0, World.ownsRow_nil _ _ _ _, hb, by simp, hx.olds⟩
theorem row1_made {w : World} {A : Option Addr} {n c x : Nat} (hx : DAt B32 w A n c x) (q : Nat) (hq : q ≤ 35184372088832) :
    RowRel1 w A n c x q (List.replicate q 0) (.slice (some ⟨w.heap.size + 2, 0, none⟩) q q) (((w.alloc (.cells #[.slice A n c] 30)).alloc (.cells #[.slice none 0 0] 30)).alloc (.cells (dva (List.replicate q 0)) 23)) := by
  have h := row1_start hx
  have hs : ((w.alloc (.cells #[.slice A n c] 30)).alloc (.cells #[.slice none 0 0] 30)).heap.size = w.heap.size + 2 := by simp
  have c2 := Blk.new ((w.alloc (.cells #[.slice A n c] 30)).alloc (.cells #[.slice none 0 0] 30)) 23 (dva (List.replicate q 0))
  rw [hs] at c2
  generalize (w.alloc (.cells #[.slice A n c] 30)).alloc (.cells #[.slice none 0 0] 30) = W at *
  have keep : ∀ p : Addr, p.block < w.heap.size + 2 → (W.alloc (.cells (dva (List.replicate q 0)) 23)).cell? p = W.cell? p := fun p hp => World.cell?_alloc_lt W _ p (by omega)
  refine ⟨h.dx.al _, (keep _ (by simp)).trans h.bx, (keep _ (by simp)).trans h.br, (World.frozen?_of_block (Below.heap_alloc W _ _ (by simp; omega))).trans h.fr, ⟨by simp [dv], .inr ⟨w.heap.size + 2, q, _, rfl, Nat.le_refl _, c2, Nat.le_refl _, by unfold maxLen; omega, by simp [dva, dv], ?_⟩⟩, h.bel.alloc h.bel.size _, by simp; omega, h.ax⟩
  simp [dva, dv]

structure LfIs (x n i cy : Nat) (D : List Nat) : Prop where
  len : D.length = n / 32 + i
  dlt : ∀ d ∈ D, d < B32
  cl : cy < 2 ^ (n % 32)
  eq : val B32 D + B32 ^ (n / 32 + i) * cy = x % B32 ^ i * 2 ^ n
theorem pow_move (n i : Nat) : B32 ^ (n / 32 + i) * 2 ^ (n % 32) = B32 ^ i * 2 ^ n := by
  rw [B32_pow_two, B32_pow_two, ← Nat.pow_add, ← Nat.pow_add]
  congr 1
  omega
theorem LfIs.start (x n : Nat) : LfIs x n 0 0 (List.replicate (n / 32) 0) :=
  ⟨by simp, fun d hd => by rw [List.eq_of_mem_replicate hd]; decide, Nat.two_pow_pos _, by rw [val_replicate]; simp [Nat.mod_one]⟩
theorem r32 (n : Nat) : 2 ^ (n % 32) ≤ 2147483648 := by
  have : 2 ^ (n % 32) ≤ 2 ^ 31 := Nat.pow_le_pow_right (by omega) (by omega)
  simpa using this
theorem lf_bound {d cy r : Nat} (hd : d < B32) (hc : cy < r) (hr : r ≤ 2147483648) : d * r + cy < B64 ∧ hi (d * r + cy) < r := by
  rw [B32_eq] at hd
  have h1 : d * r ≤ 4294967295 * r := Nat.mul_le_mul_right _ (by omega)
  refine ⟨by rw [B64_eq]; omega, ?_⟩
  unfold hi
  rw [B32_eq]
  omega
theorem LfIs.next {x n i cy : Nat} {D : List Nat} (h : LfIs x n i cy D) : LfIs x n (i + 1) (hi (dig x i * 2 ^ (n % 32) + cy)) (D ++ [lo (dig x i * 2 ^ (n % 32) + cy)]) := by
  refine ⟨by simp [h.len]; omega, fun d hd => ?_, (lf_bound (dig_lt x i) h.cl (r32 n)).2, ?_⟩
  · rcases List.mem_append.1 hd with hd | hd
    · exact h.dlt d hd
    · simp at hd; rw [hd]; exact lo_lt _
  · have h1 := lo_hi (dig x i * 2 ^ (n % 32) + cy)
    have h2 := h.eq
    have h3 := pow_move n i
    rw [val_snoc, h.len, low_succ, show n / 32 + (i + 1) = n / 32 + i + 1 by omega, Nat.pow_succ]
    rw [show x / B32 ^ i % B32 = dig x i from rfl, Nat.add_mul, ← h2]
    generalize lo (dig x i * 2 ^ (n % 32) + cy) = s at *
    generalize hi (dig x i * 2 ^ (n % 32) + cy) = t at *
    generalize dig x i = d at *
    generalize 2 ^ (n % 32) = R at *
    generalize B32 ^ (n / 32 + i) = Q at *
    have e : B32 ^ i * d * 2 ^ n = Q * (d * R) := by rw [Nat.mul_comm (B32 ^ i) d, Nat.mul_assoc, ← h3, ← Nat.mul_assoc, Nat.mul_comm d Q, Nat.mul_assoc]
    have h4 := congrArg (Q * ·) h1
    simp only [Nat.mul_add] at h4
    rw [e, Nat.mul_assoc]
    omega
theorem LfIs.done {x n m cy : Nat} {D : List Nat} (h : LfIs x n m cy D) (hx : x < B32 ^ m) : val B32 (D ++ [cy]) = x * 2 ^ n := by
  rw [val_snoc, h.len, h.eq, Nat.mod_eq_of_lt hx]

set_option maxRecDepth 100000 in
set_option maxHeartbeats 1000000 in
theorem left_any (A : Option Addr) (n c x k : Nat) (w : World) (h : DAt B32 w A n c x) (hn : n ≤ 1099511627776) (hk : k ≤ 16777216) :
    Calls Tryz.prog 17 #[.agg #[.slice A n c], .int .i64 (k : Int)] w fun e w' => ∃ A n c, e = .returned (.agg #[.slice A n c]) ∧ DAt B32 w' A n c (x * 2 ^ k) ∧ Below w.heap.size w w' := by
  have hmk := run_make_digits (k / 32) (by omega)
  rw [show ((k / 32 : Nat) : Int) = (k : Int) / 32 by omega] at hmk
  have hr0 := row1_made h (k / 32) (by omega)
  have hxl := h.lt two_le_B32
  obtain ⟨i0, hi0, hz0, hz1, hz2⟩ := digit_parts
  have HX := Lib.hid hxl; have HR0 := Lib.hid hr0
  clear hxl hr0 h
  go_enter Tryz.func17, Tryz.ntmps17
  go_wp2_with fail
  clear hmk
  have hr0 := HR0.out
  clear HR0
  generalize ((w.alloc (.cells #[.slice A n c] 30)).alloc (.cells #[.slice none 0 0] 30)).alloc (.cells (dva (List.replicate (k / 32) 0)) 23) = W at hr0 ⊢
  go_loopw [5, 6, 7, 8] (fun lv cv iv sv wr => ∃ (i cy cap : Nat) (D : List Nat) (Av : Option Addr), i ≤ n ∧ iv = .int .i64 i ∧ cv = .int .u64 (cy : Int) ∧ lv = .slice Av (k / 32 + i : Nat) cap ∧ LfIs x k i cy D ∧ RowRel1 w A n c x (k / 32 + i) D (.slice Av (k / 32 + i : Nat) cap) wr) (fun _ _ i _ _ => n - (intOf i).toNat)
  case atStart => exact ⟨0, 0, k / 32, _, _, by omega, rfl, rfl, by simp, LfIs.start x k, hr0⟩
  case round =>
    clear hr0
    obtain ⟨i, cy, cap, D, Av, hin, rfl, rfl, rfl, hs, hr⟩ := hrel
    have hb1 := hr.bx
    by_cases hlt : i < n
    · obtain ⟨gx, ox, rfl, -, hxc⟩ := hr.dx.flat two_le_B32 (by omega)
      have hxk := hxc i hlt
      rw [show x / B32 ^ i % B32 = dig x i from rfl] at hxk
      have hsn := hs.next
      have hdl := dig_lt x i
      have hbd := lf_bound hdl hs.cl (r32 k)
      generalize dig x i = d at *
      have f0 : IntKind.u64.wrap ((d : Int) * 2 ^ (k % 32)) = ((d * 2 ^ (k % 32) : Nat) : Int) := by
        rw [show (d : Int) * 2 ^ (k % 32) = ((d * 2 ^ (k % 32) : Nat) : Int) by simp]
        exact wrap_nat (by omega)
      have f1 : IntKind.u64.wrap (((d * 2 ^ (k % 32) : Nat) : Int) + (cy : Int)) = ((d * 2 ^ (k % 32) + cy : Nat) : Int) := by rw [← Int.natCast_add]; exact wrap_nat hbd.1
      have hS := hbd.1
      clear hbd
      generalize d * 2 ^ (k % 32) + cy = S at *
      generalize d * 2 ^ (k % 32) = P at *
      have f3 := rem_lo (s := S)
      have f4 := quo_hi (s := S)
      have f5 := wrap_hi hS
      have f6 := wrap_lo (s := S)
      generalize lo S = l0 at *
      generalize hi S = h0 at *
      have HS := Lib.hid hsn; have HR := Lib.hid hr
      obtain ⟨q, hq⟩ : ∃ q, q = k / 32 + i := ⟨_, rfl⟩
      have hqb : q ≤ 1100000000000 := by omega
      clear hsn hs hr hdl hS hxc
      have HQ := Lib.hid hq
      rw [← hq] at HR ⊢
      clear hq
      go_wp2_with (at_builtin; refine wpList_append_any _ rfl (.tmp 29) (.tmp 32) _ rfl (w.heap.size + 2) 23 i0 _ 1 8 Tryz.underlying24 hi0 hz0 hz1 hz2 rfl (by omega) (.slice Av q cap) q (dv D) rfl (HR.out.own.alloc _) (wr.heap.size + 1) (some ⟨wr.heap.size, 0, none⟩) 1 1 [.int .u64 (l0 : Int)] rfl (one_read _ _ _) (by simp [Value.oneCell']) (by unfold maxLen; omega) (by omega) (by have := HR.out.size; simp; omega) ?_; intro v1 w4 hown4 hg4 hat4; have hr4 := Lib.hid (HR.out.append hown4 hg4); obtain ⟨Av1, cv1, rfl⟩ := own_slice hown4)
      refine ⟨⟨i + 1, h0, cv1, _, Av1, by omega, by go_num, rfl, by rw [HQ.out, Nat.add_assoc], HS.out, by have := hr4.out; rw [HQ.out, Nat.add_assoc] at this; exact this⟩, ?_⟩
      simp [intOf]; omega
    · obtain rfl : n = i := by omega
      have hv := hs.done HX.out
      have hD : ∀ d ∈ D ++ [cy], d < B32 := by
        intro d hd
        rcases List.mem_append.1 hd with hd | hd
        · exact hs.dlt d hd
        · simp at hd; rw [hd]; exact Nat.lt_of_lt_of_le hs.cl (Nat.le_trans (r32 k) (by decide))
      have HV := Lib.hid hv; have HD := Lib.hid hD; have HR := Lib.hid hr
      obtain ⟨q, hq⟩ : ∃ q, q = k / 32 + n := ⟨_, rfl⟩
      have hqb : q ≤ 1100000000000 := by omega
      rw [← hq] at HR ⊢
      clear hv hD hs hr hq
      go_wp2_with (at_builtin; refine wpList_append_any _ rfl (.tmp 36) (.tmp 38) _ rfl (w.heap.size + 2) 23 i0 _ 1 8 Tryz.underlying24 hi0 hz0 hz1 hz2 rfl (by omega) (.slice Av q cap) q (dv D) rfl (HR.out.own.alloc _) (wr.heap.size + 1) (some ⟨wr.heap.size, 0, none⟩) 1 1 [.int .u64 (cy : Int)] rfl (one_read _ _ _) (by simp [Value.oneCell']) (by unfold maxLen; omega) (by omega) (by have := HR.out.size; simp; omega) ?_; intro v1 w4 hown4 hg4 hat4; have hr4 := Lib.hid (HR.out.append hown4 hg4); obtain ⟨Av1, cv1, rfl⟩ := own_slice hown4)
      refine (trim_td _ Av1 (D ++ [cy]) (q + 1) cv1 (x * 2 ^ k) w4 (Td.of_own hr4.out.own) HD.out HV.out).mono ?_
      rintro e w3 ⟨m, rfl, hm, hd3, hb3⟩
      have hsz := hr4.out.size
      have r1 : w3.cell? ⟨w.heap.size + 1, 0, none⟩ = some (.slice none 0 0) := (hb3.cell (by simp; omega)).trans hr4.out.br
      have r2 : w3.frozen? ⟨w.heap.size + 1, 0, none⟩ = false := (hb3.frozen (by simp; omega)).trans hr4.out.fr
      have HF := Lib.hid (hd3.put r1 (.slice Av1 m cv1))
      have HB := Lib.hid ((hr4.out.bel.trans (hb3.mono hr4.out.bel.size)).setCell (p := ⟨w.heap.size + 1, 0, none⟩) (by simp) (.slice Av1 m cv1))
      clear hd3 hb3 HR hr4 hown4 hg4
      go_wp2
      exact bodyPost_ret (v := .agg #[.slice Av1 m cv1]) (by simp [results, Tryz.results17, go_sem, r1]) rfl ⟨_, _, _, rfl, HF.out, HB.out⟩

/-! ### A number moved down -/
structure RtIs (y j : Nat) (D : List Nat) : Prop where
  len : D.length = j
  dlt : ∀ d ∈ D, d < B32
  eq : val B32 D = y % B32 ^ j
theorem RtIs.start (y : Nat) : RtIs y 0 [] := ⟨rfl, by simp, by simp [val, Nat.mod_one]⟩
theorem RtIs.next {y j : Nat} {D : List Nat} (h : RtIs y j D) : RtIs y (j + 1) (D ++ [dig y j]) := by
  refine ⟨by simp [h.len], fun d hd => ?_, by rw [val_snoc, h.len, low_succ, h.eq]; rfl⟩
  rcases List.mem_append.1 hd with hd | hd
  · exact h.dlt d hd
  · simp at hd; rw [hd]; exact dig_lt _ _
theorem shift_digit (x n j : Nat) : (dig x (n / 32 + j) + dig x (n / 32 + j + 1) * 4294967296) / 2 ^ (n % 32) % 4294967296 = dig (x / 2 ^ n) j := by
  have e1 : dig x (n / 32 + j) + dig x (n / 32 + j + 1) * 4294967296 = x / B32 ^ (n / 32 + j) % 2 ^ 64 := by
    unfold dig
    rw [Nat.pow_succ, ← Nat.div_div_eq_div_mul, B32_eq]
    generalize x / 4294967296 ^ (n / 32 + j) = y
    omega
  have e2 : dig (x / 2 ^ n) j = x / B32 ^ (n / 32 + j) / 2 ^ (n % 32) % 2 ^ 32 := by
    unfold dig
    rw [Nat.div_div_eq_div_mul, Nat.div_div_eq_div_mul, pow_move, Nat.mul_comm, B32_pow]
  rw [e1, e2, show (4294967296 : Nat) = 2 ^ 32 from rfl]
  generalize x / B32 ^ (n / 32 + j) = y
  apply Nat.eq_of_testBit_eq
  intro t
  simp only [Nat.testBit_mod_two_pow, Nat.testBit_div_two_pow]
  by_cases ht : t < 32
  · simp [ht, show t + n % 32 < 64 by omega, show n % 32 + t < 64 by omega]
  · simp [ht]
theorem RtIs.done {x n m j : Nat} {D : List Nat} (h : RtIs (x / 2 ^ n) j D) (hx : x < B32 ^ m) (hj : n / 32 + j = max m (n / 32)) : val B32 D = x / 2 ^ n := by
  rw [h.eq]
  apply Nat.mod_eq_of_lt
  rw [Nat.div_lt_iff_lt_mul (Nat.two_pow_pos _), ← pow_move, hj]
  have h1 : B32 ^ m ≤ B32 ^ max m (n / 32) := Nat.pow_le_pow_right (by decide) (by omega)
  have h2 : B32 ^ max m (n / 32) ≤ B32 ^ max m (n / 32) * 2 ^ (n % 32) := Nat.le_mul_of_pos_right _ (Nat.two_pow_pos _)
  omega

set_option maxRecDepth 100000 in
set_option maxHeartbeats 1000000 in
theorem right_any (A : Option Addr) (n c x k : Nat) (w : World) (h : DAt B32 w A n c x) (hn : n ≤ 1099511627776) (hk : k ≤ 9223372036854775807) :
    Calls Tryz.prog 121 #[.agg #[.slice A n c], .int .i64 (k : Int)] w fun e w' => ∃ A n c, e = .returned (.agg #[.slice A n c]) ∧ DAt B32 w' A n c (x / 2 ^ k) ∧ Below w.heap.size w w' := by
  have hr0 := row1_start h
  have hxl := h.lt two_le_B32
  obtain ⟨i0, hi0, hz0, hz1, hz2⟩ := digit_parts
  have HX := Lib.hid hxl
  clear hxl h
  go_enter Tryz.func121, Tryz.ntmps121
  go_wp2_with fail
  generalize (w.alloc (.cells #[.slice A n c] 30)).alloc (.cells #[.slice none 0 0] 30) = W at hr0 ⊢
  go_loopw [5, 6, 7] (fun lv iv sv wr => ∃ (j i cap : Nat) (D : List Nat) (Av : Option Addr), i = k / 32 + j ∧ i ≤ max n (k / 32) ∧ iv = .int .i64 (i : Int) ∧ lv = .slice Av j cap ∧ RtIs (x / 2 ^ k) j D ∧ RowRel1 w A n c x j D (.slice Av j cap) wr) (fun _ i _ _ => n - (intOf i).toNat)
  case atStart => exact ⟨0, k / 32, 0, [], none, rfl, by omega, by go_num, rfl, RtIs.start _, hr0⟩
  case round =>
    clear hr0
    obtain ⟨j, i, cap, D, Av, hij, him, rfl, rfl, hs, hr⟩ := hrel
    have hb1 := hr.bx
    by_cases hlt : i < n
    · obtain ⟨gx, ox, rfl, -, hxc⟩ := hr.dx.flat two_le_B32 (by omega)
      have hxk := hxc i hlt
      rw [show x / B32 ^ i % B32 = dig x i from rfl] at hxk
      have ay := digit_q (some ⟨gx, ox, none⟩) n c x (i + 1) wr hr.dx
      rw [show ((i + 1 : Nat) : Int) = (i : Int) + 1 from rfl] at ay
      have hsn := hs.next
      have hsd := shift_digit x k j
      rw [← hij] at hsd
      have l0 := dig_lt x i
      have l1 := dig_lt x (i + 1)
      generalize dig x i = p at *
      generalize dig x (i + 1) = q at *
      generalize dig (x / 2 ^ k) j = z at *
      have f0 : IntKind.u64.wrap ((q : Int) * 4294967296) = ((q * 4294967296 : Nat) : Int) := by rw [B32_eq] at l1; rw [IntKind.wrap_u64]; omega
      have f1 : IntKind.u64.wrap ((p : Int) + ((q * 4294967296 : Nat) : Int)) = ((p + q * 4294967296 : Nat) : Int) := by rw [B32_eq] at l0 l1; rw [IntKind.wrap_u64]; omega
      generalize p + q * 4294967296 = S at *
      generalize q * 4294967296 = Q at *
      have f2 : ((S : Int) / 2 ^ (k % 32)).tmod 4294967296 = (z : Int) := by
        rw [← hsd, show (S : Int) / 2 ^ (k % 32) = ((S / 2 ^ (k % 32) : Nat) : Int) by simp, Int.tmod_eq_emod_of_nonneg (Int.natCast_nonneg _)]; omega
      have f2' : ((S : Int) / 2 ^ (k % 32)) % 4294967296 = (z : Int) := by
        rw [← hsd, show (S : Int) / 2 ^ (k % 32) = ((S / 2 ^ (k % 32) : Nat) : Int) by simp]; omega
      have f3 : IntKind.u64.wrap (z : Int) = (z : Int) := wrap_nat (by rw [B64_eq]; omega)
      have f4 : IntKind.i64.wrap ((i : Int) + 1) = (i : Int) + 1 := IntWalk.i64_in _ (by omega)
      have AY := Lib.hid ay; have HS := Lib.hid hsn; have HR := Lib.hid hr
      have b1 : decide ((i : Int) < (n : Int)) = true := decide_eq_true (by omega)
      have b2 : decide (i < n) = true := decide_eq_true (by omega)
      have b3 : (0 : Int) ≤ (i : Int) := by omega
      have b4 : (i : Int) < (n : Int) := by omega
      have HIJ := Lib.hid hij
      have hjb : j ≤ 1099511627776 := by omega
      clear ay hsn hs hr l0 l1 hxc hsd hij
      go_wp2_with fail
      go_quiet ((go_at_call 102; with_reducible exact AY.out _))
      have HR1 := Lib.hid (HR.out.drewN nq)
      generalize wr.drewN nq = wd at *
      clear HR hxk hb1
      go_wp2_with (at_builtin; refine wpList_append_any _ rfl (.tmp 29) (.tmp 35) _ rfl (w.heap.size + 2) 23 i0 _ 1 8 Tryz.underlying24 hi0 hz0 hz1 hz2 rfl (by omega) (.slice Av j cap) j (dv D) rfl (HR1.out.own.alloc _) (wd.heap.size + 1) (some ⟨wd.heap.size, 0, none⟩) 1 1 [.int .u64 (z : Int)] rfl (one_read _ _ _) (by simp [Value.oneCell']) (by unfold maxLen; omega) (by omega) (by have := HR1.out.size; simp; omega) ?_; intro v1 w4 hown4 hg4 hat4; have hr4 := Lib.hid (HR1.out.append hown4 hg4); obtain ⟨Av1, cv1, rfl⟩ := own_slice hown4)
      refine ⟨⟨j + 1, i + 1, cv1, _, Av1, by have := HIJ.out; omega, by omega, by go_num, rfl, HS.out, hr4.out⟩, ?_⟩
      simp [intOf]; omega
    · have hv := hs.done HX.out (by omega)
      have hD := hs.dlt
      have HV := Lib.hid hv; have HD := Lib.hid hD; have HR := Lib.hid hr
      have b1 : decide ((i : Int) < (n : Int)) = false := decide_eq_false (by omega)
      have b2 : decide (i < n) = false := decide_eq_false (by omega)
      have HIJ := Lib.hid hij
      clear hv hD hs hr hij him
      go_wp2_with fail
      refine (trim_td _ Av D j cap (x / 2 ^ k) wr (Td.of_own HR.out.own) HD.out HV.out).mono ?_
      rintro e w3 ⟨m, rfl, hm, hd3, hb3⟩
      have hsz := HR.out.size
      have r1 : w3.cell? ⟨w.heap.size + 1, 0, none⟩ = some (.slice none 0 0) := (hb3.cell (by simp; omega)).trans HR.out.br
      have r2 : w3.frozen? ⟨w.heap.size + 1, 0, none⟩ = false := (hb3.frozen (by simp; omega)).trans HR.out.fr
      have HF := Lib.hid (hd3.put r1 (.slice Av m cap))
      have HB := Lib.hid ((HR.out.bel.trans (hb3.mono HR.out.bel.size)).setCell (p := ⟨w.heap.size + 1, 0, none⟩) (by simp) (.slice Av m cap))
      clear hd3 hb3 HR
      go_wp2
      exact bodyPost_ret (v := .agg #[.slice Av m cap]) (by simp [results, Tryz.results121, go_sem, r1]) rfl ⟨_, _, _, rfl, HF.out, HB.out⟩
end Go.Proofs.YtfgnleoaibcegaaGreat.Ref

namespace Go.Proofs.YtfgnleoaibcegaaGreat.Ref

open Go.RowKit

structure BoxRel (w0 : World) (A : Option Addr) (n c x g : Nat) (l : List Nat) (wr : World) : Prop where
  dx0 : DAt B32 w0 A n c x
  bx : wr.cell? ⟨w0.heap.size, 0, none⟩ = some (.slice A n c)
  br : wr.cell? ⟨w0.heap.size + 1, 0, none⟩ = some (.slice none 0 0)
  fr : wr.frozen? ⟨w0.heap.size + 1, 0, none⟩ = false
  dg : Dg wr g l
  bel : Below w0.heap.size w0 wr
  hg : w0.heap.size + 1 < g
section

variable {w0 wr w1 : World} {A : Option Addr} {n c x g : Nat} {l : List Nat}
theorem BoxRel.below (h : BoxRel w0 A n c x g l wr) (hb : Below wr.heap.size wr w1) : BoxRel w0 A n c x g l w1 := by
  have hlt := h.dg.lt
  have hg := h.hg
  exact ⟨h.dx0, (hb.cell (by simp; omega)).trans h.bx, (hb.cell (by simp; omega)).trans h.br, (hb.frozen (by simp; omega)).trans h.fr, h.dg.below hb hlt, h.bel.trans (hb.mono h.bel.size), hg⟩
theorem BoxRel.set_ (h : BoxRel w0 A n c x g l wr) (k d : Nat) : BoxRel w0 A n c x g (l.set k d) (wr.setCell ⟨g, k, none⟩ (.int .u64 (d : Int))) := by
  have hg := h.hg
  refine ⟨h.dx0, ?_, ?_, ?_, h.dg.set_ k d, h.bel.setCell (by simp; omega) _, hg⟩
  · rw [World.cell?_setCell_other _ _ _ _ (by intro e; injection e; omega)]; exact h.bx
  · rw [World.cell?_setCell_other _ _ _ _ (by intro e; injection e; omega)]; exact h.br
  · rw [World.frozen?_of_block (w := wr) (Below.heap_setCell _ _ _ _ (by simp; omega))]; exact h.fr
theorem BoxRel.xcell {off gx : Nat} (h : BoxRel w0 (some ⟨gx, off, none⟩) n c x g l wr) {i : Nat} (hi : i < n) : wr.cell? ⟨gx, off + i, none⟩ = some (.int .u64 ((dig x i : Nat) : Int)) := by
  obtain ⟨g1, o1, e, hg, hc⟩ := h.dx0.flat two_le_B32 (by omega)
  injection e with e; injection e with e1 e2; subst e1; subst e2
  rw [h.bel.cell hg]; exact hc i hi
end
theorem box_start {w : World} {A : Option Addr} {n c x : Nat} (hx : DAt B32 w A n c x) (l : List Nat) :
    BoxRel w A n c x (w.heap.size + 1 + 1) l (((w.alloc (.cells #[.slice A n c] 30)).alloc (.cells #[.slice none 0 0] 30)).alloc (.cells (dva l) 23)) := by
  have h := row1_start hx
  have hs : ((w.alloc (.cells #[.slice A n c] 30)).alloc (.cells #[.slice none 0 0] 30)).heap.size = w.heap.size + 1 + 1 := by simp
  have c2 := Dg.new ((w.alloc (.cells #[.slice A n c] 30)).alloc (.cells #[.slice none 0 0] 30)) l
  rw [hs] at c2
  generalize (w.alloc (.cells #[.slice A n c] 30)).alloc (.cells #[.slice none 0 0] 30) = W at *
  have keep : ∀ p : Addr, p.block < w.heap.size + 1 + 1 → (W.alloc (.cells (dva l) 23)).cell? p = W.cell? p := fun p hp => World.cell?_alloc_lt W _ p (by omega)
  exact ⟨hx, (keep _ (show w.heap.size < w.heap.size + 1 + 1 by omega)).trans h.bx, (keep _ (show w.heap.size + 1 < w.heap.size + 1 + 1 by omega)).trans h.br, (World.frozen?_of_block (Below.heap_alloc W _ _ (by simp; omega))).trans h.fr, c2, h.bel.alloc h.bel.size _, by omega⟩

structure SmIs (x d i r : Nat) (D : List Nat) : Prop where
  dlt : ∀ e ∈ D, e < B32
  eq : val B32 D = x / B32 ^ i / d
  rem : r = x / B32 ^ i % d
theorem sm_start {x n d : Nat} (hx : x < B32 ^ n) : SmIs x d n 0 [] := ⟨by simp, by rw [Nat.div_eq_of_lt hx, Nat.zero_div]; rfl, by rw [Nat.div_eq_of_lt hx, Nat.zero_mod]⟩
theorem sm_bound {r d e : Nat} (hd : d ≤ 4294967295) (hr : r < d) (he : e < B32) : r * 4294967296 + e < B64 ∧ (r * 4294967296 + e) / d < B32 := by
  rw [B32_eq] at he ⊢
  rw [B64_eq]
  refine ⟨by omega, (Nat.div_lt_iff_lt_mul (by omega)).2 ?_⟩
  have : r * 4294967296 + 4294967296 ≤ d * 4294967296 := by omega
  rw [Nat.mul_comm 4294967296]; omega
theorem SmIs.next {x d m r : Nat} {D : List Nat} (h : SmIs x d (m + 1) r D) (hd0 : 0 < d) (hd : d ≤ 4294967295) :
    r < d ∧ SmIs x d m ((r * 4294967296 + dig x m) % d) ((r * 4294967296 + dig x m) / d :: D) := by
  have hr : r < d := by rw [h.rem]; exact Nat.mod_lt _ hd0
  refine ⟨hr, fun e he => ?_, ?_, ?_⟩
  · rcases List.mem_cons.1 he with rfl | he
    · exact (sm_bound hd hr (dig_lt x m)).2
    · exact h.dlt e he
  all_goals
    have e1 : x / B32 ^ m = x / B32 ^ (m + 1) * B32 + dig x m := by
      unfold dig
      rw [Nat.pow_succ, ← Nat.div_div_eq_div_mul]
      have := Nat.mod_add_div (x / B32 ^ m) B32
      rw [Nat.mul_comm]; omega
    have e2 := Nat.mod_add_div (x / B32 ^ (m + 1)) d
    have hq := h.eq
    rw [← h.rem, ← hq] at e2
    have e3 : x / B32 ^ m = (r * 4294967296 + dig x m) + d * (val B32 D * B32) := by
      rw [e1, ← e2, Nat.add_mul, ← Nat.mul_assoc, B32_eq]; omega
  · rw [e3, Nat.add_mul_div_left _ _ hd0, val, Nat.mul_comm B32]
  · rw [e3, Nat.add_mul_mod_self_left]

set_option maxRecDepth 100000 in
set_option maxHeartbeats 1000000 in
theorem small_new (A : Option Addr) (n c x d : Nat) (w : World) (h : DAt B32 w A n c x) (hn : n ≤ 1099511627776) (hd0 : 0 < d) (hd : d ≤ 4294967295) :
    Calls Tryz.prog 111 #[.agg #[.slice A n c], .int .u64 (d : Int)] w fun e w' => ∃ g n c, e = .returned (.tuple #[.agg #[.slice (some ⟨g, 0, none⟩) n c], .int .u64 ((x % d : Nat) : Int)]) ∧ DAt B32 w' (some ⟨g, 0, none⟩) n c (x / d) ∧ Below w.heap.size w w' ∧ w.heap.size ≤ g := by
  have hmk := run_make_digits n (by omega)
  have hr0 := box_start h (List.replicate n 0)
  have hxl := h.lt two_le_B32
  have HX := Lib.hid hxl; have HR0 := Lib.hid hr0
  clear hxl hr0 h
  go_enter Tryz.func111, Tryz.ntmps111
  go_wp2_with fail
  clear hmk
  have hr0 := HR0.out
  clear HR0
  generalize ((w.alloc (.cells #[.slice A n c] 30)).alloc (.cells #[.slice none 0 0] 30)).alloc (.cells (dva (List.replicate n 0)) 23) = W at hr0 ⊢
  have HGG := Lib.hid (show w.heap.size ≤ w.heap.size + 1 + 1 by omega)
  generalize w.heap.size + 1 + 1 = g at hr0 HGG ⊢
  go_loopw [7, 8, 9] (fun rv iv _ wr => ∃ (k r : Nat) (D : List Nat), k ≤ n ∧ iv = .int .i64 ((k : Int) - 1) ∧ rv = .int .u64 (r : Int) ∧ SmIs x d k r D ∧ D.length = n - k ∧ BoxRel w A n c x g (List.replicate k 0 ++ D) wr) (fun _ i _ _ => (intOf i + 1).toNat)
  case atStart => exact ⟨n, 0, [], Nat.le_refl _, rfl, rfl, sm_start HX.out, by simp, by simpa using hr0⟩
  case round =>
    clear hr0
    obtain ⟨k, r, D, hk, rfl, rfl, hs, hl, hr⟩ := hrel
    have hb1 := hr.bx
    by_cases hk0 : 0 < k
    · obtain ⟨m, rfl⟩ : ∃ m, k = m + 1 := ⟨k - 1, by omega⟩
      rw [show (((m + 1 : Nat) : Int) - 1) = (m : Int) by omega]
      obtain ⟨gx, ox, rfl, -, -⟩ := hr.dx0.flat two_le_B32 (by omega)
      have hxk := hr.xcell (i := m) (by omega)
      obtain ⟨hrl, hsn⟩ := hs.next hd0 hd
      have hdl := dig_lt x m
      generalize dig x m = p at *
      have hbd := sm_bound hd hrl hdl
      have hset := hr.set_ m ((r * 4294967296 + p) / d)
      have hst : (List.replicate (m + 1) 0 ++ D).set m ((r * 4294967296 + p) / d) = List.replicate m 0 ++ ((r * 4294967296 + p) / d :: D) := by
        rw [List.replicate_succ', List.append_assoc, List.set_append_right _ _ (by simp)]; simp
      rw [hst] at hset
      clear hst
      have hdc := hr.dg.cell (i := m) (by simp; omega)
      have hdf := hr.dg.frozen m
      generalize (List.replicate (m + 1) 0 ++ D).getD m 0 = old at hdc
      have f0 : IntKind.u64.wrap ((r : Int) * 4294967296) = ((r * 4294967296 : Nat) : Int) := by rw [IntKind.wrap_u64]; omega
      have f1 : IntKind.u64.wrap (((r * 4294967296 : Nat) : Int) + (p : Int)) = ((r * 4294967296 + p : Nat) : Int) := by rw [← Int.natCast_add]; exact wrap_nat hbd.1
      have hS := hbd.1
      clear hbd
      generalize r * 4294967296 + p = S at *
      generalize r * 4294967296 = R at *
      have f2 : (S : Int).tdiv (d : Int) = ((S / d : Nat) : Int) := by rw [Int.tdiv_eq_ediv_of_nonneg (Int.natCast_nonneg _)]; simp
      have f3 : (S : Int).tmod (d : Int) = ((S % d : Nat) : Int) := by rw [Int.tmod_eq_emod_of_nonneg (Int.natCast_nonneg _)]; simp
      have f2' : (S : Int) / (d : Int) = ((S / d : Nat) : Int) := by simp
      have f3' : (S : Int) % (d : Int) = ((S % d : Nat) : Int) := by simp
      have f4 : IntKind.u64.wrap ((S / d : Nat) : Int) = ((S / d : Nat) : Int) := wrap_nat (Nat.lt_of_le_of_lt (Nat.div_le_self _ _) hS)
      have f5 : IntKind.u64.wrap ((S % d : Nat) : Int) = ((S % d : Nat) : Int) := wrap_nat (Nat.lt_of_le_of_lt (Nat.mod_le _ _) hS)
      have g1 : ((d : Int) == 0) = false := by simp; omega
      have g2 : ¬ ((d : Int) = 0) := by omega
      have g3 : ¬ (d = 0) := by omega
      have HS := Lib.hid hsn; have HR := Lib.hid hset
      generalize S / d = q at *
      generalize S % d = r' at *
      have b1 : decide ((0 : Int) ≤ (m : Int)) = true := decide_eq_true (by omega)
      have b3 : (0 : Int) ≤ (m : Int) := by omega
      have b4 : (m : Int) < (n : Int) := by omega
      clear hsn hset hs hr hdl hS hrl
      go_wp2
      go_roundw
      case rel => exact ⟨m, r', _, by omega, rfl, rfl, HS.out, by simp; omega, HR.out⟩
      case measure => simp [intOf]
    · obtain rfl : k = 0 := by omega
      have hv : val B32 D = x / d := by rw [hs.eq]; simp
      have hrm : r = x % d := by rw [hs.rem]; simp
      have hD := hs.dlt
      rw [List.replicate_zero, List.nil_append] at hr
      have hl' : D.length = n := by omega
      have HV := Lib.hid hv; have HD := Lib.hid hD; have HM := Lib.hid hrm
      clear hv hD hs hrm hl
      go_wp2_with fail
      refine (trim_td 0 _ D n n (x / d) _ (Td.of_dg hr.dg hl' (Nat.zero_le _) (Nat.le_refl _) (by unfold maxLen; omega)) HD.out HV.out).mono ?_
      rintro e w3 ⟨m, rfl, hm, hd3, hb3⟩
      have hr3 := hr.below hb3
      have r1 := hr3.br
      have r2 := hr3.fr
      have HF := Lib.hid (hd3.put r1 (.slice (some ⟨g, 0, none⟩) m n))
      have HB := Lib.hid (hr3.bel.setCell (p := ⟨w.heap.size + 1, 0, none⟩) (by simp) (.slice (some ⟨g, 0, none⟩) m n))
      clear hd3 hb3 hr hr3 hl'
      go_wp2
      exact bodyPost_ret (v := .tuple #[.agg #[.slice (some ⟨g, 0, none⟩) m n], .int .u64 (r : Int)]) (by simp [results, Tryz.results111, go_sem, r1]) rfl ⟨_, _, _, by rw [HM.out], HF.out, HB.out, HGG.out⟩

theorem small_any (A : Option Addr) (n c x d : Nat) (w : World) (h : DAt B32 w A n c x) (hn : n ≤ 1099511627776) (hd0 : 0 < d) (hd : d ≤ 4294967295) :
    Calls Tryz.prog 111 #[.agg #[.slice A n c], .int .u64 (d : Int)] w fun e w' => ∃ A n c, e = .returned (.tuple #[.agg #[.slice A n c], .int .u64 ((x % d : Nat) : Int)]) ∧ DAt B32 w' A n c (x / d) ∧ Below w.heap.size w w' := by
  refine (small_new A n c x d w h hn hd0 hd).mono ?_
  rintro e w1 ⟨g, n1, c1, rfl, hd1, hb1, -⟩
  exact ⟨_, _, _, rfl, hd1, hb1⟩
end Go.Proofs.YtfgnleoaibcegaaGreat.Ref

namespace Go.Proofs.YtfgnleoaibcegaaGreat.Ref

open Go.RowKit

structure One (w0 : World) (A : Option Addr) (n c x : Nat) (wr : World) : Prop where
  dx : DAt B32 wr A n c x
  bx : wr.cell? ⟨w0.heap.size, 0, none⟩ = some (.slice A n c)
  lt : w0.heap.size < wr.heap.size
  res : Res w0 (w0.heap.size + 1) wr
theorem One.below {w0 wr w1 : World} {A : Option Addr} {n c x : Nat} (h : One w0 A n c x wr) (hb : Below wr.heap.size wr w1) : One w0 A n c x w1 :=
  ⟨h.dx.below hb, (hb.cell h.lt).trans h.bx, Nat.lt_of_lt_of_le h.lt hb.size, h.res.below hb⟩
theorem One.start {w : World} {A : Option Addr} {n c x : Nat} (hx : DAt B32 w A n c x) : One w A n c x ((w.alloc (.cells #[.slice A n c] 30)).alloc (.cells #[.slice none 0 0] 30)) := by
  have h := row1_start hx
  exact ⟨h.dx, h.bx, by have := h.size; omega, h.br, h.fr, h.bel, by omega, by have := h.size; omega⟩

def sub64' (x y c : Nat) : Nat := lo (B32 + x - y - c)
def brw64' (x y c : Nat) : Nat := 1 - hi (B32 + x - y - c)
theorem brw_le (x y c : Nat) : brw64' x y c ≤ 1 := Nat.sub_le _ _
theorem sub_lt (x y c : Nat) : sub64' x y c < B32 := lo_lt _
theorem sub_brw {x y c : Nat} (hx : x < B32) (hy : y < B32) (hc : c ≤ 1) : sub64' x y c + y + c = x + B32 * brw64' x y c := (sub_step hx hy hc).1
def tkLo (q v c : Nat) : Nat := lo (q * v + c)
def tkHi (q v c : Nat) : Nat := hi (q * v + c)
theorem tk_fits {q v c : Nat} (hq : q < B32) (hv : v < B32) (hc : c < B32) : q * v + c < B64 := by
  have h2 : q * v ≤ (B32 - 1) * (B32 - 1) := Nat.mul_le_mul (by omega) (by omega)
  have h5 : (B32 - 1) * (B32 - 1) + (B32 - 1) < B64 := by decide
  omega
theorem tk_words {q v c : Nat} (hq : q < B32) (hv : v < B32) (hc : c < B32) : tkLo q v c + B32 * tkHi q v c = q * v + c ∧ tkHi q v c < B32 := ⟨lo_hi _, hi_lt (tk_fits hq hv hc)⟩

structure TkIs (j V q i c b : Nat) (L0 L : List Nat) : Prop where
  len : L.length = L0.length
  dig : ∀ d ∈ L, d < B32
  cl : c < B32
  bl : b ≤ 1
  hi : ∀ k, j + i ≤ k → L.getD k 0 = L0.getD k 0
  eq : val B32 L + B32 ^ j * (q * (V % B32 ^ i)) = val B32 L0 + B32 ^ (j + i) * (c + b)

theorem TkIs.start {j V q : Nat} {L : List Nat} (hd : ∀ d ∈ L, d < B32) : TkIs j V q 0 0 0 L L :=
  ⟨rfl, hd, by decide, by omega, fun _ _ => rfl, by simp [Nat.mod_one]⟩

theorem TkIs.next {j V q i c b : Nat} {L0 L : List Nat} (h : TkIs j V q i c b L0 L) (hq : q < B32) (hi : j + i < L0.length) :
    TkIs j V q (i + 1) (tkHi q (V / B32 ^ i % B32) c) (brw64' (L.getD (j + i) 0) (tkLo q (V / B32 ^ i % B32) c) b) L0 (L.set (j + i) (sub64' (L.getD (j + i) 0) (tkLo q (V / B32 ^ i % B32) c) b)) := by
  have hvl : V / B32 ^ i % B32 < B32 := Nat.mod_lt _ (by decide)
  have hu := getD_lt two_le_B32 h.dig (j + i)
  have hset := val_set (b := B32) L (j + i) (sub64' (L.getD (j + i) 0) (tkLo q (V / B32 ^ i % B32) c) b) (by rw [h.len]; exact hi)
  have he := h.eq
  have hlow := low_succ B32 V i
  generalize V / B32 ^ i % B32 = v at *
  obtain ⟨hw1, hw2⟩ := tk_words hq hvl h.cl
  have hlo : tkLo q v c < B32 := lo_lt _
  have hsb := sub_brw hu hlo h.bl
  refine ⟨by rw [List.length_set]; exact h.len, set_dig h.dig (sub_lt _ _ _), hw2, brw_le _ _ _, fun k hk => by rw [getD_set_ne (by omega)]; exact h.hi k (by omega), ?_⟩
  rw [hlow, ← Nat.add_assoc, Nat.pow_succ]
  generalize L.getD (j + i) 0 = u at *
  generalize sub64' u (tkLo q v c) b = u' at *
  generalize brw64' u (tkLo q v c) b = b' at *
  generalize tkLo q v c = lo at *
  generalize tkHi q v c = c' at *
  have e1 : B32 ^ j * (q * (V % B32 ^ i + B32 ^ i * v)) = B32 ^ j * (q * (V % B32 ^ i)) + B32 ^ (j + i) * (q * v) := by
    rw [Nat.mul_add, Nat.mul_add, Nat.pow_add]
    congr 1
    rw [Nat.mul_left_comm q, Nat.mul_assoc]
  have e2 : B32 ^ (j + i) * B32 * (c' + b') = B32 ^ (j + i) * (B32 * c' + B32 * b') := by rw [Nat.mul_assoc, Nat.mul_add]
  have e3 : u' + (c + b) + q * v = u + (B32 * c' + B32 * b') := by omega
  have e4 : B32 ^ (j + i) * u' + B32 ^ (j + i) * (c + b) + B32 ^ (j + i) * (q * v) = B32 ^ (j + i) * u + B32 ^ (j + i) * (B32 * c' + B32 * b') := by
    rw [← Nat.mul_add, ← Nat.mul_add, e3, Nat.mul_add]
  rw [e1, e2]
  generalize B32 ^ (j + i) * (c + b) = t1 at *
  generalize B32 ^ (j + i) * (q * v) = t2 at *
  generalize B32 ^ (j + i) * (B32 * c' + B32 * b') = t3 at *
  omega

structure VIs (w : World) (gv ov n V : Nat) : Prop where
  cells : ∀ i, i < n → w.cell? ⟨gv, ov + i, none⟩ = some (.int .u64 ((V / B32 ^ i % B32 : Nat) : Int))
  lt : gv < w.heap.size
  small : V < B32 ^ n

theorem VIs.grown {w w' : World} {g gv ov n V : Nat} (h : VIs w gv ov n V) (hg : w.grownBy w' (some g)) (hne : gv ≠ g) : VIs w' gv ov n V :=
  ⟨fun i hi => (grown_cell hg h.lt hne).trans (h.cells i hi), Nat.lt_of_lt_of_le h.lt hg.size, h.small⟩

theorem hi_le3 {x y c : Nat} (hx : x < B32) (hy : y < B32) (hc : c ≤ 1) : Ref.hi (x + y + c) ≤ 1 := hi_le hx hy hc

theorem top_step {X m : Nat} : X / B32 ^ (m + 1) * B32 + X / B32 ^ m % B32 = X / B32 ^ m := by
  rw [Nat.pow_succ, ← Nat.div_div_eq_div_mul]; exact Nat.div_add_mod' _ _

theorem top_one {X m : Nat} (h : X < B32 ^ (m + 1)) : X / B32 ^ m % B32 = X / B32 ^ m := by
  refine Nat.mod_eq_of_lt ?_
  rw [Nat.div_lt_iff_lt_mul (Nat.pow_pos (by decide)), ← Nat.pow_succ']
  exact h

theorem top_zero {L : List Nat} {m : Nat} (hd : ∀ d ∈ L, d < B32) (hz : ∀ k, m ≤ k → L.getD k 0 = 0) : val B32 L < B32 ^ m := by
  have h1 := val_take two_le_B32 L hd m
  rcases Nat.lt_or_ge L.length m with h | h
  · exact Nat.lt_of_lt_of_le (val_lt two_le_B32 L hd) (Nat.pow_le_pow_right (by decide) (by omega))
  · have h2 : ∀ k, m + k ≤ L.length → val B32 (L.take (m + k)) = val B32 (L.take m) := by
      intro k
      induction k with
      | zero => intro _; rfl
      | succ k ih =>
        intro hl
        rw [← Nat.add_assoc, take_succ_val (by omega), hz (m + k) (by omega), ih (by omega)]; simp
    have h3 := h2 (L.length - m) (by omega)
    rw [Nat.add_sub_cancel' h] at h3
    rw [List.take_length, h1] at h3
    rw [h3]
    exact Nat.mod_lt _ (Nat.pow_pos (by decide))

theorem step_le {X V j n : Nat} (hn : 2 ≤ n) (hX : X < V * B32 ^ (j + 1)) : X / B32 ^ (j + (n - 1)) ≤ V / B32 ^ (n - 2) := by
  have h1 : X / B32 ^ (j + 1) < V := (Nat.div_lt_iff_lt_mul (Nat.pow_pos (by decide))).2 hX
  have h2 : X / B32 ^ (j + (n - 1)) = X / B32 ^ (j + 1) / B32 ^ (n - 2) := by
    rw [Nat.div_div_eq_div_mul, ← Nat.pow_add, show j + 1 + (n - 2) = j + (n - 1) by omega]
  rw [h2]
  exact Nat.div_le_div_right (Nat.le_of_lt h1)

theorem step_q {X V j n k : Nat} (hn : 2 ≤ n) (hV : 0 < V) (h : X / B32 ^ (j + (n - 2)) < k * (V / B32 ^ (n - 2))) : X / (V * B32 ^ j) < k := by
  have hP : ∀ m : Nat, 0 < B32 ^ m := fun m => Nat.pow_pos (by decide)
  rw [Nat.div_lt_iff_lt_mul (hP _)] at h
  rw [Nat.div_lt_iff_lt_mul (Nat.mul_pos hV (hP _))]
  have h1 : V / B32 ^ (n - 2) * B32 ^ (n - 2) ≤ V := Nat.div_mul_le_self ..
  have h2 : k * (V / B32 ^ (n - 2)) * B32 ^ (j + (n - 2)) = k * ((V / B32 ^ (n - 2) * B32 ^ (n - 2)) * B32 ^ j) := by
    rw [Nat.add_comm j, Nat.pow_add, Nat.mul_assoc, Nat.mul_assoc]
  rw [h2] at h
  exact Nat.lt_of_lt_of_le h (Nat.mul_le_mul_left k (Nat.mul_le_mul_right _ h1))

theorem step_near {X V j n q : Nat} (hn : 2 ≤ n) (hV1 : B32 ^ (n - 1) ≤ V) (hq : q < B32) (h : q * (V / B32 ^ (n - 2)) ≤ X / B32 ^ (j + (n - 2))) : q ≤ X / (V * B32 ^ j) + 1 := by
  have hP : ∀ m : Nat, 0 < B32 ^ m := fun m => Nat.pow_pos (by decide)
  have hV : 0 < V := Nat.lt_of_lt_of_le (hP _) hV1
  generalize hY : V / B32 ^ (n - 2) = Y at h
  rcases Nat.lt_or_ge (X / (V * B32 ^ j) + 1) q with hc | hc
  · exfalso
    have hq0 : 0 < q := Nat.lt_of_le_of_lt (Nat.zero_le _) hc
    obtain ⟨k, rfl⟩ : ∃ k, q = k + 1 := ⟨q - 1, by omega⟩
    have h1 : X < k * (V * B32 ^ j) := (Nat.div_lt_iff_lt_mul (Nat.mul_pos hV (hP _))).1 (Nat.lt_of_succ_lt_succ hc)
    have h2 : (k + 1) * Y * B32 ^ (j + (n - 2)) ≤ X := (Nat.le_div_iff_mul_le (hP _)).1 h
    rw [Nat.add_comm j, Nat.pow_add, ← Nat.mul_assoc] at h2
    rw [← Nat.mul_assoc] at h1
    have h3 : (k + 1) * Y * B32 ^ (n - 2) < k * V := Nat.lt_of_mul_lt_mul_right (Nat.lt_of_le_of_lt h2 h1)
    have h4 : V < (Y + 1) * B32 ^ (n - 2) := by
      rw [← hY]
      have h5 := Nat.div_add_mod' V (B32 ^ (n - 2))
      have h6 := Nat.mod_lt V (hP (n - 2))
      rw [Nat.add_mul, Nat.one_mul]; omega
    have h5 : (k + 1) * V ≤ (k + 1) * ((Y + 1) * B32 ^ (n - 2)) := Nat.mul_le_mul_left _ (Nat.le_of_lt h4)
    have h6 : (k + 1) * ((Y + 1) * B32 ^ (n - 2)) = (k + 1) * Y * B32 ^ (n - 2) + (k + 1) * B32 ^ (n - 2) := by
      rw [Nat.add_mul Y, Nat.one_mul, Nat.mul_add, Nat.mul_assoc]
    have h7 : (k + 1) * V = k * V + V := by rw [Nat.add_mul, Nat.one_mul]
    have h8 : (k + 1) * B32 ^ (n - 2) ≤ B32 * B32 ^ (n - 2) := Nat.mul_le_mul_right _ (by omega)
    have h9 : B32 * B32 ^ (n - 2) = B32 ^ (n - 1) := by rw [← Nat.pow_succ']; congr 1; omega
    omega
  · exact hc

theorem step_b0 {X V j q E v : Nat} (hV : 0 < V) (hQ : X / (V * B32 ^ j) ≤ q) (h : v + B32 ^ j * (q * V) = X) : q = X / (V * B32 ^ j) ∧ v = X % (V * B32 ^ j) := by
  have hP : 0 < V * B32 ^ j := Nat.mul_pos hV (Nat.pow_pos (by decide))
  have e : B32 ^ j * (q * V) = q * (V * B32 ^ j) := by rw [Nat.mul_comm, Nat.mul_assoc]
  rw [e] at h
  have h1 : q ≤ X / (V * B32 ^ j) := (Nat.le_div_iff_mul_le hP).2 (by omega)
  have h2 : q = X / (V * B32 ^ j) := by omega
  refine ⟨h2, ?_⟩
  have h3 := Nat.div_add_mod' X (V * B32 ^ j)
  rw [← h2] at h3
  omega

theorem step_b1 {X V j q E v : Nat} (hV : 0 < V) (hQ : X / (V * B32 ^ j) ≤ q) (hq : q ≤ X / (V * B32 ^ j) + 1) (hv : v < E) (h : v + B32 ^ j * (q * V) = X + E) :
    q = X / (V * B32 ^ j) + 1 ∧ v + B32 ^ j * V = X % (V * B32 ^ j) + E := by
  have hP : 0 < V * B32 ^ j := Nat.mul_pos hV (Nat.pow_pos (by decide))
  have e : B32 ^ j * (q * V) = q * (V * B32 ^ j) := by rw [Nat.mul_comm, Nat.mul_assoc]
  rw [e] at h
  have h3 := Nat.div_add_mod' X (V * B32 ^ j)
  have h4 : B32 ^ j * V = V * B32 ^ j := Nat.mul_comm ..
  have h5 : q = X / (V * B32 ^ j) + 1 := by
    rcases Nat.lt_or_ge (X / (V * B32 ^ j)) q with h5 | h5
    · omega
    · have h6 : q = X / (V * B32 ^ j) := by omega
      rw [← h6] at h3
      omega
  refine ⟨h5, ?_⟩
  rw [h5, Nat.add_mul, Nat.one_mul] at h
  omega

structure AbIs (j V i c : Nat) (L1 L : List Nat) : Prop where
  len : L.length = L1.length
  dig : ∀ d ∈ L, d < B32
  cl : c ≤ 1
  hi : ∀ k, j + i ≤ k → L.getD k 0 = L1.getD k 0
  eq : val B32 L + B32 ^ (j + i) * c = val B32 L1 + B32 ^ j * (V % B32 ^ i)

theorem AbIs.start {j V : Nat} {L : List Nat} (hd : ∀ d ∈ L, d < B32) : AbIs j V 0 0 L L :=
  ⟨rfl, hd, by omega, fun _ _ => rfl, by simp [Nat.mod_one]⟩

theorem AbIs.next {j V i c : Nat} {L1 L : List Nat} (h : AbIs j V i c L1 L) (hi : j + i < L1.length) :
    AbIs j V (i + 1) (Ref.hi (L.getD (j + i) 0 + V / B32 ^ i % B32 + c)) L1 (L.set (j + i) (Ref.lo (L.getD (j + i) 0 + V / B32 ^ i % B32 + c))) := by
  have hvl : V / B32 ^ i % B32 < B32 := Nat.mod_lt _ (by decide)
  have hu := getD_lt two_le_B32 h.dig (j + i)
  have hset := val_set (b := B32) L (j + i) (Ref.lo (L.getD (j + i) 0 + V / B32 ^ i % B32 + c)) (by rw [h.len]; exact hi)
  have he := h.eq
  have hlow := low_succ B32 V i
  generalize V / B32 ^ i % B32 = v at *
  refine ⟨by rw [List.length_set]; exact h.len, set_dig h.dig (lo_lt _), hi_le3 hu hvl h.cl, fun k hk => by rw [getD_set_ne (by omega)]; exact h.hi k (by omega), ?_⟩
  rw [hlow, ← Nat.add_assoc, Nat.pow_succ]
  generalize L.getD (j + i) 0 = u at *
  have hlh := lo_hi (u + v + c)
  generalize Ref.lo (u + v + c) = lo at *
  generalize Ref.hi (u + v + c) = o at *
  have e1 : B32 ^ j * (V % B32 ^ i + B32 ^ i * v) = B32 ^ j * (V % B32 ^ i) + B32 ^ (j + i) * v := by rw [Nat.mul_add, Nat.pow_add, Nat.mul_assoc]
  have e4 : B32 ^ (j + i) * lo + B32 ^ (j + i) * (B32 * o) = B32 ^ (j + i) * u + B32 ^ (j + i) * v + B32 ^ (j + i) * c := by
    rw [← Nat.mul_add, hlh, Nat.mul_add, Nat.mul_add]
  rw [e1, Nat.mul_assoc]
  omega

theorem AbIs.done {j V n c R : Nat} {L1 L : List Nat} (h : AbIs j V n c L1 L) (hV : V < B32 ^ n) (hi : j + n < L1.length) (hz : ∀ k, j + n + 1 ≤ k → L1.getD k 0 = 0) (hR : R < B32 ^ (j + n + 1)) (hv : val B32 L1 + B32 ^ j * V = R + B32 ^ (j + n + 1)) :
    (∀ d ∈ L.set (j + n) (Ref.lo (L.getD (j + n) 0 + c)), d < B32) ∧ (L.set (j + n) (Ref.lo (L.getD (j + n) 0 + c))).length = L1.length ∧ (∀ k, j + n + 1 ≤ k → (L.set (j + n) (Ref.lo (L.getD (j + n) 0 + c))).getD k 0 = 0) ∧
    val B32 (L.set (j + n) (Ref.lo (L.getD (j + n) 0 + c))) = R := by
  have hu := getD_lt two_le_B32 h.dig (j + n)
  have hset := val_set (b := B32) L (j + n) (Ref.lo (L.getD (j + n) 0 + c)) (by rw [h.len]; exact hi)
  have hlh := lo_hi (L.getD (j + n) 0 + c)
  have he := h.eq
  rw [Nat.mod_eq_of_lt hV] at he
  have hd1 : ∀ d ∈ L.set (j + n) (Ref.lo (L.getD (j + n) 0 + c)), d < B32 := set_dig h.dig (lo_lt _)
  have hz1 : ∀ k, j + n + 1 ≤ k → (L.set (j + n) (Ref.lo (L.getD (j + n) 0 + c))).getD k 0 = 0 := fun k hk => by rw [getD_set_ne (by omega), h.hi k (by omega), hz k hk]
  have htop := top_zero hd1 hz1
  have ho : Ref.hi (L.getD (j + n) 0 + c) ≤ 1 := hi_le3 (y := 0) hu (by decide) h.cl
  refine ⟨hd1, by rw [List.length_set]; exact h.len, hz1, ?_⟩
  generalize L.getD (j + n) 0 = u at *
  generalize Ref.lo (u + c) = lo at *
  generalize Ref.hi (u + c) = o at *
  have e4 : B32 ^ (j + n) * lo + B32 ^ (j + n) * (B32 * o) = B32 ^ (j + n) * u + B32 ^ (j + n) * c := by rw [← Nat.mul_add, hlh, Nat.mul_add]
  rw [← Nat.mul_assoc, ← Nat.pow_succ] at e4
  generalize val B32 (L.set (j + n) lo) = vv at *
  have ho2 : o = 0 ∨ o = 1 := by omega
  simp only [Nat.succ_eq_add_one] at e4
  generalize B32 ^ (j + n + 1) = E at *
  rcases ho2 with rfl | rfl
  · simp only [Nat.mul_zero] at e4; omega
  · simp only [Nat.mul_one] at e4; omega

structure GsW (w : World) (g j gv ov n a0 a1 a2 v1 v2 Q : Nat) : Prop where
  c0 : w.cell? ⟨g, j + n, none⟩ = some (.int .u64 (a0 : Int))
  c1 : w.cell? ⟨g, j + (n - 1), none⟩ = some (.int .u64 (a1 : Int))
  c2 : w.cell? ⟨g, j + (n - 2), none⟩ = some (.int .u64 (a2 : Int))
  d1 : w.cell? ⟨gv, ov + (n - 1), none⟩ = some (.int .u64 (v1 : Int))
  d2 : w.cell? ⟨gv, ov + (n - 2), none⟩ = some (.int .u64 (v2 : Int))
  l0 : a0 < B32
  l1 : a1 < B32
  l2 : a2 < B32
  m1 : v1 < B32
  m2 : v2 < B32
  pos : 0 < v1
  le : a0 * B32 + a1 ≤ v1 * B32 + v2
  Qlt : Q < B32
  hQ : ∀ k, (a0 * B32 + a1) * B32 + a2 < k * (v1 * B32 + v2) → Q < k

theorem GsW.drewN {w : World} {g j gv ov n a0 a1 a2 v1 v2 Q : Nat} (h : GsW w g j gv ov n a0 a1 a2 v1 v2 Q) (m : Nat) : GsW (w.drewN m) g j gv ov n a0 a1 a2 v1 v2 Q :=
  ⟨h.c0, h.c1, h.c2, h.d1, h.d2, h.l0, h.l1, h.l2, h.m1, h.m2, h.pos, h.le, h.Qlt, h.hQ⟩
theorem step_gs {w : World} {g gv ov j n V X : Nat} {L : List Nat} (hg : Dg w g L) (hv : VIs w gv ov n V) (hj : j + n < L.length) (hd : ∀ d ∈ L, d < B32) (hz : ∀ k, j + n + 1 ≤ k → L.getD k 0 = 0)
    (hx : val B32 L = X) (hX : X < V * B32 ^ (j + 1)) (hV1 : B32 ^ (n - 1) ≤ V) (hn : 2 ≤ n) :
    ∃ a0 a1 a2 v1 v2, GsW w g j gv ov n a0 a1 a2 v1 v2 (X / (V * B32 ^ j)) ∧ (a0 * B32 + a1) * B32 + a2 = X / B32 ^ (j + (n - 2)) ∧ v1 * B32 + v2 = V / B32 ^ (n - 2) := by
  have hP : ∀ m : Nat, 0 < B32 ^ m := fun m => Nat.pow_pos (by decide)
  have hVp : 0 < V := Nat.lt_of_lt_of_le (hP _) hV1
  have hXs : X < B32 ^ (j + n + 1) := by rw [← hx]; exact top_zero hd hz
  have hdig : ∀ k, L.getD k 0 = X / B32 ^ k % B32 := fun k => by rw [val_getD two_le_B32 L hd, hx]
  have c0 := hg.cell (i := j + n) hj
  have c1 := hg.cell (i := j + (n - 1)) (by omega)
  have c2 := hg.cell (i := j + (n - 2)) (by omega)
  rw [hdig] at c0 c1 c2
  have d1 := hv.cells (n - 1) (by omega)
  have d2 := hv.cells (n - 2) (by omega)
  have hml : ∀ z : Nat, z % B32 < B32 := fun z => Nat.mod_lt _ (by decide)
  have t0 := top_one hXs
  have t1 := top_step (X := X) (m := j + (n - 1))
  have t2 := top_step (X := X) (m := j + (n - 2))
  have s0 := top_one (X := V) (m := n - 1) (by rw [show n - 1 + 1 = n by omega]; exact hv.small)
  have s1 := top_step (X := V) (m := n - 2)
  rw [show j + (n - 1) + 1 = j + n by omega] at t1
  rw [show j + (n - 2) + 1 = j + (n - 1) by omega] at t2
  rw [show n - 2 + 1 = n - 1 by omega] at s1
  have eU : X / B32 ^ (j + n) % B32 * B32 + X / B32 ^ (j + (n - 1)) % B32 = X / B32 ^ (j + (n - 1)) := by rw [t0]; exact t1
  have eW : (X / B32 ^ (j + n) % B32 * B32 + X / B32 ^ (j + (n - 1)) % B32) * B32 + X / B32 ^ (j + (n - 2)) % B32 = X / B32 ^ (j + (n - 2)) := by rw [eU]; exact t2
  have eY : V / B32 ^ (n - 1) % B32 * B32 + V / B32 ^ (n - 2) % B32 = V / B32 ^ (n - 2) := by rw [s0]; exact s1
  refine ⟨_, _, _, _, _, ⟨c0, c1, c2, d1, d2, hml _, hml _, hml _, hml _, hml _, ?_, ?_, ?_, ?_⟩, eW, eY⟩
  · rw [s0]; exact Nat.div_pos hV1 (hP _)
  · rw [eU, eY]; exact step_le hn hX
  · rw [Nat.div_lt_iff_lt_mul (Nat.mul_pos hVp (hP _)), Nat.mul_left_comm, ← Nat.pow_succ']; exact hX
  · intro k hk
    rw [eW, eY] at hk
    exact step_q hn hVp hk

structure QrIs (X V N K i : Nat) (D R : List Nat) : Prop where
  lenD : D.length = K
  digD : ∀ d ∈ D, d < B32
  zeroD : ∀ k, k < i → D.getD k 0 = 0
  eqD : val B32 D = B32 ^ i * (X / (V * B32 ^ i))
  lenR : R.length = N
  digR : ∀ d ∈ R, d < B32
  eqR : val B32 R = X % (V * B32 ^ i)

theorem QrIs.start {X V N K : Nat} {R : List Nat} (hX : X < V * B32 ^ K) (hl : R.length = N) (hd : ∀ d ∈ R, d < B32) (hv : val B32 R = X) : QrIs X V N K K (List.replicate K 0) R := by
  refine ⟨by simp, fun d hd => by rw [List.eq_of_mem_replicate hd]; decide, fun k _ => by simp [List.getD_eq_getElem?_getD, List.getElem?_replicate]; split <;> rfl, ?_, hl, hd, ?_⟩
  · rw [val_replicate, Nat.div_eq_of_lt hX]; simp
  · rw [hv, Nat.mod_eq_of_lt hX]

theorem QrIs.lt {X V N K i : Nat} {D R : List Nat} (h : QrIs X V N K i D R) (hV : 0 < V) : val B32 R < V * B32 ^ i := by
  rw [h.eqR]; exact Nat.mod_lt _ (Nat.mul_pos hV (Nat.pow_pos (by decide)))

theorem QrIs.top {X V N K i n : Nat} {D R : List Nat} (h : QrIs X V N K i D R) (hV : 0 < V) (hVn : V < B32 ^ n) : ∀ k, i + n ≤ k → R.getD k 0 = 0 := by
  intro k hk
  rw [val_getD two_le_B32 R h.digR, Nat.div_eq_of_lt, Nat.zero_mod]
  have h1 := h.lt hV
  have h2 : V * B32 ^ i ≤ B32 ^ n * B32 ^ i := Nat.mul_le_mul_right _ (Nat.le_of_lt hVn)
  rw [← Nat.pow_add] at h2
  have h3 : B32 ^ (n + i) ≤ B32 ^ k := Nat.pow_le_pow_right (by decide) (by omega)
  omega

theorem QrIs.next {X V N K j : Nat} {D R R' : List Nat} (h : QrIs X V N K (j + 1) D R) (hV : 0 < V) (hj : j < K) (hl : R'.length = N) (hd : ∀ d ∈ R', d < B32) (hv : val B32 R' = val B32 R % (V * B32 ^ j)) :
    QrIs X V N K j (D.set j (val B32 R / (V * B32 ^ j))) R' := by
  have hP : 0 < B32 ^ j := Nat.pow_pos (by decide)
  have hq : val B32 R / (V * B32 ^ j) < B32 := by
    rw [Nat.div_lt_iff_lt_mul (Nat.mul_pos hV hP)]
    have := h.lt hV
    rwa [Nat.pow_succ, ← Nat.mul_assoc, Nat.mul_comm _ B32] at this
  have hs := val_set (b := B32) D j (val B32 R / (V * B32 ^ j)) (by rw [h.lenD]; exact hj)
  rw [h.zeroD j (Nat.lt_succ_self j), h.eqD] at hs
  refine ⟨by rw [List.length_set]; exact h.lenD, set_dig h.digD hq, fun k hk => by rw [getD_set_ne (by omega)]; exact h.zeroD k (by omega), ?_, hl, hd, ?_⟩
  · have hR := h.eqR
    have e1 : V * B32 ^ (j + 1) = V * B32 ^ j * B32 := by rw [Nat.pow_succ, Nat.mul_assoc]
    have h3 := Nat.div_add_mod X (V * B32 ^ (j + 1))
    rw [← hR] at h3
    have h4 : X / (V * B32 ^ j) = B32 * (X / (V * B32 ^ (j + 1))) + val B32 R / (V * B32 ^ j) := by
      conv => lhs; rw [← h3, e1, Nat.mul_assoc]
      rw [Nat.mul_add_div (Nat.mul_pos hV hP), ← e1]
    rw [h4, Nat.mul_add, ← Nat.mul_assoc, ← Nat.pow_succ]
    simp only [Nat.mul_zero, Nat.add_zero] at hs
    exact hs
  · rw [hv, h.eqR]
    exact Nat.mod_mod_of_dvd _ (Nat.mul_dvd_mul_left _ (Nat.pow_dvd_pow _ (Nat.le_succ j)))

theorem QrIs.done {X V N K : Nat} {D R : List Nat} (h : QrIs X V N K 0 D R) : val B32 D = X / V ∧ val B32 R = X % V := by
  refine ⟨?_, ?_⟩
  · rw [h.eqD]; simp
  · rw [h.eqR]; simp

structure GsR (a b U u Q q r : Nat) : Prop where
  eq : q * a + r = U
  le : Q ≤ q
theorem gsr_start {w : World} {g j gv ov n a0 a1 a2 v1 v2 Q : Nat} (h : GsW w g j gv ov n a0 a1 a2 v1 v2 Q) : GsR v1 v2 (a0 * B32 + a1) a2 Q ((a0 * B32 + a1) / v1) ((a0 * B32 + a1) % v1) := by
  have h1 := half_start (b := v2) (U := a0 * B32 + a1) h.pos h.l2
  exact ⟨h1.eq, Nat.le_of_lt_succ (h.hQ _ h1.lt)⟩
theorem gsr_down {a b U u Q q r : Nat} (H : GsR a b U u Q q r) (hc : B32 ≤ q ∨ B32 * r + u < q * b) (hQB : Q < B32) (hQ : ∀ k, U * B32 + u < k * (a * B32 + b) → Q < k) : 0 < q ∧ GsR a b U u Q (q - 1) (r + a) := by
  have h2 : Q < q := by
    rcases hc with hc | hc
    · omega
    · have h1 := half_sum (h := B32) (b := b) (u1 := u) H.eq
      exact hQ q (by omega)
  refine ⟨by omega, ?_, by omega⟩
  have := H.eq
  obtain ⟨k, rfl⟩ : ∃ k, q = k + 1 := ⟨q - 1, by omega⟩
  rw [Nat.add_mul] at this
  simp; omega
theorem gsr_end {a b U u Q q r : Nat} (H : GsR a b U u Q q r) (hc : q * b ≤ B32 * r + u) : q * (a * B32 + b) ≤ U * B32 + u := by
  have h1 := half_sum (h := B32) (b := b) (u1 := u) H.eq
  omega
theorem gsr_out {a b U u Q q r : Nat} (H : GsR a b U u Q q r) (hU : U ≤ a * B32 + b) (hb : b < B32) (hr : B32 ≤ r) : q < B32 ∧ q * b ≤ B32 * r + u := by
  have h1 := H.eq
  have h2 : q * a < B32 * a := by rw [Nat.mul_comm B32 a]; omega
  have h3 : q < B32 := Nat.lt_of_mul_lt_mul_right h2
  have h4 : q * b ≤ B32 * b := Nat.mul_le_mul_right b (Nat.le_of_lt h3)
  have h5 : B32 * b ≤ B32 * r := Nat.mul_le_mul_left B32 (by omega)
  exact ⟨h3, by omega⟩

set_option maxRecDepth 100000 in
set_option maxHeartbeats 2000000 in
theorem guess_any (g j N c gv ov n c' a0 a1 a2 v1 v2 Q : Nat) (w : World) (h : GsW w g j gv ov n a0 a1 a2 v1 v2 Q) (hn : 2 ≤ n) (hn2 : n ≤ 1099511627776) (hj : j + n < N) (hN : N ≤ 4398046511104) :
    Calls Tryz.prog 118 #[.slice (some ⟨g, 0, none⟩) N c, .slice (some ⟨gv, ov, none⟩) n c', .int .i64 (j : Int)] w fun e w' => ∃ q : Nat, e = .returned (.int .u64 (q : Int)) ∧ Q ≤ q ∧ q < B32 ∧ q * (v1 * B32 + v2) ≤ (a0 * B32 + a1) * B32 + a2 ∧ ∃ m, w' = w.drewN m := by
  have e1 : ((n : Int) - 1).toNat = n - 1 := by omega
  have e2 : ((n : Int) - 2).toNat = n - 2 := by omega
  have e3 : ((j : Int) + (n : Int)).toNat = j + n := by omega
  have e4 : ((j : Int) + (n : Int) - 1).toNat = j + (n - 1) := by omega
  have e5 : ((j : Int) + (n : Int) - 2).toNat = j + (n - 2) := by omega
  have H := Lib.hid h
  have c0 := h.c0; have c1 := h.c1; have c2 := h.c2; have d1 := h.d1; have d2 := h.d2
  have k1 : (0 : Int) ≤ (n : Int) - 1 := by omega
  have k2 : (0 : Int) ≤ (n : Int) - 2 := by omega
  have k3 : (n : Int) - 1 < (n : Int) := by omega
  have k4 : (n : Int) - 2 < (n : Int) := by omega
  have k5 : (0 : Int) ≤ (j : Int) + (n : Int) := by omega
  have k6 : (j : Int) + (n : Int) < (N : Int) := by omega
  have k7 : (0 : Int) ≤ (j : Int) + (n : Int) - 1 := by omega
  have k10 : (j : Int) + (n : Int) - 1 < (N : Int) := by omega
  have k11 : (0 : Int) ≤ (j : Int) + (n : Int) - 2 := by omega
  have k12 : (j : Int) + (n : Int) - 2 < (N : Int) := by omega
  have k8 : IntKind.i64.wrap ((n : Int) - 1) = (n : Int) - 1 := IntWalk.i64_in _ (by omega)
  have k9 : IntKind.i64.wrap ((n : Int) - 2) = (n : Int) - 2 := IntWalk.i64_in _ (by omega)
  have k13 : IntKind.i64.wrap ((j : Int) + (n : Int)) = (j : Int) + (n : Int) := IntWalk.i64_in _ (by omega)
  have k14 : IntKind.i64.wrap ((j : Int) + (n : Int) - 1) = (j : Int) + (n : Int) - 1 := IntWalk.i64_in _ (by omega)
  have k15 : IntKind.i64.wrap ((j : Int) + (n : Int) - 2) = (j : Int) + (n : Int) - 2 := IntWalk.i64_in _ (by omega)
  have hl0 := h.l0; have hl1 := h.l1; have hl2 := h.l2; have hm1 := h.m1; have hm2 := h.m2; have hpos := h.pos
  rw [B32_eq] at hl0 hl1 hl2 hm1 hm2
  have hG := gsr_start h
  rw [B32_eq] at hG
  have f1 : IntKind.u64.wrap ((a0 : Int) * 4294967296) = ((a0 * 4294967296 : Nat) : Int) := by rw [IntKind.wrap_u64]; omega
  have f2 : IntKind.u64.wrap (((a0 * 4294967296 : Nat) : Int) + (a1 : Int)) = ((a0 * 4294967296 + a1 : Nat) : Int) := by rw [IntKind.wrap_u64]; omega
  have hU : a0 * 4294967296 + a1 < B64 := by rw [B64_eq]; omega
  obtain ⟨U, hUe⟩ : ∃ U, U = a0 * 4294967296 + a1 := ⟨_, rfl⟩
  rw [← hUe] at f2 hU hG
  have HUE := Lib.hid hUe
  clear hUe
  generalize a0 * 4294967296 = U1 at f1 f2
  have f3 : (U : Int).tdiv (v1 : Int) = ((U / v1 : Nat) : Int) := by rw [Int.tdiv_eq_ediv_of_nonneg (Int.natCast_nonneg _)]; simp
  have f4 : (U : Int).tmod (v1 : Int) = ((U % v1 : Nat) : Int) := by rw [Int.tmod_eq_emod_of_nonneg (Int.natCast_nonneg _)]; simp
  have f3' : (U : Int) / (v1 : Int) = ((U / v1 : Nat) : Int) := by simp
  have f4' : (U : Int) % (v1 : Int) = ((U % v1 : Nat) : Int) := by simp
  have f5 : IntKind.u64.wrap ((U / v1 : Nat) : Int) = ((U / v1 : Nat) : Int) := wrap_nat (Nat.lt_of_le_of_lt (Nat.div_le_self _ _) hU)
  have f6 : IntKind.u64.wrap ((U % v1 : Nat) : Int) = ((U % v1 : Nat) : Int) := wrap_nat (Nat.lt_of_le_of_lt (Nat.mod_le _ _) hU)
  have g1 : ((v1 : Int) == 0) = false := by simp; omega
  have g2 : ¬ ((v1 : Int) = 0) := by omega
  have g3 : ¬ (v1 = 0) := by omega
  have hr0 : U % v1 < 4294967296 := Nat.lt_trans (Nat.mod_lt _ hpos) hm1
  have hq0 : U / v1 < B64 := Nat.lt_of_le_of_lt (Nat.div_le_self _ _) hU
  generalize U / v1 = q0 at *
  generalize U % v1 = r0 at *
  have G := Lib.hid hG
  clear hG h hU
  go_enter Tryz.func118, Tryz.ntmps118
  go_wp2_with fail
  go_quiet (fail)
  go_wp2_with fail
  clear f1 f2 f3 f4 f3' f4' f5 f6 g1 g2 g3
  go_loopw [9, 10] (fun qv rv wr => ∃ q r m : Nat, qv = .int .u64 (q : Int) ∧ rv = .int .u64 (r : Int) ∧ GsR v1 v2 U a2 Q q r ∧ r < 4294967296 ∧ q < B64 ∧ wr = w.drewN m) (fun q _ _ => (intOf q).toNat)
  case atStart => exact ⟨_, _, _, rfl, rfl, G.out, hr0, hq0, rfl⟩
  case round =>
    clear G hr0 hq0
    obtain ⟨q, r, m, rfl, rfl, hG, hrB, hqB, rfl⟩ := hrel
    have hW := H.out.drewN m
    have c0 := hW.c0; have c1 := hW.c1; have c2 := hW.c2; have d1 := hW.d1; have d2 := hW.d2
    clear hW
    have GQ := Lib.hid hG
    have hQl := H.out.Qlt
    have hQQ := H.out.hQ
    have hle := H.out.le
    rw [B32_eq] at hle
    rw [show (a0 * B32 + a1) = U by rw [HUE.out, B32_eq]] at hQQ
    rw [← HUE.out] at hle
    have HQQ := Lib.hid hQQ
    clear hG hQQ
    have h3 : IntKind.u64.wrap ((r : Int) + (v1 : Int)) = (r : Int) + (v1 : Int) := by rw [IntKind.wrap_u64]; omega
    by_cases hqq : 4294967296 ≤ q
    · have b1 : decide ((4294967296 : Int) ≤ (q : Int)) = true := decide_eq_true (by omega)
      have b2 : decide (4294967296 ≤ q) = true := decide_eq_true hqq
      obtain ⟨hq0, hD⟩ := gsr_down GQ.out (.inl hqq) hQl HQQ.out
      have h4 : IntKind.u64.wrap ((q : Int) - 1) = ((q - 1 : Nat) : Int) := w64 (by omega) (by omega)
      obtain ⟨q', hq'⟩ : ∃ q', q' = q - 1 := ⟨_, rfl⟩
      rw [← hq'] at hD h4
      have HD := Lib.hid hD; have HQ := Lib.hid hq'
      clear hD hq'
      by_cases hout : 4294967296 ≤ r + v1
      · have b3 : decide ((4294967296 : Int) ≤ (r : Int) + (v1 : Int)) = true := decide_eq_true (by omega)
        have HO := Lib.hid (gsr_out HD.out (by rw [B32_eq]; exact hle) H.out.m2 (by rw [B32_eq]; exact hout))
        clear hout hle
        go_wp2_with fail
        go_quiet (fail)
        go_wp2_with fail
        exact bodyPost_ret (v := .int .u64 (q' : Int)) (by simp [results, Tryz.results118, go_sem]) rfl ⟨_, rfl, HD.out.le, HO.out.1, by have := gsr_end HD.out HO.out.2; rw [HUE.out] at this; rw [B32_eq] at this ⊢; exact this, _, by first | rfl | (rw [World.drewN_drewN])⟩
      · have b3 : decide ((4294967296 : Int) ≤ (r : Int) + (v1 : Int)) = false := decide_eq_false (by omega)
        have hr2 : r + v1 < 4294967296 := by omega
        clear hout hle
        go_wp2_with fail
        go_quiet (fail)
        go_wp2_with fail
        go_roundw
        case rel => exact ⟨q', r + v1, _, rfl, by go_num, HD.out, hr2, by have := HQ.out; omega, by first | rfl | (rw [World.drewN_drewN])⟩
        case measure => have := HQ.out; simp [intOf]; omega
    · have b1 : decide ((4294967296 : Int) ≤ (q : Int)) = false := decide_eq_false (by omega)
      have b2 : decide (4294967296 ≤ q) = false := decide_eq_false hqq
      have hqm : q * v2 < B64 := by
        have : q * v2 ≤ 4294967295 * 4294967295 := Nat.mul_le_mul (by omega) (by omega)
        rw [B64_eq]; omega
      have h5 : IntKind.u64.wrap ((q : Int) * (v2 : Int)) = ((q * v2 : Nat) : Int) := by rw [← Int.natCast_mul]; exact wrap_nat hqm
      have h6 : IntKind.u64.wrap ((r : Int) * 4294967296) = ((r * 4294967296 : Nat) : Int) := by rw [IntKind.wrap_u64]; omega
      have h7 : IntKind.u64.wrap (((r * 4294967296 : Nat) : Int) + (a2 : Int)) = ((r * 4294967296 + a2 : Nat) : Int) := by rw [IntKind.wrap_u64]; omega
      have hcm : B32 * r + a2 = r * 4294967296 + a2 := by rw [B32_eq]; omega
      obtain ⟨m3, hm3⟩ : ∃ m3, m3 = r * 4294967296 + a2 := ⟨_, rfl⟩
      obtain ⟨mq, hmq⟩ : ∃ mq, mq = q * v2 := ⟨_, rfl⟩
      rw [← hm3] at h7 hcm
      rw [← hmq] at h5
      have HMQ := Lib.hid hmq; have HCM := Lib.hid hcm
      clear hm3 hmq hcm hqm
      generalize r * 4294967296 = R at h6 h7
      by_cases hc : m3 < mq
      · have b4 : decide ((m3 : Int) < (mq : Int)) = true := decide_eq_true (by omega)
        have b5 : decide (m3 < mq) = true := decide_eq_true hc
        obtain ⟨hq0, hD⟩ := gsr_down GQ.out (.inr (by rw [HCM.out, ← HMQ.out]; exact hc)) hQl HQQ.out
        have h4 : IntKind.u64.wrap ((q : Int) - 1) = ((q - 1 : Nat) : Int) := w64 (by omega) (by omega)
        obtain ⟨q', hq'⟩ : ∃ q', q' = q - 1 := ⟨_, rfl⟩
        rw [← hq'] at hD h4
        have HD := Lib.hid hD; have HQ := Lib.hid hq'
        clear hD hq' hc
        by_cases hout : 4294967296 ≤ r + v1
        · have b3 : decide ((4294967296 : Int) ≤ (r : Int) + (v1 : Int)) = true := decide_eq_true (by omega)
          have HO := Lib.hid (gsr_out HD.out (by rw [B32_eq]; exact hle) H.out.m2 (by rw [B32_eq]; exact hout))
          clear hout hle
          go_wp2_with fail
          go_quiet (fail)
          go_wp2_with fail
          exact bodyPost_ret (v := .int .u64 (q' : Int)) (by simp [results, Tryz.results118, go_sem]) rfl ⟨_, rfl, HD.out.le, HO.out.1, by have := gsr_end HD.out HO.out.2; rw [HUE.out] at this; rw [B32_eq] at this ⊢; exact this, _, by first | rfl | (rw [World.drewN_drewN])⟩
        · have b3 : decide ((4294967296 : Int) ≤ (r : Int) + (v1 : Int)) = false := decide_eq_false (by omega)
          have hr2 : r + v1 < 4294967296 := by omega
          clear hout hle
          go_wp2_with fail
          go_quiet (fail)
          go_wp2_with fail
          go_roundw
          case rel => exact ⟨q', r + v1, _, rfl, by go_num, HD.out, hr2, by have := HQ.out; omega, by first | rfl | (rw [World.drewN_drewN])⟩
          case measure => have := HQ.out; simp [intOf]; omega
      · have b4 : decide ((m3 : Int) < (mq : Int)) = false := decide_eq_false (by omega)
        have b5 : decide (m3 < mq) = false := decide_eq_false hc
        have HE := Lib.hid (gsr_end GQ.out (by rw [HCM.out, ← HMQ.out]; omega))
        clear hc hle
        go_wp2_with fail
        go_quiet (fail)
        go_wp2_with fail
        exact bodyPost_ret (v := .int .u64 (q : Int)) (by simp [results, Tryz.results118, go_sem]) rfl ⟨_, rfl, GQ.out.le, by rw [B32_eq]; omega, by have := HE.out; rw [HUE.out] at this; rw [B32_eq] at this ⊢; exact this, _, by first | rfl | (rw [World.drewN_drewN])⟩

theorem dat_grown {b : Nat} {w w' : World} {A : Option Addr} {n c x g : Nat} (h : DAt b w A n c x) (hg : w.grownBy w' (some g)) (hA : ∀ a, A = some a → a.block ≠ g) : DAt b w' A n c x := by
  refine ⟨⟨h.reads.1, fun hn => ?_⟩, h.cap, h.room⟩
  obtain ⟨ad, e, hb, hc⟩ := h.reads.2 hn
  refine ⟨ad, e, Nat.lt_of_lt_of_le hb hg.size, fun j v hv => ?_⟩
  rw [World.cell?_of_block (hg.block _ (by rw [block_of_add]; exact hb) (by rw [block_of_add]; intro e'; injection e' with e'; exact hA ad e e'))]
  exact hc j v hv
theorem dig_top {V n : Nat} (h : V < B32 ^ n) : dig V n = 0 := by unfold dig; rw [Nat.div_eq_of_lt h]; rfl

set_option maxRecDepth 100000 in
set_option maxHeartbeats 2000000 in
theorem less_any (g j N c gv ov n c' V q : Nat) (L0 : List Nat) (w : World) (hg : Dg w g L0) (hv : DAt B32 w (some ⟨gv, ov, none⟩) n c' V) (hne : gv ≠ g) (hj : j + n < N) (hl : L0.length = N) (hN : N ≤ 4398046511104) (hd : ∀ d ∈ L0, d < B32) (hq : q < B32) (hn : n ≤ 1099511627776) :
    Calls Tryz.prog 119 #[.slice (some ⟨g, 0, none⟩) N c, .slice (some ⟨gv, ov, none⟩) n c', .int .i64 (j : Int), .int .u64 (q : Int)] w fun e w' => ∃ b : Nat, b ≤ 1 ∧ e = .returned (.int .u64 (b : Int)) ∧ w.grownBy w' (some g) ∧ ∃ L, Dg w' g L ∧ (∀ d ∈ L, d < B32) ∧ L.length = N ∧ (∀ k, j + n + 1 ≤ k → L.getD k 0 = L0.getD k 0) ∧ val B32 L + B32 ^ j * (q * V) = val B32 L0 + B32 ^ (j + n + 1) * b := by
  have hS := Lib.hid (TkIs.start (j := j) (V := V) (q := q) hd)
  have hVn := hv.lt two_le_B32
  have HL := Lib.hid hl; have HV := Lib.hid hVn; have HNE := Lib.hid (show ∀ a : Addr, some (⟨gv, ov, none⟩ : Addr) = some a → a.block ≠ g by rintro a h; injection h with h; subst h; exact hne)
  clear hd hl hVn hne
  go_enter Tryz.func119, Tryz.ntmps119
  go_wp2_with fail
  go_loopw [10, 11, 12, 13, 14] (fun cv bv iv _ _ wr => ∃ (i c b : Nat) (L : List Nat), i ≤ n + 1 ∧ cv = .int .u64 (c : Int) ∧ bv = .int .u64 (b : Int) ∧ iv = .int .i64 i ∧ TkIs j V q i c b L0 L ∧ (i = n + 1 → c = 0) ∧ Dg wr g L ∧ w.grownBy wr (some g)) (fun _ _ i _ _ _ => n + 1 - (intOf i).toNat)
  case atStart => exact ⟨0, 0, 0, L0, by omega, rfl, rfl, rfl, hS.out, fun _ => rfl, hg, World.grownBy.refl w _⟩
  case round =>
    clear hg hS
    obtain ⟨i, cy, b, L, hin, rfl, rfl, rfl, hS, hc0, hg, hb⟩ := hrel
    by_cases hlt : i ≤ n
    · have hlenL := hS.len
      rw [HL.out] at hlenL
      have hN := hS.next hq (i := i) (by rw [HL.out]; omega)
      have hc := hg.cell (i := j + i) (by rw [hlenL]; omega)
      have hf := hg.frozen (j + i)
      have hdg := digit_any (some ⟨gv, ov, none⟩) n c' V i wr (dat_grown hv hb HNE.out)
      have hset := fun d => hg.set_ (j + i) d
      have hgs := fun d => grown_set hb (j + i) (.int .u64 ((d : Nat) : Int))
      have hvl := dig_lt V i
      have hul := getD_lt two_le_B32 hS.dig (j + i)
      have hcl := hS.cl
      have hbl := hS.bl
      rw [show V / B32 ^ i % B32 = dig V i from rfl] at hN
      have hz : i = n → dig V i = 0 := fun e => by rw [e]; exact dig_top HV.out
      generalize dig V i = v at *
      have hfit := tk_fits hq hvl hcl
      have hend : i + 1 = n + 1 → tkHi q v cy = 0 := fun e => by
        rw [hz (by omega)]
        unfold tkHi Ref.hi
        rw [Nat.mul_zero, Nat.zero_add]; exact Nat.div_eq_of_lt hcl
      have f1 : IntKind.u64.wrap ((q : Int) * (v : Int)) = ((q * v : Nat) : Int) := by rw [← Int.natCast_mul]; exact wrap_nat (by omega)
      have f2 : IntKind.u64.wrap (((q * v : Nat) : Int) + (cy : Int)) = ((q * v + cy : Nat) : Int) := by rw [← Int.natCast_add]; exact wrap_nat hfit
      have hlo : tkLo q v cy < B32 := lo_lt _
      rw [show tkLo q v cy = lo (q * v + cy) from rfl] at hN hlo
      rw [show tkHi q v cy = hi (q * v + cy) from rfl] at hN hend
      generalize L.getD (j + i) 0 = u at *
      generalize q * v + cy = p at *
      generalize q * v = p0 at *
      have f3 := rem_lo (s := p)
      have f4 := quo_hi (s := p)
      have f5 := wrap_hi hfit
      have f6 := wrap_lo (s := p)
      generalize lo p = lp at *
      generalize hi p = hp at *
      rw [B32_eq] at hul hlo
      have f7 : IntKind.u64.wrap (4294967296 + (u : Int)) = 4294967296 + (u : Int) := by rw [IntKind.wrap_u64]; omega
      have f8 : IntKind.u64.wrap (4294967296 + (u : Int) - (lp : Int)) = 4294967296 + (u : Int) - (lp : Int) := by rw [IntKind.wrap_u64]; omega
      have f9 : IntKind.u64.wrap (4294967296 + (u : Int) - (lp : Int) - (b : Int)) = ((B32 + u - lp - b : Nat) : Int) := by rw [B32_eq, IntKind.wrap_u64]; omega
      have hSb : B32 + u - lp - b < B64 := by rw [B32_eq, B64_eq]; omega
      rw [show sub64' u lp b = lo (B32 + u - lp - b) from rfl, show brw64' u lp b = 1 - hi (B32 + u - lp - b) from rfl] at hN
      have hh1 : hi (B32 + u - lp - b) ≤ 1 := by unfold Ref.hi; rw [B32_eq]; omega
      generalize B32 + u - lp - b = S at *
      have d3 := rem_lo (s := S)
      have d4 := quo_hi (s := S)
      have d5 := wrap_hi hSb
      have d6 := wrap_lo (s := S)
      generalize lo S = ls at *
      generalize hi S = hs at *
      have d7 : IntKind.u64.wrap (1 - (hs : Int)) = ((1 - hs : Nat) : Int) := by rw [IntKind.wrap_u64]; omega
      have HN := Lib.hid hN; have HSET := Lib.hid (hset ls); have HGS := Lib.hid (hgs ls); have HDG := Lib.hid hdg; have HE := Lib.hid hend
      clear hN hset hgs hS hdg hend hz hc0 hfit hSb
      have b1 : decide ((i : Int) ≤ (n : Int)) = true := decide_eq_true (by omega)
      have b2 : decide (i ≤ n) = true := decide_eq_true hlt
      have k1 : (0 : Int) ≤ (j : Int) + (i : Int) := by omega
      have k2 : (j : Int) + (i : Int) < (N : Int) := by omega
      go_wp2_with (go_at_call 102; (with_reducible refine HDG.out.mono ?_); rintro e w1 ⟨rfl, rfl⟩)
      go_roundw
      case rel => exact ⟨i + 1, hp, 1 - hs, _, by omega, rfl, rfl, by go_num, HN.out, HE.out, HSET.out, HGS.out⟩
      case measure => simp [intOf]; omega
    · obtain rfl : i = n + 1 := by omega
      obtain rfl := hc0 rfl
      have he := hS.eq
      rw [Nat.mod_eq_of_lt (Nat.lt_of_lt_of_le HV.out (Nat.pow_le_pow_right (by decide) (by omega))), Nat.zero_add, ← Nat.add_assoc] at he
      have HE := Lib.hid he; have HD := Lib.hid hS.dig; have HLE := Lib.hid (hS.len.trans HL.out); have HHI := Lib.hid hS.hi
      have hbl := hS.bl
      have b1 : decide (((n + 1 : Nat) : Int) ≤ (n : Int)) = false := decide_eq_false (by omega)
      have b3 : decide ((n : Int) + 1 ≤ (n : Int)) = false := decide_eq_false (by omega)
      have b2 : decide (n + 1 ≤ n) = false := decide_eq_false (by omega)
      clear he hS hc0
      go_wp2_with fail
      exact bodyPost_ret (v := .int .u64 (b : Int)) (by simp [results, Tryz.results119, go_sem]) rfl ⟨b, hbl, rfl, hb, L, hg, HD.out, HLE.out, fun k hk => HHI.out k (by omega), HE.out⟩

set_option maxRecDepth 100000 in
set_option maxHeartbeats 2000000 in
theorem back_any (g j N c gv ov n c' V R : Nat) (L1 : List Nat) (w : World) (hg : Dg w g L1) (hv : DAt B32 w (some ⟨gv, ov, none⟩) n c' V) (hne : gv ≠ g) (hj : j + n < N) (hl : L1.length = N) (hN : N ≤ 4398046511104) (hd : ∀ d ∈ L1, d < B32) (hz : ∀ k, j + n + 1 ≤ k → L1.getD k 0 = 0) (hn : n ≤ 1099511627776)
    (hR : R < B32 ^ (j + n + 1)) (he : val B32 L1 + B32 ^ j * V = R + B32 ^ (j + n + 1)) :
    Calls Tryz.prog 120 #[.slice (some ⟨g, 0, none⟩) N c, .slice (some ⟨gv, ov, none⟩) n c', .int .i64 (j : Int)] w fun e w' => e = .returned (.tuple #[]) ∧ w.grownBy w' (some g) ∧ ∃ L, Dg w' g L ∧ (∀ d ∈ L, d < B32) ∧ L.length = N ∧ (∀ k, j + n + 1 ≤ k → L.getD k 0 = 0) ∧ val B32 L = R := by
  have hS := Lib.hid (AbIs.start (j := j) (V := V) hd)
  have hVn := hv.lt two_le_B32
  have HL := Lib.hid hl; have HV := Lib.hid hVn; have HNE := Lib.hid (show ∀ a : Addr, some (⟨gv, ov, none⟩ : Addr) = some a → a.block ≠ g by rintro a h; injection h with h; subst h; exact hne)
  have HZ := Lib.hid hz; have HR := Lib.hid hR; have HE := Lib.hid he
  clear hd hl hVn hne hz hR he
  go_enter Tryz.func120, Tryz.ntmps120
  go_wp2_with fail
  go_loopw [6, 7, 8] (fun cv iv _ wr => ∃ (i c : Nat) (L : List Nat), i ≤ n + 1 ∧ cv = .int .u64 (c : Int) ∧ iv = .int .i64 i ∧ (i ≤ n → AbIs j V i c L1 L) ∧ (i = n + 1 → (∀ d ∈ L, d < B32) ∧ L.length = L1.length ∧ (∀ k, j + n + 1 ≤ k → L.getD k 0 = 0) ∧ val B32 L = R) ∧ Dg wr g L ∧ w.grownBy wr (some g)) (fun _ i _ _ => n + 1 - (intOf i).toNat)
  case atStart => exact ⟨0, 0, L1, by omega, rfl, rfl, fun _ => hS.out, fun h => by omega, hg, World.grownBy.refl w _⟩
  case round =>
    clear hg hS
    obtain ⟨i, cy, L, hin, rfl, rfl, hA, hF, hg, hb⟩ := hrel
    by_cases hlt : i ≤ n
    · have hS := hA hlt
      have hlenL := hS.len
      rw [HL.out] at hlenL
      have hN : i < n → AbIs j V (i + 1) (Ref.hi (L.getD (j + i) 0 + dig V i + cy)) L1 (L.set (j + i) (Ref.lo (L.getD (j + i) 0 + dig V i + cy))) := fun h => hS.next (i := i) (by rw [HL.out]; omega)
      have hD : i = n → (∀ d ∈ L.set (j + i) (Ref.lo (L.getD (j + i) 0 + dig V i + cy)), d < B32) ∧ (L.set (j + i) (Ref.lo (L.getD (j + i) 0 + dig V i + cy))).length = L1.length ∧ (∀ k, j + n + 1 ≤ k → (L.set (j + i) (Ref.lo (L.getD (j + i) 0 + dig V i + cy))).getD k 0 = 0) ∧ val B32 (L.set (j + i) (Ref.lo (L.getD (j + i) 0 + dig V i + cy))) = R := by
        rintro rfl
        rw [dig_top HV.out, Nat.add_zero]
        exact hS.done HV.out (by rw [HL.out]; omega) HZ.out HR.out HE.out
      have hc := hg.cell (i := j + i) (by rw [hlenL]; omega)
      have hf := hg.frozen (j + i)
      have hdg := digit_q (some ⟨gv, ov, none⟩) n c' V i wr (dat_grown hv hb HNE.out)
      have hset := fun d => hg.set_ (j + i) d
      have hgs := fun d => grown_set hb (j + i) (.int .u64 ((d : Nat) : Int))
      have hvl := dig_lt V i
      have hul := getD_lt two_le_B32 hS.dig (j + i)
      have hcl := hS.cl
      generalize dig V i = v at *
      generalize L.getD (j + i) 0 = u at *
      rw [B32_eq] at hvl hul
      have f1 : IntKind.u64.wrap ((u : Int) + (v : Int)) = ((u + v : Nat) : Int) := by rw [IntKind.wrap_u64]; omega
      have f2 : IntKind.u64.wrap (((u + v : Nat) : Int) + (cy : Int)) = ((u + v + cy : Nat) : Int) := by rw [IntKind.wrap_u64]; omega
      have hfit : u + v + cy < B64 := by rw [B64_eq]; omega
      generalize u + v + cy = p at *
      generalize u + v = p0 at *
      have f3 := rem_lo (s := p)
      have f4 := quo_hi (s := p)
      have f5 := wrap_hi hfit
      have f6 := wrap_lo (s := p)
      generalize lo p = lp at *
      generalize Ref.hi p = hp at *
      have HN := Lib.hid hN; have HD := Lib.hid hD; have HSET := Lib.hid (hset lp); have HGS := Lib.hid (hgs lp); have HDG := Lib.hid hdg; have HG := Lib.hid hg
      clear hN hD hset hgs hS hdg hA hF hfit
      have b1 : decide ((i : Int) ≤ (n : Int)) = true := decide_eq_true (by omega)
      have b2 : decide (i ≤ n) = true := decide_eq_true hlt
      have k1 : (0 : Int) ≤ (j : Int) + (i : Int) := by omega
      have k2 : (j : Int) + (i : Int) < (N : Int) := by omega
      have k3 : ((j : Int) + (i : Int)).toNat = j + i := by omega
      have k4 : IntKind.i64.wrap ((j : Int) + (i : Int)) = (j : Int) + (i : Int) := IntWalk.i64_in _ (by omega)
      go_wp2_with fail
      go_quiet ((go_at_call 102; with_reducible exact HDG.out _))
      clear k3 k4
      go_wp2_with fail
      go_roundw
      case rel => exact ⟨i + 1, hp, _, by omega, rfl, by go_num, fun h => HN.out (by omega), fun h => HD.out (by omega), HSET.out, ⟨HGS.out.os, HGS.out.tape, HGS.out.output, HGS.out.size, HGS.out.block⟩⟩
      case measure => simp [intOf]; omega
    · obtain rfl : i = n + 1 := by omega
      have HF := Lib.hid (hF rfl)
      have b1 : decide (((n + 1 : Nat) : Int) ≤ (n : Int)) = false := decide_eq_false (by omega)
      have b3 : decide ((n : Int) + 1 ≤ (n : Int)) = false := decide_eq_false (by omega)
      have b2 : decide (n + 1 ≤ n) = false := decide_eq_false (by omega)
      clear hF hA
      go_wp2_with fail
      go_end0
      exact ⟨rfl, hb, L, hg, HF.out.1, HF.out.2.1.trans HL.out, HF.out.2.2.1, HF.out.2.2.2⟩
end Go.Proofs.YtfgnleoaibcegaaGreat.Ref

namespace Go.Proofs.YtfgnleoaibcegaaGreat

open Go.RowKit

def notNum (v : Value) : Prop := ∀ (k : IntKind) (n : Int), v ≠ .int k n
def VarBlk (w : World) (p : Nat) (T : TypeId) (n : Nat) : Prop := ∃ cs : Array Value, cs.size = n ∧ (∀ x ∈ cs, notNum x) ∧ w.heap[p]? = some (.cells cs T (0, 0))
structure Grow (t : Nat) (γ : Nat → Nat) (w : World) (γ' : Nat → Nat) (w' : World) : Prop where
  os : w'.os = w.os
  tape : w'.tape = w.tape
  output : w'.output = w.output
  size : w.heap.size ≤ w'.heap.size
  tag : ∀ b, b < w.heap.size → γ' b = γ b
  block : ∀ b, b < w.heap.size → (t = 0 ∨ γ b ≠ t) → w'.heap[b]? = w.heap[b]?
  num : ∀ (a : Addr) (k : IntKind) (n : Int), w.cell? a = some (.int k n) → w'.cell? a = some (.int k n)
  var : ∀ (p : Nat) (T : TypeId) (n : Nat), VarBlk w p T n → VarBlk w' p T n

structure Rel where
  sub : Option Nat
  eff : Nat
  tag : Nat
  p : Value → (Nat → Nat) → World → Prop
  st : ∀ (t : Nat) (γ : Nat → Nat) (w : World) (γ' : Nat → Nat) (w' : World) (v : Value), (t = 0 ∨ t ≠ tag) → Grow t γ w γ' w' → p v γ w → p v γ' w'

def RelC (W : World) (γ : Nat → Nat) (w : World) : Prop := Below W.heap.size W w ∧ ∀ b, b < W.heap.size → γ b = 0
theorem RelC.grow {W w w' : World} {t : Nat} {γ γ' : Nat → Nat} (h : RelC W γ w) (g : Grow t γ w γ' w') : RelC W γ' w' :=
  ⟨h.1.trans ⟨g.os, g.tape, g.output, g.size, fun b hb => g.block b (Nat.lt_of_lt_of_le hb h.1.size) (by rw [h.2 b hb]; omega)⟩,
   fun b hb => by rw [g.tag b (Nat.lt_of_lt_of_le hb h.1.size)]; exact h.2 b hb⟩

def valOf (ops : Array Oper) (a : Act) (i : Nat) : Value := match (ops[i]?).bind (·.dst) with
  | some t => a.tmps.getD t undef
  | none => undef
def Holds (ops : Array Oper) (rels : List Rel) (i : Nat) (a : Act) (γ : Nat → Nat) (w : World) : Prop := match rels[i]? with
  | some r => r.p (valOf ops a (r.sub.getD i)) γ w
  | none => True
structure Agree (ops : Array Oper) (a0 a : Act) : Prop where
  defers : a.defers = a0.defers
  size : a.tmps.size = a0.tmps.size
  same : ∀ t, (∀ o ∈ ops, o.dst ≠ some t) → a.tmps[t]? = a0.tmps[t]?

def waitsFor (o : Oper) (j : Nat) : Bool := o.after.toList.any fun e => Region.binds .any e && e.on == j
def relB (ops : Array Oper) (n : Nat) (rels : List Rel) : Bool :=
  (List.range ops.size).all fun i => match ops[i]?, rels[i]? with
    | some o, some r =>
      (match o.dst with
        | none => true
        | some d => decide (d < n) && (List.range ops.size).all fun j => j == i || !(((ops[j]?).bind (·.dst)) == some d)) &&
      (match r.sub with
        | none => true
        | some s => waitsFor o s) &&
      (o.after.all fun e => !Region.binds .any e || decide (e.on < i)) &&
      (List.range ops.size).all fun j => j == i || (match rels[j]? with
        | some rj => r.eff == 0 || !(r.eff == rj.tag)
        | none => true)
    | _, _ => false

def effOf (rels : List Rel) (i : Nat) : Nat := match rels[i]? with
  | some r => r.eff
  | none => 0
def Early (ops : Array Oper) (a0 a : Act) (i : Nat) : Prop := ∀ t, (∀ o ∈ ops, o.dst = some t → waitsFor o i = true) → a.tmps[t]? = a0.tmps[t]?
def StepOk (P : Program) (ops : Array Oper) (a0 : Act) (W : World) (Q : Exit → Act → World → Prop) (rels : List Rel) (i : Nat) (o : Oper) : Prop :=
  ∀ (a : Act) (γ : Nat → Nat) (w : World) (K : Act → World → Prop), RelC W γ w → Agree ops a0 a → Early ops a0 a i → (∀ j, waitsFor o j = true → Holds ops rels j a γ w) →
    (∀ v γ' w', Grow (effOf rels i) γ w γ' w' → Holds ops rels i (a.put o.dst v) γ' w' → K (a.put o.dst v) w') →
    if Region.wanted o (yielded ops a.tmps) = true then o.wp P a w K Q else K (a.put o.dst undef) w

section

variable {P : Program} {ops : Array Oper} {Q : Exit → Act → World → Prop} {a0 : Act} {W : World} {rels : List Rel} {listed : Array Bool} {a : Act} {γ : Nat → Nat} {w : World}

theorem relB_dst {n : Nat} (h : relB ops n rels = true) {i : Nat} {o : Oper} {d : Nat} (ho : ops[i]? = some o) (hd : o.dst = some d) : d < n ∧ ∀ j, j ≠ i → (ops[j]?).bind (·.dst) ≠ some d := by
  have hi : i < ops.size := (Array.getElem?_eq_some_iff.1 ho).1
  have h1 := List.all_eq_true.1 h i (List.mem_range.2 hi)
  rw [ho] at h1
  cases hr : rels[i]? with
  | none => simp [hr] at h1
  | some r =>
    rw [hr] at h1
    simp only [hd, Bool.and_eq_true, decide_eq_true_eq] at h1
    refine ⟨h1.1.1.1.1, fun j hj he => ?_⟩
    have hjs : j < ops.size := by
      rcases Nat.lt_or_ge j ops.size with h' | h'
      · exact h'
      · rw [Array.getElem?_eq_none h'] at he; cases he
    have h2 := List.all_eq_true.1 h1.1.1.1.2 j (List.mem_range.2 hjs)
    rw [he] at h2
    simp [hj] at h2
theorem relB_rel {n : Nat} (h : relB ops n rels = true) {i : Nat} {o : Oper} (ho : ops[i]? = some o) :
    ∃ r, rels[i]? = some r ∧ (∀ s, r.sub = some s → waitsFor o s = true) ∧ (∀ e ∈ o.after, Region.binds .any e = true → e.on < i) ∧ ∀ j rj, j ≠ i → j < ops.size → rels[j]? = some rj → r.eff = 0 ∨ r.eff ≠ rj.tag := by
  have hi : i < ops.size := (Array.getElem?_eq_some_iff.1 ho).1
  have h1 := List.all_eq_true.1 h i (List.mem_range.2 hi)
  rw [ho] at h1
  cases hr : rels[i]? with
  | none => simp [hr] at h1
  | some r =>
    rw [hr] at h1
    simp only [Bool.and_eq_true] at h1
    refine ⟨r, rfl, fun s hs => ?_, fun e he hbe => ?_, fun j rj hj hjs hrj => ?_⟩
    · have := h1.1.1.2
      rwa [hs] at this
    · have := Array.all_eq_true_iff_forall_mem.1 h1.1.2 e he
      rw [hbe] at this
      simpa using this
    · have h2 := List.all_eq_true.1 h1.2 j (List.mem_range.2 hjs)
      rw [hrj] at h2
      simp [hj] at h2
      exact h2

theorem valOf_put {a : Act} {i j : Nat} {o : Oper} {n : Nat} (h : relB ops n rels = true) (ho : ops[i]? = some o) (hj : j ≠ i) (v : Value) : valOf ops (a.put o.dst v) j = valOf ops a j := by
  unfold valOf
  cases hd : o.dst with
  | none => rfl
  | some d =>
    have h1 := (relB_dst h ho hd).2 j hj
    cases ht : (ops[j]?).bind (·.dst) with
    | none => rfl
    | some t =>
      have hne : d ≠ t := by rintro rfl; exact h1 ht
      simp [Act.put, Array.getElem?_setIfInBounds_ne hne]

theorem agree_put {a : Act} {i : Nat} {o : Oper} (h : Agree ops a0 a) (ho : ops[i]? = some o) (v : Value) : Agree ops a0 (a.put o.dst v) := by
  cases hd : o.dst with
  | none => exact h
  | some d =>
    refine ⟨h.defers, by simpa [Act.put] using h.size, fun t ht => ?_⟩
    have hne : d ≠ t := by rintro rfl; exact ht o (Array.mem_of_getElem? ho) hd
    simp only [Act.put, Array.getElem?_setIfInBounds_ne hne]
    exact h.same t ht

structure Inv (ops : Array Oper) (rels : List Rel) (a0 : Act) (W : World) (listed : Array Bool) (a : Act) (γ : Nat → Nat) (w : World) : Prop where
  c : RelC W γ w
  ag : Agree ops a0 a
  size : listed.size = ops.size
  held : ∀ j, listed.getD j false = true → Holds ops rels j a γ w
  subs : ∀ j r s, listed.getD j false = true → rels[j]? = some r → r.sub = some s → listed.getD s false = true
  un : ∀ (j : Nat) (o : Oper) (t : Nat), ops[j]? = some o → o.dst = some t → listed.getD j false = false → a.tmps[t]? = a0.tmps[t]?
  cl : ∀ (j : Nat) (o : Oper) (k : Nat), ops[j]? = some o → listed.getD j false = true → waitsFor o k = true → listed.getD k false = true

theorem getD_listed {listed : Array Bool} {i j : Nat} (hi : i < listed.size) : (listed.setIfInBounds i true).getD j false = (if i = j then true else listed.getD j false) := by
  by_cases h : i = j
  · subst h; simp [hi]
  · rw [if_neg h]; simp [Array.getElem?_setIfInBounds_ne h]

theorem ready_nil_all {listed : Array Bool} (hsz : listed.size = ops.size) (hac : ∀ (i : Nat) (o : Oper), ops[i]? = some o → ∀ e ∈ o.after, Region.binds .any e = true → e.on < i) (h : Region.ready .any ops listed = []) : ∀ i, i < ops.size → listed.getD i false = true := by
  intro i
  induction i using Nat.strongRecOn with
  | ind i ih =>
    intro hi
    cases hl : listed.getD i false with
    | true => rfl
    | false =>
      have : i ∈ Region.ready .any ops listed := by
        refine mem_ready.2 ⟨?_, ops[i], Array.getElem?_eq_getElem hi, fun e he hb => ih e.on (hac i _ (Array.getElem?_eq_getElem hi) e he hb) (Nat.lt_trans (hac i _ (Array.getElem?_eq_getElem hi) e he hb) hi)⟩
        have : i < listed.size := by omega
        simp [this] at hl ⊢
        exact hl
      rw [h] at this
      cases this

theorem Inv.early (h : Inv ops rels a0 W listed a γ w) {i : Nat} (hi : listed.getD i false = false) : Early ops a0 a i := by
  intro t ht
  by_cases hex : ∃ o ∈ ops, o.dst = some t
  · obtain ⟨o, ho, hd⟩ := hex
    obtain ⟨j, hj, rfl⟩ := Array.mem_iff_getElem.1 ho
    refine h.un j _ t (Array.getElem?_eq_getElem hj) hd ?_
    cases hl : listed.getD j false with
    | false => rfl
    | true =>
      have := h.cl j _ i (Array.getElem?_eq_getElem hj) hl (ht _ ho hd)
      rw [hi] at this; cases this
  · exact h.ag.same t fun o ho hd => hex ⟨o, ho, hd⟩

theorem Inv.next (hB : relB ops a0.tmps.size rels = true) (hI : Inv ops rels a0 W listed a γ w) {i : Nat} {o : Oper} (ho : ops[i]? = some o) (hfalse : listed.getD i false = false) (hlisted : ∀ j, waitsFor o j = true → listed.getD j false = true)
    {v : Value} {γ' : Nat → Nat} {w' : World} (hg : Grow (effOf rels i) γ w γ' w') (hh : Holds ops rels i (a.put o.dst v) γ' w') : Inv ops rels a0 W (listed.setIfInBounds i true) (a.put o.dst v) γ' w' := by
  have hlt : i < ops.size := (Array.getElem?_eq_some_iff.1 ho).1
  have hlt' : i < listed.size := by rw [hI.size]; exact hlt
  obtain ⟨r, hr, hsub, hac, hpair⟩ := relB_rel hB ho
  have hself : waitsFor o i = false := by
    cases hw : waitsFor o i with
    | false => rfl
    | true =>
      obtain ⟨e, he', hb⟩ := List.any_eq_true.1 hw
      have he : e ∈ o.after := by simpa using he'
      simp only [Bool.and_eq_true, beq_iff_eq] at hb
      have := hac e he hb.1
      omega
  refine ⟨hI.c.grow hg, agree_put hI.ag ho v, by rw [Array.size_setIfInBounds]; exact hI.size, fun j hj => ?_, fun j rj s hj hrj hs => ?_, fun j oj t hoj hd hj => ?_, fun j oj k hoj hj hk => ?_⟩
  · rw [getD_listed hlt'] at hj
    by_cases hij : i = j
    · subst hij; exact hh
    · rw [if_neg hij] at hj
      have h0 := hI.held j hj
      unfold Holds at h0 ⊢
      cases hrj : rels[j]? with
      | none => trivial
      | some rj =>
        rw [hrj] at h0
        have hjs : j < ops.size := by
          rcases Nat.lt_or_ge j ops.size with h' | h'
          · exact h'
          · rw [← hI.size] at h'; simp [Array.getElem?_eq_none h'] at hj
        have he : effOf rels i = 0 ∨ effOf rels i ≠ rj.tag := by unfold effOf; rw [hr]; exact hpair j rj (Ne.symm hij) hjs hrj
        have hsi : rj.sub.getD j ≠ i := by
          cases hs : rj.sub with
          | none => simpa using Ne.symm hij
          | some s =>
            intro e
            simp at e
            subst e
            have := hI.subs j rj s hj hrj hs
            rw [hfalse] at this; cases this
        show rj.p (valOf ops (a.put o.dst v) (rj.sub.getD j)) γ' w'
        rw [valOf_put hB ho hsi]
        exact rj.st _ γ w γ' w' _ he hg h0
  · rw [getD_listed hlt'] at hj ⊢
    by_cases his : i = s
    · rw [if_pos his]
    · rw [if_neg his]
      by_cases hij : i = j
      · subst hij
        rw [hr] at hrj; cases hrj
        exact hlisted s (hsub s hs)
      · rw [if_neg hij] at hj
        exact hI.subs j rj s hj hrj hs
  · rw [getD_listed hlt'] at hj
    have hij : i ≠ j := by rintro rfl; simp at hj
    rw [if_neg hij] at hj
    rw [← hI.un j oj t hoj hd hj]
    cases hdo : o.dst with
    | none => rfl
    | some d =>
      have hne : d ≠ t := by
        rintro rfl
        exact (relB_dst hB ho hdo).2 j (Ne.symm hij) (by rw [hoj]; exact hd)
      simp [Act.put, Array.getElem?_setIfInBounds_ne hne]
  · rw [getD_listed hlt'] at hj ⊢
    by_cases hik : i = k
    · rw [if_pos hik]
    · rw [if_neg hik]
      by_cases hij : i = j
      · subst hij
        rw [ho] at hoj; cases hoj
        exact hlisted k hk
      · rw [if_neg hij] at hj
        exact hI.cl j oj k hoj hj hk

theorem wpAny_rel (hB : relB ops a0.tmps.size rels = true) (hstep : ∀ i o, ops[i]? = some o → StepOk P ops a0 W Q rels i o)
    (hend : ∀ a γ w', RelC W γ w' → Agree ops a0 a → (∀ i, i < ops.size → Holds ops rels i a γ w') → Q .normal a w') :
    ∀ (fuel : Nat) (listed : Array Bool) (a : Act) (γ : Nat → Nat) (w : World), Inv ops rels a0 W listed a γ w → listed.toList.countP (· == false) ≤ fuel → wpAny P .any ops Q fuel listed a w := by
  have hac : ∀ (i : Nat) (o : Oper), ops[i]? = some o → ∀ e ∈ o.after, Region.binds .any e = true → e.on < i := fun i o ho => by obtain ⟨r, _, _, h, _⟩ := relB_rel hB ho; exact h
  intro fuel
  induction fuel with
  | zero =>
    intro listed a γ w hI hc
    have hall : ∀ i, i < ops.size → listed.getD i false = true := by
      intro i hi
      have h0 : listed.toList.countP (· == false) = 0 := by omega
      rw [List.countP_eq_zero] at h0
      have hi' : i < listed.size := by rw [hI.size]; exact hi
      have := h0 listed[i] (by simp)
      simp [hi'] at this ⊢
      exact this
    refine ⟨?_, hend a γ w hI.c hI.ag fun i hi => hI.held i (hall i hi)⟩
    cases hr : Region.ready .any ops listed with
    | nil => rfl
    | cons i l =>
      have hi : i ∈ Region.ready .any ops listed := by rw [hr]; exact List.mem_cons_self
      obtain ⟨h1, o, ho, _⟩ := mem_ready.1 hi
      have hlt : i < ops.size := (Array.getElem?_eq_some_iff.1 ho).1
      have h2 := hall i hlt
      have hlt' : i < listed.size := by rw [hI.size]; exact hlt
      simp [hlt'] at h1 h2
      rw [h1] at h2; cases h2
  | succ fuel ih =>
    intro listed a γ w hI hc
    refine ⟨fun hr => hend a γ w hI.c hI.ag fun i hi => hI.held i (ready_nil_all hI.size hac hr i hi), fun i hi => ?_⟩
    obtain ⟨h1, o, ho, hdep⟩ := mem_ready.1 hi
    have hlt : i < ops.size := (Array.getElem?_eq_some_iff.1 ho).1
    have hlt' : i < listed.size := by rw [hI.size]; exact hlt
    have hfalse : listed[i]'hlt' = false := by simp [hlt'] at h1; exact h1
    have hfalse' : listed.getD i false = false := by simp [hlt', hfalse]
    have hcnt : (listed.setIfInBounds i true).toList.countP (· == false) ≤ fuel := by
      rw [Array.toList_setIfInBounds, List.countP_set (by simpa using hlt')]
      rw [if_pos (by simpa using hfalse), if_neg (by decide)]
      omega
    have hlisted : ∀ j, waitsFor o j = true → listed.getD j false = true := by
      intro j hj
      obtain ⟨e, he', hb⟩ := List.any_eq_true.1 hj
      have he : e ∈ o.after := by simpa using he'
      simp only [Bool.and_eq_true, beq_iff_eq] at hb
      rw [← hb.2]; exact hdep e he hb.1
    have hs := hstep i o ho a γ w (wpAny P .any ops Q fuel (listed.setIfInBounds i true)) hI.c hI.ag (hI.early hfalse') (fun j hj => hI.held j (hlisted j hj)) (fun v γ' w' hg hh => ih _ _ γ' w' (hI.next hB ho hfalse' hlisted hg hh) hcnt)
    unfold wpOp
    simp only [ho]
    split
    · rename_i hw; rw [if_pos hw] at hs; exact .inl hs
    · rename_i hw; rw [if_neg hw] at hs; exact hs

def AllSteps (S : Nat → Oper → Prop) : Nat → List Oper → Prop
  | _, [] => True
  | k, o :: l => S k o ∧ AllSteps S (k + 1) l
theorem AllSteps.at_ {S : Nat → Oper → Prop} : ∀ {l : List Oper} {k : Nat}, AllSteps S k l → ∀ (i : Nat) (o : Oper), l[i]? = some o → S (k + i) o
  | [], _, _, i, o, h => by simp at h
  | x :: l, k, h, 0, o, ho => by simp at ho; subst ho; exact h.1
  | x :: l, k, h, i + 1, o, ho => by
    have := h.2.at_ i o (by simpa using ho)
    rw [show k + (i + 1) = k + 1 + i by omega]; exact this

theorem Inv.start : Inv ops rels a0 W (Array.replicate ops.size false) a0 (fun _ => 0) W.drew := by
  have h0 : ∀ j, (Array.replicate ops.size false).getD j false = false := by
    intro j
    simp only [Array.getD_eq_getD_getElem?, Array.getElem?_replicate]
    split <;> rfl
  exact ⟨⟨⟨rfl, rfl, rfl, Nat.le_refl _, fun _ _ => rfl⟩, fun _ _ => rfl⟩, ⟨rfl, rfl, fun _ _ => rfl⟩, by simp, fun j hj => absurd hj (by rw [h0]; exact Bool.false_ne_true), fun j r s hj _ _ => absurd hj (by rw [h0]; exact Bool.false_ne_true),
    fun _ _ _ _ _ _ => rfl, fun j _ _ _ hj _ => absurd hj (by rw [h0]; exact Bool.false_ne_true)⟩
theorem Inv.start' : Inv ops rels a0 W (Array.replicate ops.size false) a0 (fun _ => 0) W := by
  have h0 : ∀ j, (Array.replicate ops.size false).getD j false = false := by
    intro j
    simp only [Array.getD_eq_getD_getElem?, Array.getElem?_replicate]
    split <;> rfl
  exact ⟨⟨Below.refl _ _, fun _ _ => rfl⟩, ⟨rfl, rfl, fun _ _ => rfl⟩, by simp, fun j hj => absurd hj (by rw [h0]; exact Bool.false_ne_true), fun j r s hj _ _ => absurd hj (by rw [h0]; exact Bool.false_ne_true),
    fun _ _ _ _ _ _ => rfl, fun j _ _ _ hj _ => absurd hj (by rw [h0]; exact Bool.false_ne_true)⟩

theorem wp_region_rel {id : Nat} {l : List Oper} (rels : List Rel) (hm : P.follows .mixedOrders = true) (hB : relB l.toArray a0.tmps.size rels = true)
    (hstep : AllSteps (StepOk P l.toArray a0 W Q rels) 0 l)
    (hend : ∀ a γ w', RelC W γ w' → Agree l.toArray a0 a → (∀ i, i < l.length → Holds l.toArray rels i a γ w') → Q .normal a w') : (Code.region id l.toArray true).wp P Q a0 W := by
  refine wp_region_any hm (wpAny_rel hB (fun i o ho => ?_) hend _ _ a0 (fun _ => 0) _ Inv.start ?_)
  · have := hstep.at_ i o (by simpa using ho)
    rwa [Nat.zero_add] at this
  · exact Nat.le_trans List.countP_le_length (by simp)

theorem wpList_rel {l0 : List Oper} (hB : relB l0.toArray a0.tmps.size rels = true)
    (hend : ∀ a γ w', RelC W γ w' → Agree l0.toArray a0 a → (∀ i, i < l0.length → Holds l0.toArray rels i a γ w') → Q .normal a w') :
    ∀ (l : List Oper) (k : Nat) (listed : Array Bool) (a : Act) (γ : Nat → Nat) (w : World), (∀ i, l[i]? = l0[k + i]?) → k + l.length = l0.length → AllSteps (StepOk P l0.toArray a0 W Q rels) k l →
      Inv l0.toArray rels a0 W listed a γ w → (∀ i, listed.getD i false = decide (i < k)) → wpList P l0.toArray Q l a w
  | [], k, listed, a, γ, w, hl, hk, _, hI, hlist => by
    refine wpList_nil (hend a γ w hI.c hI.ag fun i hi => hI.held i ?_)
    rw [hlist]; simp at hk; exact decide_eq_true (by omega)
  | o :: l, k, listed, a, γ, w, hl, hk, hst, hI, hlist => by
    have ho : l0.toArray[k]? = some o := by have := hl 0; simp at this; simpa using this.symm
    have hf : listed.getD k false = false := by rw [hlist]; exact decide_eq_false (by omega)
    obtain ⟨r, hr, hsub, hac, hpair⟩ := relB_rel hB ho
    have hw : ∀ j, waitsFor o j = true → listed.getD j false = true := by
      intro j hj
      obtain ⟨e, he', hb⟩ := List.any_eq_true.1 hj
      have he : e ∈ o.after := by simpa using he'
      simp only [Bool.and_eq_true, beq_iff_eq] at hb
      have := hac e he hb.1
      rw [hlist]; exact decide_eq_true (by omega)
    have hks : k < listed.size := by rw [hI.size]; exact (Array.getElem?_eq_some_iff.1 ho).1
    refine wpList_step fun K hK => ?_
    refine hst.1 a γ w K hI.c hI.ag (hI.early hf) (fun j hj => hI.held j (hw j hj)) (fun v γ' w' hg hh => hK _ _ ?_)
    refine wpList_rel hB hend l (k + 1) (listed.setIfInBounds k true) _ γ' w' (fun i => by have := hl (i + 1); simpa [Nat.add_assoc, Nat.add_comm 1 i] using this) (by simp at hk; omega) hst.2 (hI.next hB ho hf hw hg hh) fun i => ?_
    rw [getD_listed hks, hlist]
    by_cases hki : k = i
    · rw [if_pos hki]; exact (decide_eq_true (by omega)).symm
    · rw [if_neg hki, decide_eq_decide]; omega
theorem wp_region_rel_text {id : Nat} {l : List Oper} (rels : List Rel) (hB : relB l.toArray a0.tmps.size rels = true)
    (hstep : AllSteps (StepOk P l.toArray a0 W Q rels) 0 l)
    (hend : ∀ a γ w', RelC W γ w' → Agree l.toArray a0 a → (∀ i, i < l.length → Holds l.toArray rels i a γ w') → Q .normal a w') : (Code.region id l.toArray false).wp P Q a0 W :=
  wp_region_lit (wpList_rel hB hend l 0 _ a0 (fun _ => 0) W (fun i => by rw [Nat.zero_add]) (by simp) hstep Inv.start' fun i => by
    simp only [Array.getD_eq_getD_getElem?, Array.getElem?_replicate]
    split <;> simp)
end

end Go.Proofs.YtfgnleoaibcegaaGreat

namespace Go.Proofs.YtfgnleoaibcegaaGreat

open Go.RowKit

theorem notNum_slice (A : Option Addr) (n c : Nat) : notNum (.slice A n c) := fun _ _ h => by cases h

def cutTag (γ : Nat → Nat) (w : World) : Nat → Nat := fun b => if b < w.heap.size then γ b else 0
def newTag (γ : Nat → Nat) (w : World) (t : Nat) : Nat → Nat := fun b => if b = w.heap.size then t else γ b
section

variable {γ γ' : Nat → Nat} {w w' : World} {t : Nat}
theorem num_below (hb : Below w.heap.size w w') (a : Addr) (k : IntKind) (n : Int) (h : w.cell? a = some (.int k n)) : w'.cell? a = some (.int k n) := (hb.cell (World.block_lt_of_cell? w a h)).trans h
theorem VarBlk.lt {p n : Nat} {T : TypeId} (h : VarBlk w p T n) : p < w.heap.size := by
  obtain ⟨cs, _, _, h⟩ := h
  exact Blk.lt (t := T) (cs := cs) h
theorem var_below (hb : Below w.heap.size w w') (p : Nat) (T : TypeId) (n : Nat) (h : VarBlk w p T n) : VarBlk w' p T n := by
  have hl := h.lt
  obtain ⟨cs, h1, h2, h3⟩ := h
  exact ⟨cs, h1, h2, (hb.block p hl).trans h3⟩
theorem Grow.below (γ : Nat → Nat) (hb : Below w.heap.size w w') : Grow 0 γ w (cutTag γ w) w' :=
  ⟨hb.os, hb.tape, hb.output, hb.size, fun b h => by simp [cutTag, h], fun b h _ => hb.block b h, num_below hb, var_below hb⟩
theorem Grow.refl_ (γ : Nat → Nat) (w : World) : Grow 0 γ w γ w := ⟨rfl, rfl, rfl, Nat.le_refl _, fun _ _ => rfl, fun _ _ _ => rfl, fun _ _ _ h => h, fun _ _ _ h => h⟩
theorem Grow.alloc (γ : Nat → Nat) (w : World) (o : Obj) (t : Nat) : Grow 0 γ w (newTag γ w t) (w.alloc o) := by
  have hb : Below w.heap.size w (w.alloc o) := (Below.refl _ _).alloc (Nat.le_refl _) _
  exact ⟨hb.os, hb.tape, hb.output, hb.size, fun b h => by simp only [newTag]; rw [if_neg (by omega)], fun b h _ => hb.block b h, num_below hb, var_below hb⟩
theorem Grow.store (γ : Nat → Nat) {p : Nat} {x : Value} (ht0 : t ≠ 0) (hp : w.cell? ⟨p, 0, none⟩ = some x) (hx : notNum x) (hγ : γ p = t) {u : Value} (hu : notNum u) : Grow t γ w γ (w.setCell ⟨p, 0, none⟩ u) := by
  have hs : (w.setCell ⟨p, 0, none⟩ u).heap.size = w.heap.size := by simp [World.setCell]
  refine ⟨rfl, rfl, rfl, by rw [hs]; exact Nat.le_refl _, fun _ _ => rfl, fun b hb ht => ?_, fun a k n ha => ?_, fun q T n hq => ?_⟩
  · refine Below.heap_setCell w ⟨p, 0, none⟩ u b ?_
    rintro rfl
    exact ht.elim ht0 (fun h => h hγ)
  · rw [World.cell?_setCell_other]
    · exact ha
    · rintro rfl
      rw [hp] at ha
      injection ha with ha
      exact absurd ha (hx k n)
  · obtain ⟨cs, h1, h2, h3⟩ := hq
    by_cases hqp : q = p
    · subst hqp
      refine ⟨cs.setIfInBounds 0 u, by simpa using h1, fun y hy => ?_, Blk.set_ (t := T) h3 0 u⟩
      rcases Array.mem_or_eq_of_mem_setIfInBounds hy with h | h
      · exact h2 y h
      · rw [h]; exact hu
    · exact ⟨cs, h1, h2, (Below.heap_setCell w ⟨p, 0, none⟩ u q hqp).trans h3⟩
theorem Grow.cell (g : Grow t γ w γ' w') {p o : Nat} (h : t = 0 ∨ γ p ≠ t) (hp : p < w.heap.size) : w'.cell? ⟨p, o, none⟩ = w.cell? ⟨p, o, none⟩ := World.cell?_of_block (g.block p hp h)
theorem Grow.blk (g : Grow t γ w γ' w') {p : Nat} {T : TypeId} {cs : Array Value} (h : t = 0 ∨ γ p ≠ t) (hb : Blk w p T cs) : Blk w' p T cs := (g.block p hb.lt h).trans hb
theorem DAt.grow {b : Nat} {A : Option Addr} {n c x : Nat} (g : Grow t γ w γ' w') (h : DAt b w A n c x) : DAt b w' A n c x := by
  refine ⟨⟨h.reads.1, fun hn => ?_⟩, h.cap, h.room⟩
  obtain ⟨ad, e, hb, hc⟩ := h.reads.2 hn
  refine ⟨ad, e, Nat.lt_of_lt_of_le hb g.size, fun j v hv => ?_⟩
  obtain ⟨d, _, rfl⟩ := List.mem_map.1 (List.mem_of_getElem? hv)
  exact g.num _ _ _ (hc j _ hv)
end

structure Vr (T : TypeId) (w : World) (p : Nat) (v : Value) : Prop where
  blk : Blk w p T #[v]
section

variable {T : TypeId} {w w' : World} {p q : Nat} {v u : Value}
theorem Vr.lt (h : Vr T w p v) : p < w.heap.size := h.blk.lt
theorem Vr.cell (h : Vr T w p v) : w.cell? ⟨p, 0, none⟩ = some v := h.blk.cell 0
theorem Vr.fr (h : Vr T w p v) : w.frozen? ⟨p, 0, none⟩ = false := h.blk.frozen 0
theorem Vr.below (h : Vr T w p v) (hb : Below w.heap.size w w') : Vr T w' p v := ⟨h.blk.below hb h.lt⟩
theorem Vr.drew (h : Vr T w p v) : Vr T w.drew p v := ⟨h.blk⟩
theorem Vr.al (h : Vr T w p v) (o : Obj) : Vr T (w.alloc o) p v := ⟨h.blk.alloc o⟩
theorem Vr.new (w : World) (T : TypeId) (v : Value) : Vr T (w.alloc (.cells #[v] T)) w.heap.size v := ⟨Blk.new _ _ _⟩
theorem Vr.set_ (h : Vr T w p v) (u : Value) : Vr T (w.setCell ⟨p, 0, none⟩ u) p u := ⟨h.blk.set_ 0 u⟩
theorem Vr.far (h : Vr T w p v) (hne : p ≠ q) (u : Value) : Vr T (w.setCell ⟨q, 0, none⟩ u) p v := ⟨h.blk.far hne u⟩
end

/-! ### Relations -/
def rVal (x : Value) : Rel := ⟨none, 0, 0, fun v _ _ => v = x, fun _ _ _ _ _ _ _ _ h => h⟩
def rN (b : Nat) (f : Value → Value) (x lim : Nat) : Rel :=
  ⟨none, 0, 0, fun v _ w => ∃ A n c, v = f (.slice A n c) ∧ DAt b w A n c x ∧ n ≤ lim, fun _ _ _ _ _ _ _ g ⟨A, n, c, e, h, hn⟩ => ⟨A, n, c, e, h.grow g, hn⟩⟩
def rVar (i : Nat) (T : TypeId) : Rel :=
  ⟨none, 0, 0, fun v γ w => ∃ p, v = .pointer (some ⟨p, 0, none⟩) ∧ γ p = i + 1 ∧ VarBlk w p T 1,
    fun t γ w γ' w' v ht g ⟨p, e, hγ, h⟩ => ⟨p, e, by rw [g.tag p h.lt]; exact hγ, g.var p T 1 h⟩⟩
def rBox (j : Nat) (T : TypeId) (b x lim : Nat) : Rel :=
  ⟨some j, j + 1, j + 1, fun v γ w => ∃ p A n c, v = .pointer (some ⟨p, 0, none⟩) ∧ γ p = j + 1 ∧ Vr T w p (.slice A n c) ∧ DAt b w A n c x ∧ n ≤ lim,
    fun t γ w γ' w' v ht g ⟨p, A, n, c, e, hγ, h, hd, hn⟩ => ⟨p, A, n, c, e, by rw [g.tag p h.lt]; exact hγ, ⟨g.blk (by omega) h.blk⟩, hd.grow g, hn⟩⟩

/-! ### Steps -/
section

variable {P : Program} {ops : Array Oper} {Q : Exit → Act → World → Prop} {a0 : Act} {W : World} {rels : List Rel} {i : Nat} {o : Oper} {r : Rel}

theorem holds_put {a : Act} {γ : Nat → Nat} {w : World} {v : Value} {d : Nat} (ho : ops[i]? = some o) (hr : rels[i]? = some r) (hs : r.sub = none) (hd : o.dst = some d) (hlt : d < a.tmps.size) (h : r.p v γ w) :
    Holds ops rels i (a.put o.dst v) γ w := by
  unfold Holds
  rw [hr]
  show r.p (valOf ops (a.put o.dst v) (r.sub.getD i)) γ w
  rw [hs]
  simp only [Option.getD_none, valOf, ho, Option.bind_some, hd, Act.put]
  simpa [hlt] using h
theorem holds_sub {a : Act} {γ : Nat → Nat} {w : World} {v : Value} {j : Nat} (ho : ops[i]? = some o) (hr : rels[i]? = some r) (hs : r.sub = some j) (hd : o.dst = none) (h : r.p (valOf ops a j) γ w) :
    Holds ops rels i (a.put o.dst v) γ w := by
  unfold Holds
  rw [hr]
  show r.p (valOf ops (a.put o.dst v) (r.sub.getD i)) γ w
  rw [hs, hd]
  exact h

structure Up (ops : Array Oper) (a0 : Act) (W : World) (rels : List Rel) (i : Nat) (o : Oper) (a : Act) (γ : Nat → Nat) (w : World) : Prop where
  c : RelC W γ w
  ag : Agree ops a0 a
  early : Early ops a0 a i
  dep : ∀ j, waitsFor o j = true → Holds ops rels j a γ w

theorem step_run {d : Nat} (ho : ops[i]? = some o) (hr : rels[i]? = some r) (hs : r.sub = none) (he : r.eff = 0) (hd : o.dst = some d) (hlt : decide (d < a0.tmps.size) = true)
    (h : ∀ a γ w, Up ops a0 W rels i o a γ w → Region.wanted o (yielded ops a.tmps) = true ∧ ∃ v, (execOp a.eval o).run P w = .ok (.value v) w ∧ r.p v γ w) : StepOk P ops a0 W Q rels i o := by
  intro a γ w K hc hag hearly hdep hK
  obtain ⟨hw, v, hrun, hp⟩ := h a γ w ⟨hc, hag, hearly, hdep⟩
  rw [if_pos hw]
  unfold Oper.wp
  rw [hrun]
  exact hK v γ w (by unfold effOf; rw [hr]; simp only [he]; exact Grow.refl_ _ _) (holds_put ho hr hs hd (by rw [hag.size]; exact of_decide_eq_true hlt) hp)
theorem run_enter {f : FuncId} {fn : Func} {args : Array Value} {w : World} (hf : P.funcs[f]? = some fn) (hn : (fn.name == "runtime.NumGoroutine") = false) (hb : fn.body.isNone = false) : (callFunc f args).run P w = .ok (.enter f args) w := by
  have h1 : ¬ fn.name = "runtime.NumGoroutine" := by simpa using hn
  have h2 : ¬ fn.body = none := by intro e; rw [e] at hb; cases hb
  simp [callFunc, go_sem, hf, h1, h2]
theorem step_call {d : Nat} {f : FuncId} {fn : Func} {args : Array Operand} {ts : Array TypeId} (ho : ops[i]? = some o) (hr : rels[i]? = some r) (hs : r.sub = none) (he : r.eff = 0) (hd : o.dst = some d) (hlt : decide (d < a0.tmps.size) = true)
    (hop : o.op = .call { callee := .value (.func f), args := args, argTypes := ts }) (hf : P.funcs[f]? = some fn) (hn : (fn.name == "runtime.NumGoroutine") = false) (hb : fn.body.isNone = false)
    (h : ∀ a γ w, Up ops a0 W rels i o a γ w → Region.wanted o (yielded ops a.tmps) = true ∧ Calls P f (args.toList.map a.eval).toArray w fun e w' => ∃ v, e = .returned v ∧ Below w.heap.size w w' ∧ r.p v (cutTag γ w) w') : StepOk P ops a0 W Q rels i o := by
  intro a γ w K hc hag hearly hdep hK
  obtain ⟨hw, hcall⟩ := h a γ w ⟨hc, hag, hearly, hdep⟩
  rw [if_pos hw]
  have hmap : (args.toList.map a.eval).toArray = args.map a.eval := by rw [← Array.toList_map]
  rw [hmap] at hcall
  have hrun : (execOp a.eval o).run P w = .ok (.enter f (args.map a.eval)) w := by
    unfold execOp
    rw [hop]
    simp [go_sem, resolve, Deferred.ofValue, Act.eval, invoke, run_enter hf hn hb]
  unfold Oper.wp
  rw [hrun]
  refine Calls.mono hcall ?_
  rintro e w' ⟨v, rfl, hbel, hp⟩
  exact hK v _ w' (by unfold effOf; rw [hr]; simp only [he]; exact Grow.below γ hbel) (holds_put ho hr hs hd (by rw [hag.size]; exact of_decide_eq_true hlt) hp)
theorem step_alloc {d : Nat} {T : TypeId} {z : Value} (ho : ops[i]? = some o) (hr : rels[i]? = some (rVar i T)) (hd : o.dst = some d) (hlt : decide (d < a0.tmps.size) = true) (hg : o.guard = none)
    (hop : o.op = .alloc T) (hz : notNum z) (hrun : ∀ w, (Instr.alloc T true (.tuple #[])).run P w = .ok (.pointer (some ⟨w.heap.size, 0, none⟩)) (w.alloc (.cells #[z] T))) : StepOk P ops a0 W Q rels i o := by
  intro a γ w K hc hag hearly hdep hK
  rw [if_pos (by simp [Region.wanted, hg])]
  have hrun' : (execOp a.eval o).run P w = .ok (.value (.pointer (some ⟨w.heap.size, 0, none⟩))) (w.alloc (.cells #[z] T)) := by
    unfold execOp
    rw [hop]
    simp only [Sem.run_bind, hrun, Result.andThen, Sem.run_pure]
  unfold Oper.wp
  rw [hrun']
  exact hK _ (newTag γ w (i + 1)) _ (by unfold effOf; rw [hr]; exact Grow.alloc γ w _ _) (holds_put ho hr rfl hd (by rw [hag.size]; exact of_decide_eq_true hlt) ⟨w.heap.size, rfl, by simp [newTag], #[z], rfl, by simpa using hz, Blk.new w T #[z]⟩)
theorem step_store {j : Nat} {T : TypeId} {tp : Nat} {x : Operand} {b y lim : Nat} (ho : ops[i]? = some o) (hr : rels[i]? = some (rBox j T b y lim)) (hd : o.dst = none) (hg : o.guard = none)
    (hop : o.op = .store T (.tmp tp) x) (hj : (ops[j]?).bind (·.dst) = some tp) (hwj : waitsFor o j = true) (hrj : rels[j]? = some (rVar j T))
    (hrun : ∀ A n c p w u, Vr T w p u → (Instr.storeAt T (.pointer (some ⟨p, 0, none⟩)) (.agg #[.slice A n c])).run P w = .ok () (w.setCell ⟨p, 0, none⟩ (.slice A n c)))
    (h : ∀ a γ w, Up ops a0 W rels i o a γ w → ∃ A n c, a.eval x = .agg #[.slice A n c] ∧ DAt b w A n c y ∧ n ≤ lim) : StepOk P ops a0 W Q rels i o := by
  intro a γ w K hc hag hearly hdep hK
  obtain ⟨A, n, c, ex, hdat, hlim⟩ := h a γ w ⟨hc, hag, hearly, hdep⟩
  have h1 := hdep j hwj
  unfold Holds at h1
  rw [hrj] at h1
  have e1 : valOf ops a j = a.eval (.tmp tp) := by simp only [valOf, hj]; rfl
  obtain ⟨p, e, hγ, cs, hcs1, hcs2, hcs3⟩ : (rVar j T).p (valOf ops a j) γ w := h1
  obtain ⟨u, rfl⟩ : ∃ u, cs = #[u] := by
    obtain ⟨l⟩ := cs
    match l, hcs1 with
    | [u], _ => exact ⟨u, rfl⟩
  have hu : notNum u := hcs2 u (by simp)
  have hv : Vr T w p u := ⟨hcs3⟩
  rw [if_pos (by simp [Region.wanted, hg])]
  have hrun' : (execOp a.eval o).run P w = .ok .skip (w.setCell ⟨p, 0, none⟩ (.slice A n c)) := by
    unfold execOp
    rw [hop]
    simp only
    rw [← e1, e, ex]
    simp only [Sem.run_bind, hrun A n c p w u hv, Result.andThen, Sem.run_pure]
  have hg' : Grow (j + 1) γ w γ (w.setCell ⟨p, 0, none⟩ (.slice A n c)) := Grow.store γ (by omega) hv.cell hu hγ (notNum_slice _ _ _)
  unfold Oper.wp
  rw [hrun']
  refine hK undef γ _ (by unfold effOf; rw [hr]; exact hg') (holds_sub ho hr rfl hd ?_)
  exact ⟨p, A, n, c, e, hγ, hv.set_ _, hdat.grow hg', hlim⟩

theorem Up.at_ {a : Act} {γ : Nat → Nat} {w : World} (h : Up ops a0 W rels i o a γ w) (t : Nat) {v : Value} (hn : (ops.all fun o => !(o.dst == some t) || waitsFor o i) = true) (h0 : a0.tmps[t]? = some v) : a.eval (.tmp t) = v := by
  have := h.early t (fun o ho e => by
    have := Array.all_eq_true_iff_forall_mem.1 hn o ho
    simp [e] at this
    exact this)
  rw [h0] at this
  simp [Act.eval, this]

theorem wanted_none {a : Act} (hg : o.guard = none) : Region.wanted o (yielded ops a.tmps) = true := by simp [Region.wanted, hg]
def putAll (a : Act) : List (Option Tmp × Value) → Act
  | [] => a
  | (d, v) :: l => putAll (a.put d v) l
theorem putAll_get (l : List (Option Tmp × Value)) : ∀ (a : Act) (t : Nat), (putAll a l).tmps.size = a.tmps.size ∧ (putAll a l).defers = a.defers ∧
    ((∀ x ∈ l, x.1 ≠ some t) → (putAll a l).tmps[t]? = a.tmps[t]?) := by
  induction l with
  | nil => exact fun a t => ⟨rfl, rfl, fun _ => rfl⟩
  | cons x l ih =>
    obtain ⟨d, v⟩ := x
    intro a t
    obtain ⟨h1, h2, h3⟩ := ih (a.put d v) t
    refine ⟨by rw [putAll, h1]; cases d <;> simp [Act.put], by rw [putAll, h2]; cases d <;> rfl, fun hx => ?_⟩
    rw [putAll, h3 (fun y hy => hx y (List.mem_cons_of_mem _ hy))]
    cases d with
    | none => rfl
    | some d =>
      have hne : d ≠ t := by rintro rfl; exact hx (some d, v) List.mem_cons_self rfl
      simp [Act.put, Array.getElem?_setIfInBounds_ne hne]
theorem putAll_mem (f : Nat → Value) : ∀ (l : List (Option Tmp)) (a : Act) (t : Nat), some t ∈ l → t < a.tmps.size → (putAll a (l.map fun d => (d, match d with | some t => f t | none => undef))).tmps[t]? = some (f t) := by
  intro l
  induction l with
  | nil => intro a t h; cases h
  | cons d l ih =>
    intro a t h hlt
    by_cases ht : some t ∈ l
    · exact ih _ t ht (by cases d <;> simp [Act.put, hlt])
    · have hd : some t = d := by
        rcases List.mem_cons.1 h with h | h
        · exact h
        · exact absurd h ht
      subst hd
      rw [List.map_cons, putAll]
      rw [(putAll_get _ _ t).2.2 (fun x hx e => by
        obtain ⟨d', hd', rfl⟩ := List.mem_map.1 hx
        simp at e
        subst e
        exact ht hd')]
      simp [Act.put, hlt]
theorem Agree.eq_ {l : List Oper} {a : Act} (h : Agree l.toArray a0 a) (hlt : (l.all fun o => match o.dst with | some d => decide (d < a0.tmps.size) | none => true) = true) :
    a = putAll a0 ((l.map (·.dst)).map fun d => (d, match d with | some t => a.eval (.tmp t) | none => undef)) := by
  have key : a.tmps = (putAll a0 ((l.map (·.dst)).map fun d => (d, match d with | some t => a.eval (.tmp t) | none => undef))).tmps := by
    apply Array.ext_getElem?
    intro t
    by_cases ht : some t ∈ l.map (·.dst)
    · obtain ⟨o, ho, e⟩ := List.mem_map.1 ht
      have h1 := List.all_eq_true.1 hlt o ho
      rw [e] at h1
      have h2 : t < a0.tmps.size := by simpa using h1
      rw [putAll_mem (fun t => a.eval (.tmp t)) _ _ t ht h2]
      have h3 : t < a.tmps.size := by rw [h.size]; exact h2
      simp [Act.eval, h3]
    · rw [(putAll_get _ _ t).2.2 (fun x hx e => by
        obtain ⟨d', hd', rfl⟩ := List.mem_map.1 hx
        simp at e
        subst e
        exact ht hd')]
      refine h.same t fun o ho e => ht (List.mem_map.2 ⟨o, by simpa using ho, e⟩)
  have key2 : a.defers = (putAll a0 ((l.map (·.dst)).map fun d => (d, match d with | some t => a.eval (.tmp t) | none => undef))).defers := by
    rw [(putAll_get _ _ 0).2.1]; exact h.defers
  have ext : ∀ x y : Act, x.tmps = y.tmps → x.defers = y.defers → x = y := by
    rintro ⟨x1, x2⟩ ⟨y1, y2⟩ h1 h2
    simp only at h1 h2
    rw [h1, h2]
  exact ext _ _ key key2
end

end Go.Proofs.YtfgnleoaibcegaaGreat

namespace Go.Proofs.YtfgnleoaibcegaaGreat

open Go.RowKit

section

variable {P : Program} {ops : Array Oper} {Q : Exit → Act → World → Prop} {a0 : Act} {W : World} {rels : List Rel} {i : Nat} {o : Oper} {r : Rel} {a : Act} {w : World}
theorem run_mv {x : Operand} {v : Value} (hop : o.op = .move x) (hx : a.eval x = v) : (execOp a.eval o).run P w = .ok (.value v) w := by
  unfold execOp; rw [hop]; simp only [hx, Sem.run_pure]
theorem run_as {x : Operand} {v : Value} (hop : o.op = .assign x) (hx : a.eval x = v) : (execOp a.eval o).run P w = .ok (.value v) w := by
  unfold execOp; rw [hop]; simp only [hx, Sem.run_pure]
theorem run_extract {x : Operand} {j : Nat} {xs : Array Value} {v : Value} (hop : o.op = .extract x j) (hx : a.eval x = .tuple xs) (hj : xs[j]? = some v) : (execOp a.eval o).run P w = .ok (.value v) w := by
  unfold execOp; rw [hop]; simp only [hx]; simp [go_sem, hj]
theorem run_load {x : Operand} {T : TypeId} {p v : Value} (hop : o.op = .load T x) (hx : a.eval x = p) (h : (Instr.loadAt T p).run P w = .ok v w) : (execOp a.eval o).run P w = .ok (.value v) w := by
  unfold execOp; rw [hop]; simp only [hx, Sem.run_bind, h, Result.andThen, Sem.run_pure]
theorem run_fa {x : Operand} {s : TypeId} {f : Nat} {p q : Value} (hop : o.op = .fieldAddr s x f) (hx : a.eval x = p) (h : (Instr.fieldAt s p f).run P w = .ok q w) : (execOp a.eval o).run P w = .ok (.value q) w := by
  unfold execOp; rw [hop]; simp only [hx, Sem.run_bind, h, Result.andThen, Sem.run_pure]
theorem run_ia {x i : Operand} {T : TypeId} {p k q : Value} (hop : o.op = .indexAddr T x i) (hx : a.eval x = p) (hi : a.eval i = k) (h : (Instr.indexAt T p k).run P w = .ok q w) : (execOp a.eval o).run P w = .ok (.value q) w := by
  unfold execOp; rw [hop]; simp only [hx, hi, Sem.run_bind, h, Result.andThen, Sem.run_pure]
end

/-! ### This program's types -/
section

variable {w : World} {a : Addr} {p : Nat}
theorem load_30 {x : Value} (h : w.cell? a = some x) (ha : a.spot = none) : (Instr.loadAt 30 (.pointer (some a))).run Tryz.prog w = .ok (.agg #[x]) w := by
  obtain ⟨b, o, s⟩ := a
  simp only at ha
  subst ha
  simp [go_sem, h]
theorem store_30 {x : Value} (h : w.cell? ⟨p, 0, none⟩ = some x) (hf : w.frozen? ⟨p, 0, none⟩ = false) (A : Option Addr) (n c : Nat) : (Instr.storeAt 30 (.pointer (some ⟨p, 0, none⟩)) (.agg #[.slice A n c])).run Tryz.prog w = .ok () (w.setCell ⟨p, 0, none⟩ (.slice A n c)) := by
  simp [go_sem, h, hf]
theorem alloc_30 (w : World) : (Instr.alloc 30 true (.tuple #[])).run Tryz.prog w = .ok (.pointer (some ⟨w.heap.size, 0, none⟩)) (w.alloc (.cells #[.slice none 0 0] 30)) := by
  simp [go_sem]
theorem fa_30 (p : Nat) : (Instr.fieldAt 30 (.pointer (some ⟨p, 0, none⟩)) 0).run Tryz.prog w = .ok (.pointer (some ⟨p, 0, none⟩)) w := by
  simp [go_sem]
theorem load_24 {A : Option Addr} {n c : Nat} (h : w.cell? ⟨p, 0, none⟩ = some (.slice A n c)) : (Instr.loadAt 24 (.pointer (some ⟨p, 0, none⟩))).run Tryz.prog w = .ok (.slice A n c) w := by
  simp [go_sem, h]
theorem load_23 {x : Nat} {b o : Nat} (h : w.cell? ⟨b, o, none⟩ = some (.int .u64 (x : Int))) : (Instr.loadAt 23 (.pointer (some ⟨b, o, none⟩))).run Tryz.prog w = .ok (.int .u64 (x : Int)) w := by
  simp [go_sem, h]
theorem ia_24 {g o n c : Nat} (hn : 0 < n) : (Instr.indexAt 24 (.slice (some ⟨g, o, none⟩) n c) (.int .i64 0)).run Tryz.prog w = .ok (.pointer (some ⟨g, o, none⟩)) w := by
  simp [go_sem, hn]
end

end Go.Proofs.YtfgnleoaibcegaaGreat

namespace Go.Proofs.YtfgnleoaibcegaaGreat.Ref

open Go.RowKit

structure DmRel (w0 : World) (A : Option Addr) (n c x : Nat) (A' : Option Addr) (n' c' y : Nat) (wr : World) : Prop where
  dx0 : DAt B32 w0 A n c x
  dy0 : DAt B32 w0 A' n' c' y
  bx : wr.cell? ⟨w0.heap.size, 0, none⟩ = some (.slice A n c)
  by_ : wr.cell? ⟨w0.heap.size + 1, 0, none⟩ = some (.slice A' n' c')
  b4 : wr.cell? ⟨w0.heap.size + 1 + 1, 0, none⟩ = some (.slice none 0 0)
  f4 : wr.frozen? ⟨w0.heap.size + 1 + 1, 0, none⟩ = false
  b5 : wr.cell? ⟨w0.heap.size + 1 + 1 + 1, 0, none⟩ = some (.slice none 0 0)
  f5 : wr.frozen? ⟨w0.heap.size + 1 + 1 + 1, 0, none⟩ = false
  bel : Below w0.heap.size w0 wr
  sz : w0.heap.size + 1 + 1 + 1 + 1 ≤ wr.heap.size

section

variable {w0 wr w1 : World} {A A' : Option Addr} {n c x n' c' y : Nat}
theorem DmRel.dx (h : DmRel w0 A n c x A' n' c' y wr) : DAt B32 wr A n c x := h.dx0.below h.bel

theorem DmRel.dy (h : DmRel w0 A n c x A' n' c' y wr) : DAt B32 wr A' n' c' y := h.dy0.below h.bel

theorem DmRel.go {B : Nat} (h : DmRel w0 A n c x A' n' c' y wr) (hB : w0.heap.size + 1 + 1 + 1 + 1 ≤ B) (hb : Below B wr w1) : DmRel w0 A n c x A' n' c' y w1 := by
  have h4 := h.sz
  have h5 := hb.size
  exact ⟨h.dx0, h.dy0, (hb.cell (by simp; omega)).trans h.bx, (hb.cell (by simp; omega)).trans h.by_, (hb.cell (by simp; omega)).trans h.b4, (hb.frozen (by simp; omega)).trans h.f4, (hb.cell (by simp; omega)).trans h.b5, (hb.frozen (by simp; omega)).trans h.f5, h.bel.trans (hb.mono (by omega)), by omega⟩

theorem DmRel.below (h : DmRel w0 A n c x A' n' c' y wr) (hb : Below wr.heap.size wr w1) : DmRel w0 A n c x A' n' c' y w1 := h.go h.sz hb

theorem DmRel.start {w : World} (hx : DAt B32 w A n c x) (hy : DAt B32 w A' n' c' y) :
    DmRel w A n c x A' n' c' y ((((w.alloc (.cells #[.slice A n c] 30)).alloc (.cells #[.slice A' n' c'] 30)).alloc (.cells #[.slice none 0 0] 30)).alloc (.cells #[.slice none 0 0] 30)) := by
  have c0 := (((Blk.new w 30 #[.slice A n c]).alloc (.cells #[.slice A' n' c'] 30)).alloc (.cells #[.slice none 0 0] 30)).alloc (.cells #[.slice none 0 0] 30)
  have c1 := ((Blk.new (w.alloc (.cells #[.slice A n c] 30)) 30 #[.slice A' n' c']).alloc (.cells #[.slice none 0 0] 30)).alloc (.cells #[.slice none 0 0] 30)
  have c2 := (Blk.new ((w.alloc (.cells #[.slice A n c] 30)).alloc (.cells #[.slice A' n' c'] 30)) 30 #[.slice none 0 0]).alloc (.cells #[.slice none 0 0] 30)
  have c3 := (Blk.new (((w.alloc (.cells #[.slice A n c] 30)).alloc (.cells #[.slice A' n' c'] 30)).alloc (.cells #[.slice none 0 0] 30)) 30 #[.slice none 0 0])
  have hb : Below w.heap.size w ((((w.alloc (.cells #[.slice A n c] 30)).alloc (.cells #[.slice A' n' c'] 30)).alloc (.cells #[.slice none 0 0] 30)).alloc (.cells #[.slice none 0 0] 30)) :=
    ((((Below.refl _ _).alloc (Nat.le_refl _) _).alloc (by simp) _).alloc (by simp; omega) _).alloc (by simp; omega) _
  simp only [World.size_alloc] at c1 c2 c3
  exact ⟨hx, hy, c0.cell 0, c1.cell 0, c2.cell 0, c2.frozen 0, c3.cell 0, c3.frozen 0, hb, by simp⟩

theorem DmRel.fin (h : DmRel w0 A n c x A' n' c' y wr) {A3 A4 : Option Addr} {n3 c3 n4 c4 q r : Nat} (h3 : DAt B32 wr A3 n3 c3 q) (h4 : DAt B32 wr A4 n4 c4 r) :
    let w9 := (wr.setCell ⟨w0.heap.size + 1 + 1, 0, none⟩ (.slice A3 n3 c3)).setCell ⟨w0.heap.size + 1 + 1 + 1, 0, none⟩ (.slice A4 n4 c4)
    DAt B32 w9 A3 n3 c3 q ∧ DAt B32 w9 A4 n4 c4 r ∧ Below w0.heap.size w0 w9 := by
  have e : (wr.setCell ⟨w0.heap.size + 1 + 1, 0, none⟩ (.slice A3 n3 c3)).cell? ⟨w0.heap.size + 1 + 1 + 1, 0, none⟩ = some (.slice none 0 0) := by
    rw [World.cell?_setCell_other _ _ _ _ (by intro e; injection e; omega)]; exact h.b5
  exact ⟨(h3.put h.b4 _).put e _, (h4.put h.b4 _).put e _, (h.bel.setCell (by simp; omega) _).setCell (by simp; omega) _⟩
theorem DmRel.drew (h : DmRel w0 A n c x A' n' c' y wr) : DmRel w0 A n c x A' n' c' y wr.drew := ⟨h.dx0, h.dy0, h.bx, h.by_, h.b4, h.f4, h.b5, h.f5, h.bel.drew, h.sz⟩
end

set_option maxRecDepth 100000 in
set_option maxHeartbeats 1000000 in
theorem divmod_less (A : Option Addr) (n c x : Nat) (A' : Option Addr) (n' c' y : Nat) (w : World) (hx : DAt B32 w A n c x) (hy : DAt B32 w A' n' c' y) (hn : n ≤ 1099511627776) (hn' : n' ≤ 1099511627776) (hlt : x < y) :
    Calls Tryz.prog 82 #[.agg #[.slice A n c], .agg #[.slice A' n' c']] w fun e w' => ∃ A3 n3 c3 A4 n4 c4, e = .returned (.tuple #[.agg #[.slice A3 n3 c3], .agg #[.slice A4 n4 c4]]) ∧ DAt B32 w' A3 n3 c3 (x / y) ∧ DAt B32 w' A4 n4 c4 (x % y) ∧ Below w.heap.size w w' := by
  have hr0 := DmRel.start hx hy
  have HR0 := Lib.hid hr0
  rw [Nat.div_eq_of_lt hlt, Nat.mod_eq_of_lt hlt]
  have hcmp : cmpI x y = -1 := by unfold cmpI; rw [if_pos hlt]
  have bx0 := hr0.bx
  have by0 := hr0.by_
  clear hx hy hr0
  go_enter Tryz.func82, Tryz.ntmps82
  go_wp2_with fail
  refine (cmp_any A n c x A' n' c' y _ HR0.out.dx HR0.out.dy hn hn').mono ?_
  rintro e w1 ⟨rfl, hb1⟩
  have hr := HR0.out.below hb1
  clear bx0 by0
  have bx := hr.bx
  have b4 := hr.b4
  have f4 := hr.f4
  have b5 := hr.b5
  have f5 := hr.f5
  rw [hcmp]
  have HR := Lib.hid hr
  have HF := Lib.hid (hr.fin (A3 := none) (n3 := 0) (c3 := 0) (A4 := A) (n4 := n) (c4 := c) DAt.nil hr.dx)
  clear HR0 hb1 hr
  go_wp2_with fail
  go_region
  go_wp2_with fail
  have o1 := HF.out
  have s4 : ∀ v, ((w1.setCell ⟨w.heap.size + 1 + 1, 0, none⟩ v)).cell? ⟨w.heap.size + 1 + 1 + 1, 0, none⟩ = some (.slice none 0 0) := fun v => by
    rw [World.cell?_setCell_other _ _ _ _ (by intro e; injection e; omega)]; exact b5
  exact bodyPost_ret (v := .tuple #[.agg #[.slice none 0 0], .agg #[.slice A n c]]) (by simp [results, Tryz.results82, go_sem, b4, b5, s4]) rfl ⟨_, _, _, _, _, _, rfl, DAt.drew o1.1, DAt.drew o1.2.1, o1.2.2.drew⟩

set_option maxRecDepth 100000 in
set_option maxHeartbeats 2000000 in
theorem divmod_one (A : Option Addr) (n c x : Nat) (A' : Option Addr) (c' y : Nat) (w : World) (hx : DAt B32 w A n c x) (hy : DAt B32 w A' 1 c' y) (hn : n ≤ 1099511627776) (hlt : ¬ x < y) :
    Calls Tryz.prog 82 #[.agg #[.slice A n c], .agg #[.slice A' 1 c']] w fun e w' => ∃ A3 n3 c3 A4 n4 c4, e = .returned (.tuple #[.agg #[.slice A3 n3 c3], .agg #[.slice A4 n4 c4]]) ∧ DAt B32 w' A3 n3 c3 (x / y) ∧ DAt B32 w' A4 n4 c4 (x % y) ∧ Below w.heap.size w w' := by
  have hr0 := DmRel.start hx hy
  have HR0 := Lib.hid hr0
  have hcmp : ¬ cmpI x y < 0 := by unfold cmpI; rw [if_neg hlt]; split <;> omega
  have hyB : y < B32 := by have := hy.lt two_le_B32; rwa [Nat.pow_one] at this
  have hy0 : 0 < y := Nat.pos_of_ne_zero fun e => by have := (hy.zero_len two_le_B32).2 e; omega
  have hcm := fun (wz : World) (h1 : DAt B32 wz A n c x) (h2 : DAt B32 wz A' 1 c' y) => cmp_any A n c x A' 1 c' y wz h1 h2 hn (by omega)
  generalize cmpI x y = ci at *
  have hci : decide (ci < 0) = false := decide_eq_false hcmp
  obtain ⟨gy, oy, rfl, hgy, hyc⟩ := hy.flat two_le_B32 (by omega)
  have hyc0 := hyc 0 (by omega)
  rw [Nat.pow_zero, Nat.div_one, Nat.mod_eq_of_lt hyB, Nat.add_zero] at hyc0
  have bx0 := hr0.bx
  have by0 := hr0.by_
  have HCM := Lib.hid hcm
  have hsm := fun (wz : World) (h1 : DAt B32 wz A n c x) => small_any A n c x y wz h1 hn hy0 (by rw [B32_eq] at hyB; omega)
  have hrB : x % y < B64 := Nat.lt_trans (Nat.mod_lt _ hy0) (Nat.lt_trans hyB (by decide))
  have hof := fun (wz : World) => of_any (x % y) hrB wz
  generalize x % y = r at *
  generalize x / y = q at *
  have HSM := Lib.hid hsm; have HOF := Lib.hid hof
  clear hx hy hr0 hcm hyc hcmp hlt hsm hof hrB
  go_enter Tryz.func82, Tryz.ntmps82
  go_wp2_with fail
  refine (HCM.out _ HR0.out.dx HR0.out.dy).mono ?_
  rintro e w1 ⟨rfl, hb1⟩
  have hr := HR0.out.below hb1
  clear bx0 by0
  have bx := hr.bx
  have bby := hr.by_
  have hyc1 : w1.cell? ⟨gy, oy, none⟩ = some (.int .u64 (y : Int)) := (hr.bel.cell (p := ⟨gy, oy, none⟩) hgy).trans hyc0
  have HR := Lib.hid hr
  clear HR0 hb1 hr hyc0
  go_wp2_with fail
  have hsz1 : w.heap.size + 1 + 1 + 1 + 1 ≤ w1.heap.size := HR.out.sz
  refine wp_region_rel [
      rVal (.agg #[.slice A n c]),
      rVal (.pointer (some ⟨w.heap.size + 1, 0, none⟩)),
      rVal (.slice (some ⟨gy, oy, none⟩) 1 c'),
      rVal (.pointer (some ⟨gy, oy, none⟩)),
      rVal (.int .u64 (y : Int)),
      rN B32 (fun s => .tuple #[.agg #[s], .int .u64 (r : Int)]) q maxLen,
      rN B32 (fun s => .tuple #[.agg #[s], .int .u64 (r : Int)]) q maxLen,
      rN B32 (fun s => .agg #[s]) q maxLen,
      rVal (.int .u64 (r : Int)),
      rVar 9 30,
      rBox 9 30 B32 q maxLen,
      rVal (.int .u64 (r : Int))
    ] (by kernel_rfl) (by kernel_rfl) ⟨?_, ?_, ?_, ?_, ?_, ?_, ?_, ?_, ?_, ?_, ?_, ?_, trivial⟩ ?_
  · exact step_run rfl rfl rfl rfl rfl (by kernel_rfl) fun a γ w2 U => ⟨wanted_none rfl, _, run_load rfl (U.at_ 2 (by kernel_rfl) rfl) (load_30 ((U.c.1.cell (by show w.heap.size < _; omega)).trans bx) rfl), rfl⟩
  · exact step_run rfl rfl rfl rfl rfl (by kernel_rfl) fun a γ w2 U => ⟨wanted_none rfl, _, run_fa rfl (U.at_ 3 (by kernel_rfl) rfl) (fa_30 _), rfl⟩
  · refine step_run rfl rfl rfl rfl rfl (by kernel_rfl) fun a γ w2 U => ?_
    have e1 : a.eval (.tmp 28) = .pointer (some ⟨w.heap.size + 1, 0, none⟩) := U.dep 1 rfl
    exact ⟨wanted_none rfl, _, run_load rfl e1 (load_24 ((U.c.1.cell (by show w.heap.size + 1 < _; omega)).trans bby)), rfl⟩
  · refine step_run rfl rfl rfl rfl rfl (by kernel_rfl) fun a γ w2 U => ?_
    have e1 : a.eval (.tmp 29) = .slice (some ⟨gy, oy, none⟩) 1 c' := U.dep 2 rfl
    exact ⟨wanted_none rfl, _, run_ia rfl e1 rfl (ia_24 (by omega)), rfl⟩
  · refine step_run rfl rfl rfl rfl rfl (by kernel_rfl) fun a γ w2 U => ?_
    have e1 : a.eval (.tmp 30) = .pointer (some ⟨gy, oy, none⟩) := U.dep 3 rfl
    exact ⟨wanted_none rfl, _, run_load rfl e1 (load_23 ((U.c.1.cell (World.block_lt_of_cell? _ _ hyc1)).trans hyc1)), rfl⟩
  · refine step_call rfl rfl rfl rfl rfl (by kernel_rfl) rfl Tryz.func111 (by kernel_rfl) (by kernel_rfl) fun a γ w2 U => ?_
    have e1 : a.eval (.tmp 27) = .agg #[.slice A n c] := U.dep 0 rfl
    have e2 : a.eval (.tmp 31) = .int .u64 (y : Int) := U.dep 4 rfl
    refine ⟨wanted_none rfl, ?_⟩
    show Calls _ _ #[a.eval (.tmp 27), a.eval (.tmp 31)] _ _
    rw [e1, e2]
    refine (HSM.out w2 (HR.out.dx.below U.c.1)).mono ?_
    rintro e w3 ⟨A3, n3, c3, rfl, hd3, hb3⟩
    exact ⟨_, rfl, hb3, A3, n3, c3, rfl, hd3, Nat.le_trans hd3.cap hd3.room⟩
  · refine step_run rfl rfl rfl rfl rfl (by kernel_rfl) fun a γ w2 U => ?_
    obtain ⟨A3, n3, c3, e1, hd3, hl3⟩ := U.dep 5 rfl
    exact ⟨wanted_none rfl, _, run_mv rfl e1, A3, n3, c3, rfl, hd3, hl3⟩
  · refine step_run rfl rfl rfl rfl rfl (by kernel_rfl) fun a γ w2 U => ?_
    obtain ⟨A3, n3, c3, e1, hd3, hl3⟩ := U.dep 6 rfl
    exact ⟨wanted_none rfl, _, run_extract rfl e1 rfl, A3, n3, c3, rfl, hd3, hl3⟩
  · refine step_run rfl rfl rfl rfl rfl (by kernel_rfl) fun a γ w2 U => ?_
    obtain ⟨A3, n3, c3, e1, hd3, hl3⟩ := U.dep 6 rfl
    exact ⟨wanted_none rfl, _, run_extract rfl e1 rfl, rfl⟩
  · exact step_alloc rfl rfl rfl (by kernel_rfl) rfl rfl (notNum_slice _ _ _) (fun w => alloc_30 w)
  · refine step_store (j := 9) rfl rfl rfl rfl rfl rfl rfl rfl (fun A n c p w u h => store_30 h.cell h.fr _ _ _) (fun a γ w2 U => ?_)
    obtain ⟨A3, n3, c3, e1, hd3, hl3⟩ := U.dep 7 rfl
    exact ⟨A3, n3, c3, e1, hd3, hl3⟩
  · refine step_run rfl rfl rfl rfl rfl (by kernel_rfl) fun a γ w2 U => ?_
    have e1 : a.eval (.tmp 34) = .int .u64 (r : Int) := U.dep 8 rfl
    exact ⟨wanted_none rfl, _, run_as rfl e1, rfl⟩
  intro a2 γ2 w2 hC2 hA2 hH2
  have ea2 := hA2.eq_ (by kernel_rfl)
  have hr2 := HR.out.below hC2.1
  obtain ⟨p, A3, n3, c3, e7, hγp, hv3, hd3, hl3⟩ := hH2 10 (by decide)
  have hpp : w1.heap.size ≤ p := by
    rcases Nat.lt_or_ge p w1.heap.size with h | h
    · have := hC2.2 p h; omega
    · exact h
  replace e7 : a2.eval (.tmp 7) = .pointer (some ⟨p, 0, none⟩) := e7
  have e8 : a2.eval (.tmp 8) = .int .u64 (r : Int) := hH2 11 (by decide)
  simp only [List.map_cons, List.map_nil, e7, e8] at ea2
  have hvc := hv3.cell
  have HR2 := Lib.hid hr2; have HD3 := Lib.hid hd3; have HV3 := Lib.hid hv3
  have b4 := hr2.b4
  have f4 := hr2.f4
  have b5 := hr2.b5
  have f5 := hr2.f5
  clear hH2 hA2 hC2 hr2 hd3 hv3 HR bx bby hyc1 HSM
  generalize a2.eval (.tmp 27) = x27 at ea2
  generalize a2.eval (.tmp 28) = x28 at ea2
  generalize a2.eval (.tmp 29) = x29 at ea2
  generalize a2.eval (.tmp 30) = x30 at ea2
  generalize a2.eval (.tmp 31) = x31 at ea2
  generalize a2.eval (.tmp 32) = x32 at ea2
  generalize a2.eval (.tmp 26) = x26 at ea2
  generalize a2.eval (.tmp 33) = x33 at ea2
  generalize a2.eval (.tmp 34) = x34 at ea2
  clear e7 e8
  subst ea2
  simp only [putAll, Act.put, List.setIfInBounds_toArray, List.set_cons_zero, List.set_cons_succ]
  go_wp2_with fail
  go_region_held3 (fun w' => w'.cell? ⟨p, 0, none⟩ = some (.slice A3 n3 c3)) (first | exact hvc | exact hv4 | exact hv5 _ | exact hv6 _ _ | go_keep)
    ((go_at_call 16; (with_reducible refine (HOF.out _).mono ?_); rintro e w3 ⟨A4, n4, c4, rfl, hd4, hn4, hb4⟩; have hv4 : w3.cell? ⟨p, 0, none⟩ = some (.slice A3 n3 c3) := (hb4.cell (World.block_lt_of_cell? _ _ hvc)).trans hvc; have hr3 := HR2.out.drew.below hb4; have b4 := hr3.b4; have f4 := hr3.f4; have b5 := hr3.b5; have f5 := hr3.f5; have s4 : ∀ v, ((w3.setCell ⟨w.heap.size + 1 + 1, 0, none⟩ v)).cell? ⟨w.heap.size + 1 + 1 + 1, 0, none⟩ = some (.slice none 0 0) := (fun v => by rw [World.cell?_setCell_other _ _ _ _ (by intro e; injection e; omega)]; exact b5); have hv5 : ∀ v, (w3.setCell ⟨w.heap.size + 1 + 1, 0, none⟩ v).cell? ⟨p, 0, none⟩ = some (.slice A3 n3 c3) := (fun v => by rw [World.cell?_setCell_other _ _ _ _ (by intro e; injection e; omega)]; exact hv4); have hv6 : ∀ v u, ((w3.setCell ⟨w.heap.size + 1 + 1, 0, none⟩ v).setCell ⟨w.heap.size + 1 + 1 + 1, 0, none⟩ u).cell? ⟨p, 0, none⟩ = some (.slice A3 n3 c3) := (fun v u => by rw [World.cell?_setCell_other _ _ _ _ (by intro e; injection e; omega)]; exact hv5 v); have HF := Lib.hid (hr3.fin (HD3.out.drew.below hb4) hd4); clear hb4 hd4 hr3))
  go_wp2_with fail
  have o1 := HF.out
  exact bodyPost_ret (v := .tuple #[.agg #[.slice A3 n3 c3], .agg #[.slice A4 n4 c4]]) (by simp [results, Tryz.results82, go_sem, b4, b5, s4]) rfl ⟨_, _, _, _, _, _, rfl, o1.1, o1.2.1, o1.2.2⟩
end Go.Proofs.YtfgnleoaibcegaaGreat.Ref

namespace Go.Proofs.YtfgnleoaibcegaaGreat.Ref

open Go.RowKit

theorem left_top (A : Option Addr) (n c y s V : Nat) (hV : y * 2 ^ s = V) (hVl : V < B32 ^ n) (hVg : B32 ^ (n - 1) ≤ V) (hs : s < 32) (hn2 : 2 ≤ n) (hn : n ≤ 1099511627776) (w : World) (h : DAt B32 w A n c y) :
    Calls Tryz.prog 17 #[.agg #[.slice A n c], .int .i64 (s : Int)] w fun e w' => ∃ gv ov cv, e = .returned (.agg #[.slice (some ⟨gv, ov, none⟩) n cv]) ∧ DAt B32 w' (some ⟨gv, ov, none⟩) n cv V ∧ gv < w'.heap.size ∧ Below w.heap.size w w' := by
  refine (left_any A n c y s w h hn (by omega)).mono ?_
  rintro e w' ⟨Av, nv, cv, rfl, hdv, hb⟩
  rw [hV] at hdv
  have h1 := hdv.le two_le_B32 hVl
  have hnv : nv = n := by
    rcases Nat.lt_or_ge nv n with h | h
    · exfalso
      have h2 := hdv.lt two_le_B32
      have h3 : B32 ^ nv ≤ B32 ^ (n - 1) := Nat.pow_le_pow_right (by decide) (by omega)
      omega
    · omega
  subst hnv
  obtain ⟨gv, ov, rfl, hgv, hvc⟩ := hdv.flat two_le_B32 (by omega)
  exact ⟨gv, ov, cv, rfl, hdv, hgv, hb⟩
theorem vis_of {w : World} {gv ov n c V : Nat} (h : DAt B32 w (some ⟨gv, ov, none⟩) n c V) (hn : 0 < n) : VIs w gv ov n V := by
  obtain ⟨g, o, e, hg, hc⟩ := h.flat two_le_B32 hn
  injection e with e; injection e with e1 e2; subst e1 e2
  exact ⟨hc, hg, h.lt two_le_B32⟩

structure UpRel (w0 : World) (A : Option Addr) (n c x : Nat) (A' : Option Addr) (n' c' y gv ov cv V base k : Nat) (D : List Nat) (v : Value) (wr : World) : Prop where
  dm : DmRel w0 A n c x A' n' c' y wr
  dvv : DAt B32 wr (some ⟨gv, ov, none⟩) n' cv V
  own : wr.ownsRow base 23 1 v k (dv D)
  h1 : w0.heap.size + 1 + 1 + 1 + 1 ≤ base
  h2 : gv < base
  h3 : base ≤ wr.heap.size
theorem UpRel.grown {w0 wr w1 : World} {A A' : Option Addr} {n c x n' c' y gv ov cv V base k k1 : Nat} {D D1 : List Nat} {v v1 : Value} (h : UpRel w0 A n c x A' n' c' y gv ov cv V base k D v wr)
    (ho : w1.ownsRow base 23 1 v1 k1 (dv D1)) (hg : wr.grownBy w1 v.ownBlock) : UpRel w0 A n c x A' n' c' y gv ov cv V base k1 D1 v1 w1 := by
  have hlt : ∀ k, v.ownBlock = some k → base ≤ k := fun k hk => (h.own.lt k hk).1
  have h3 := h.h3
  have hb : Below base wr w1 := ⟨hg.os, hg.tape, hg.output, hg.size, fun k hk => hg.block k (by omega) (fun e => by have := hlt _ e.symm; omega)⟩
  exact ⟨h.dm.go h.h1 hb, h.dvv.old (fun a e _ => by injection e with e; subst e; exact h.h2) hb.size (fun p hp => hb.cell hp), ho, h.h1, h.h2, Nat.le_trans h3 hb.size⟩
theorem UpRel.al {w0 wr : World} {A A' : Option Addr} {n c x n' c' y gv ov cv V base k : Nat} {D : List Nat} {v : Value} (h : UpRel w0 A n c x A' n' c' y gv ov cv V base k D v wr) (o : Obj) : UpRel w0 A n c x A' n' c' y gv ov cv V base k D v (wr.alloc o) := by
  have hb : Below wr.heap.size wr (wr.alloc o) := (Below.refl _ _).alloc (Nat.le_refl _) _
  exact ⟨h.dm.below hb, h.dvv.below hb, h.own.alloc _, h.h1, h.h2, Nat.le_trans h.h3 hb.size⟩

structure DvRel (w0 : World) (A : Option Addr) (n c x : Nat) (A' : Option Addr) (n' c' y gv ov cv V g g2 : Nat) (R D : List Nat) (wr : World) : Prop where
  dm : DmRel w0 A n c x A' n' c' y wr
  dvv : DAt B32 wr (some ⟨gv, ov, none⟩) n' cv V
  dr : Dg wr g R
  dq : Dg wr g2 D
  h1 : w0.heap.size + 1 + 1 + 1 + 1 ≤ g
  h3 : gv < g
  h4 : g < g2
section

variable {w0 wr w1 : World} {A A' : Option Addr} {n c x n' c' y gv ov cv V g g2 : Nat} {R D : List Nat}
theorem DvRel.stepped (h : DvRel w0 A n c x A' n' c' y gv ov cv V g g2 R D wr) {R' : List Nat} (hg : wr.grownBy w1 (some g)) (hr : Dg w1 g R') : DvRel w0 A n c x A' n' c' y gv ov cv V g g2 R' D w1 := by
  have e1 := h.h1; have e3 := h.h3; have e4 := h.h4
  have hgs := h.dr.lt
  have hb : Below g wr w1 := ⟨hg.os, hg.tape, hg.output, hg.size, fun k hk => hg.block k (by omega) (by intro e; injection e; omega)⟩
  obtain ⟨t, hq⟩ := h.dq
  exact ⟨h.dm.go (by omega) hb, dat_grown h.dvv hg (fun a e => by injection e with e; subst e; show gv ≠ g; omega), hr, ⟨t, hq.grown hg (by intro e; injection e; omega)⟩, e1, e3, e4⟩
theorem DvRel.set_ (h : DvRel w0 A n c x A' n' c' y gv ov cv V g g2 R D wr) (j d : Nat) : DvRel w0 A n c x A' n' c' y gv ov cv V g g2 R (D.set j d) (wr.setCell ⟨g2, j, none⟩ (.int .u64 (d : Int))) := by
  have e1 := h.h1; have e3 := h.h3; have e4 := h.h4
  have hb : Below g2 wr (wr.setCell ⟨g2, j, none⟩ (.int .u64 (d : Int))) := (Below.refl _ _).setCell (by simp) _
  exact ⟨h.dm.go (by omega) hb, h.dvv.old (B := g2) (fun a e _ => by injection e with e; subst e; show gv < g2; omega) hb.size (fun p hp => hb.cell hp), h.dr.below hb e4, h.dq.set_ j d, e1, e3, e4⟩
theorem DvRel.below (h : DvRel w0 A n c x A' n' c' y gv ov cv V g g2 R D wr) (hb : Below wr.heap.size wr w1) : DvRel w0 A n c x A' n' c' y gv ov cv V g g2 R D w1 :=
  ⟨h.dm.below hb, h.dvv.below hb, h.dr.below hb h.dr.lt, h.dq.below hb h.dq.lt, h.h1, h.h3, h.h4⟩
theorem DvRel.start {base k cu : Nat} {Av : Option Addr} (h : UpRel w0 A n c x A' n' c' y gv ov cv V base k R (.slice Av k cu) wr) (hk : 0 < k) (L : List Nat) :
    ∃ g, Av = some ⟨g, 0, none⟩ ∧ R.length = k ∧ DvRel w0 A n c x A' n' c' y gv ov cv V g wr.heap.size R L (wr.alloc (.cells (dva L) 23)) := by
  have ht := Td.of_own h.own
  rcases ht.at_ with ⟨_, h0⟩ | ⟨g, rfl, hg, hdg⟩
  · omega
  · have hb : Below wr.heap.size wr (wr.alloc (.cells (dva L) 23)) := (Below.refl _ _).alloc (Nat.le_refl _) _
    have e1 := h.h1; have e2 := h.h2; have e3 := hdg.lt
    exact ⟨g, rfl, ht.len, h.dm.below hb, h.dvv.below hb, hdg.below hb e3, Dg.new _ _, by omega, by omega, e3⟩
end

theorem up_top {y n : Nat} (hn : 0 < n) (h1 : y < B32 ^ n) (h2 : B32 ^ (n - 1) ≤ y) :
    ∃ s, s < 32 ∧ bl y + s = 32 * n ∧ y * 2 ^ s < B32 ^ n ∧ B32 ^ (n - 1) ≤ y * 2 ^ s := by
  have hy0 : 0 < y := Nat.lt_of_lt_of_le (Nat.pow_pos (by decide)) h2
  have hb1 : bl y ≤ 32 * n := bl_le (by rw [← B32_pow_two]; exact h1)
  have hb2 : 32 * (n - 1) < bl y := by
    rcases Nat.lt_or_ge (32 * (n - 1)) (bl y) with h | h
    · exact h
    · have h3 := bl_lt (x := y)
      have h4 := Nat.pow_le_pow_right (show 0 < 2 by omega) h
      rw [B32_pow_two] at h2
      omega
  refine ⟨32 * n - bl y, by omega, by omega, ?_, Nat.le_trans h2 (Nat.le_mul_of_pos_right _ (Nat.two_pow_pos _))⟩
  have h3 := bl_mul_pow (k := 32 * n - bl y) hy0
  have h4 := bl_lt (x := y * 2 ^ (32 * n - bl y))
  rw [h3, show bl y + (32 * n - bl y) = 32 * n by omega] at h4
  rw [B32_pow_two]; exact h4

set_option maxRecDepth 100000 in
set_option maxHeartbeats 4000000 in
theorem divmod_walk (A : Option Addr) (n c x : Nat) (A' : Option Addr) (n' c' y s V U ly : Nat) (ci : Int) (w : World) (hx : DAt B32 w A n c x) (hy : DAt B32 w A' n' c' y) (hn : n ≤ 1099511627776) (hn' : n' ≤ 1099511627776) (hn2 : 2 ≤ n') (hnn : n' ≤ n) (hs : s < 32) (hls : ly + s = 32 * n') (hVg : B32 ^ (n' - 1) ≤ V) (hVl : V < B32 ^ n') (hUV : U < V * B32 ^ (n + 2 - n')) (hUl : U < B32 ^ (n + 1))
    (hcmp : ∀ wq, DAt B32 wq A n c x → DAt B32 wq A' n' c' y → Calls Tryz.prog 66 #[.agg #[.slice A n c], .agg #[.slice A' n' c']] wq fun e w' => e = .returned (.int .i64 ci) ∧ Below wq.heap.size wq w') (hci : ¬ ci < 0)
    (hlen : ∀ wq, DAt B32 wq A' n' c' y → Calls Tryz.prog 54 #[.agg #[.slice A' n' c']] wq fun e w' => e = .returned (.int .i64 (ly : Int)) ∧ Below wq.heap.size wq w')
    (hly : ∀ wq, DAt B32 wq A' n' c' y → Calls Tryz.prog 17 #[.agg #[.slice A' n' c'], .int .i64 (s : Int)] wq fun e w' => ∃ gv ov cv, e = .returned (.agg #[.slice (some ⟨gv, ov, none⟩) n' cv]) ∧ DAt B32 w' (some ⟨gv, ov, none⟩) n' cv V ∧ gv < w'.heap.size ∧ Below wq.heap.size wq w')
    (hlx : ∀ wq, DAt B32 wq A n c x → Calls Tryz.prog 17 #[.agg #[.slice A n c], .int .i64 (s : Int)] wq fun e w' => ∃ Au m cu, e = .returned (.agg #[.slice Au m cu]) ∧ DAt B32 w' Au m cu U ∧ Below wq.heap.size wq w') :
    Calls Tryz.prog 82 #[.agg #[.slice A n c], .agg #[.slice A' n' c']] w fun e w' => ∃ A3 n3 c3 A4 n4 c4, e = .returned (.tuple #[.agg #[.slice A3 n3 c3], .agg #[.slice A4 n4 c4]]) ∧ DAt B32 w' A3 n3 c3 (U / V) ∧ DAt B32 w' A4 n4 c4 (U % V / 2 ^ s) ∧ Below w.heap.size w w' := by
  have hr0 := DmRel.start hx hy
  have bx0 := hr0.bx
  have by0 := hr0.by_
  have HR0 := Lib.hid hr0
  have hz1 : ((n' : Int) == 1) = false := by simp; omega
  have hci2 : decide (ci < 0) = false := decide_eq_false hci
  obtain ⟨i0, hi0, hz0, hz01, hz02⟩ := digit_parts
  have HCMP := Lib.hid hcmp; have HLEN := Lib.hid hlen; have HLY := Lib.hid hly; have HLX := Lib.hid hlx
  have HVL := Lib.hid hVl
  clear hx hy hr0 hcmp hlen hly hlx hci hVl
  go_enter Tryz.func82, Tryz.ntmps82
  go_wp2_with fail
  refine (HCMP.out _ HR0.out.dx HR0.out.dy).mono ?_
  rintro e w1 ⟨rfl, hb1⟩
  have hr := HR0.out.below hb1
  clear bx0 by0
  have bby := hr.by_
  have HR1 := Lib.hid hr
  clear HR0 HCMP hb1 hr
  go_wp2_with fail
  refine (HLEN.out _ HR1.out.dy).mono ?_
  rintro e w2 ⟨rfl, hb2⟩
  have hr := HR1.out.below hb2
  clear bby
  have bby := hr.by_
  have HR2 := Lib.hid hr
  have f1 : (32 : Int) * (n' : Int) - (ly : Int) = (s : Int) := by omega
  clear HR1 HLEN hb2 hr hz1 hci2
  go_wp2_with fail
  refine (HLY.out _ HR2.out.dy).mono ?_
  rintro e w3 ⟨gv, ov, cv, rfl, hdv, hgv, hb3⟩
  have hr := HR2.out.below hb3
  clear bby f1
  have bx := hr.bx
  have HR3 := Lib.hid hr
  have HDV := Lib.hid hdv
  have hsz3 := hr.sz
  have hfd : ∀ (w : World) (A : Option Addr) (m c : Nat), (Instr.field 30 (.agg #[.slice A m c]) 0).run Tryz.prog w = .ok (.slice A m c) w := fun _ _ _ _ => by kernel_rfl
  clear HR2 HLY hb3 hr hdv
  go_wp2_with fail
  refine (HLX.out _ HR3.out.dx).mono ?_
  rintro e w4 ⟨Au, m, cu, rfl, hdu, hb4⟩
  have hr := HR3.out.below hb4
  have hm1 : m ≤ n + 1 := hdu.le two_le_B32 hUl
  have hul := hdu.len
  have hup : UpRel w A n c x A' n' c' y gv ov cv V w3.heap.size 0 [] (.slice none 0 0) w4 := ⟨hr, HDV.out.below hb4, World.ownsRow_nil _ _ _ _, hsz3, hgv, hb4.size⟩
  have HUP := Lib.hid hup; have HDU := Lib.hid hdu; have HUL := Lib.hid hul
  clear bx HR3 HLX hb4 hr hdu hul hup HDV
  go_wp2_with (at_builtin; refine wpList_append_any _ rfl (.tmp 47) (.tmp 51) _ rfl w3.heap.size 23 i0 _ 1 8 Tryz.underlying24 hi0 hz0 hz01 hz02 rfl (by omega) (.slice none 0 0) 0 [] rfl HUP.out.own w4.heap.size Au m cu (dv (digs B32 U)) rfl HDU.out.reads (dv_one _) (by unfold maxLen; omega) (by omega) HUP.out.h3 ?_; intro v1 w5 hown5 hg5 hat5; rw [List.nil_append, Nat.zero_add] at hown5; have hr5 := Lib.hid (HUP.out.grown hown5 hg5); obtain ⟨Av1, cv1, rfl⟩ := own_slice hown5)
  clear HUP hown5 hg5 hat5 HDU
  have hd0 : ∀ d ∈ digs B32 U, d < B32 := digs_lt two_le_B32 U
  have hv0 : val B32 (digs B32 U) = U := val_digs two_le_B32 U
  generalize digs B32 U = D0 at *
  have HD0 := Lib.hid hd0; have HV0 := Lib.hid hv0
  clear hd0 hv0
  go_loopw [11] (fun uv wr => ∃ (k cu : Nat) (Av : Option Addr) (D : List Nat), k ≤ n + 2 ∧ uv = .slice Av k cu ∧ (∀ d ∈ D, d < B32) ∧ val B32 D = U ∧ UpRel w A n c x A' n' c' y gv ov cv V w3.heap.size k D (.slice Av k cu) wr) (fun uv _ => match uv with | .slice _ k _ => n + 2 - k | _ => 0)
  case atStart => exact ⟨m, cv1, Av1, D0, by omega, rfl, HD0.out, HV0.out, hr5.out⟩
  case round =>
    clear hr5 HUL HD0 HV0
    obtain ⟨k, cu, Av, D, hk, rfl, hD, hv, hr⟩ := hrel
    have bx := hr.dm.bx
    have HD := Lib.hid hD; have HV := Lib.hid hv; have HR := Lib.hid hr
    clear hD hv hr
    by_cases hkl : k ≤ n + 1
    · have b1 : decide ((k : Int) ≤ (n : Int) + 1) = true := decide_eq_true (by omega)
      have b2 : decide (k ≤ n + 1) = true := decide_eq_true hkl
      go_wp2_with (at_builtin; refine wpList_append_any _ rfl (.tmp 60) (.tmp 61) _ rfl w3.heap.size 23 i0 _ 1 8 Tryz.underlying24 hi0 hz0 hz01 hz02 rfl (by omega) (.slice Av k cu) k (dv D) rfl (HR.out.own.alloc _) (wr.heap.size + 1) (some ⟨wr.heap.size, 0, none⟩) 1 1 [.int .u64 0] rfl (one_read _ _ _) (by simp [Value.oneCell']) (by unfold maxLen; omega) (by omega) (HR.out.al _).h3 ?_; intro v1 w5 hown5 hg5 hat5; have hown6 := (by have := hown5; rw [show dv D ++ [Value.int .u64 0] = dv (D ++ [0]) from (dv_append D [0]).symm] at this; exact this : w5.ownsRow w3.heap.size 23 1 v1 (k + 1) (dv (D ++ [0]))); have hr5 := Lib.hid ((HR.out.al _).grown hown6 hg5); obtain ⟨Av1, cv1, rfl⟩ := own_slice hown5)
      refine ⟨⟨k + 1, cv1, Av1, D ++ [0], by omega, rfl, ?_, ?_, hr5.out⟩, ?_⟩
      · intro d hd
        rcases List.mem_append.1 hd with h | h
        · exact HD.out d h
        · simp at h; rw [h]; decide
      · rw [val_snoc, HV.out]; simp
      · show n + 2 - (k + 1) < n + 2 - k; omega
    · obtain rfl : k = n + 2 := by omega
      have b1 : decide (((n + 2 : Nat) : Int) ≤ (n : Int) + 1) = false := decide_eq_false (by omega)
      have b2 : decide (n + 2 ≤ n + 1) = false := decide_eq_false (by omega)
      have b3 : decide ((n : Int) + 2 ≤ (n : Int) + 1) = false := decide_eq_false (by omega)
      obtain ⟨K, hK⟩ : ∃ K, K = n + 2 - n' := ⟨_, rfl⟩
      have HCU := Lib.hid (show n + 2 ≤ cu ∧ cu ≤ maxLen from ⟨(Td.of_own HR.out.own).cap, (Td.of_own HR.out.own).room⟩)
      obtain ⟨g, rfl, hlR, hdvr⟩ := DvRel.start HR.out (by omega) (List.replicate K 0)
      have hmk := run_make_digits K (by omega)
      rw [show (K : Int) = (n : Int) + 2 - (n' : Int) by omega] at hmk
      rw [← hK] at hUV
      have hV0 : 0 < V := Nat.lt_of_lt_of_le (Nat.pow_pos (by decide)) hVg
      have hq0 : QrIs U V (n + 2) K K (List.replicate K 0) D := QrIs.start hUV hlR HD.out HV.out
      have HQ0 := Lib.hid hq0; have HV0 := Lib.hid hV0; have HVG := Lib.hid hVg; have HDR := Lib.hid hdvr; have HK := Lib.hid hK
      have hKn : K + n' = n + 2 := by omega
      clear hq0 hV0 hVg hdvr hK hlR HD HV HR hUV
      go_wp2_with fail
      clear bx hmk b1 b2 b3
      generalize List.replicate K 0 = Q0 at *
      generalize wr.alloc (.cells (dva Q0) 23) = W at HDR ⊢
      generalize wr.heap.size = g2 at *
      go_loopw [13, 14] (fun jv _ wr => ∃ (i : Nat) (R D : List Nat), i ≤ K ∧ jv = .int .i64 ((i : Int) - 1) ∧ QrIs U V (n + 2) K i D R ∧ DvRel w A n c x A' n' c' y gv ov cv V g g2 R D wr) (fun jv _ _ => (intOf jv + 1).toNat)
      case atStart => exact ⟨K, D, Q0, by omega, by go_num, HQ0.out, HDR.out⟩
      case round =>
        clear HQ0 HDR
        obtain ⟨i, R, D, hi, rfl, hq, hr⟩ := hrel
        by_cases hi0 : 0 < i
        · obtain ⟨j, rfl⟩ : ∃ j, i = j + 1 := ⟨i - 1, by omega⟩
          have e1 : (((j + 1 : Nat) : Int) - 1) = (j : Int) := by omega
          rw [e1]
          have hvi := vis_of hr.dvv (by omega)
          have hX := hq.lt HV0.out
          have hlenR := hq.lenR
          have hzR : ∀ k, j + n' + 1 ≤ k → R.getD k 0 = 0 := fun k hk => hq.top HV0.out HVL.out k (by omega)
          obtain ⟨a0, a1, a2, v1, v2, hW, eW, eY⟩ := step_gs (X := val B32 R) (j := j) hr.dr hvi (by rw [hlenR]; omega) hq.digR hzR rfl hX HVG.out hn2
          have hgs := guess_any g j (n + 2) cu gv ov n' cv a0 a1 a2 v1 v2 _ wr hW hn2 hn' (by omega) (by omega)
          have HNE := Lib.hid (fun q (h1 : q < B32) (h2 : q * (v1 * B32 + v2) ≤ (a0 * B32 + a1) * B32 + a2) => step_near (X := val B32 R) (j := j) hn2 HVG.out h1 (by rw [← eY, ← eW]; exact h2))
          have hXs : val B32 R < B32 ^ (j + n' + 1) := top_zero hq.digR hzR
          have hN := fun (R' : List Nat) => hq.next (j := j) (R' := R') HV0.out (by omega)
          obtain ⟨Q, hQ⟩ : ∃ Q, Q = val B32 R / (V * B32 ^ j) := ⟨_, rfl⟩
          obtain ⟨RM, hRM⟩ : ∃ RM, RM = val B32 R % (V * B32 ^ j) := ⟨_, rfl⟩
          rw [← hQ] at hgs hN
          rw [← hRM] at hN
          have hRMl : RM < B32 ^ (j + n' + 1) := by rw [hRM]; exact Nat.lt_of_le_of_lt (Nat.mod_le _ _) hXs
          have HQ := Lib.hid hQ; have HRM := Lib.hid hRM; have HGS := Lib.hid hgs; have HN := Lib.hid hN; have HR := Lib.hid hr; have HZR := Lib.hid hzR; have HDG := Lib.hid hq.digR; have HLR := Lib.hid hlenR; have HLD := Lib.hid hq.lenD; have HRML := Lib.hid hRMl; have HVI := Lib.hid hvi
          have hjK : (j : Int) < (K : Int) := by omega
          have hjK2 : (j : Int) < (n : Int) + 2 - (n' : Int) := by omega
          have hgne : gv ≠ g := by have := hr.h3; omega
          clear hvi hX hlenR hzR eW eY hW hgs hXs hN hQ hRM hRMl hq hr
          go_wp2_with fail
          refine HGS.out.mono ?_
          rintro e w6 ⟨q, rfl, hQq, hqB, hqY, m6, rfl⟩
          have HQq := Lib.hid hQq; have HNQ := Lib.hid (HNE.out q hqB hqY)
          clear hQq hqY HGS HNE
          go_wp2_with fail
          refine (less_any g j (n + 2) cu gv ov n' cv V q R (wr.drewN m6) HR.out.dr ⟨HR.out.dvv.reads.drewN m6, HR.out.dvv.cap, HR.out.dvv.room⟩ hgne (by omega) HLR.out (by omega) HDG.out hqB hn').mono ?_
          rintro e w7 ⟨b, hb1, rfl, hgr, L1, hg1, hd1, hl1, hh1, he1⟩
          have hgr2 : wr.grownBy w7 (some g) := ⟨hgr.os, hgr.tape, hgr.output, hgr.size, hgr.block⟩
          have hz1 : ∀ k, j + n' + 1 ≤ k → L1.getD k 0 = 0 := fun k hk => (hh1 k hk).trans (HZR.out k hk)
          have hr7 := HR.out.stepped hgr2 hg1
          have hb2 : b = 0 ∨ b = 1 := by omega
          clear hgr hh1 hb1 hgr2 HVI
          rcases hb2 with rfl | rfl
          · rw [Nat.mul_zero, Nat.add_zero] at he1
            obtain ⟨k1, k2⟩ := step_b0 (E := 0) HV0.out (by have := HQq.out; rw [HQ.out] at this; exact this) he1
            have hqQ : q = Q := k1.trans HQ.out.symm
            have HN7 := Lib.hid (HN.out L1 hl1 hd1 (k2.trans HRM.out.symm))
            have hcq := hr7.dq.cell (i := j) (by rw [HLD.out]; omega)
            have hfq := hr7.dq.frozen j
            generalize D.getD j 0 = old at hcq
            have HR8 := Lib.hid (hr7.set_ j q)
            rw [← hqQ] at HN7
            clear k1 k2 he1 hd1 hl1 hz1 hg1 hqQ hr7 HN
            go_wp2_with fail
            go_roundw
            case rel => exact ⟨j, L1, _, by omega, rfl, HN7.out, HR8.out⟩
            case measure => simp [intOf]
          · rw [Nat.mul_one] at he1
            obtain ⟨k1, k2⟩ := step_b1 HV0.out (by have := HQq.out; rw [HQ.out] at this; exact this) (by have := HNQ.out; rw [← HQ.out] at this ⊢; exact this) (top_zero hd1 hz1) he1
            rw [← HQ.out] at k1
            rw [← HRM.out] at k2
            have hqB' := hqB
            rw [B32_eq] at hqB'
            have f1 : IntKind.u64.wrap ((q : Int) - 1) = (Q : Int) := by rw [IntKind.wrap_u64]; omega
            clear hqB'
            have HK2 := Lib.hid k2; have HD1 := Lib.hid hd1; have HL1 := Lib.hid hl1; have HZ1 := Lib.hid hz1; have HR7 := Lib.hid hr7
            clear k1 k2 he1 hd1 hl1 hz1 hr7
            go_wp2_with fail
            refine (back_any g j (n + 2) cu gv ov n' cv V RM L1 w7 hg1 HR7.out.dvv hgne (by omega) HL1.out (by omega) HD1.out HZ1.out hn' HRML.out HK2.out).mono ?_
            rintro e w8 ⟨rfl, hgr8, L2, hg2, hd2, hl2, hz2, hv2⟩
            have hr8 := HR7.out.stepped hgr8 hg2
            have HN7 := Lib.hid (HN.out L2 hl2 hd2 hv2)
            have hcq := hr8.dq.cell (i := j) (by rw [HLD.out]; omega)
            have hfq := hr8.dq.frozen j
            generalize D.getD j 0 = old at hcq
            have HR8 := Lib.hid (hr8.set_ j Q)
            clear hg1 hg2 hd2 hl2 hz2 hv2 hgr8 hr8 HN f1
            go_wp2_with fail
            go_roundw
            case rel => exact ⟨j, L2, _, by omega, rfl, HN7.out, HR8.out⟩
            case measure => simp [intOf]
        · obtain rfl : i = 0 := by omega
          obtain ⟨v1, v2⟩ := hq.done
          have HV1 := Lib.hid v1; have HV2 := Lib.hid v2; have HDD := Lib.hid hq.digD; have HDR := Lib.hid hq.digR; have HLD := Lib.hid hq.lenD; have HLR := Lib.hid hq.lenR
          have HR := Lib.hid hr
          have hcn : n + 2 ≤ cu ∧ cu ≤ maxLen := HCU.out
          clear v1 v2 hq hr
          go_wp2_with fail
          refine (trim_td 0 _ D K K _ _ (Td.of_dg HR.out.dq HLD.out (Nat.zero_le _) (Nat.le_refl _) (by unfold maxLen; omega)) HDD.out HV1.out).mono ?_
          rintro e w5 ⟨m3, rfl, hm3, hd3, hb5⟩
          have hr5 := HR.out.below hb5
          have HR5 := Lib.hid hr5
          clear HR hb5 hr5
          go_wp2_with fail
          refine (trim_td 0 _ R (n + 2) cu _ _ (Td.of_dg HR5.out.dr HLR.out (Nat.zero_le _) hcn.1 hcn.2) HDR.out HV2.out).mono ?_
          rintro e w6 ⟨m5, rfl, hm5, hd5, hb6⟩
          have hr6 := HR5.out.below hb6
          have HR6 := Lib.hid hr6
          have hd3' := hd3.below hb6
          have hn5 : m5 ≤ n' := hd5.le two_le_B32 (Nat.lt_of_lt_of_le (Nat.mod_lt _ HV0.out) (Nat.le_of_lt HVL.out))
          clear HR5 hb6 hr6 hd3
          go_wp2_with fail
          refine (right_any _ m5 cu (U % V) s _ hd5 (by omega) (by omega)).mono ?_
          rintro e w7 ⟨A4, n4, c4, rfl, hd4, hb7⟩
          have hr7 := HR6.out.below hb7
          have HF := Lib.hid (hr7.dm.fin (hd3'.below hb7) hd4)
          have b4 := hr7.dm.b4
          have f4 := hr7.dm.f4
          have b5 := hr7.dm.b5
          have f5 := hr7.dm.f5
          clear HR6 hb7 hr7 hd3' hd4 hd5
          go_wp2_with fail
          have o1 := HF.out
          have s4 : ∀ v, ((w7.setCell ⟨w.heap.size + 1 + 1, 0, none⟩ v)).cell? ⟨w.heap.size + 1 + 1 + 1, 0, none⟩ = some (.slice none 0 0) := fun v => by
            rw [World.cell?_setCell_other _ _ _ _ (by intro e; injection e; omega)]; exact b5
          exact bodyPost_ret (v := .tuple #[.agg #[.slice (some ⟨g2, 0, none⟩) m3 K], .agg #[.slice A4 n4 c4]]) (by simp [results, Tryz.results82, go_sem, b4, b5, s4]) rfl ⟨_, _, _, _, _, _, rfl, o1.1, o1.2.1, o1.2.2⟩
end Go.Proofs.YtfgnleoaibcegaaGreat.Ref

namespace Go.Proofs.YtfgnleoaibcegaaGreat.Ref

open Go.RowKit

theorem len_le32 {w w' : World} {A A' : Option Addr} {n c x n' c' y : Nat} (h : DAt B32 w A n c x) (h' : DAt B32 w' A' n' c' y) (hxy : x ≤ y) : n ≤ n' := h.le two_le_B32 (Nat.lt_of_le_of_lt hxy (h'.lt two_le_B32))

theorem divmod_any (A : Option Addr) (n c x : Nat) (A' : Option Addr) (n' c' y : Nat) (w : World) (hx : DAt B32 w A n c x) (hy : DAt B32 w A' n' c' y) (hn : n ≤ 1099511627776) (hn' : n' ≤ 1099511627776) (hy0 : 0 < y) :
    Calls Tryz.prog 82 #[.agg #[.slice A n c], .agg #[.slice A' n' c']] w fun e w' => ∃ A3 n3 c3 A4 n4 c4, e = .returned (.tuple #[.agg #[.slice A3 n3 c3], .agg #[.slice A4 n4 c4]]) ∧ DAt B32 w' A3 n3 c3 (x / y) ∧ DAt B32 w' A4 n4 c4 (x % y) ∧ Below w.heap.size w w' := by
  by_cases hlt : x < y
  · exact divmod_less A n c x A' n' c' y w hx hy hn hn' hlt
  · have hn0 : n' ≠ 0 := fun e => by have := (hy.zero_len two_le_B32).1 e; omega
    by_cases h1 : n' = 1
    · subst h1
      exact divmod_one A n c x A' c' y w hx hy hn hlt
    · have hyg := hy.ge two_le_B32 hy0
      have hyl := hy.lt two_le_B32
      have hxl := hx.lt two_le_B32
      have hnn : n' ≤ n := len_le32 hy hx (by omega)
      obtain ⟨s, hs, hls, hV1, hV2⟩ := up_top (by omega) hyl hyg
      have hP : 0 < 2 ^ s := Nat.two_pow_pos s
      have h2s : 2 ^ s < B32 := by rw [B32_pow]; exact Nat.pow_lt_pow_right (by omega) hs
      have hUl : x * 2 ^ s < B32 ^ (n + 1) := by rw [Nat.pow_succ]; exact Nat.mul_lt_mul'' hxl h2s
      have hUV : x * 2 ^ s < y * 2 ^ s * B32 ^ (n + 2 - n') := by
        refine Nat.lt_of_lt_of_le hUl ?_
        have := Nat.mul_le_mul_right (B32 ^ (n + 2 - n')) hV2
        rw [← Nat.pow_add, show n' - 1 + (n + 2 - n') = n + 1 by omega] at this
        exact this
      have hci : ¬ cmpI x y < 0 := by unfold cmpI; rw [if_neg hlt]; split <;> omega
      have h := divmod_walk A n c x A' n' c' y s (y * 2 ^ s) (x * 2 ^ s) (bl y) (cmpI x y) w hx hy hn hn' (by omega) hnn hs hls hV2 hV1 hUV hUl
        (fun wq h1 h2 => cmp_any A n c x A' n' c' y wq h1 h2 hn hn') hci (fun wq h => len_any A' n' c' y wq h hn')
        (fun wq h => left_top A' n' c' y s _ rfl hV1 hV2 hs (by omega) hn' wq h) (fun wq h => left_any A n c x s wq h hn (by omega))
      rwa [Nat.mul_div_mul_right x y hP, Nat.mul_mod_mul_right, Nat.mul_div_cancel _ hP] at h

structure GcRel (w0 : World) (n0 G : Nat) (A : Option Addr) (n c x : Nat) (A' : Option Addr) (n' c' y : Nat) (wr : World) : Prop where
  bx : wr.cell? ⟨w0.heap.size, 0, none⟩ = some (.slice A n c)
  by_ : wr.cell? ⟨w0.heap.size + 1, 0, none⟩ = some (.slice A' n' c')
  fx : wr.frozen? ⟨w0.heap.size, 0, none⟩ = false
  fy : wr.frozen? ⟨w0.heap.size + 1, 0, none⟩ = false
  b4 : wr.cell? ⟨w0.heap.size + 1 + 1, 0, none⟩ = some (.slice none 0 0)
  f4 : wr.frozen? ⟨w0.heap.size + 1 + 1, 0, none⟩ = false
  dx : DAt B32 wr A n c x
  dy : DAt B32 wr A' n' c' y
  nx : n ≤ n0
  ny : n' ≤ n0
  eq : Nat.gcd x y = G
  bel : Below w0.heap.size w0 wr
  sz : w0.heap.size + 1 + 1 + 1 ≤ wr.heap.size

section

variable {w0 wr w1 : World} {A A' : Option Addr} {n0 G n c x n' c' y : Nat}
theorem GcRel.start {w : World} (hx : DAt B32 w A n c x) (hy : DAt B32 w A' n' c' y) (hn : n ≤ n0) (hn' : n' ≤ n0) :
    GcRel w n0 (Nat.gcd x y) A n c x A' n' c' y (((w.alloc (.cells #[.slice A n c] 30)).alloc (.cells #[.slice A' n' c'] 30)).alloc (.cells #[.slice none 0 0] 30)) := by
  have c0 := ((Blk.new w 30 #[.slice A n c]).alloc (.cells #[.slice A' n' c'] 30)).alloc (.cells #[.slice none 0 0] 30)
  have c1 := (Blk.new (w.alloc (.cells #[.slice A n c] 30)) 30 #[.slice A' n' c']).alloc (.cells #[.slice none 0 0] 30)
  have c2 := (Blk.new ((w.alloc (.cells #[.slice A n c] 30)).alloc (.cells #[.slice A' n' c'] 30)) 30 #[.slice none 0 0])
  have hb : Below w.heap.size w (((w.alloc (.cells #[.slice A n c] 30)).alloc (.cells #[.slice A' n' c'] 30)).alloc (.cells #[.slice none 0 0] 30)) :=
    (((Below.refl _ _).alloc (Nat.le_refl _) _).alloc (by simp) _).alloc (by simp; omega) _
  simp only [World.size_alloc] at c1 c2
  exact ⟨c0.cell 0, c1.cell 0, c0.frozen 0, c1.frozen 0, c2.cell 0, c2.frozen 0, hx.below hb, hy.below hb, hn, hn', rfl, hb, by simp⟩

theorem GcRel.below (h : GcRel w0 n0 G A n c x A' n' c' y wr) (hb : Below wr.heap.size wr w1) : GcRel w0 n0 G A n c x A' n' c' y w1 := by
  have h4 := h.sz
  have h5 := hb.size
  exact ⟨(hb.cell (by simp; omega)).trans h.bx, (hb.cell (by simp; omega)).trans h.by_, (hb.frozen (by simp; omega)).trans h.fx, (hb.frozen (by simp; omega)).trans h.fy, (hb.cell (by simp; omega)).trans h.b4, (hb.frozen (by simp; omega)).trans h.f4, h.dx.below hb, h.dy.below hb, h.nx, h.ny, h.eq, h.bel.trans (hb.mono (by omega)), by omega⟩

theorem GcRel.drew (h : GcRel w0 n0 G A n c x A' n' c' y wr) : GcRel w0 n0 G A n c x A' n' c' y wr.drew :=
  ⟨h.bx, h.by_, h.fx, h.fy, h.b4, h.f4, h.dx.drew, h.dy.drew, h.nx, h.ny, h.eq, h.bel.drew, h.sz⟩

theorem GcRel.next (h : GcRel w0 n0 G A n c x A' n' c' y wr) (hy : 0 < y) {A4 : Option Addr} {n4 c4 : Nat} (h4 : DAt B32 wr A4 n4 c4 (modOf x y)) :
    GcRel w0 n0 G A' n' c' y A4 n4 c4 (modOf x y) ((wr.setCell ⟨w0.heap.size, 0, none⟩ (.slice A' n' c')).setCell ⟨w0.heap.size + 1, 0, none⟩ (.slice A4 n4 c4)) := by
  rw [modOf_pos hy] at h4 ⊢
  have hs := h.sz
  have e1 : (wr.setCell ⟨w0.heap.size, 0, none⟩ (.slice A' n' c')).cell? ⟨w0.heap.size + 1, 0, none⟩ = some (.slice A' n' c') := by
    rw [World.cell?_setCell_other _ _ _ _ (by intro e; injection e; omega)]; exact h.by_
  refine ⟨?_, ?_, ?_, ?_, ?_, ?_, (h.dy.put h.bx _).put e1 _, (h4.put h.bx _).put e1 _, h.ny, ?_, ?_, (h.bel.setCell (Nat.le_refl _) _).setCell (by simp) _, ?_⟩
  · rw [World.cell?_setCell_other _ _ _ _ (by intro e; injection e; omega)]; exact World.cell?_setCell_same _ _ _ h.bx
  · exact World.cell?_setCell_same _ _ _ e1
  · rw [World.frozen?_setCell, World.frozen?_setCell]; exact h.fx
  · rw [World.frozen?_setCell, World.frozen?_setCell]; exact h.fy
  · rw [World.cell?_setCell_other _ _ _ _ (by intro e; injection e; omega), World.cell?_setCell_other _ _ _ _ (by intro e; injection e; omega)]; exact h.b4
  · rw [World.frozen?_setCell, World.frozen?_setCell]; exact h.f4
  · exact Nat.le_trans (len_le32 h4 h.dy (Nat.le_of_lt (Nat.mod_lt _ hy))) h.ny
  · rw [← h.eq, Nat.gcd_comm x y, Nat.gcd_rec y x, Nat.gcd_comm]
  · simpa [World.setCell] using hs
end

set_option maxRecDepth 100000 in
set_option maxHeartbeats 2000000 in
theorem gcd_any (A : Option Addr) (n c x : Nat) (A' : Option Addr) (n' c' y : Nat) (w : World) (hx : DAt B32 w A n c x) (hy : DAt B32 w A' n' c' y) (hn : n ≤ 1099511627776) (hn' : n' ≤ 1099511627776) :
    Calls Tryz.prog 103 #[.agg #[.slice A n c], .agg #[.slice A' n' c']] w fun e w' => ∃ A3 n3 c3, e = .returned (.agg #[.slice A3 n3 c3]) ∧ DAt B32 w' A3 n3 c3 (Nat.gcd x y) ∧ Below w.heap.size w w' := by
  have HR0 := Lib.hid (GcRel.start (n0 := 1099511627776) hx hy hn hn')
  clear hx hy
  obtain ⟨G, hG⟩ : ∃ G, G = Nat.gcd x y := ⟨_, rfl⟩
  rw [← hG] at HR0 ⊢
  clear hG hn hn'
  go_enter Tryz.func103, Tryz.ntmps103
  go_wp2_with fail
  generalize (((w.alloc (.cells #[.slice A n c] 30)).alloc (.cells #[.slice A' n' c'] 30)).alloc (.cells #[.slice none 0 0] 30)) = W at *
  go_loopg [5, 6] y (fun k _ _ wr => ∃ A n c x A' n' c', GcRel w 1099511627776 G A n c x A' n' c' k wr)
  case atStart => exact ⟨_, _, _, _, _, _, _, HR0.out⟩
  case round =>
    clear HR0
    obtain ⟨A, n, c, x, A', n', c', hr⟩ := hrel
    have bx := hr.bx
    have bby := hr.by_
    rcases Nat.eq_zero_or_pos gk with hk | hk
    · subst hk
      have hz := (hr.dy.zero_len two_le_B32).2 rfl
      subst hz
      have he := hr.eq
      rw [Nat.gcd_zero_right] at he
      subst he
      have hze := zero_any A' 0 c' 0 wr hr.dy
      rw [show decide ((0 : Nat) = 0) = true from rfl] at hze
      have HZE := Lib.hid hze; have HR := Lib.hid hr
      clear hze hr
      go_wp2_with fail
      refine HZE.out.mono ?_
      rintro e wz ⟨rfl, hbz⟩
      have hr := HR.out.below hbz
      clear bx bby
      have bx := hr.bx
      have b4 := hr.b4
      have f4 := hr.f4
      have HF := Lib.hid (hr.dx.put b4 (.slice A n c))
      have HB := Lib.hid (hr.bel.setCell (p := ⟨w.heap.size + 1 + 1, 0, none⟩) (by simp; omega) (.slice A n c))
      clear hr HR hbz HZE
      go_wp2_with fail
      exact bodyPost_ret (v := .agg #[.slice A n c]) (by simp [results, Tryz.results103, go_sem, b4]) rfl ⟨_, _, _, rfl, HF.out, HB.out⟩
    · have b0 : decide (gk = 0) = false := decide_eq_false (by omega)
      have hze := fun (wz : World) (h : DAt B32 wz A' n' c' gk) => zero_any A' n' c' gk wz h
      rw [b0] at hze
      have hdm := fun (wz : World) (h1 : DAt B32 wz A n c x) (h2 : DAt B32 wz A' n' c' gk) (h3 : n ≤ 1099511627776) (h4 : n' ≤ 1099511627776) => divmod_any A n c x A' n' c' gk wz h1 h2 h3 h4 hk
      rw [← modOf_pos (x := x) hk] at hdm
      have HR := Lib.hid hr; have HZE := Lib.hid hze; have HDM := Lib.hid hdm
      clear hr hze hdm b0
      go_wp2_with fail
      refine (HZE.out _ HR.out.dy).mono ?_
      rintro e wz ⟨rfl, hbz⟩
      have hrz := HR.out.below hbz
      clear bx bby
      have bx := hrz.bx
      have bby := hrz.by_
      have HRZ := Lib.hid hrz
      clear HR hbz hrz
      go_wp2_with fail
      refine (HDM.out _ HRZ.out.dx HRZ.out.dy HRZ.out.nx HRZ.out.ny).mono ?_
      rintro e w1 ⟨A3, n3, c3, A4, n4, c4, rfl, hd3, hd4, hb1⟩
      have hr1 := HRZ.out.below hb1
      have hA : Below w1.heap.size w1 ((w1.alloc (.cells #[.slice A3 n3 c3] 30)).alloc (.cells #[.slice A4 n4 c4] 30)) := ((Below.refl _ _).alloc (Nat.le_refl _) _).alloc (by simp) _
      have hr2 := hr1.below hA
      have bx := hr2.bx
      have bby := hr2.by_
      have fx := hr2.fx
      have fy := hr2.fy
      have b6 : ((w1.alloc (.cells #[.slice A3 n3 c3] 30)).alloc (.cells #[.slice A4 n4 c4] 30)).cell? ⟨(w1.alloc (.cells #[.slice A3 n3 c3] 30)).heap.size, 0, none⟩ = some (.slice A4 n4 c4) := (Blk.new (w1.alloc (.cells #[.slice A3 n3 c3] 30)) 30 #[.slice A4 n4 c4]).cell 0
      rw [World.size_alloc] at b6
      have hszz : w.heap.size + 1 + 1 + 1 ≤ w1.heap.size := hr1.sz
      have s6 : ∀ v, (((w1.alloc (.cells #[.slice A3 n3 c3] 30)).alloc (.cells #[.slice A4 n4 c4] 30)).setCell ⟨w.heap.size, 0, none⟩ v).cell? ⟨w1.heap.size + 1, 0, none⟩ = some (.slice A4 n4 c4) := fun v => by
        rw [World.cell?_setCell_other _ _ _ _ (by intro e; injection e; omega)]; exact b6
      have sy : ∀ v, (((w1.alloc (.cells #[.slice A3 n3 c3] 30)).alloc (.cells #[.slice A4 n4 c4] 30)).setCell ⟨w.heap.size, 0, none⟩ v).cell? ⟨w.heap.size + 1, 0, none⟩ = some (.slice A' n' c') := fun v => by
        rw [World.cell?_setCell_other _ _ _ _ (by intro e; injection e; omega)]; exact bby
      have HN := Lib.hid (hr2.next hk (hd4.below hA))
      clear HRZ hb1 hr1 hd3 hd4 hA hr2 HZE HDM
      go_wp2_with fail
      go_roundg (modOf x gk)
      case measure => rw [modOf_pos hk]; exact Nat.mod_lt _ hk
      case rel => exact ⟨_, _, _, _, _, _, _, HN.out⟩

end Go.Proofs.YtfgnleoaibcegaaGreat.Ref

namespace Go.Proofs.YtfgnleoaibcegaaGreat.Ref

open Go.RowKit

theorem le400 {w : World} {A : Option Addr} {n c x i : Nat} (h : DAt B32 w A n c x) (hx : x < 10 ^ i) (hi : i ≤ 400) : n ≤ 400 := by
  refine Nat.le_trans (h.le two_le_B32 (Nat.lt_of_lt_of_le hx ?_)) hi
  exact Nat.pow_le_pow_left (by decide) i
theorem take_dig {l : List Nat} {i : Nat} (hi : i < l.length) (h : (l.take i).all isDig = true) (hd : 48 ≤ l.getD i 0 ∧ l.getD i 0 ≤ 57) : (l.take (i + 1)).all isDig = true ∧ readD (l.take (i + 1)) = readD (l.take i) * 10 + (l.getD i 0 - 48) := by
  have e : l.take (i + 1) = l.take i ++ [l.getD i 0] := by
    rw [List.take_succ_eq_append_getElem hi, List.getD_eq_getElem?_getD, List.getElem?_eq_getElem hi]; rfl
  rw [e]
  generalize l.getD i 0 = d at *
  refine ⟨by rw [List.all_append, h]; simp [isDig]; omega, by rw [readD_snoc]; omega⟩

structure PsRel (w0 : World) (A : Option Addr) (n c x : Nat) (wr : World) : Prop where
  bp : wr.cell? ⟨w0.heap.size + 1, 0, none⟩ = some (.slice A n c)
  fp : wr.frozen? ⟨w0.heap.size + 1, 0, none⟩ = false
  b2 : wr.cell? ⟨w0.heap.size, 0, none⟩ = some (.slice none 0 0)
  f2 : wr.frozen? ⟨w0.heap.size, 0, none⟩ = false
  dx : DAt B32 wr A n c x
  bel : Below w0.heap.size w0 wr
  sz : w0.heap.size + 1 + 1 ≤ wr.heap.size

section

variable {w0 wr w1 : World} {A : Option Addr} {n c x : Nat}
theorem PsRel.start (w : World) : PsRel w none 0 0 0 ((w.alloc (.cells #[.slice none 0 0] 30)).alloc (.cells #[.slice none 0 0] 30)) := by
  have c0 := (Blk.new w 30 #[.slice none 0 0]).alloc (.cells #[.slice none 0 0] 30)
  have c1 := (Blk.new (w.alloc (.cells #[.slice none 0 0] 30)) 30 #[.slice none 0 0])
  simp only [World.size_alloc] at c1
  exact ⟨c1.cell 0, c1.frozen 0, c0.cell 0, c0.frozen 0, DAt.nil, ((Below.refl _ _).alloc (Nat.le_refl _) _).alloc (by simp) _, by simp⟩

theorem PsRel.below (h : PsRel w0 A n c x wr) (hb : Below wr.heap.size wr w1) : PsRel w0 A n c x w1 := by
  have h4 := h.sz
  have h5 := hb.size
  exact ⟨(hb.cell (by simp; omega)).trans h.bp, (hb.frozen (by simp; omega)).trans h.fp, (hb.cell (by simp; omega)).trans h.b2, (hb.frozen (by simp; omega)).trans h.f2, h.dx.below hb, h.bel.trans (hb.mono (by omega)), by omega⟩

theorem PsRel.drew (h : PsRel w0 A n c x wr) : PsRel w0 A n c x wr.drew := ⟨h.bp, h.fp, h.b2, h.f2, h.dx.drew, h.bel.drew, h.sz⟩

theorem PsRel.set_ (h : PsRel w0 A n c x wr) {A3 : Option Addr} {n3 c3 y : Nat} (hd : DAt B32 wr A3 n3 c3 y) : PsRel w0 A3 n3 c3 y (wr.setCell ⟨w0.heap.size + 1, 0, none⟩ (.slice A3 n3 c3)) := by
  refine ⟨World.cell?_setCell_same _ _ _ h.bp, by rw [World.frozen?_setCell]; exact h.fp, ?_, by rw [World.frozen?_setCell]; exact h.f2, hd.put h.bp _, h.bel.setCell (by simp) _, by simpa [World.setCell] using h.sz⟩
  rw [World.cell?_setCell_other _ _ _ _ (by intro e; injection e; omega)]; exact h.b2
end

set_option maxRecDepth 100000 in
set_option maxHeartbeats 2000000 in
theorem parse_short (s : ByteArray) (w : World) (hs : s.size < 1 ∨ 400 < s.size) :
    Calls Tryz.prog 74 #[.string s] w fun e w' => ∃ A n c, e = .returned (.tuple #[.agg #[.slice A n c], .bool (parseOk (bytesL s))]) ∧ DAt B32 w' A n c (parseV (bytesL s)) ∧ Below w.heap.size w w' := by
  have h1 : parseOk (bytesL s) = false := by
    unfold parseOk
    rw [bytesL_length]
    rcases hs with h | h
    · rw [decide_eq_false (show ¬ 1 ≤ s.size by omega)]; rfl
    · rw [decide_eq_false (show ¬ s.size ≤ 400 by omega), Bool.and_false]; rfl
  have h2 : parseV (bytesL s) = 0 := by unfold parseV; rw [h1]; rfl
  rw [h1, h2]
  clear h1 h2
  have hr := PsRel.start w
  have hbel : Below w.heap.size w (w.alloc (.cells #[.slice none 0 0] 30)) := (Below.refl _ _).alloc (Nat.le_refl _) _
  have HB := Lib.hid (hbel.setCell (p := ⟨w.heap.size, 0, none⟩) (Nat.le_refl _) (.slice none 0 0))
  have HB0 := Lib.hid hbel
  clear hr hbel
  by_cases h : s.size < 1
  · have b1 : decide ((s.size : Int) < 1) = true := decide_eq_true (by omega)
    have c1 : decide (s.size < 1) = true := decide_eq_true (by omega)
    clear hs
    go_enter Tryz.func74, Tryz.ntmps74
    go_wp2_with fail
    exact bodyPost_ret (v := .tuple #[.agg #[.slice none 0 0], .bool false]) (by simp [results, Tryz.results74, go_sem]) rfl ⟨_, _, _, rfl, DAt.nil, by first | exact HB0.out | exact HB.out⟩
  · have b1 : decide ((s.size : Int) < 1) = false := decide_eq_false (by omega)
    have c1 : decide (s.size < 1) = false := decide_eq_false (by omega)
    have b2 : decide ((400 : Int) < (s.size : Int)) = true := decide_eq_true (by omega)
    have c2 : decide (400 < s.size) = true := decide_eq_true (by omega)
    clear hs
    go_enter Tryz.func74, Tryz.ntmps74
    go_wp2_with fail
    exact bodyPost_ret (v := .tuple #[.agg #[.slice none 0 0], .bool false]) (by simp [results, Tryz.results74, go_sem]) rfl ⟨_, _, _, rfl, DAt.nil, by first | exact HB0.out | exact HB.out⟩

set_option maxRecDepth 100000 in
set_option maxHeartbeats 2000000 in
theorem parse_long (s : ByteArray) (w : World) (hs1 : 1 ≤ s.size) (hs2 : s.size ≤ 400) :
    Calls Tryz.prog 74 #[.string s] w fun e w' => ∃ A n c, e = .returned (.tuple #[.agg #[.slice A n c], .bool (parseOk (bytesL s))]) ∧ DAt B32 w' A n c (parseV (bytesL s)) ∧ Below w.heap.size w w' := by
  obtain ⟨l, hl⟩ : ∃ l, l = bytesL s := ⟨_, rfl⟩
  have hlen : l.length = s.size := by rw [hl]; exact bytesL_length s
  have hid := fun j (h : j < s.size) => run_index_byte s j h
  have hlt := fun j => getD_lt (show 2 ≤ 256 by omega) (bytesL_lt s) j
  rw [← hl] at hid hlt ⊢
  have b1 : decide ((s.size : Int) < 1) = false := decide_eq_false (by omega)
  have b2 : decide ((400 : Int) < (s.size : Int)) = false := decide_eq_false (by omega)
  have c1 : decide (s.size < 1) = false := decide_eq_false (by omega)
  have c2 : decide (400 < s.size) = false := decide_eq_false (by omega)
  have HR0 := Lib.hid (PsRel.start w)
  have HLEN := Lib.hid hlen; have HIX := Lib.hid hid; have HLT := Lib.hid hlt
  have HS1 := Lib.hid hs1; have HS2 := Lib.hid hs2
  clear hl hlen hs1 hid hlt
  go_enter Tryz.func74, Tryz.ntmps74
  go_wp2_with fail
  clear b1 b2 c1 c2
  generalize ((w.alloc (.cells #[.slice none 0 0] 30)).alloc (.cells #[.slice none 0 0] 30)) = W at HR0 ⊢
  go_loopw [5] (fun iv wr => ∃ (i : Nat) (A : Option Addr) (n c : Nat), i ≤ s.size ∧ iv = .int .i64 (i : Int) ∧ (l.take i).all isDig = true ∧ PsRel w A n c (readD (l.take i)) wr) (fun iv _ => s.size - (intOf iv).toNat)
  case atStart => exact ⟨0, none, 0, 0, by omega, rfl, by simp, HR0.out⟩
  case round =>
    clear HR0
    obtain ⟨i, A, n, c, hi, rfl, hdig, hr⟩ := hrel
    by_cases h0 : i < s.size
    · have b0 : decide ((i : Int) < (s.size : Int)) = true := decide_eq_true (by omega)
      have c0 : decide (i < s.size) = true := decide_eq_true h0
      have hix := HIX.out i h0
      have hdB := HLT.out i
      have hiL : i < l.length := by rw [HLEN.out]; exact h0
      have hbad := parse_bad (L := l) (i := 0) (k := i) (by rw [List.drop_zero]) hiL
      have hgood := take_dig hiL hdig
      have hnx : n ≤ 400 := le400 hr.dx (readD_lt _ (all_dig_le hdig)) (by rw [List.length_take]; omega)
      generalize l.getD i 0 = d at *
      have HB := Lib.hid hbad; have HG := Lib.hid hgood; have HR := Lib.hid hr
      clear hbad hgood hr hdig
      by_cases hd : 48 ≤ d ∧ d ≤ 57
      · have b1 : decide ((d : Int) < 48) = false := decide_eq_false (by omega)
        have b2 : decide ((57 : Int) < (d : Int)) = false := decide_eq_false (by omega)
        have c1 : decide (d < 48) = false := decide_eq_false (by omega)
        have c2 : decide (57 < d) = false := decide_eq_false (by omega)
        have f1 : IntKind.u8.wrap ((d : Int) - 48) = ((d - 48 : Nat) : Int) := by rw [IntKind.wrap_u8]; omega
        have f2 : IntKind.u64.wrap ((d - 48 : Nat) : Int) = ((d - 48 : Nat) : Int) := by rw [IntKind.wrap_u64]; omega
        obtain ⟨g1, g2⟩ := HG.out hd
        generalize readD (l.take i) = X at *
        generalize hdd : d - 48 = d4 at f1 f2 g2
        have hd4 : d4 ≤ 9 := by omega
        have ot := fun wq : World => of_any 10 (by decide) wq
        rw [show ((10 : Nat) : Int) = 10 from rfl] at ot
        have OT := Lib.hid ot
        have OV := Lib.hid (fun wq : World => of_any d4 (by rw [B64_eq]; omega) wq)
        have HG1 := Lib.hid g1; have HG2 := Lib.hid g2; have HRD := Lib.hid HR.out.drew
        have bp := HR.out.bp
        have fp := HR.out.fp
        clear g1 g2 hd HB HG hdd ot
        go_wp2_with fail
        go_region_with (first
          | (go_at_call 16; (with_reducible refine (OT.out _).mono ?_); rintro e wa ⟨A1, n1', c1, rfl, hd1, hn1, hb1⟩; have hr1 := HRD.out.below hb1; have bp1 := hr1.bp; have HR1 := Lib.hid hr1; have HD1 := Lib.hid hd1; clear hr1 hd1 hb1)
          | (go_at_call 63; (with_reducible refine (times_any A n c X A1 n1' c1 10 wa HR1.out.dx HD1.out (by omega) (by omega)).mono ?_); rintro e wb ⟨A2, n2', c2, rfl, hd2, hb2⟩; have hr2 := HR1.out.below hb2; have bp2 := hr2.bp; have HR2 := Lib.hid hr2; have hn2s : n2' ≤ n + 1 := hd2.le two_le_B32 (by rw [Nat.pow_succ]; exact Nat.mul_lt_mul'' (HR1.out.dx.lt two_le_B32) (by decide)); have HD2 := Lib.hid hd2; clear hr2 hd2 hb2)
          | (go_at_call 16; (with_reducible refine (OV.out _).mono ?_); rintro e wc ⟨A3, n3', c3, rfl, hd3, hn3, hb3⟩; have hr3 := HR2.out.below hb3; have bp3 := hr3.bp; have HR3 := Lib.hid hr3; have HD3 := Lib.hid hd3; have HD23 := Lib.hid (HD2.out.below hb3); clear hr3 hd3 hb3)
          | (go_at_call 62; (with_reducible refine (plus_any A2 n2' c2 (X * 10) A3 n3' c3 d4 wc HD23.out HD3.out (by omega) (by omega)).mono ?_); rintro e wd ⟨A4, n4', c4, rfl, hd4', hb4⟩; have hr4 := HR3.out.below hb4; have bp4 := hr4.bp; have fp4 := hr4.fp; have HR4 := Lib.hid (hr4.set_ hd4'); clear hr4 hd4' hb4))
        all_goals
          go_wp2_with fail
          go_roundw
          case rel => exact ⟨i + 1, A4, n4', c4, by omega, by go_num, HG1.out, by rw [HG2.out]; exact HR4.out⟩
          case measure => simp [intOf]; omega
      · obtain ⟨p1, p2⟩ := HB.out hd
        have b2f := HR.out.b2
        have f2f := HR.out.f2
        have HP1 := Lib.hid p1; have HP2 := Lib.hid p2
        have HF := Lib.hid (HR.out.bel.setCell (p := ⟨w.heap.size, 0, none⟩) (Nat.le_refl _) (.slice none 0 0))
        clear p1 p2
        by_cases hd1 : d < 48
        · have b1 : decide ((d : Int) < 48) = true := decide_eq_true (by omega)
          have c1 : decide (d < 48) = true := decide_eq_true (by omega)
          clear hd
          go_wp2_with fail
          exact bodyPost_ret (v := .tuple #[.agg #[.slice none 0 0], .bool false]) (by simp [results, Tryz.results74, go_sem, b2f]) rfl ⟨_, _, _, by rw [HP1.out], by rw [HP2.out]; exact DAt.nil, by first | exact HF.out | exact HR.out.bel⟩
        · have b1 : decide ((d : Int) < 48) = false := decide_eq_false (by omega)
          have c1 : decide (d < 48) = false := decide_eq_false (by omega)
          have b2 : decide ((57 : Int) < (d : Int)) = true := decide_eq_true (by omega)
          have c2 : decide (57 < d) = true := decide_eq_true (by omega)
          clear hd hd1
          go_wp2_with fail
          exact bodyPost_ret (v := .tuple #[.agg #[.slice none 0 0], .bool false]) (by simp [results, Tryz.results74, go_sem, b2f]) rfl ⟨_, _, _, by rw [HP1.out], by rw [HP2.out]; exact DAt.nil, by first | exact HF.out | exact HR.out.bel⟩
    · have b0 : decide ((i : Int) < (s.size : Int)) = false := decide_eq_false (by omega)
      have c0 : decide (i < s.size) = false := decide_eq_false h0
      have hie : i = s.size := by omega
      have htl : l.take i = l := List.take_of_length_le (by rw [HLEN.out]; omega)
      rw [htl] at hr hdig
      obtain ⟨p1, p2⟩ := parse_good (l := l) (by rw [HLEN.out]; exact HS1.out) (by rw [HLEN.out]; exact HS2.out) hdig
      have HP1 := Lib.hid p1; have HP2 := Lib.hid p2
      have bp := hr.bp
      have b2 := hr.b2
      have f2 := hr.f2
      have HF := Lib.hid (hr.dx.put b2 (.slice A n c))
      have HB := Lib.hid (hr.bel.setCell (p := ⟨w.heap.size, 0, none⟩) (Nat.le_refl _) (.slice A n c))
      clear hr hdig htl hie p1 p2
      go_wp2_with fail
      exact bodyPost_ret (v := .tuple #[.agg #[.slice A n c], .bool true]) (by simp [results, Tryz.results74, go_sem, b2]) rfl ⟨_, _, _, by rw [HP1.out], by rw [HP2.out]; exact HF.out, HB.out⟩

theorem parse_any (s : ByteArray) (w : World) :
    Calls Tryz.prog 74 #[.string s] w fun e w' => ∃ A n c, e = .returned (.tuple #[.agg #[.slice A n c], .bool (parseOk (bytesL s))]) ∧ DAt B32 w' A n c (parseV (bytesL s)) ∧ Below w.heap.size w w' := by
  by_cases h : s.size < 1 ∨ 400 < s.size
  · exact parse_short s w h
  · exact parse_long s w (by omega) (by omega)
end Go.Proofs.YtfgnleoaibcegaaGreat.Ref

namespace Go.Proofs.YtfgnleoaibcegaaGreat

open Go.RowKit
section

variable {P : Program} {ops : Array Oper} {Q : Exit → Act → World → Prop} {a0 : Act} {W : World} {rels : List Rel} {i : Nat} {o : Oper} {r : Rel}
end

end Go.Proofs.YtfgnleoaibcegaaGreat

namespace Go.Proofs.YtfgnleoaibcegaaGreat

open Go.RowKit
theorem DAt.grownNe {b : Nat} {w w' : World} {A : Option Addr} {n c x : Nat} {row : Option Nat} (h : DAt b w A n c x) (hg : w.grownBy w' row) (ne : ∀ a, A = some a → 0 < n → row ≠ some a.block) : DAt b w' A n c x := by
  refine ⟨⟨h.reads.1, fun hn => ?_⟩, h.cap, h.room⟩
  obtain ⟨ad, e, hb, hc⟩ := h.reads.2 hn
  refine ⟨ad, e, Nat.lt_of_lt_of_le hb hg.size, fun j v hv => ?_⟩
  rw [← hc j v hv]
  exact World.cell?_of_block (by rw [block_of_add]; exact hg.block ad.block hb (fun e2 => ne ad e hn e2.symm))
theorem Vr.grown {T : TypeId} {w w' : World} {p base n : Nat} {u v : Value} {xs : List Value} (h : Vr T w p u) (ho : w.ownsRow base 5 1 v n xs) (hg : w.grownBy w' v.ownBlock) (hT : 5 ≠ T) : Vr T w' p u :=
  ⟨Blk.grown h.blk hg (Ne.symm (own_blk_ne ho h.blk hT))⟩
namespace Ref

theorem chunk_step9 {k r X : Nat} (hk : k < 9) : (r + 10 ^ (9 - k) * X) % 10 = r % 10 ∧ (r + 10 ^ (9 - k) * X) / 10 = r / 10 + 10 ^ (9 - (k + 1)) * X := by
  rw [show 9 - k = (9 - (k + 1)) + 1 by omega, Nat.pow_succ', Nat.mul_assoc]
  exact ⟨Nat.add_mul_mod_self_left _ _ _, Nat.add_mul_div_left _ _ (by omega)⟩
structure CkIs (x X k L r : Nat) (D : List Nat) : Prop where
  k9 : k ≤ 9
  rlt : r < 10 ^ (9 - k)
  tx : TxIs x L (r + 10 ^ (9 - k) * X) D
theorem CkIs.start {x X L r Y : Nat} {D : List Nat} (h : TxIs x L Y D) (hY : r + 1000000000 * X = Y) (hr : r < 1000000000) : CkIs x X 0 L r D :=
  ⟨by omega, hr, by show TxIs x L (r + 1000000000 * X) D; rw [hY]; exact h⟩
theorem CkIs.next {x X k L r : Nat} {D : List Nat} (h : CkIs x X k L r D) (hk : k < 9) (hg : 0 < r ∨ 0 < X) : CkIs x X (k + 1) (L + 1) (r / 10) (D ++ [r % 10 + 48]) := by
  obtain ⟨e1, e2⟩ := chunk_step9 (r := r) (X := X) hk
  have h1 := h.tx.next (by
    rcases hg with h1 | h1
    · exact .inl (by omega)
    · exact .inl (Nat.lt_of_lt_of_le (Nat.mul_pos (Nat.pow_pos (by omega)) h1) (Nat.le_add_left _ _)))
  rw [e1, e2] at h1
  refine ⟨by omega, ?_, h1⟩
  have h2 := h.rlt
  rw [show 9 - k = (9 - (k + 1)) + 1 by omega, Nat.pow_succ] at h2
  exact (Nat.div_lt_iff_lt_mul (by omega)).2 h2
theorem CkIs.stop {x X k L r : Nat} {D : List Nat} (h : CkIs x X k L r D) (hs : k = 9 ∨ (r = 0 ∧ X = 0)) : TxIs x L X D := by
  have ht := h.tx
  have hr := h.rlt
  rcases hs with rfl | ⟨rfl, rfl⟩
  · have hr0 : r = 0 := by simp at hr; exact hr
    subst hr0
    simpa using ht
  · simpa using ht

theorem drop_rev_snoc {l : List Nat} {m : Nat} (h : m < l.length) : (l.drop m).reverse = (l.drop (m + 1)).reverse ++ [l.getD m 0] := by
  rw [List.drop_eq_getElem_cons h, List.reverse_cons, List.getD_eq_getElem?_getD, List.getElem?_eq_getElem h]; rfl

structure TeRel (w0 : World) (L : Nat) (D : List Nat) (v : Value) (A : Option Addr) (n c X : Nat) (wr : World) : Prop where
  own : wr.ownsRow w0.heap.size 5 1 v L (bv D)
  dx : DAt B32 wr A n c X
  ne : ∀ a, A = some a → 0 < n → v.ownBlock ≠ some a.block
  bel : Below w0.heap.size w0 wr
  nn : n ≤ 1099511627776
section

variable {w0 wr w1 : World} {L n c X : Nat} {D : List Nat} {v : Value} {A : Option Addr}
theorem TeRel.drew (h : TeRel w0 L D v A n c X wr) : TeRel w0 L D v A n c X wr.drew := ⟨h.own, h.dx.drew, h.ne, h.bel.drew, h.nn⟩
theorem TeRel.below (h : TeRel w0 L D v A n c X wr) (hb : Below wr.heap.size wr w1) : TeRel w0 L D v A n c X w1 :=
  ⟨(KeepsRows.below hb) _ _ _ _ h.own, h.dx.below hb, h.ne, h.bel.trans (hb.mono h.bel.size), h.nn⟩
theorem TeRel.box (h : TeRel w0 L D v A n c X wr) {p : Nat} {u : Value} {T : TypeId} {B : Option Addr} {m k : Nat} (hp : w0.heap.size ≤ p) (hv : Vr T wr p (.slice B m k)) (hT : 5 ≠ T) : TeRel w0 L D v A n c X (wr.setCell ⟨p, 0, none⟩ u) := by
  refine ⟨?_, ?_, h.ne, h.bel.setCell hp _, h.nn⟩
  · have hne := own_blk_ne h.own hv.blk hT
    refine h.own.kept (row := some p) ⟨rfl, rfl, rfl, by simp [World.setCell], fun k hk hkp => ?_⟩ (.inr hne)
    exact Below.heap_setCell _ _ _ _ (fun e => hkp (congrArg some e))
  · exact h.dx.put hv.cell u
theorem TeRel.append {d : Nat} {v1 u : Value} {t : TypeId} (h : TeRel w0 L D v A n c X wr) (ho : w1.ownsRow w0.heap.size 5 1 v1 (L + 1) (bv D ++ [.int .u8 (d : Int)])) (hg : (wr.alloc (.cells #[u] t)).grownBy w1 v.ownBlock) (hat : v1.ownBlock = v.ownBlock ∨ v1.ownBlock = some (wr.alloc (.cells #[u] t)).heap.size) :
    TeRel w0 (L + 1) (D ++ [d]) v1 A n c X w1 := by
  have hb1 : Below wr.heap.size wr (wr.alloc (.cells #[u] t)) := (Below.refl _ _).alloc (Nat.le_refl _) _
  have hbs := h.bel.size
  refine ⟨by rw [bv_append]; exact ho, (h.dx.below hb1).grownNe hg h.ne, ?_, (h.bel.alloc hbs _).grown hg (by simp; omega) (fun k hk => (h.own.lt k hk).1), h.nn⟩
  intro a e hn
  rcases hat with h1 | h1
  · rw [h1]; exact h.ne a e hn
  · rw [h1]
    have := h.dx.olds a e hn
    intro e2
    injection e2 with e2
    simp at e2; omega
end

set_option maxRecDepth 100000 in
set_option maxHeartbeats 2000000 in
theorem text_any (A : Option Addr) (n c x : Nat) (w : World) (hx : DAt B32 w A n c x) (hn : n ≤ 1099511627776) :
    Calls Tryz.prog 79 #[.agg #[.slice A n c]] w fun e w' => e = .returned (.string (strB (txt x))) ∧ Below w.heap.size w w' := by
  have hx1 := hx.below ((Below.refl _ _).alloc (Nat.le_refl _) (.cells #[.slice A n c] 30))
  have hxl : x < 2 ^ maxBits := by
    have h1 := hx.lt two_le_B32
    rw [B32_pow_two] at h1
    exact Nat.lt_of_lt_of_le h1 (Nat.pow_le_pow_right (by omega) (by rw [maxBits_eq]; omega))
  obtain ⟨i0, hi0, hz0, hz1, hz2⟩ := byte_parts
  have hb0 : Below w.heap.size w (w.alloc (.cells #[.slice A n c] 30)) := (Below.refl _ _).alloc (Nat.le_refl _) _
  have hv0 := Vr.new w 30 (.slice A n c)
  have hr0 : TeRel w 0 [] (.slice none 0 0) A n c x (w.alloc (.cells #[.slice A n c] 30)) := ⟨World.ownsRow_nil _ _ _ _, hx1, fun a _ _ => by simp [Value.ownBlock], hb0, hn⟩
  have HR0 := Lib.hid hr0
  have HV0 := Lib.hid hv0
  have HXL := Lib.hid hxl
  have hvc := hv0.cell
  clear hx hxl hx1 hb0 hr0 hv0
  go_enter Tryz.func79, Tryz.ntmps79
  go_wp2_with fail
  refine (zero_any A n c x _ HR0.out.dx).mono ?_
  rintro e w1 ⟨rfl, hb1⟩
  have hr1 := HR0.out.below hb1
  have hv1 := HV0.out.below (T := 30) hb1
  clear hvc HR0 HV0
  have HR1 := Lib.hid hr1
  have HV1 := Lib.hid hv1
  have HB1 := Lib.hid hr1.bel
  clear hr1 hv1 hb1
  by_cases hx0 : x = 0
  · subst hx0
    have b0 : decide (0 = 0) = true := rfl
    go_wp2_with fail
    exact bodyPost_ret (v := .string (strB (txt 0))) (by simp [results, Tryz.results79, go_sem]; rfl) rfl ⟨rfl, HB1.out⟩
  have hxp : 0 < x := by omega
  have b0 : decide (x = 0) = false := decide_eq_false hx0
  go_wp2_with fail
  go_loopg [3, 4, 5, 6] x (fun X bq _ _ _ wr => ∃ (Av : Option Addr) (cv L : Nat) (D : List Nat) (A : Option Addr) (n c : Nat), bq = .slice Av L cv ∧ TxIs x L X D ∧ TeRel w L D (.slice Av L cv) A n c X wr ∧ Vr 30 wr w.heap.size (.slice A n c))
  case atStart => exact ⟨_, _, 0, [], _, _, _, rfl, TxIs.start x, HR1.out, HV1.out⟩
  case round =>
    clear HR1 HV1 HB1
    obtain ⟨Av, cv, L, D, A, n, c, rfl, hT, hr, hv⟩ := hrel
    have hvc := hv.cell
    have HZ := Lib.hid (zero_any A n c gk wr hr.dx)
    have HR := Lib.hid hr
    have HV := Lib.hid hv
    have HT := Lib.hid hT
    clear hr hv hT
    go_wp2_with fail
    refine HZ.out.mono ?_
    rintro e w1 ⟨rfl, hb1⟩
    have hr1 := HR.out.below hb1
    have hv1 := HV.out.below (T := 30) hb1
    clear hvc HR HV HZ
    have hvc := hv1.cell
    have HR1 := Lib.hid hr1
    have HV1 := Lib.hid hv1
    clear hr1 hv1 hb1
    by_cases hg0 : gk = 0
    · have b1 : decide (gk = 0) = true := decide_eq_true hg0
      subst hg0
      have hL : 0 < L := by
        rcases Nat.eq_zero_or_pos L with h | h
        · subst h
          have := HT.out.rest
          simp at this; omega
        · exact h
      have hD := HT.out.done hL
      have hsm := HT.out.small HXL.out
      rw [maxBits_eq] at hsm
      obtain ⟨g, cg, ev, hg, hB, hDl, hLc, hcm⟩ := Bw.of_own HR1.out.own hL
      injection ev with ev1 ev2 ev3
      subst ev1 ev3
      have HD := Lib.hid hD
      have HB := Lib.hid hB
      have HBL := Lib.hid HR1.out.bel
      have hgl := hB.lt
      have hwl := HR1.out.bel.size
      clear hD hB HT HR1 HV1 HXL hvc
      go_wp2_with fail
      go_loopw [7, 8] (fun bq iq wr => ∃ (Bv : Option Addr) (Bc i : Nat), bq = .slice Bv (L - i) Bc ∧ iq = .int .i64 ((i : Int) - 1) ∧ i ≤ L ∧ wr.ownsRow w1.heap.size 5 1 (.slice Bv (L - i) Bc) (L - i) (bv (D.drop i).reverse) ∧ Bw wr g D ∧ Below w.heap.size w wr ∧ w1.heap.size ≤ wr.heap.size) (fun _ iq _ => (intOf iq + 1).toNat)
      case atStart => exact ⟨none, 0, L, by simp, rfl, Nat.le_refl _, by rw [Nat.sub_self, List.drop_of_length_le (by omega)]; exact World.ownsRow_nil _ _ _ _, HB.out, HBL.out, Nat.le_refl _⟩
      case round =>
        clear HB HBL
        obtain ⟨Bv, Bc, i, rfl, rfl, hil, hown, hBw, hbel, hsz⟩ := hrel
        by_cases hi0' : 0 < i
        · obtain ⟨m, rfl⟩ : ∃ m, i = m + 1 := ⟨i - 1, by omega⟩
          rw [show (((m + 1 : Nat) : Int) - 1) = (m : Int) by omega]
          have hcell := hBw.cell (i := m) (by omega)
          have hap := drop_rev_snoc (l := D) (m := m) (by omega)
          generalize D.getD m 0 = d at hcell hap
          have HAP := Lib.hid hap
          have HOWN := Lib.hid hown; have HBW := Lib.hid hBw; have HBEL := Lib.hid hbel
          have b1 : decide ((0 : Int) ≤ (m : Int)) = true := decide_eq_true (by omega)
          have b3 : (m : Int) < (L : Int) := by omega
          clear hap hown hBw hbel
          go_wp2_with (at_builtin; refine wpList_append_any _ rfl (.tmp 49) (.tmp 54) _ rfl w1.heap.size 5 i0 _ 1 1 Tryz.underlying22 hi0 hz0 hz1 hz2 rfl (by omega) (.slice Bv (L - (m + 1)) Bc) (L - (m + 1)) (bv (D.drop (m + 1)).reverse) rfl (HOWN.out.alloc _) (wr.heap.size + 1) (some ⟨wr.heap.size, 0, none⟩) 1 1 [.int .u8 (d : Int)] rfl (Go.Proofs.YtfgnleoaibcegaaGreat.one_read _ _ _) (by simp [Value.oneCell']) (by unfold maxLen; omega) (by omega) (by simp; omega) ?_; intro v1 w4 hown4 hg4 hat4; obtain ⟨Bv1, Bc1, rfl⟩ := own_slice hown4)
          have hbw1 : Below wr.heap.size wr (wr.alloc (.cells #[.int .u8 (d : Int)] 5)) := (Below.refl _ _).alloc (Nat.le_refl _) _
          have hlt4 := HBW.out.lt
          have e4 : L - (m + 1) + 1 = L - m := by omega
          rw [e4] at hown4 ⊢
          refine ⟨⟨Bv1, Bc1, m, rfl, rfl, by omega, ?_, ?_, ?_, ?_⟩, ?_⟩
          · rw [HAP.out, bv_append]; exact hown4
          · obtain ⟨t4, hbk4⟩ := HBW.out.below hbw1 hlt4
            refine ⟨t4, Blk.grown hbk4 hg4 (fun e => ?_)⟩
            have := (HOWN.out.lt g e.symm).1
            omega
          · exact (HBEL.out.alloc HBEL.out.size _).grown hg4 (by have := HBEL.out.size; simp; omega) (fun k hk => by have := (HOWN.out.lt k hk).1; have := HBEL.out.size; omega)
          · have := hg4.size; simp at this; omega
          · simp [intOf]
        · obtain rfl : i = 0 := by omega
          rw [List.drop_zero, Nat.sub_zero] at hown
          obtain ⟨gb, cb, ev, hgb, hBb, hBl, hBc, hBm⟩ := Bw.of_own hown hL
          have hcv := run_string_of_own wr gb L cb D.reverse hBb (by rw [List.length_reverse]; exact hDl)
          rw [Nat.sub_zero] 
          rw [ev]
          have HBEL := Lib.hid hbel
          have b1 : decide ((0 : Int) ≤ (0 : Int) - 1) = false := rfl
          clear hown hBw hbel hBb ev
          go_wp2_with fail
          refine bodyPost_ret (v := .string (strB D.reverse)) (by simp [results, Tryz.results79, go_sem]) rfl ⟨?_, HBEL.out⟩
          rw [HD.out]
          unfold txt
          rw [List.map_reverse]
    · have b1 : decide (gk = 0) = false := decide_eq_false hg0
      have hsm := small_new A n c gk 1000000000 w1 HR1.out.dx HR1.out.nn (by omega) (by omega)
      rw [show ((1000000000 : Nat) : Int) = 1000000000 from rfl] at hsm
      have hY : gk % 1000000000 + 1000000000 * (gk / 1000000000) = gk := Nat.mod_add_div _ _
      have hrl : gk % 1000000000 < 1000000000 := Nat.mod_lt _ (by omega)
      have hlt : gk / 1000000000 < gk := Nat.div_lt_self (by omega) (by omega)
      generalize gk % 1000000000 = r at *
      generalize gk / 1000000000 = X at *
      have HSM := Lib.hid hsm
      have HY := Lib.hid hY
      have HLT := Lib.hid hlt
      clear hsm hY hlt
      go_wp2_with fail
      refine HSM.out.mono ?_
      rintro e w2 ⟨g2, n2, c2, rfl, hd2, hb2, hg2⟩
      have hr2 := HR1.out.below hb2
      have hv2 := HV1.out.below (T := 30) hb2
      have HC0 := Lib.hid (CkIs.start HT.out HY.out hrl)
      have hn2 : n2 ≤ 1099511627776 := Nat.le_trans (hd2.le two_le_B32 (Nat.lt_trans HLT.out (HR1.out.dx.lt two_le_B32))) HR1.out.nn
      have hr3 : TeRel w L D (.slice Av L cv) (some ⟨g2, 0, none⟩) n2 c2 X w2 := ⟨hr2.own, hd2, fun a e hn => by
        injection e with e
        subst e
        intro e2
        have := (HR1.out.own.lt g2 (by simpa using e2)).2
        omega, hr2.bel, hn2⟩
      have hba : Below w2.heap.size w2 (w2.alloc (.cells #[.slice (some ⟨g2, 0, none⟩) n2 c2] 30)) := (Below.refl _ _).alloc (Nat.le_refl _) _
      have HR3 := Lib.hid (hr3.below hba)
      have HV3 := Lib.hid (hv2.al (.cells #[.slice (some ⟨g2, 0, none⟩) n2 c2] 30))
      have HP3 := Lib.hid (Vr.new w2 30 (.slice (some ⟨g2, 0, none⟩) n2 c2))
      clear hr2 hv2 hd2 hb2 hg2 hr3 hvc HR1 HV1 HSM hba
      go_wp2_with fail
      generalize w2.alloc (.cells #[.slice (some ⟨g2, 0, none⟩) n2 c2] 30) = w3 at *
      generalize w2.heap.size = p at *
      clear w2
      go_loopw [3, 5, 6] (fun bq rq kq wr => ∃ (Av : Option Addr) (cv L : Nat) (D : List Nat) (r k : Nat), bq = .slice Av L cv ∧ rq = .int .u64 (r : Int) ∧ kq = .int .i64 k ∧ CkIs x X k L r D ∧ TeRel w L D (.slice Av L cv) (some ⟨g2, 0, none⟩) n2 c2 X wr ∧ Vr 30 wr w.heap.size (.slice A n c) ∧ Vr 30 wr p (.slice (some ⟨g2, 0, none⟩) n2 c2)) (fun _ _ kq _ => 9 - (intOf kq).toNat)
      case atStart => exact ⟨Av, cv, L, D, r, 0, rfl, rfl, rfl, HC0.out, HR3.out, HV3.out, HP3.out⟩
      case round =>
        clear HC0 HR3 HV3 HP3
        obtain ⟨Av, cv, L, D, r, k, rfl, rfl, rfl, hC, hr, hv, hp⟩ := hrel
        have hsm := hC.tx.small HXL.out
        rw [maxBits_eq] at hsm
        clear HXL
        by_cases hgo : k < 9 ∧ (0 < r ∨ 0 < X)
        · obtain ⟨hk9, hor⟩ := hgo
          have HN := Lib.hid (hC.next hk9 hor)
          have f1 : (r : Int).tmod 10 = (r : Int) % 10 := Int.tmod_eq_emod_of_nonneg (by omega)
          have f2 : (r : Int).tdiv 10 = (r : Int) / 10 := Int.tdiv_eq_ediv_of_nonneg (by omega)
          have hrB := hC.rlt
          have hrB2 : r < 1000000000 := Nat.lt_of_lt_of_le hrB (show 10 ^ (9 - k) ≤ 1000000000 from (Nat.pow_le_pow_right (by omega) (by omega) : 10 ^ (9 - k) ≤ 10 ^ 9))
          have f3 : IntKind.u64.wrap (48 + (r : Int) % 10) = 48 + (r : Int) % 10 := by rw [IntKind.wrap_u64]; omega
          have f4 : IntKind.u8.wrap (48 + (r : Int) % 10) = 48 + (r : Int) % 10 := by rw [IntKind.wrap_u8]; omega
          have f5 : IntKind.u64.wrap ((r : Int) / 10) = (r : Int) / 10 := by rw [IntKind.wrap_u64]; omega
          have e1 : (48 + (r : Int) % 10) = (((r % 10 + 48) : Nat) : Int) := by omega
          have HE := Lib.hid e1
          have b1 : decide ((k : Int) < 9) = true := decide_eq_true (by omega)
          have hpc := hp.cell
          have HZ := Lib.hid (zero_any (some ⟨g2, 0, none⟩) n2 c2 X wr hr.dx)
          have HR := Lib.hid hr
          have HV := Lib.hid hv
          have HP := Lib.hid hp
          have hcase : 0 < r ∨ (r = 0 ∧ 0 < X) := by omega
          clear hr hC hor hrB hrB2 e1 hv hp
          rcases hcase with h1 | ⟨h1, h2⟩
          · have b2 : decide ((0 : Int) < (r : Int)) = true := decide_eq_true (by omega)
            go_wp2_with (at_builtin; refine wpList_append_any _ rfl (.tmp 32) (.tmp 37) _ rfl w.heap.size 5 i0 _ 1 1 Tryz.underlying22 hi0 hz0 hz1 hz2 rfl (by omega) (.slice Av L cv) L (bv D) rfl (HR.out.own.alloc _) (wr.heap.size + 1) (some ⟨wr.heap.size, 0, none⟩) 1 1 [.int .u8 (48 + (r : Int) % 10)] rfl (Go.Proofs.YtfgnleoaibcegaaGreat.one_read _ _ _) (by simp [Value.oneCell']) (by unfold maxLen; omega) (by omega) (by have := HR.out.bel.size; simp; omega) ?_; intro v1 w4 hown4 hg4 hat4; have HR4 := Lib.hid (HR.out.append (by rw [← HE.out]; exact hown4) hg4 hat4); have HV4 := Lib.hid ((HV.out.al _).grown (HR.out.own.alloc _) hg4 (by decide)); have HP4 := Lib.hid ((HP.out.al _).grown (HR.out.own.alloc _) hg4 (by decide)); obtain ⟨Av1, cv1, rfl⟩ := own_slice hown4)
            refine ⟨⟨Av1, cv1, L + 1, _, r / 10, k + 1, rfl, by go_num, by go_num, HN.out, HR4.out, HV4.out, HP4.out⟩, ?_⟩
            simp [intOf]; omega
          · have b2 : decide ((0 : Int) < (r : Int)) = false := decide_eq_false (by omega)
            have b3 : decide (X = 0) = false := decide_eq_false (by omega)
            have c2 : decide (0 < r) = false := decide_eq_false (by omega)
            have d2 : ¬ 0 < r := by omega
            go_wp2_with fail
            refine HZ.out.mono ?_
            rintro e w5 ⟨rfl, hb5⟩
            have hr5 := HR.out.below hb5
            have hv5 := HV.out.below (T := 30) hb5
            have hp5 := HP.out.below (T := 30) hb5
            clear HR HV HP HZ hpc hb5
            have HR := Lib.hid hr5; have HV := Lib.hid hv5; have HP := Lib.hid hp5
            clear hr5 hv5 hp5 h1
            clear wr
            rename World => wr
            go_wp2_with (at_builtin; refine wpList_append_any _ rfl (.tmp 32) (.tmp 37) _ rfl w.heap.size 5 i0 _ 1 1 Tryz.underlying22 hi0 hz0 hz1 hz2 rfl (by omega) (.slice Av L cv) L (bv D) rfl (HR.out.own.alloc _) (wr.heap.size + 1) (some ⟨wr.heap.size, 0, none⟩) 1 1 [.int .u8 (48 + (r : Int) % 10)] rfl (Go.Proofs.YtfgnleoaibcegaaGreat.one_read _ _ _) (by simp [Value.oneCell']) (by unfold maxLen; omega) (by omega) (by have := HR.out.bel.size; simp; omega) ?_; intro v1 w4 hown4 hg4 hat4; have HR4 := Lib.hid (HR.out.append (by rw [← HE.out]; exact hown4) hg4 hat4); have HV4 := Lib.hid ((HV.out.al _).grown (HR.out.own.alloc _) hg4 (by decide)); have HP4 := Lib.hid ((HP.out.al _).grown (HR.out.own.alloc _) hg4 (by decide)); obtain ⟨Av1, cv1, rfl⟩ := own_slice hown4)
            refine ⟨⟨Av1, cv1, L + 1, _, r / 10, k + 1, rfl, by go_num, by go_num, HN.out, HR4.out, HV4.out, HP4.out⟩, ?_⟩
            simp [intOf]; omega
        · have hstop : k = 9 ∨ (r = 0 ∧ X = 0) := by have := hC.k9; omega
          have HT := Lib.hid (hC.stop hstop)
          have hkk := hC.k9
          have hpc := hp.cell
          have hvc := hv.cell
          have hvf := hv.fr
          have HZ := Lib.hid (zero_any (some ⟨g2, 0, none⟩) n2 c2 X wr hr.dx)
          have HR := Lib.hid hr
          have HV := Lib.hid hv
          have HP := Lib.hid hp
          clear hr hC hv hp hgo
          by_cases hk : k = 9
          · have b1 : decide ((k : Int) < 9) = false := decide_eq_false (by omega)
            clear hstop
            go_wp2_with fail
            go_roundg X
            case measure => exact HLT.out
            case rel => exact ⟨Av, cv, L, D, _, _, _, rfl, HT.out, HR.out.box (Nat.le_refl _) HV.out (by decide), HV.out.set_ _⟩
          · obtain ⟨hr0, hX0⟩ : r = 0 ∧ X = 0 := by omega
            have b1 : decide ((k : Int) < 9) = true := decide_eq_true (by omega)
            have b2 : decide ((0 : Int) < (r : Int)) = false := decide_eq_false (by omega)
            have c2 : decide (0 < r) = false := decide_eq_false (by omega)
            have d2 : ¬ 0 < r := by omega
            have b3 : decide (X = 0) = true := decide_eq_true hX0
            clear hstop
            go_wp2_with fail
            refine HZ.out.mono ?_
            rintro e w5 ⟨rfl, hb5⟩
            have hr5 := HR.out.below hb5
            have hv5 := HV.out.below (T := 30) hb5
            have hp5 := HP.out.below (T := 30) hb5
            clear HR HV HP HZ hpc hb5 hvc hvf
            have hpc := hp5.cell
            have hvc := hv5.cell
            have hvf := hv5.fr
            have HR := Lib.hid hr5; have HV := Lib.hid hv5; have HP := Lib.hid hp5
            clear hr5 hv5 hp5
            go_wp2_with fail
            go_roundg X
            case measure => exact HLT.out
            case rel => exact ⟨Av, cv, L, D, _, _, _, rfl, HT.out, HR.out.box (Nat.le_refl _) HV.out (by decide), HV.out.set_ _⟩
end Ref

end Go.Proofs.YtfgnleoaibcegaaGreat
