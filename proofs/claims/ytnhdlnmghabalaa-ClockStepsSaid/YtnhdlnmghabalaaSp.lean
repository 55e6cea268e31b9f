import Derived.Test.YtnhdlnmghabalaaC5
import Derived.Test.YtnhdlnmghabalaaFr
import Derived.Laws.Bits128
import Derived.Deep.DeepMust
set_option linter.unusedVariables false
set_option linter.unusedSimpArgs false
namespace Go.Proofs.Ytnhdlnmghabalaa
open Go.RowKit

theorem and7 (n : Int) : bits .and .i64 n 7 = n % 8 := by
  have h7 : (BitVec.ofInt 64 7).toNat = 2 ^ 3 - 1 := by decide
  have key : (BitVec.ofInt 64 n &&& BitVec.ofInt 64 7).toNat = (n % ((2 ^ 64 : Nat) : Int)).toNat % 2 ^ 3 := by
    rw [BitVec.toNat_and, BitVec.toNat_ofInt, h7, Nat.and_two_pow_sub_one_eq_mod]
  show IntKind.i64.wrap ((BitVec.ofInt 64 n &&& BitVec.ofInt 64 7).toNat : Nat) = n % 8
  rw [key, IntKind.wrap_i64]
  omega

theorem own_base_ {w : World} {base : Nat} {e : TypeId} {size n : Nat} {v : Value} {xs : List Value} (h : w.ownsRow base e size v n xs) (k : Nat) (hk : v.ownBlock = some k) : base ≤ k := (h.lt k hk).1
theorem marks_read (w : World) (B : Nat) (hB : w.heap.size < B) : Reads (w.alloc (.cells #[.int .i64 (-77), .int .i64 (-78)] 3)) B 1 (some ⟨w.heap.size, 0, none⟩) 2 [.int .i64 (-77), .int .i64 (-78)] := by
  refine ⟨rfl, fun _ => ⟨_, rfl, hB, fun j u hu => ?_⟩⟩
  have := (Blk.new w 3 #[.int .i64 (-77), .int .i64 (-78)]).cell j
  rw [Addr.add_lit, Nat.zero_add, this, ← hu]
  match j with
  | 0 => rfl
  | 1 => rfl
  | j + 2 => rfl

/-- What the list that was handed in has become: its marks stand, whatever else was written. -/
structure SpMade (w0 : World) (g c : Nat) (N : Nat) (wr : World) : Prop where
  row : ∃ cur : Array Value, wr.heap[g]? = some (.cells cur 3 (0, 0)) ∧ N + 2 ≤ c ∧ c ≤ maxLen ∧ cur.size = c ∧ cur[N]? = some (.int .i64 (-77)) ∧ cur[N + 1]? = some (.int .i64 (-78))
  base : w0.heap.size ≤ g
  bel : Below w0.heap.size w0 wr

theorem sp_made {w w1 w2 : World} {v1 v2 : Value} {N : Nat} {l : List Int} (hl : l.length = N) (h1 : w1.ownsRow w.heap.size 3 1 v1 (0 + N) ([] ++ ints l)) (hb1 : Below w.heap.size w w1)
    (h2 : w2.ownsRow w.heap.size 3 1 v2 (0 + N + 2) ([] ++ ints l ++ [.int .i64 (-77), .int .i64 (-78)])) (hg : (w1.alloc (.cells #[.int .i64 (-77), .int .i64 (-78)] 3)).grownBy w2 v1.ownBlock) :
    ∃ g c2, v2 = .slice (some ⟨g, 0, none⟩) (N + 2) c2 ∧ (SpMade w g c2 N w2 ∧ N + 2 ≤ c2 ∧ g < w2.heap.size ∧ Reads w2 w2.heap.size 1 (some ⟨g, 0, none⟩) N (ints l)) := by
  rcases h2.2 with ⟨_, h0⟩ | ⟨g, cap, cur, rfl, hb, hh, hc1, hc2, hsz, htk⟩
  · omega
  · have hN : (ints l).length = N := by rw [ints_length]; exact hl
    have hget : ∀ (j : Nat) (u : Value), (ints l ++ [.int .i64 (-77), .int .i64 (-78)])[j]? = some u → cur[j]? = some u := by
      intro j u hu
      have hj := (List.getElem?_eq_some_iff.1 hu).1
      rw [List.nil_append] at htk
      rw [← htk, List.getElem?_take] at hu
      split at hu
      · simpa using hu
      · cases hu
    refine ⟨g, cap, by rw [Nat.zero_add], ⟨⟨cur, hh, by omega, hc2, by omega, hget N _ ?_, hget (N + 1) _ ?_⟩, hb, ?_⟩, by omega, (Array.getElem?_eq_some_iff.1 hh).1, ⟨by rw [hN]; omega, fun hn => ⟨_, rfl, (Array.getElem?_eq_some_iff.1 hh).1, fun j u hu => ?_⟩⟩⟩
    · rw [List.getElem?_append_right (by omega)]; simp [hN]
    · rw [List.getElem?_append_right (by omega)]; simp [hN]
    · exact (hb1.alloc hb1.size _).grown hg (by have := hb1.size; simp; omega) (fun k hk => own_base_ h1 k hk)
    · rw [Addr.add_lit, Nat.zero_add, cell_of_row w2 g j cur 3 (0, 0) hh]
      refine hget j u ?_
      rw [List.getElem?_append_left (List.getElem?_eq_some_iff.1 hu).1]
      exact hu

theorem SpMade.set_ {w wr : World} {g c N k : Nat} {u : Value} (h : SpMade w g c N wr) (hk : k < N) : SpMade w g c N (wr.setCell ⟨g, k, none⟩ u) := by
  obtain ⟨⟨cur, hh, h1, h2, h3, h4, h5⟩, hb, hbel⟩ := h
  refine ⟨⟨cur.setIfInBounds k u, ?_, h1, h2, by simpa using h3, ?_, ?_⟩, hb, hbel.setCell hb _⟩
  · exact Blk.set_ (show Blk wr g 3 cur from hh) k u
  · rw [Array.getElem?_setIfInBounds_ne (by omega)]; exact h4
  · rw [Array.getElem?_setIfInBounds_ne (by omega)]; exact h5
theorem SpMade.has {w wr : World} {g c N k : Nat} (h : SpMade w g c N wr) (hk : k < N) : ∃ v, wr.cell? ⟨g, k, none⟩ = some v := by
  obtain ⟨⟨cur, hh, h1, h2, h3, h4, h5⟩, hb, hbel⟩ := h
  exact ⟨cur[k]'(by omega), by rw [cell_of_row wr g k cur 3 (0, 0) hh]; exact Array.getElem?_eq_getElem _⟩
theorem SpMade.free {w wr : World} {g c N k : Nat} (h : SpMade w g c N wr) : wr.frozen? ⟨g, k, none⟩ = false := by
  obtain ⟨⟨cur, hh, _⟩, _⟩ := h
  exact Blk.frozen (show Blk wr g 3 cur from hh) k
theorem SpMade.marks {w wr : World} {g c N : Nat} (h : SpMade w g c N wr) : wr.cell? ⟨g, N, none⟩ = some (.int .i64 (-77)) ∧ wr.cell? ⟨g, N + 1, none⟩ = some (.int .i64 (-78)) := by
  obtain ⟨⟨cur, hh, h1, h2, h3, h4, h5⟩, hb, hbel⟩ := h
  exact ⟨by rw [cell_of_row wr g N cur 3 (0, 0) hh]; exact h4, by rw [cell_of_row wr g (N + 1) cur 3 (0, 0) hh]; exact h5⟩
theorem SpMade.lt {w wr : World} {g c N : Nat} (h : SpMade w g c N wr) : g < wr.heap.size := by
  obtain ⟨⟨cur, hh, _⟩, _⟩ := h
  exact (Array.getElem?_eq_some_iff.1 hh).1
theorem SpMade.below {w wr w1 : World} {g c N B : Nat} (h : SpMade w g c N wr) (hb : Below B wr w1) (hB : g < B) (hw : w.heap.size ≤ B) : SpMade w g c N w1 := by
  obtain ⟨⟨cur, hh, r⟩, hg, hbel⟩ := h
  exact ⟨⟨cur, (hb.block g hB).trans hh, r⟩, hg, hbel.trans (hb.mono hw)⟩
theorem StepsAt.set_below {w : World} {base s : Nat} {l : List Int} {i : Nat} (h : StepsAt w base s l i) {g k : Nat} {u : Value} (hg : g < base) : StepsAt (w.setCell ⟨g, k, none⟩ u) base s l i := by
  obtain ⟨v, h1, h2, h4, h5⟩ := h.out
  exact ⟨⟨v, h1, h2.far (p := ⟨g, k, none⟩) (by simp; omega) _, ownsRow_setCell_below h4 hg _, h5⟩⟩

/-- Both, in the loops. -/
structure SpRel (w0 : World) (g c N s B : Nat) (l : List Int) (i : Nat) (wr : World) : Prop where
  made : SpMade w0 g c N wr
  st : StepsAt wr B s l i
  gB : g < B
  wB : w0.heap.size ≤ B
  lN : l.length = N

theorem SpRel.next {w0 wr w4 : World} {g c N s B k : Nat} {l : List Int} (h : SpRel w0 g c N s B l (min k (l.length - 1)) wr) (h1 : StepsAt w4 B s l (nextAt l (min k (l.length - 1)))) (h2 : wr.grownBy w4 (some s)) :
    SpRel w0 g c N s B l (min (k + 1) (l.length - 1)) w4 := by
  have hs := h.st.base_
  refine ⟨?_, ?_, h.gB, h.wB, h.lN⟩
  · exact h.made.below (below_of_grown h2 hs.1 (by omega)) h.gB h.wB
  · have e : nextAt l (min k (l.length - 1)) = min (k + 1) (l.length - 1) := by
      unfold nextAt
      by_cases hl : l = []
      · rw [if_pos hl]; subst hl; simp
      · rw [if_neg hl]
        have : 0 < l.length := List.length_pos_iff.2 hl
        omega
    rwa [e] at h1

theorem sp_start {w w2 w3 : World} {g c N s : Nat} {v : Value} {l : List Int} (hM : SpMade w g c N w2) (hl : l.length = N) (h0 : w2.heap.size ≤ s) (h1 : Blk w3 s 62 #[v, .int .i64 0]) (h2 : w3.ownsRow w2.heap.size 3 1 v N (ints l)) (h3 : Below w2.heap.size w2 w3) :
    SpRel w g c N s w2.heap.size l 0 w3 :=
  ⟨hM.below h3 hM.lt hM.bel.size, ⟨⟨v, h0, h1, by rw [hl]; exact h2, by
    rcases Nat.eq_zero_or_pos l.length with h | h
    · exact .inl (List.eq_nil_of_length_eq_zero h)
    · exact .inr h⟩⟩, hM.lt, hM.bel.size, hl⟩

theorem told_any (A : Option Addr) (n c k B : Nat) (l : List Int) (w : World) (hr : Reads w B 1 A n (ints l)) (hl : l.length = n) (hn : n ≤ 17592186043904) (hk : k ≤ 17592186043904) :
    Calls Try.prog 9 #[.slice A n c, .int .i64 k] w fun e w' => e = .returned (.int .i64 (toldAt l (min k (l.length - 1)))) ∧ w = w' := by
  rcases Nat.eq_zero_or_pos n with h0 | h0
  · subst h0
    obtain rfl : l = [] := List.eq_nil_of_length_eq_zero hl
    exact told_nil A c _ w
  · obtain ⟨g, off, rfl, hg, hc⟩ := hr.flat h0 (by omega)
    refine told_some g off n c k _ w hn hk h0 ?_
    rw [hl]
    exact hc _ _ (ints_get l _ (by omega))

set_option maxRecDepth 100000 in
set_option maxHeartbeats 1000000 in
theorem steps_big (A : Option Addr) (n c : Nat) (l : List Int) (more : Int) (w : World) (hr : Reads w w.heap.size 1 A 300 (ints l)) (hl : l.length = 300) (hbig : 300 < n) (hnc : n ≤ c) (hn : n ≤ 17592186043904) :
    Calls Try.prog 3 #[.slice A n c, .int .i64 more] w fun e w' => e = .returned (.bool true) ∧ Below w.heap.size w w' := by
  obtain ⟨i0, hi0, hz0, hz1, hz2⟩ := info_parts int_info
  have HL := Lib.hid hl
  clear hl
  go_enter Try.func3, Try.ntmps3
  go_wp2_with (first
    | (at_builtin; refine wpList_append_any _ rfl (.tmp 16) (.tmp 17) _ rfl w.heap.size 3 i0 _ 1 8 Try.underlying22 hi0 hz0 hz1 hz2 rfl (by omega) (.slice none 0 0) 0 [] rfl ⟨by simp, .inl ⟨rfl, rfl⟩⟩ w.heap.size A 300 c (ints l) rfl hr (ints_one _) (by unfold maxLen; omega) (by omega) (Nat.le_refl _) ?_; intro v1 w1 hown1 hg1 hat1; have hbw1 : Below w.heap.size w w1 := (Below.refl _ _).grown hg1 (Nat.le_refl _) (by simp [Value.ownBlock]))
    | (at_builtin; refine wpList_append_any _ rfl (.tmp 19) (.tmp 20) _ rfl w.heap.size 3 i0 _ 1 8 Try.underlying22 hi0 hz0 hz1 hz2 rfl (by omega) v1 (0 + 300) ([] ++ ints l) rfl (hown1.alloc _) (w1.heap.size + 1) (some ⟨w1.heap.size, 0, none⟩) 2 2 [.int .i64 (-77), .int .i64 (-78)] rfl (marks_read w1 _ (by omega)) (by simp [Value.oneCell']) (by unfold maxLen; omega) (by omega) (by have := hbw1.size; simp; omega) ?_; intro v2 w2 hown2 hg2 hat2; obtain ⟨g, c2, hv2, hM, hc2, hglt, hR⟩ := sp_made HL.out hown1 hbw1 hown2 hg2; subst hv2; clear hown1 hown2 hg1 hg2 hat1 hat2))
  refine (newsteps_any _ _ _ (ints l) _ hR (ints_one _) (by omega)).mono ?_
  rintro e w3 ⟨s, v, rfl, hs0, hs1, hs2, hb3⟩
  go_wp2_with fail
  have hx0 := sp_start hM HL.out hs0 hs1 hs2 hb3
  clear hM hs0 hs1 hs2 hb3 hR hbw1 hc2 hglt
  generalize w2.heap.size = B at hx0
  have hcap : 300 + 2 ≤ c2 := by obtain ⟨⟨_, _, h, _⟩, _⟩ := hx0.made; exact h
  go_loopw [7] (fun i wr => ∃ k : Nat, k ≤ 300 ∧ i = .int .i64 k ∧ SpRel w g c2 300 s B l 0 wr) (fun i _ => 300 - (intOf i).toNat)
  case atStart => exact ⟨0, by omega, rfl, hx0⟩
  case round =>
    clear hx0
    obtain ⟨k, hk, rfl, hx⟩ := hrel
    by_cases hlt : k < 300
    · obtain ⟨v0, hv0⟩ := hx.made.has hlt
      have hfz : wr.frozen? ⟨g, k, none⟩ = false := hx.made.free
      go_wp2
      go_roundw
      case rel => exact ⟨k + 1, by omega, by go_num, hx.made.set_ hlt, hx.st.set_below hx.gB, hx.gB, hx.wB, hx.lN⟩
      case measure => simp [intOf]; omega
    · have hk3 : 300 ≤ k := by omega
      clear hlt
      go_wp2_with fail
      have hq : bits BinOp.and .i64 more 7 = more % 8 := and7 more
      have hq0 : 0 ≤ bits BinOp.and .i64 more 7 := by omega
      have hq7 : bits BinOp.and .i64 more 7 ≤ 7 := by omega
      clear hq
      go_loopw [8] (fun i wr => ∃ k : Nat, k ≤ 307 ∧ i = .int .i64 k ∧ SpRel w g c2 300 s B l (min k (l.length - 1)) wr) (fun i _ => 400 - (intOf i).toNat)
      case atStart => exact ⟨0, by omega, rfl, by rw [show min 0 (l.length - 1) = 0 from by omega]; exact hx⟩
      case round =>
        clear hx
        rename_i wr0 wr
        have k0 : Nat := k
        obtain ⟨k, hk, rfl, hx⟩ := hrel
        by_cases ht : (k : Int) < 300 + bits BinOp.and .i64 more 7
        · go_wp2_with (first
            | (go_at_call 8; refine (stepsnow_any s B l _ _ hx.st (by rw [HL.out]; omega)).mono ?_; rintro e w4 ⟨rfl, q1, q2⟩; have hx4 := hx.next q1 q2; have hr4 := hr.below hx4.made.bel)
            | (go_at_call 9; refine (told_any A 300 c k _ l _ hr4 HL.out (by omega) (by omega)).mono ?_; rintro e w5 ⟨rfl, rfl⟩))
          go_roundw
          case rel => exact ⟨k + 1, by omega, by go_num, hx4⟩
          case measure => simp [intOf]; omega
        · have hm := hx.made.marks
          have hb := hx.made.bel
          have hcap2 := hcap
          have hmf := fun (fn : Fn) (first cap : Array Value) (w : World) => (show (Instr.makeFunc fn first cap).run Try.prog w = .ok (.func fn first cap) w from rfl)
          go_wp2_with fail
          have hk6 := Blk.new wr 29 #[.int .i64 more, .int .i64 0]
          refine (funcnow_any wr.heap.size more 0 _ (hk6.cell 0) (hk6.cell 1) (hk6.frozen 1) (by omega) (by omega)).mono ?_
          rintro e w6 ⟨rfl, hw6⟩
          have hk7 := hk6.set_ 1 (.int .i64 (0 + 1))
          have hb6 : Below wr.heap.size wr w6 := by rw [← hw6]; exact ((Below.refl _ _).alloc (Nat.le_refl _) _).setCell (Nat.le_refl _) _
          rw [hw6] at hk7
          clear hw6 hk6
          go_wp2_with fail
          refine (funcnow_any wr.heap.size more 1 _ (hk7.cell 0) (hk7.cell 1) (hk7.frozen 1) (by omega) (by omega)).mono ?_
          rintro e w7 ⟨rfl, hw7⟩
          have hk8 := hk7.set_ 1 (.int .i64 (1 + 1))
          have hb7 : Below wr.heap.size wr w7 := by rw [← hw7]; exact hb6.setCell (Nat.le_refl _) _
          rw [hw7] at hk8
          clear hw7 hk7 hb6
          have e1 : w7.cell? ⟨wr.heap.size, 1, none⟩ = some (.int .i64 2) := hk8.cell 1
          have hgl := hx.made.lt
          have e2 : w7.cell? ⟨g, 300, none⟩ = some (.int .i64 (-77)) := by rw [hb7.cell hgl]; exact hm.1
          have e3 : w7.cell? ⟨g, 301, none⟩ = some (.int .i64 (-78)) := by rw [hb7.cell hgl]; exact hm.2
          have hbb := hb.trans (hb7.mono hb.size)
          clear hk8 hb7 hm hx
          go_wp2_with (first
            | (go_at_call 11; refine (funcnow_nil _).mono ?_; rintro e w8 ⟨rfl, rfl⟩)
            | (go_at_call 12; refine (started_any _).mono ?_; rintro e w9 ⟨rfl, hb9⟩))
          go_ret
          exact ⟨rfl, hbb.trans (hb9.mono hbb.size)⟩
set_option maxRecDepth 100000 in
set_option maxHeartbeats 1000000 in
theorem steps_small (A : Option Addr) (n c : Nat) (l : List Int) (more : Int) (w : World) (hr : Reads w w.heap.size 1 A n (ints l)) (hl : l.length = n) (hsm : n ≤ 300) (hnc : n ≤ c) (hn : n ≤ 17592186043904) :
    Calls Try.prog 3 #[.slice A n c, .int .i64 more] w fun e w' => e = .returned (.bool true) ∧ Below w.heap.size w w' := by
  obtain ⟨i0, hi0, hz0, hz1, hz2⟩ := info_parts int_info
  have HL := Lib.hid hl
  clear hl
  go_enter Try.func3, Try.ntmps3
  go_wp2_with (first
    | (at_builtin; refine wpList_append_any _ rfl (.tmp 16) (.tmp 17) _ rfl w.heap.size 3 i0 _ 1 8 Try.underlying22 hi0 hz0 hz1 hz2 rfl (by omega) (.slice none 0 0) 0 [] rfl ⟨by simp, .inl ⟨rfl, rfl⟩⟩ w.heap.size A n c (ints l) rfl hr (ints_one _) (by unfold maxLen; omega) (by omega) (Nat.le_refl _) ?_; intro v1 w1 hown1 hg1 hat1; have hbw1 : Below w.heap.size w w1 := (Below.refl _ _).grown hg1 (Nat.le_refl _) (by simp [Value.ownBlock]))
    | (at_builtin; refine wpList_append_any _ rfl (.tmp 19) (.tmp 20) _ rfl w.heap.size 3 i0 _ 1 8 Try.underlying22 hi0 hz0 hz1 hz2 rfl (by omega) v1 (0 + n) ([] ++ ints l) rfl (hown1.alloc _) (w1.heap.size + 1) (some ⟨w1.heap.size, 0, none⟩) 2 2 [.int .i64 (-77), .int .i64 (-78)] rfl (marks_read w1 _ (by omega)) (by simp [Value.oneCell']) (by unfold maxLen; omega) (by omega) (by have := hbw1.size; simp; omega) ?_; intro v2 w2 hown2 hg2 hat2; obtain ⟨g, c2, hv2, hM, hc2, hglt, hR⟩ := sp_made HL.out hown1 hbw1 hown2 hg2; subst hv2; clear hown1 hown2 hg1 hg2 hat1 hat2))
  refine (newsteps_any _ _ _ (ints l) _ hR (ints_one _) (by omega)).mono ?_
  rintro e w3 ⟨s, v, rfl, hs0, hs1, hs2, hb3⟩
  go_wp2_with fail
  have hx0 := sp_start hM HL.out hs0 hs1 hs2 hb3
  clear hM hs0 hs1 hs2 hb3 hR hbw1 hc2 hglt
  generalize w2.heap.size = B at hx0
  have hcap : n + 2 ≤ c2 := by obtain ⟨⟨_, _, h, _⟩, _⟩ := hx0.made; exact h
  go_loopw [7] (fun i wr => ∃ k : Nat, k ≤ n ∧ i = .int .i64 k ∧ SpRel w g c2 n s B l 0 wr) (fun i _ => n - (intOf i).toNat)
  case atStart => exact ⟨0, by omega, rfl, hx0⟩
  case round =>
    clear hx0
    obtain ⟨k, hk, rfl, hx⟩ := hrel
    by_cases hlt : k < n
    · obtain ⟨v0, hv0⟩ := hx.made.has hlt
      have hfz : wr.frozen? ⟨g, k, none⟩ = false := hx.made.free
      go_wp2
      go_roundw
      case rel => exact ⟨k + 1, by omega, by go_num, hx.made.set_ hlt, hx.st.set_below hx.gB, hx.gB, hx.wB, hx.lN⟩
      case measure => simp [intOf]; omega
    · have hk3 : n ≤ k := by omega
      have hkd : decide (k < n) = false := by simp; omega
      clear hlt
      go_wp2_with fail
      have hq : bits BinOp.and .i64 more 7 = more % 8 := and7 more
      have hq0 : 0 ≤ bits BinOp.and .i64 more 7 := by omega
      have hq7 : bits BinOp.and .i64 more 7 ≤ 7 := by omega
      clear hq
      go_loopw [8] (fun i wr => ∃ k : Nat, k ≤ n + 7 ∧ i = .int .i64 k ∧ SpRel w g c2 n s B l (min k (l.length - 1)) wr) (fun i _ => n + 100 - (intOf i).toNat)
      case atStart => exact ⟨0, by omega, rfl, by rw [show min 0 (l.length - 1) = 0 from by omega]; exact hx⟩
      case round =>
        clear hx
        rename_i wr0 wr
        have k0 : Nat := k
        obtain ⟨k, hk, rfl, hx⟩ := hrel
        by_cases ht : (k : Int) < n + bits BinOp.and .i64 more 7
        · go_wp2_with (first
            | (go_at_call 8; refine (stepsnow_any s B l _ _ hx.st (by rw [HL.out]; omega)).mono ?_; rintro e w4 ⟨rfl, q1, q2⟩; have hx4 := hx.next q1 q2; have hr4 := hr.below hx4.made.bel)
            | (go_at_call 9; refine (told_any A n c k _ l _ hr4 HL.out (by omega) (by omega)).mono ?_; rintro e w5 ⟨rfl, rfl⟩))
          go_roundw
          case rel => exact ⟨k + 1, by omega, by go_num, hx4⟩
          case measure => simp [intOf]; omega
        · have hm := hx.made.marks
          have hb := hx.made.bel
          have hcap2 := hcap
          have hmf := fun (fn : Fn) (first cap : Array Value) (w : World) => (show (Instr.makeFunc fn first cap).run Try.prog w = .ok (.func fn first cap) w from rfl)
          go_wp2_with fail
          have hk6 := Blk.new wr 29 #[.int .i64 more, .int .i64 0]
          refine (funcnow_any wr.heap.size more 0 _ (hk6.cell 0) (hk6.cell 1) (hk6.frozen 1) (by omega) (by omega)).mono ?_
          rintro e w6 ⟨rfl, hw6⟩
          have hk7 := hk6.set_ 1 (.int .i64 (0 + 1))
          have hb6 : Below wr.heap.size wr w6 := by rw [← hw6]; exact ((Below.refl _ _).alloc (Nat.le_refl _) _).setCell (Nat.le_refl _) _
          rw [hw6] at hk7
          clear hw6 hk6
          go_wp2_with fail
          refine (funcnow_any wr.heap.size more 1 _ (hk7.cell 0) (hk7.cell 1) (hk7.frozen 1) (by omega) (by omega)).mono ?_
          rintro e w7 ⟨rfl, hw7⟩
          have hk8 := hk7.set_ 1 (.int .i64 (1 + 1))
          have hb7 : Below wr.heap.size wr w7 := by rw [← hw7]; exact hb6.setCell (Nat.le_refl _) _
          rw [hw7] at hk8
          clear hw7 hk7 hb6
          have e1 : w7.cell? ⟨wr.heap.size, 1, none⟩ = some (.int .i64 2) := hk8.cell 1
          have hgl := hx.made.lt
          have e2 : w7.cell? ⟨g, n, none⟩ = some (.int .i64 (-77)) := by rw [hb7.cell hgl]; exact hm.1
          have e3 : w7.cell? ⟨g, n + 1, none⟩ = some (.int .i64 (-78)) := by rw [hb7.cell hgl]; exact hm.2
          have hbb := hb.trans (hb7.mono hb.size)
          clear hk8 hb7 hm hx
          go_wp2_with (first
            | (go_at_call 11; refine (funcnow_nil _).mono ?_; rintro e w8 ⟨rfl, rfl⟩)
            | (go_at_call 12; refine (started_any _).mono ?_; rintro e w9 ⟨rfl, hb9⟩))
          go_ret
          exact ⟨rfl, hbb.trans (hb9.mono hbb.size)⟩
theorem clockSteps_walk (A : Option Addr) (n c : Nat) (l : List Int) (more : Int) (w : World) (hin : InI .i64 8 1 w A n c l) (hmore : (Lit.int .i64 more).wf = true) :
    Calls Try.prog 3 #[.slice A n c, .int .i64 more] w fun e w' => e = .returned (.bool true) ∧ Below w.heap.size w w' := by
  have hn : n ≤ 17592186043904 := by have := hin.reach; have := hin.le; omega
  have hl : l.length = n := by have := hin.reads.1; simpa using this
  have hr : Reads w w.heap.size 1 A n (ints l) := hin.reads
  by_cases hb : 300 < n
  · refine steps_big A n c (l.take 300) more w ⟨by simp [ints, hl]; omega, fun _ => ?_⟩ (by simp [hl]; omega) hb hin.le hn
    obtain ⟨ad, h1, h2, h3⟩ := hr.2 (by omega)
    refine ⟨ad, h1, h2, fun j u hu => h3 j u ?_⟩
    rw [ints, List.map_take, List.getElem?_take] at hu
    split at hu
    · exact hu
    · cases hu
  · exact steps_small A n c l more w hr hl (by omega) hin.le hn
end Go.Proofs.Ytnhdlnmghabalaa
