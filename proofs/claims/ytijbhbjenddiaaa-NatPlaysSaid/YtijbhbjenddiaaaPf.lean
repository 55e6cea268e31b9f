/-
  Walks and plain laws, put together: WI SA SB SC SD SE SF SG ST.
-/
import Derived.Test.YtijbhbjenddiaaaPc
import Derived.Test.YtijbhbjenddiaaaBB
import Derived.Below
import Derived.Orders
import Derived.Tactics
import Derived.KernelRfl
import Derived.Test.YtijbhbjenddiaaaR
import Derived.Test.YtijbhbjenddiaaaAX
import Derived.Test.YtijbhbjenddiaaaAZ
import Derived.Test.YtijbhbjenddiaaaBA
set_option linter.unusedVariables false
set_option linter.unusedSimpArgs false
namespace Go.Proofs.Ytijbhbjenddiaaa
open Go.RowKit

theorem Bw.take {w : World} {g : Nat} {l : List Nat} (h : Bw w g l) (m : Nat) : Bw w g (l.take m) := by
  obtain ⟨t, h⟩ := h
  refine ⟨bv (l.drop m) ++ t, ?_⟩
  rw [← List.append_assoc, ← bv_append, List.take_append_drop]
  exact h
/-- A literal of bytes. -/
theorem lit_read (w : World) (l : List Nat) (t : TypeId) : Reads (w.alloc (.cells (bv l).toArray t)) (w.heap.size + 1) 1 (some ⟨w.heap.size, 0, none⟩) l.length (bv l) :=
  ⟨by rw [bv_length]; omega, fun _ => ⟨_, rfl, Nat.lt_succ_self _, fun j v hv => by
    rw [Addr.add_lit, Nat.zero_add, (Blk.new w t (bv l).toArray).cell j, List.getElem?_toArray]; exact hv⟩⟩

theorem Bw.bat {w : World} {g n : Nat} {l : List Nat} (h : Bw w g l) (hn : l.length = n) (hb : ∀ d ∈ l, d < 256) (c : Nat) : BAt w (some ⟨g, 0, none⟩) n c l :=
  ⟨⟨by rw [bv_length]; omega, fun _ => ⟨_, rfl, h.lt, fun j u hu => by
    have hj : j < l.length := by have := (List.getElem?_eq_some_iff.1 hu).1; rw [bv_length] at this; omega
    rw [Addr.add_lit, Nat.zero_add, h.cell hj, ← hu, bv_get _ j hj]⟩⟩, hb⟩

set_option maxRecDepth 100000 in
set_option maxHeartbeats 4000000 in
theorem wide_any (A : Option Addr) (n c : Nat) (l : List Nat) (w : World) (h : BAt w A n c l) (hn : n ≤ 600) :
    Calls Try.prog 25 #[.slice A n c] w fun e w' => ∃ g c2, e = .returned (.slice (some ⟨g, 0, none⟩) n c2) ∧ w.heap.size ≤ g ∧ Bw w' g (l ++ [201, 202, 203, 204, 205]) ∧ n + 5 ≤ c2 ∧ c2 ≤ maxLen ∧ Below w.heap.size w w' := by
  obtain ⟨i0, hi0, hz0, hz1, hz2⟩ := byte_parts
  have hlen := h.len
  have H := Lib.hid h.reads
  clear h
  go_enter Try.func25, Try.ntmps25
  go_wp2_with (first
    | (at_builtin; refine wpList_append_any _ rfl (.tmp 4) (.tmp 5) _ rfl w.heap.size 5 i0 _ 1 1 Try.underlying22 hi0 hz0 hz1 hz2 rfl (by omega) (.slice none 0 0) 0 [] rfl ⟨by simp, .inl ⟨rfl, rfl⟩⟩ w.heap.size A n c (bv l) rfl H.out (bv_one _) (by unfold maxLen; omega) (by omega) (Nat.le_refl _) ?_; intro v1 w1 hown1 hg1 hat1; have hbw1 : Below w.heap.size w w1 := (Below.refl _ _).grown hg1 (Nat.le_refl _) (by simp [Value.ownBlock]); have HO1 := Lib.hid hown1; have HB1 := Lib.hid hbw1; clear hown1 hg1 hat1 hbw1)
    | (at_builtin; refine wpList_append_any _ rfl (.tmp 7) (.tmp 8) _ rfl w.heap.size 5 i0 _ 1 1 Try.underlying22 hi0 hz0 hz1 hz2 rfl (by omega) v1 (0 + n) ([] ++ bv l) rfl (HO1.out.alloc _) (w1.heap.size + 1) (some ⟨w1.heap.size, 0, none⟩) 5 5 (bv [201, 202, 203, 204, 205]) rfl (lit_read w1 [201, 202, 203, 204, 205] _) (bv_one _) (by unfold maxLen; omega) (by omega) (by have := HB1.out.size; simp; omega) ?_; intro v2 w2 hown2 hg2 hat2; have hbw2 : Below w.heap.size w w2 := (aft_al HB1.out _).grown hg2 (by have := HB1.out.size; simp; omega) (fun k hk => (HO1.out.lt k hk).1); obtain ⟨g, c2, ev, hge, hBw, hl2, hc2, hm2⟩ := Bw.of_own (l := l ++ [201, 202, 203, 204, 205]) (by rw [bv_append]; simpa using hown2) (by omega); subst ev; have HBW := Lib.hid hBw; have HB2 := Lib.hid hbw2; clear hown2 hg2 hat2 hBw hbw2))
  exact bodyPost_ret (v := .slice (some ⟨g, 0, none⟩) n c2) (by simp [results, Try.results25, go_sem]) rfl ⟨g, c2, rfl, hge, HBW.out, by omega, hm2, HB2.out⟩
end Go.Proofs.Ytijbhbjenddiaaa

namespace Go.Proofs.Ytijbhbjenddiaaa.Rg
open Go.RowKit

/-- A kind that digits and bytes are of. -/
def digK : IntKind → Bool | .u64 => true | .u8 => true | _ => false
def notDig (v : Value) : Prop := ∀ (k : IntKind) (n : Int), digK k = true → v ≠ .int k n
/-- A block of n cells, none of them a digit. -/
def VarBlk (w : World) (p : Nat) (T : TypeId) (n : Nat) : Prop := ∃ cs : Array Value, cs.size = n ∧ (∀ x ∈ cs, notDig x) ∧ w.heap[p]? = some (.cells cs T (0, 0))
/-- Memory grows; what stood stays, but the blocks of the tag t (t not 0) may get other cells, so long as no digit lies there. -/
structure Grow (t : Nat) (γ : Nat → Nat) (w : World) (γ' : Nat → Nat) (w' : World) : Prop where
  os : w'.os = w.os
  tape : w'.tape = w.tape
  output : w'.output = w.output
  size : w.heap.size ≤ w'.heap.size
  tag : ∀ b, b < w.heap.size → γ' b = γ b
  block : ∀ b, b < w.heap.size → (t = 0 ∨ γ b ≠ t) → w'.heap[b]? = w.heap[b]?
  num : ∀ (a : Addr) (k : IntKind) (n : Int), digK k = true → w.cell? a = some (.int k n) → w'.cell? a = some (.int k n)
  var : ∀ (p : Nat) (T : TypeId) (n : Nat), VarBlk w p T n → VarBlk w' p T n

/-- What one operation's yield is known to be. -/
structure Rel where
  sub : Option Nat
  eff : Nat
  tag : Nat
  p : Value → (Nat → Nat) → World → Prop
  st : ∀ (t : Nat) (γ : Nat → Nat) (w : World) (γ' : Nat → Nat) (w' : World) (v : Value), (t = 0 ∨ t ≠ tag) → Grow t γ w γ' w' → p v γ w → p v γ' w'

/-- Elder variables' tags: from k on, in the list's order. -/
def tagOf : List Nat → Nat → Nat → Nat
  | [], _, _ => 0
  | m :: l, k, b => if b = m then k else tagOf l (k + 1) b
def mt (M : List Nat) (b : Nat) : Nat := if tagOf M 1000 b = 0 then 0 else 1
def RelC (M : List Nat) (W : World) (γ : Nat → Nat) (w : World) : Prop := Grow 1 (mt M) W (mt M) w ∧ ∀ b, b < W.heap.size → γ b = tagOf M 1000 b
theorem RelC.grow {M : List Nat} {W w w' : World} {t : Nat} {γ γ' : Nat → Nat} (h : RelC M W γ w) (g : Grow t γ w γ' w') : RelC M W γ' w' :=
  ⟨⟨g.os.trans h.1.os, g.tape.trans h.1.tape, g.output.trans h.1.output, Nat.le_trans h.1.size g.size, fun _ _ => rfl, fun b hb ht => by
      have h0 : tagOf M 1000 b = 0 := by
        rcases ht with ht | ht
        · cases ht
        · unfold mt at ht
          by_cases h0 : tagOf M 1000 b = 0
          · exact h0
          · rw [if_neg h0] at ht; exact absurd rfl ht
      rw [← h.1.block b hb ht]
      exact g.block b (Nat.lt_of_lt_of_le hb h.1.size) (by rw [h.2 b hb, h0]; omega),
     fun a k n hk ha => g.num a k n hk (h.1.num a k n hk ha), fun p T n hv => g.var p T n (h.1.var p T n hv)⟩,
   fun b hb => by rw [g.tag b (Nat.lt_of_lt_of_le hb h.1.size)]; exact h.2 b hb⟩

def valOf (ops : Array Oper) (a : Act) (i : Nat) : Value := match (ops[i]?).bind (·.dst) with
  | some t => a.tmps.getD t undef
  | none => undef
def Holds (ops : Array Oper) (rels : List Rel) (i : Nat) (a : Act) (γ : Nat → Nat) (w : World) : Prop := match rels[i]? with
  | some r => r.p (valOf ops a (r.sub.getD i)) γ w
  | none => True
structure Agree (ops : Array Oper) (a0 a : Act) : Prop where
  defers : a.defers = a0.defers
  size : a.tmps.size = a0.tmps.size
  same : ∀ t, (∀ o ∈ ops, o.dst ≠ some t) → a.tmps[t]? = a0.tmps[t]?

def waitsFor (o : Oper) (j : Nat) : Bool := o.after.toList.any fun e => Region.binds .any e && e.on == j
def relB (ops : Array Oper) (n : Nat) (rels : List Rel) : Bool :=
  (List.range ops.size).all fun i => match ops[i]?, rels[i]? with
    | some o, some r =>
      (match o.dst with
        | none => true
        | some d => decide (d < n) && (List.range ops.size).all fun j => j == i || !(((ops[j]?).bind (·.dst)) == some d)) &&
      (match r.sub with
        | none => true
        | some s => waitsFor o s) &&
      (o.after.all fun e => !Region.binds .any e || decide (e.on < i)) &&
      (List.range ops.size).all fun j => j == i || (match rels[j]? with
        | some rj => r.eff == 0 || !(r.eff == rj.tag) || (match ops[j]? with | some oj => waitsFor oj i | none => false)
        | none => true)
    | _, _ => false

def effOf (rels : List Rel) (i : Nat) : Nat := match rels[i]? with
  | some r => r.eff
  | none => 0
/-- What no operation has written that comes up ahead of number i. -/
def Early (ops : Array Oper) (a0 a : Act) (i : Nat) : Prop := ∀ t, (∀ o ∈ ops, o.dst = some t → waitsFor o i = true) → a.tmps[t]? = a0.tmps[t]?
/-- One operation does what its relation says, in whatever state it comes up. -/
def StepOk (P : Program) (ops : Array Oper) (a0 : Act) (M : List Nat) (W : World) (Q : Exit → Act → World → Prop) (rels : List Rel) (i : Nat) (o : Oper) : Prop :=
  ∀ (a : Act) (γ : Nat → Nat) (w : World) (K : Act → World → Prop), RelC M W γ w → Agree ops a0 a → Early ops a0 a i → (∀ j, waitsFor o j = true → Holds ops rels j a γ w) → (∀ b, b < W.heap.size → (∀ j, j ≠ i → j < ops.size → effOf rels j ≠ tagOf M 1000 b) → w.heap[b]? = W.heap[b]?) →
    (∀ v γ' w', Grow (effOf rels i) γ w γ' w' → Holds ops rels i (a.put o.dst v) γ' w' → K (a.put o.dst v) w') →
    if Region.wanted o (yielded ops a.tmps) = true then o.wp P a w K Q else K (a.put o.dst undef) w

section
variable {P : Program} {ops : Array Oper} {Q : Exit → Act → World → Prop} {a0 : Act} {M : List Nat} {W : World} {rels : List Rel} {listed : Array Bool} {a : Act} {γ : Nat → Nat} {w : World}

theorem relB_dst {n : Nat} (h : relB ops n rels = true) {i : Nat} {o : Oper} {d : Nat} (ho : ops[i]? = some o) (hd : o.dst = some d) : d < n ∧ ∀ j, j ≠ i → (ops[j]?).bind (·.dst) ≠ some d := by
  have hi : i < ops.size := (Array.getElem?_eq_some_iff.1 ho).1
  have h1 := List.all_eq_true.1 h i (List.mem_range.2 hi)
  rw [ho] at h1
  cases hr : rels[i]? with
  | none => simp [hr] at h1
  | some r =>
    rw [hr] at h1
    simp only [hd, Bool.and_eq_true, decide_eq_true_eq] at h1
    refine ⟨h1.1.1.1.1, fun j hj he => ?_⟩
    have hjs : j < ops.size := by
      rcases Nat.lt_or_ge j ops.size with h' | h'
      · exact h'
      · rw [Array.getElem?_eq_none h'] at he; cases he
    have h2 := List.all_eq_true.1 h1.1.1.1.2 j (List.mem_range.2 hjs)
    rw [he] at h2
    simp [hj] at h2
theorem relB_rel {n : Nat} (h : relB ops n rels = true) {i : Nat} {o : Oper} (ho : ops[i]? = some o) :
    ∃ r, rels[i]? = some r ∧ (∀ s, r.sub = some s → waitsFor o s = true) ∧ (∀ e ∈ o.after, Region.binds .any e = true → e.on < i) ∧ ∀ j rj, j ≠ i → j < ops.size → rels[j]? = some rj → r.eff = 0 ∨ r.eff ≠ rj.tag ∨ ∃ oj, ops[j]? = some oj ∧ waitsFor oj i = true := by
  have hi : i < ops.size := (Array.getElem?_eq_some_iff.1 ho).1
  have h1 := List.all_eq_true.1 h i (List.mem_range.2 hi)
  rw [ho] at h1
  cases hr : rels[i]? with
  | none => simp [hr] at h1
  | some r =>
    rw [hr] at h1
    simp only [Bool.and_eq_true] at h1
    refine ⟨r, rfl, fun s hs => ?_, fun e he hbe => ?_, fun j rj hj hjs hrj => ?_⟩
    · have := h1.1.1.2
      rwa [hs] at this
    · have := Array.all_eq_true_iff_forall_mem.1 h1.1.2 e he
      rw [hbe] at this
      simpa using this
    · have h2 := List.all_eq_true.1 h1.2 j (List.mem_range.2 hjs)
      rw [hrj] at h2
      rw [Array.getElem?_eq_getElem hjs] at h2 ⊢
      simp only [Bool.or_eq_true, beq_iff_eq, Bool.not_eq_true', hj, false_or] at h2
      rcases h2 with (h2 | h2) | h2
      · exact .inl h2
      · exact .inr (.inl (by simpa using h2))
      · exact .inr (.inr ⟨_, rfl, h2⟩)

theorem valOf_put {a : Act} {i j : Nat} {o : Oper} {n : Nat} (h : relB ops n rels = true) (ho : ops[i]? = some o) (hj : j ≠ i) (v : Value) : valOf ops (a.put o.dst v) j = valOf ops a j := by
  unfold valOf
  cases hd : o.dst with
  | none => rfl
  | some d =>
    have h1 := (relB_dst h ho hd).2 j hj
    cases ht : (ops[j]?).bind (·.dst) with
    | none => rfl
    | some t =>
      have hne : d ≠ t := by rintro rfl; exact h1 ht
      simp [Act.put, Array.getElem?_setIfInBounds_ne hne]

theorem agree_put {a : Act} {i : Nat} {o : Oper} (h : Agree ops a0 a) (ho : ops[i]? = some o) (v : Value) : Agree ops a0 (a.put o.dst v) := by
  cases hd : o.dst with
  | none => exact h
  | some d =>
    refine ⟨h.defers, by simpa [Act.put] using h.size, fun t ht => ?_⟩
    have hne : d ≠ t := by rintro rfl; exact ht o (Array.mem_of_getElem? ho) hd
    simp only [Act.put, Array.getElem?_setIfInBounds_ne hne]
    exact h.same t ht

structure Inv (ops : Array Oper) (rels : List Rel) (a0 : Act) (M : List Nat) (W : World) (listed : Array Bool) (a : Act) (γ : Nat → Nat) (w : World) : Prop where
  c : RelC M W γ w
  ag : Agree ops a0 a
  size : listed.size = ops.size
  held : ∀ j, listed.getD j false = true → Holds ops rels j a γ w
  subs : ∀ j r s, listed.getD j false = true → rels[j]? = some r → r.sub = some s → listed.getD s false = true
  un : ∀ (j : Nat) (o : Oper) (t : Nat), ops[j]? = some o → o.dst = some t → listed.getD j false = false → a.tmps[t]? = a0.tmps[t]?
  cl : ∀ (j : Nat) (o : Oper) (k : Nat), ops[j]? = some o → listed.getD j false = true → waitsFor o k = true → listed.getD k false = true
  kp : ∀ b, b < W.heap.size → (∀ j, listed.getD j false = true → effOf rels j ≠ tagOf M 1000 b) → w.heap[b]? = W.heap[b]?

theorem getD_listed {listed : Array Bool} {i j : Nat} (hi : i < listed.size) : (listed.setIfInBounds i true).getD j false = (if i = j then true else listed.getD j false) := by
  by_cases h : i = j
  · subst h; simp [hi]
  · rw [if_neg h]; simp [Array.getElem?_setIfInBounds_ne h]

theorem ready_nil_all {listed : Array Bool} (hsz : listed.size = ops.size) (hac : ∀ (i : Nat) (o : Oper), ops[i]? = some o → ∀ e ∈ o.after, Region.binds .any e = true → e.on < i) (h : Region.ready .any ops listed = []) : ∀ i, i < ops.size → listed.getD i false = true := by
  intro i
  induction i using Nat.strongRecOn with
  | ind i ih =>
    intro hi
    cases hl : listed.getD i false with
    | true => rfl
    | false =>
      have : i ∈ Region.ready .any ops listed := by
        refine mem_ready.2 ⟨?_, ops[i], Array.getElem?_eq_getElem hi, fun e he hb => ih e.on (hac i _ (Array.getElem?_eq_getElem hi) e he hb) (Nat.lt_trans (hac i _ (Array.getElem?_eq_getElem hi) e he hb) hi)⟩
        have : i < listed.size := by omega
        simp [this] at hl ⊢
        exact hl
      rw [h] at this
      cases this

theorem Inv.early (h : Inv ops rels a0 M W listed a γ w) {i : Nat} (hi : listed.getD i false = false) : Early ops a0 a i := by
  intro t ht
  by_cases hex : ∃ o ∈ ops, o.dst = some t
  · obtain ⟨o, ho, hd⟩ := hex
    obtain ⟨j, hj, rfl⟩ := Array.mem_iff_getElem.1 ho
    refine h.un j _ t (Array.getElem?_eq_getElem hj) hd ?_
    cases hl : listed.getD j false with
    | false => rfl
    | true =>
      have := h.cl j _ i (Array.getElem?_eq_getElem hj) hl (ht _ ho hd)
      rw [hi] at this; cases this
  · exact h.ag.same t fun o ho hd => hex ⟨o, ho, hd⟩

theorem Inv.keep (h : Inv ops rels a0 M W listed a γ w) {i : Nat} (hf : listed.getD i false = false) : ∀ b, b < W.heap.size → (∀ j, j ≠ i → j < ops.size → effOf rels j ≠ tagOf M 1000 b) → w.heap[b]? = W.heap[b]? := by
  intro b hb hne
  refine h.kp b hb fun j hj => hne j ?_ ?_
  · rintro rfl
    rw [hf] at hj; cases hj
  · rcases Nat.lt_or_ge j ops.size with h' | h'
    · exact h'
    · rw [← h.size] at h'; simp [Array.getElem?_eq_none h'] at hj

/-- Number i has come up. -/
theorem Inv.next (hB : relB ops a0.tmps.size rels = true) (hI : Inv ops rels a0 M W listed a γ w) {i : Nat} {o : Oper} (ho : ops[i]? = some o) (hfalse : listed.getD i false = false) (hlisted : ∀ j, waitsFor o j = true → listed.getD j false = true)
    {v : Value} {γ' : Nat → Nat} {w' : World} (hg : Grow (effOf rels i) γ w γ' w') (hh : Holds ops rels i (a.put o.dst v) γ' w') : Inv ops rels a0 M W (listed.setIfInBounds i true) (a.put o.dst v) γ' w' := by
  have hlt : i < ops.size := (Array.getElem?_eq_some_iff.1 ho).1
  have hlt' : i < listed.size := by rw [hI.size]; exact hlt
  obtain ⟨r, hr, hsub, hac, hpair⟩ := relB_rel hB ho
  have hself : waitsFor o i = false := by
    cases hw : waitsFor o i with
    | false => rfl
    | true =>
      obtain ⟨e, he', hb⟩ := List.any_eq_true.1 hw
      have he : e ∈ o.after := by simpa using he'
      simp only [Bool.and_eq_true, beq_iff_eq] at hb
      have := hac e he hb.1
      omega
  refine ⟨hI.c.grow hg, agree_put hI.ag ho v, by rw [Array.size_setIfInBounds]; exact hI.size, fun j hj => ?_, fun j rj s hj hrj hs => ?_, fun j oj t hoj hd hj => ?_, fun j oj k hoj hj hk => ?_, fun b hb hne => ?_⟩
  · rw [getD_listed hlt'] at hj
    by_cases hij : i = j
    · subst hij; exact hh
    · rw [if_neg hij] at hj
      have h0 := hI.held j hj
      unfold Holds at h0 ⊢
      cases hrj : rels[j]? with
      | none => trivial
      | some rj =>
        rw [hrj] at h0
        have hjs : j < ops.size := by
          rcases Nat.lt_or_ge j ops.size with h' | h'
          · exact h'
          · rw [← hI.size] at h'; simp [Array.getElem?_eq_none h'] at hj
        have he : effOf rels i = 0 ∨ effOf rels i ≠ rj.tag := by
          unfold effOf; rw [hr]
          rcases hpair j rj (Ne.symm hij) hjs hrj with h1 | h1 | ⟨oj, h1, h2⟩
          · exact .inl h1
          · exact .inr h1
          · have := hI.cl j oj i h1 hj h2
            rw [hfalse] at this; cases this
        have hsi : rj.sub.getD j ≠ i := by
          cases hs : rj.sub with
          | none => simpa using Ne.symm hij
          | some s =>
            intro e
            simp at e
            subst e
            have := hI.subs j rj s hj hrj hs
            rw [hfalse] at this; cases this
        show rj.p (valOf ops (a.put o.dst v) (rj.sub.getD j)) γ' w'
        rw [valOf_put hB ho hsi]
        exact rj.st _ γ w γ' w' _ he hg h0
  · rw [getD_listed hlt'] at hj ⊢
    by_cases his : i = s
    · rw [if_pos his]
    · rw [if_neg his]
      by_cases hij : i = j
      · subst hij
        rw [hr] at hrj; cases hrj
        exact hlisted s (hsub s hs)
      · rw [if_neg hij] at hj
        exact hI.subs j rj s hj hrj hs
  · rw [getD_listed hlt'] at hj
    have hij : i ≠ j := by rintro rfl; simp at hj
    rw [if_neg hij] at hj
    rw [← hI.un j oj t hoj hd hj]
    cases hdo : o.dst with
    | none => rfl
    | some d =>
      have hne : d ≠ t := by
        rintro rfl
        exact (relB_dst hB ho hdo).2 j (Ne.symm hij) (by rw [hoj]; exact hd)
      simp [Act.put, Array.getElem?_setIfInBounds_ne hne]
  · rw [getD_listed hlt'] at hj ⊢
    by_cases hik : i = k
    · rw [if_pos hik]
    · rw [if_neg hik]
      by_cases hij : i = j
      · subst hij
        rw [ho] at hoj; cases hoj
        exact hlisted k hk
      · rw [if_neg hij] at hj
        exact hI.cl j oj k hoj hj hk
  · rw [← hI.kp b hb fun j hj => hne j (by rw [getD_listed hlt']; by_cases hij : i = j; · rw [if_pos hij]
                                           · rw [if_neg hij]; exact hj)]
    refine hg.block b (Nat.lt_of_lt_of_le hb hI.c.1.size) ?_
    have h1 := hne i (by rw [getD_listed hlt', if_pos rfl])
    rw [hI.c.2 b hb]
    by_cases h0 : effOf rels i = 0
    · exact .inl h0
    · exact .inr (Ne.symm h1)

theorem wpAny_rel (hB : relB ops a0.tmps.size rels = true) (hstep : ∀ i o, ops[i]? = some o → StepOk P ops a0 M W Q rels i o)
    (hend : ∀ a γ w', RelC M W γ w' → Agree ops a0 a → (∀ i, i < ops.size → Holds ops rels i a γ w') → Q .normal a w') :
    ∀ (fuel : Nat) (listed : Array Bool) (a : Act) (γ : Nat → Nat) (w : World), Inv ops rels a0 M W listed a γ w → listed.toList.countP (· == false) ≤ fuel → wpAny P .any ops Q fuel listed a w := by
  have hac : ∀ (i : Nat) (o : Oper), ops[i]? = some o → ∀ e ∈ o.after, Region.binds .any e = true → e.on < i := fun i o ho => by obtain ⟨r, _, _, h, _⟩ := relB_rel hB ho; exact h
  intro fuel
  induction fuel with
  | zero =>
    intro listed a γ w hI hc
    have hall : ∀ i, i < ops.size → listed.getD i false = true := by
      intro i hi
      have h0 : listed.toList.countP (· == false) = 0 := by omega
      rw [List.countP_eq_zero] at h0
      have hi' : i < listed.size := by rw [hI.size]; exact hi
      have := h0 listed[i] (by simp)
      simp [hi'] at this ⊢
      exact this
    refine ⟨?_, hend a γ w hI.c hI.ag fun i hi => hI.held i (hall i hi)⟩
    cases hr : Region.ready .any ops listed with
    | nil => rfl
    | cons i l =>
      have hi : i ∈ Region.ready .any ops listed := by rw [hr]; exact List.mem_cons_self
      obtain ⟨h1, o, ho, _⟩ := mem_ready.1 hi
      have hlt : i < ops.size := (Array.getElem?_eq_some_iff.1 ho).1
      have h2 := hall i hlt
      have hlt' : i < listed.size := by rw [hI.size]; exact hlt
      simp [hlt'] at h1 h2
      rw [h1] at h2; cases h2
  | succ fuel ih =>
    intro listed a γ w hI hc
    refine ⟨fun hr => hend a γ w hI.c hI.ag fun i hi => hI.held i (ready_nil_all hI.size hac hr i hi), fun i hi => ?_⟩
    obtain ⟨h1, o, ho, hdep⟩ := mem_ready.1 hi
    have hlt : i < ops.size := (Array.getElem?_eq_some_iff.1 ho).1
    have hlt' : i < listed.size := by rw [hI.size]; exact hlt
    have hfalse : listed[i]'hlt' = false := by simp [hlt'] at h1; exact h1
    have hfalse' : listed.getD i false = false := by simp [hlt', hfalse]
    have hcnt : (listed.setIfInBounds i true).toList.countP (· == false) ≤ fuel := by
      rw [Array.toList_setIfInBounds, List.countP_set (by simpa using hlt')]
      rw [if_pos (by simpa using hfalse), if_neg (by decide)]
      omega
    have hlisted : ∀ j, waitsFor o j = true → listed.getD j false = true := by
      intro j hj
      obtain ⟨e, he', hb⟩ := List.any_eq_true.1 hj
      have he : e ∈ o.after := by simpa using he'
      simp only [Bool.and_eq_true, beq_iff_eq] at hb
      rw [← hb.2]; exact hdep e he hb.1
    have hs := hstep i o ho a γ w (wpAny P .any ops Q fuel (listed.setIfInBounds i true)) hI.c hI.ag (hI.early hfalse') (fun j hj => hI.held j (hlisted j hj)) (hI.keep hfalse') (fun v γ' w' hg hh => ih _ _ γ' w' (hI.next hB ho hfalse' hlisted hg hh) hcnt)
    unfold wpOp
    simp only [ho]
    split
    · rename_i hw; rw [if_pos hw] at hs; exact .inl hs
    · rename_i hw; rw [if_neg hw] at hs; exact hs

def AllSteps (S : Nat → Oper → Prop) : Nat → List Oper → Prop
  | _, [] => True
  | k, o :: l => S k o ∧ AllSteps S (k + 1) l
theorem AllSteps.at_ {S : Nat → Oper → Prop} : ∀ {l : List Oper} {k : Nat}, AllSteps S k l → ∀ (i : Nat) (o : Oper), l[i]? = some o → S (k + i) o
  | [], _, _, i, o, h => by simp at h
  | x :: l, k, h, 0, o, ho => by simp at ho; subst ho; exact h.1
  | x :: l, k, h, i + 1, o, ho => by
    have := h.2.at_ i o (by simpa using ho)
    rw [show k + (i + 1) = k + 1 + i by omega]; exact this

theorem Inv.start : Inv ops rels a0 M W (Array.replicate ops.size false) a0 (tagOf M 1000) W.drew := by
  have h0 : ∀ j, (Array.replicate ops.size false).getD j false = false := by
    intro j
    simp only [Array.getD_eq_getD_getElem?, Array.getElem?_replicate]
    split <;> rfl
  exact ⟨⟨⟨rfl, rfl, rfl, Nat.le_refl _, fun _ _ => rfl, fun _ _ _ => rfl, fun _ _ _ _ h => h, fun _ _ _ h => h⟩, fun _ _ => rfl⟩, ⟨rfl, rfl, fun _ _ => rfl⟩, by simp, fun j hj => absurd hj (by rw [h0]; exact Bool.false_ne_true), fun j r s hj _ _ => absurd hj (by rw [h0]; exact Bool.false_ne_true),
    fun _ _ _ _ _ _ => rfl, fun j _ _ _ hj _ => absurd hj (by rw [h0]; exact Bool.false_ne_true), fun _ _ _ => rfl⟩
theorem Inv.start' : Inv ops rels a0 M W (Array.replicate ops.size false) a0 (tagOf M 1000) W := by
  have h0 : ∀ j, (Array.replicate ops.size false).getD j false = false := by
    intro j
    simp only [Array.getD_eq_getD_getElem?, Array.getElem?_replicate]
    split <;> rfl
  exact ⟨⟨⟨rfl, rfl, rfl, Nat.le_refl _, fun _ _ => rfl, fun _ _ _ => rfl, fun _ _ _ _ h => h, fun _ _ _ h => h⟩, fun _ _ => rfl⟩, ⟨rfl, rfl, fun _ _ => rfl⟩, by simp, fun j hj => absurd hj (by rw [h0]; exact Bool.false_ne_true), fun j r s hj _ _ => absurd hj (by rw [h0]; exact Bool.false_ne_true),
    fun _ _ _ _ _ _ => rfl, fun j _ _ _ hj _ => absurd hj (by rw [h0]; exact Bool.false_ne_true), fun _ _ _ => rfl⟩

theorem wp_region_rel {id : Nat} {l : List Oper} (rels : List Rel) (hm : P.follows .mixedOrders = true) (hB : relB l.toArray a0.tmps.size rels = true)
    (hstep : AllSteps (StepOk P l.toArray a0 M W Q rels) 0 l)
    (hend : ∀ a γ w', RelC M W γ w' → Agree l.toArray a0 a → (∀ i, i < l.length → Holds l.toArray rels i a γ w') → Q .normal a w') : (Code.region id l.toArray true).wp P Q a0 W := by
  refine wp_region_any hm (wpAny_rel hB (fun i o ho => ?_) hend _ _ a0 (tagOf M 1000) _ Inv.start ?_)
  · have := hstep.at_ i o (by simpa using ho)
    rwa [Nat.zero_add] at this
  · exact Nat.le_trans List.countP_le_length (by simp)

/-- The same of a region that keeps the text's order. -/
theorem wpList_rel {l0 : List Oper} (hB : relB l0.toArray a0.tmps.size rels = true)
    (hend : ∀ a γ w', RelC M W γ w' → Agree l0.toArray a0 a → (∀ i, i < l0.length → Holds l0.toArray rels i a γ w') → Q .normal a w') :
    ∀ (l : List Oper) (k : Nat) (listed : Array Bool) (a : Act) (γ : Nat → Nat) (w : World), (∀ i, l[i]? = l0[k + i]?) → k + l.length = l0.length → AllSteps (StepOk P l0.toArray a0 M W Q rels) k l →
      Inv l0.toArray rels a0 M W listed a γ w → (∀ i, listed.getD i false = decide (i < k)) → wpList P l0.toArray Q l a w
  | [], k, listed, a, γ, w, hl, hk, _, hI, hlist => by
    refine wpList_nil (hend a γ w hI.c hI.ag fun i hi => hI.held i ?_)
    rw [hlist]; simp at hk; exact decide_eq_true (by omega)
  | o :: l, k, listed, a, γ, w, hl, hk, hst, hI, hlist => by
    have ho : l0.toArray[k]? = some o := by have := hl 0; simp at this; simpa using this.symm
    have hf : listed.getD k false = false := by rw [hlist]; exact decide_eq_false (by omega)
    obtain ⟨r, hr, hsub, hac, hpair⟩ := relB_rel hB ho
    have hw : ∀ j, waitsFor o j = true → listed.getD j false = true := by
      intro j hj
      obtain ⟨e, he', hb⟩ := List.any_eq_true.1 hj
      have he : e ∈ o.after := by simpa using he'
      simp only [Bool.and_eq_true, beq_iff_eq] at hb
      have := hac e he hb.1
      rw [hlist]; exact decide_eq_true (by omega)
    have hks : k < listed.size := by rw [hI.size]; exact (Array.getElem?_eq_some_iff.1 ho).1
    refine wpList_step fun K hK => ?_
    refine hst.1 a γ w K hI.c hI.ag (hI.early hf) (fun j hj => hI.held j (hw j hj)) (hI.keep hf) (fun v γ' w' hg hh => hK _ _ ?_)
    refine wpList_rel hB hend l (k + 1) (listed.setIfInBounds k true) _ γ' w' (fun i => by have := hl (i + 1); simpa [Nat.add_assoc, Nat.add_comm 1 i] using this) (by simp at hk; omega) hst.2 (hI.next hB ho hf hw hg hh) fun i => ?_
    rw [getD_listed hks, hlist]
    by_cases hki : k = i
    · rw [if_pos hki]; exact (decide_eq_true (by omega)).symm
    · rw [if_neg hki, decide_eq_decide]; omega
theorem wp_region_rel_text {id : Nat} {l : List Oper} (rels : List Rel) (hB : relB l.toArray a0.tmps.size rels = true)
    (hstep : AllSteps (StepOk P l.toArray a0 M W Q rels) 0 l)
    (hend : ∀ a γ w', RelC M W γ w' → Agree l.toArray a0 a → (∀ i, i < l.length → Holds l.toArray rels i a γ w') → Q .normal a w') : (Code.region id l.toArray false).wp P Q a0 W :=
  wp_region_lit (wpList_rel hB hend l 0 _ a0 (tagOf M 1000) W (fun i => by rw [Nat.zero_add]) (by simp) hstep Inv.start' fun i => by
    simp only [Array.getD_eq_getD_getElem?, Array.getElem?_replicate]
    split <;> simp)
end
end Go.Proofs.Ytijbhbjenddiaaa.Rg

namespace Go.Proofs.Ytijbhbjenddiaaa.Rg
open Go.RowKit

def cutTag (γ : Nat → Nat) (w : World) : Nat → Nat := fun b => if b < w.heap.size then γ b else 0
def newTag (γ : Nat → Nat) (w : World) (t : Nat) : Nat → Nat := fun b => if b = w.heap.size then t else γ b
section
variable {γ γ' : Nat → Nat} {w w' : World} {t : Nat}
theorem num_below (hb : Below w.heap.size w w') (a : Addr) (k : IntKind) (n : Int) (h : w.cell? a = some (.int k n)) : w'.cell? a = some (.int k n) := (hb.cell (World.block_lt_of_cell? w a h)).trans h
theorem VarBlk.lt {p n : Nat} {T : TypeId} (h : VarBlk w p T n) : p < w.heap.size := by
  obtain ⟨cs, _, _, h⟩ := h
  exact Blk.lt (t := T) (cs := cs) h
theorem var_below (hb : Below w.heap.size w w') (p : Nat) (T : TypeId) (n : Nat) (h : VarBlk w p T n) : VarBlk w' p T n := by
  have hl := h.lt
  obtain ⟨cs, h1, h2, h3⟩ := h
  exact ⟨cs, h1, h2, (hb.block p hl).trans h3⟩
theorem Grow.below (γ : Nat → Nat) (hb : Below w.heap.size w w') : Grow 0 γ w (cutTag γ w) w' :=
  ⟨hb.os, hb.tape, hb.output, hb.size, fun b h => by simp [cutTag, h], fun b h _ => hb.block b h, fun a k n _ => num_below hb a k n, var_below hb⟩
theorem Grow.refl_ (γ : Nat → Nat) (w : World) : Grow 0 γ w γ w := ⟨rfl, rfl, rfl, Nat.le_refl _, fun _ _ => rfl, fun _ _ _ => rfl, fun _ _ _ _ h => h, fun _ _ _ h => h⟩
theorem Grow.alloc (γ : Nat → Nat) (w : World) (o : Obj) (t : Nat) : Grow 0 γ w (newTag γ w t) (w.alloc o) := by
  have hb : Below w.heap.size w (w.alloc o) := (Below.refl _ _).alloc (Nat.le_refl _) _
  exact ⟨hb.os, hb.tape, hb.output, hb.size, fun b h => by simp only [newTag]; rw [if_neg (by omega)], fun b h _ => hb.block b h, fun a k n _ => num_below hb a k n, var_below hb⟩
/-- All but one block stays. -/
structure But (p : Nat) (w w' : World) : Prop where
  os : w'.os = w.os
  tape : w'.tape = w.tape
  output : w'.output = w.output
  size : w'.heap.size = w.heap.size
  block : ∀ b, b ≠ p → w'.heap[b]? = w.heap[b]?
theorem But.set1 (w : World) (p o : Nat) (u : Value) : But p w (w.setCell ⟨p, o, none⟩ u) :=
  ⟨rfl, rfl, rfl, by simp [World.setCell], fun b hb => Below.heap_setCell w ⟨p, o, none⟩ u b hb⟩
theorem But.trans {p : Nat} {w w' w'' : World} (h : But p w w') (g : But p w' w'') : But p w w'' := ⟨g.os.trans h.os, g.tape.trans h.tape, g.output.trans h.output, g.size.trans h.size, fun b hb => (g.block b hb).trans (h.block b hb)⟩
theorem Grow.but {p : Nat} {T : TypeId} {us cs : Array Value} (γ : Nat → Nat) (ht0 : t ≠ 0) (hγ : γ p = t) (hu : ∀ u ∈ us, notDig u) (hc : ∀ u ∈ cs, notDig u) (hsz : us.size = cs.size) (h1 : Blk w p T us) (h2 : Blk w' p T cs) (hb : But p w w') : Grow t γ w γ w' := by
  refine ⟨hb.os, hb.tape, hb.output, by rw [hb.size]; exact Nat.le_refl _, fun _ _ => rfl, fun b hlt ht => ?_, fun a k n hk ha => ?_, fun q T' n hq => ?_⟩
  · refine hb.block b ?_
    rintro rfl
    exact ht.elim ht0 (fun h => h hγ)
  · by_cases hap : a.block = p
    · exfalso
      have h3 : w.heap[a.block]? = some (.cells us T (0, 0)) := by rw [hap]; exact h1
      have hmem : ∃ x ∈ us, x = .int k n := by
        obtain ⟨b, o, s⟩ := a
        simp only at hap
        subst hap
        cases s with
        | none =>
          have := Blk.cell h1 o
          rw [ha] at this
          exact ⟨_, Array.mem_of_getElem? this.symm, rfl⟩
        | some s => simp [World.cell?, h3] at ha
      obtain ⟨x, hx, e⟩ := hmem
      exact hu x hx k n hk e
    · rw [World.cell?_of_block (hb.block a.block hap)]; exact ha
  · obtain ⟨ds, h3, h4, h5⟩ := hq
    by_cases hqp : q = p
    · subst hqp
      have h1' : w.heap[q]? = some (.cells us T (0, 0)) := h1
      rw [h1'] at h5
      injection h5 with h5
      injection h5 with e1 e2 e3
      exact ⟨cs, by rw [← hsz, e1]; exact h3, hc, by rw [← e2]; exact h2⟩
    · exact ⟨ds, h3, h4, (hb.block q hqp).trans h5⟩
theorem Grow.blk (g : Grow t γ w γ' w') {p : Nat} {T : TypeId} {cs : Array Value} (h : t = 0 ∨ γ p ≠ t) (hb : Blk w p T cs) : Blk w' p T cs := (g.block p hb.lt h).trans hb
theorem dat_grow {b : Nat} {A : Option Addr} {n c x : Nat} (g : Grow t γ w γ' w') (h : DAt b w A n c x) : DAt b w' A n c x := by
  refine ⟨⟨h.reads.1, fun hn => ?_⟩, h.cap, h.room⟩
  obtain ⟨ad, e, hb, hc⟩ := h.reads.2 hn
  refine ⟨ad, e, Nat.lt_of_lt_of_le hb g.size, fun j v hv => ?_⟩
  obtain ⟨d, _, rfl⟩ := List.mem_map.1 (List.mem_of_getElem? hv)
  exact g.num _ _ _ rfl (hc j _ hv)
theorem RelC.below {M : List Nat} {W w : World} (h : RelC M W γ w) (hM : ∀ b, b < W.heap.size → tagOf M 1000 b = 0) : Below W.heap.size W w :=
  ⟨h.1.os, h.1.tape, h.1.output, h.1.size, fun b hb => h.1.block b hb (.inr (by unfold mt; rw [if_pos (hM b hb)]; omega))⟩
theorem RelC.below_nil {W w : World} (h : RelC [] W γ w) : Below W.heap.size W w := h.below fun _ _ => rfl
end

/-! ### What is known of a value -/
structure Ty where
  p : Value → World → Prop
  l : ∀ (t : Nat) (γ : Nat → Nat) (w : World) (γ' : Nat → Nat) (w' : World) (v : Value), Grow t γ w γ' w' → p v w → p v w'
theorem Ty.below {w w' : World} (T : Ty) {v : Value} (h : T.p v w) (hb : Below w.heap.size w w') : T.p v w' := T.l _ _ _ _ _ _ (Grow.below (fun _ => 0) hb) h
theorem Ty.drew {w : World} (T : Ty) {v : Value} (h : T.p v w) : T.p v w.drew := T.below h (Below.refl _ _).drew
theorem Ty.al {w : World} (T : Ty) {v : Value} (h : T.p v w) (o : Obj) : T.p v (w.alloc o) := T.below h ((Below.refl _ _).alloc (Nat.le_refl _) _)
theorem Ty.aft {M : List Nat} {W w : World} {γ : Nat → Nat} (T : Ty) {v : Value} (h : T.p v W) (hc : RelC M W γ w) : T.p v w := T.l _ _ _ _ _ _ hc.1 h
/-- A known value. -/
def tV (x : Value) : Ty := ⟨fun v _ => v = x, fun _ _ _ _ _ _ _ h => h⟩
def tAny : Ty := ⟨fun _ _ => True, fun _ _ _ _ _ _ _ h => h⟩
/-- Of a known form, no memory. -/
def tS (p : Value → Prop) : Ty := ⟨fun v _ => p v, fun _ _ _ _ _ _ _ h => h⟩
/-- A number of at most lim digits. -/
def tN (b lim x : Nat) : Ty := ⟨fun v w => ∃ A n c, v = .agg #[.slice A n c] ∧ DAt b w A n c x ∧ n ≤ lim, fun _ _ _ _ _ _ g ⟨A, n, c, e, h, hn⟩ => ⟨A, n, c, e, dat_grow g h, hn⟩⟩
def AllT : List Ty → List Value → World → Prop
  | [], [], _ => True
  | T :: l, v :: m, w => T.p v w ∧ AllT l m w
  | _, _, _ => False
theorem AllT.l : ∀ {l : List Ty} {m : List Value} {t : Nat} {γ : Nat → Nat} {w : World} {γ' : Nat → Nat} {w' : World}, Grow t γ w γ' w' → AllT l m w → AllT l m w'
  | [], [], _, _, _, _, _, _, h => h
  | T :: l, v :: m, _, _, _, _, _, g, h => ⟨T.l _ _ _ _ _ _ g h.1, AllT.l g h.2⟩
  | [], _ :: _, _, _, _, _, _, _, h => h
  | _ :: _, [], _, _, _, _, _, _, h => h
theorem AllT.at_ : ∀ {l : List Ty} {m : List Value} {w : World} (j : Nat) {T : Ty}, AllT l m w → l[j]? = some T → ∃ v, m[j]? = some v ∧ T.p v w
  | [], _, _, _, _, _, h => by simp at h
  | T :: l, [], _, _, _, h, _ => h.elim
  | T :: l, v :: m, _, 0, _, h, e => by simp at e; subst e; exact ⟨v, rfl, h.1⟩
  | T :: l, v :: m, _, j + 1, _, h, e => by
    obtain ⟨u, h1, h2⟩ := AllT.at_ j h.2 (by simpa using e)
    exact ⟨u, by simpa using h1, h2⟩
/-- A tuple. -/
def tT (l : List Ty) : Ty := ⟨fun v w => ∃ m : List Value, v = .tuple m.toArray ∧ AllT l m w, fun _ _ _ _ _ _ g ⟨m, e, h⟩ => ⟨m, e, AllT.l g h⟩⟩
def rT (T : Ty) : Rel := ⟨none, 0, 0, fun v _ w => T.p v w, fun t γ w γ' w' v _ g h => T.l t γ w γ' w' v g h⟩

/-- A variable's content. -/
def Cell (id : TypeId) (T : Ty) (p : Nat) (w : World) : Prop := ∃ v, Blk w p id v.cells ∧ T.p v w
theorem Cell.lt {id : TypeId} {T : Ty} {p : Nat} {w : World} (h : Cell id T p w) : p < w.heap.size := by obtain ⟨v, h, _⟩ := h; exact h.lt
theorem Cell.grow {id : TypeId} {T : Ty} {p t : Nat} {γ γ' : Nat → Nat} {w w' : World} (g : Grow t γ w γ' w') (h : Cell id T p w) (hp : t = 0 ∨ γ p ≠ t) : Cell id T p w' := by
  obtain ⟨v, h1, h2⟩ := h; exact ⟨v, g.blk hp h1, T.l _ _ _ _ _ _ g h2⟩
theorem Cell.below {id : TypeId} {T : Ty} {p : Nat} {w w' : World} (h : Cell id T p w) (hb : Below w.heap.size w w') : Cell id T p w' := h.grow (Grow.below (fun _ => 0) hb) (.inl rfl)
theorem Cell.drew {id : TypeId} {T : Ty} {p : Nat} {w : World} (h : Cell id T p w) : Cell id T p w.drew := h.below (Below.refl _ _).drew
theorem Cell.aft {id : TypeId} {T : Ty} {p : Nat} {M : List Nat} {W w : World} {γ : Nat → Nat} (h : Cell id T p W) (hc : RelC M W γ w) (hp : tagOf M 1000 p = 0) : Cell id T p w := h.grow hc.1 (.inr (by unfold mt; rw [if_pos hp]; omega))
theorem Cell.new {id : TypeId} {T : Ty} {w : World} {v : Value} (h : T.p v w) : Cell id T w.heap.size (w.alloc (.cells v.cells id)) := ⟨v, Blk.new _ _ _, T.al h _⟩
/-- A new variable that holds something (operation j). -/
def rB (j : Nat) (id : TypeId) (T : Ty) (s : Option Nat) (eff : Nat) : Rel :=
  ⟨s, eff, j + 1, fun v γ w => ∃ p, v = .pointer (some ⟨p, 0, none⟩) ∧ γ p = j + 1 ∧ Cell id T p w,
    fun t γ w γ' w' v ht g ⟨p, e, hγ, h⟩ => ⟨p, e, by rw [g.tag p h.lt]; exact hγ, h.grow g (by omega)⟩⟩
/-- A new variable of k cells, before or behind its store. -/
def rVar (j : Nat) (id : TypeId) (k : Nat) : Rel :=
  ⟨none, 0, 0, fun v γ w => ∃ p, v = .pointer (some ⟨p, 0, none⟩) ∧ γ p = j + 1 ∧ VarBlk w p id k,
    fun t γ w γ' w' v ht g ⟨p, e, hγ, h⟩ => ⟨p, e, by rw [g.tag p h.lt]; exact hγ, g.var p id k h⟩⟩
/-- An elder variable that was stored into: the list's number k. -/
def rE (k : Nat) (id : TypeId) (T : Ty) (p : Nat) : Rel :=
  ⟨none, 1000 + k, 1000 + k, fun _ γ w => γ p = 1000 + k ∧ Cell id T p w,
    fun t γ w γ' w' v ht g ⟨hγ, h⟩ => ⟨by rw [g.tag p h.lt]; exact hγ, h.grow g (by omega)⟩⟩

/-! ### States, told slot by slot -/
def Sl (a : Act) (t : Nat) (v : Value) : Prop := a.tmps[t]? = some v
theorem Sl.ev {a : Act} {t : Nat} {v : Value} (h : Sl a t v) : a.eval (.tmp t) = v := by unfold Sl at h; simp [Act.eval, h]
theorem Sl.of {a : Act} {t n : Nat} (hz : a.tmps.size = n) (ht : decide (t < n) = true) : Sl a t (a.eval (.tmp t)) := by
  have : t < a.tmps.size := by rw [hz]; exact of_decide_eq_true ht
  unfold Sl; simp [Act.eval, this]

section
variable {P : Program} {ops : Array Oper} {Q : Exit → Act → World → Prop} {a0 : Act} {M : List Nat} {W : World} {rels : List Rel} {i : Nat} {o : Oper} {T : Ty} {N : Nat}

structure Up (ops : Array Oper) (a0 : Act) (M : List Nat) (W : World) (rels : List Rel) (i : Nat) (o : Oper) (a : Act) (γ : Nat → Nat) (w : World) : Prop where
  c : RelC M W γ w
  ag : Agree ops a0 a
  early : Early ops a0 a i
  dep : ∀ j, waitsFor o j = true → Holds ops rels j a γ w
  kp : ∀ b, b < W.heap.size → (∀ j, j ≠ i → j < ops.size → effOf rels j ≠ tagOf M 1000 b) → w.heap[b]? = W.heap[b]?

/-- What an operand is known to be when number i comes up. -/
def Src (ops : Array Oper) (a0 : Act) (M : List Nat) (W : World) (rels : List Rel) (i : Nat) (o : Oper) (x : Operand) (T : Ty) : Prop :=
  ∀ a γ w, Up ops a0 M W rels i o a γ w → T.p (a.eval x) w
theorem Src.dep {j t : Nat} (hj : (ops[j]?).bind (·.dst) = some t) (hw : waitsFor o j = true) (hr : rels[j]? = some (rT T)) : Src ops a0 M W rels i o (.tmp t) T := by
  intro a γ w U
  have h := U.dep j hw
  unfold Holds at h
  rw [hr] at h
  have e : valOf ops a j = a.eval (.tmp t) := by simp only [valOf, hj]; rfl
  rw [← e]; exact h
theorem Src.out {t : Nat} {v : Value} (hn : (ops.all fun o' => !(o'.dst == some t) || waitsFor o' i) = true) (hs : Sl a0 t v) (hp : T.p v W) : Src ops a0 M W rels i o (.tmp t) T := by
  intro a γ w U
  have h := U.early t (fun o ho e => by
    have := Array.all_eq_true_iff_forall_mem.1 hn o ho
    simp [e] at this
    exact this)
  have e : a.eval (.tmp t) = v := Sl.ev (h.trans hs)
  rw [e]; exact T.aft hp U.c
theorem Src.const (v : Value) : Src ops a0 M W rels i o (.const v) (tV v) := fun _ _ _ _ => rfl
theorem Src.to {x : Operand} {T' : Ty} (h : Src ops a0 M W rels i o x T) (hT : ∀ v w, T.p v w → T'.p v w) : Src ops a0 M W rels i o x T' := fun a γ w U => hT _ _ (h a γ w U)

theorem Src.at_ {x : Operand} {a : Act} {γ : Nat → Nat} {w : World} (s : Src ops a0 M W rels i o x T) (U : Up ops a0 M W rels i o a γ w) : T.p (a.eval x) w := s a γ w U

/-- Its guard. -/
def Gd (ops : Array Oper) (a0 : Act) (M : List Nat) (W : World) (rels : List Rel) (i : Nat) (o : Oper) (b : Bool) : Prop :=
  ∀ a γ w, Up ops a0 M W rels i o a γ w → Region.wanted o (yielded ops a.tmps) = b
theorem Gd.none_ (hg : o.guard = none) : Gd ops a0 M W rels i o true := fun _ _ _ _ => by simp [Region.wanted, hg]
theorem Gd.at_ {g t : Nat} {want b : Bool} (hg : o.guard = some (g, want)) (ht : (ops[g]?).bind (·.dst) = some t) (s : Src ops a0 M W rels i o (.tmp t) (tV (.bool b))) : Gd ops a0 M W rels i o (b == want) := by
  intro a γ w U
  have h : a.eval (.tmp t) = .bool b := s a γ w U
  have h' : a.tmps[t]? = some (.bool b) := by
    simp only [Act.eval, Array.getD_eq_getD_getElem?] at h
    cases hx : a.tmps[t]? with
    | none => rw [hx] at h; cases h
    | some v => rw [hx] at h; simp at h; rw [h]
  simp only [Region.wanted, hg, yielded, ht, Option.bind_some, h']
  cases b <;> cases want <;> rfl

theorem Gd.yes {g t : Nat} {want b : Bool} (hg : o.guard = some (g, want)) (ht : (ops[g]?).bind (·.dst) = some t) (s : Src ops a0 M W rels i o (.tmp t) (tV (.bool b))) (hb : (b == want) = true) : Gd ops a0 M W rels i o true := hb ▸ Gd.at_ hg ht s
theorem Gd.no {g t : Nat} {want b : Bool} (hg : o.guard = some (g, want)) (ht : (ops[g]?).bind (·.dst) = some t) (s : Src ops a0 M W rels i o (.tmp t) (tV (.bool b))) (hb : (b == want) = false) : Gd ops a0 M W rels i o false := hb ▸ Gd.at_ hg ht s

theorem holds_put {r : Rel} {a : Act} {γ : Nat → Nat} {w : World} {v : Value} {d : Nat} (ho : ops[i]? = some o) (hr : rels[i]? = some r) (hs : r.sub = none) (hd : o.dst = some d) (hlt : d < a.tmps.size) (h : r.p v γ w) :
    Holds ops rels i (a.put o.dst v) γ w := by
  unfold Holds
  rw [hr]
  simp only [hs, Option.getD_none]
  have e : valOf ops (a.put o.dst v) i = v := by
    simp [valOf, ho, hd, Act.put, hlt]
  rw [e]; exact h
theorem lt_of {a : Act} {d : Nat} (hz : a0.tmps.size = N) (hlt : decide (d < N) = true) (hag : Agree ops a0 a) : d < a.tmps.size := by rw [hag.size, hz]; exact of_decide_eq_true hlt

/-- An operation that yields a value and leaves memory alone. -/
theorem sOp {d : Nat} (ho : ops[i]? = some o) (hr : rels[i]? = some (rT T)) (hd : o.dst = some d) (hz : a0.tmps.size = N) (hlt : decide (d < N) = true) (g : Gd ops a0 M W rels i o true)
    (h : ∀ a γ w, Up ops a0 M W rels i o a γ w → ∃ v, (execOp a.eval o).run P w = .ok (.value v) w ∧ T.p v w) : StepOk P ops a0 M W Q rels i o := by
  intro a γ w K hc hag hearly hdep hkp hK
  have U : Up ops a0 M W rels i o a γ w := ⟨hc, hag, hearly, hdep, hkp⟩
  obtain ⟨v, hrun, hp⟩ := h a γ w U
  rw [if_pos (g a γ w U)]
  unfold Oper.wp
  rw [hrun]
  exact hK v γ w (by unfold effOf; rw [hr]; exact Grow.refl_ _ _) (holds_put ho hr rfl hd (lt_of hz hlt hag) hp)
theorem sSkip {d : Nat} (ho : ops[i]? = some o) (hr : rels[i]? = some (rT tAny)) (hd : o.dst = some d) (hz : a0.tmps.size = N) (hlt : decide (d < N) = true) (g : Gd ops a0 M W rels i o false) : StepOk P ops a0 M W Q rels i o := by
  intro a γ w K hc hag hearly hdep hkp hK
  have U : Up ops a0 M W rels i o a γ w := ⟨hc, hag, hearly, hdep, hkp⟩
  rw [if_neg (by rw [g a γ w U]; exact Bool.false_ne_true)]
  exact hK undef γ w (by unfold effOf; rw [hr]; exact Grow.refl_ _ _) (holds_put ho hr rfl hd (lt_of hz hlt hag) trivial)
section
variable {d : Nat} {x y c : Operand} (ho : ops[i]? = some o) (hr : rels[i]? = some (rT T)) (hd : o.dst = some d) (hz : a0.tmps.size = N) (hlt : decide (d < N) = true) (g : Gd ops a0 M W rels i o true)
include ho hr hd hz hlt g
theorem sMv (hop : o.op = .move x) (s : Src ops a0 M W rels i o x T) : StepOk P ops a0 M W Q rels i o :=
  sOp ho hr hd hz hlt g fun a γ w U => ⟨a.eval x, by unfold execOp; rw [hop]; simp only [Sem.run_pure], s a γ w U⟩
theorem sAs (hop : o.op = .assign x) (s : Src ops a0 M W rels i o x T) : StepOk P ops a0 M W Q rels i o :=
  sOp ho hr hd hz hlt g fun a γ w U => ⟨a.eval x, by unfold execOp; rw [hop]; simp only [Sem.run_pure], s a γ w U⟩
theorem sPickT (hop : o.op = .pick c x y) (sc : Src ops a0 M W rels i o c (tV (.bool true))) (s : Src ops a0 M W rels i o x T) : StepOk P ops a0 M W Q rels i o :=
  sOp ho hr hd hz hlt g fun a γ w U => ⟨a.eval x, by have h : a.eval c = .bool true := sc a γ w U; unfold execOp; rw [hop]; simp only [h]; simp [go_sem], s a γ w U⟩
theorem sPickF (hop : o.op = .pick c x y) (sc : Src ops a0 M W rels i o c (tV (.bool false))) (s : Src ops a0 M W rels i o y T) : StepOk P ops a0 M W Q rels i o :=
  sOp ho hr hd hz hlt g fun a γ w U => ⟨a.eval y, by have h : a.eval c = .bool false := sc a γ w U; unfold execOp; rw [hop]; simp only [h]; simp [go_sem], s a γ w U⟩
theorem sExt {l : List Ty} {j : Nat} (hop : o.op = .extract x j) (s : Src ops a0 M W rels i o x (tT l)) (hj : l[j]? = some T) : StepOk P ops a0 M W Q rels i o :=
  sOp ho hr hd hz hlt g fun a γ w U => by
    obtain ⟨m, e, h⟩ := s a γ w U
    obtain ⟨v, h1, h2⟩ := h.at_ j hj
    have h3 : m.toArray[j]? = some v := by simpa using h1
    refine ⟨v, ?_, h2⟩
    unfold execOp; rw [hop]; simp only [e]; simp [go_sem, h3]
theorem sLoad {id : TypeId} {p : Nat} (hop : o.op = .load id x) (s : Src ops a0 M W rels i o x (tV (.pointer (some ⟨p, 0, none⟩)))) (hc : Cell id T p W) (hp : tagOf M 1000 p = 0)
    (ld : ∀ v w, T.p v w → Blk w p id v.cells → (Instr.loadAt id (.pointer (some ⟨p, 0, none⟩))).run P w = .ok v w) : StepOk P ops a0 M W Q rels i o :=
  sOp ho hr hd hz hlt g fun a γ w U => by
    have e : a.eval x = .pointer (some ⟨p, 0, none⟩) := s a γ w U
    obtain ⟨v, h1, h2⟩ := hc.aft U.c hp
    refine ⟨v, ?_, h2⟩
    unfold execOp; rw [hop]; simp only [e, Sem.run_bind, ld v w h2 h1, Result.andThen, Sem.run_pure]
theorem sBuild0 {id : TypeId} {z : Value} (hop : o.op = .build id #[]) (h : ∀ w, (Instr.build id #[]).run P w = .ok z w) (hT : ∀ w, T.p z w) : StepOk P ops a0 M W Q rels i o :=
  sOp ho hr hd hz hlt g fun a γ w U => by
    refine ⟨z, ?_, hT w⟩
    unfold execOp; rw [hop]; simp only [Sem.run_bind, Array.map_empty, h, Result.andThen, Sem.run_pure]
theorem sBuild {id : TypeId} {ps : Array (Nat × Operand)} (hop : o.op = .build id ps) (h : ∀ a γ w, Up ops a0 M W rels i o a γ w → ∃ v, (Instr.build id (ps.map fun (i, x) => (i, a.eval x))).run P w = .ok v w ∧ T.p v w) : StepOk P ops a0 M W Q rels i o :=
  sOp ho hr hd hz hlt g fun a γ w U => by
    obtain ⟨v, h1, h2⟩ := h a γ w U
    refine ⟨v, ?_, h2⟩
    unfold execOp; rw [hop]; simp only [Sem.run_bind, h1, Result.andThen, Sem.run_pure]
end
section
variable {d : Nat} {x y c : Operand} (ho : ops[i]? = some o)
include ho
theorem sNot {b : Bool} {id : TypeId} (hr : rels[i]? = some (rT (tV (.bool !b)))) (hd : o.dst = some d) (hz : a0.tmps.size = N) (hlt : decide (d < N) = true) (g : Gd ops a0 M W rels i o true)
    (hop : o.op = .unOp .not id x) (s : Src ops a0 M W rels i o x (tV (.bool b))) : StepOk P ops a0 M W Q rels i o :=
  sOp ho hr hd hz hlt g fun a γ w U => ⟨.bool !b, by have h : a.eval x = .bool b := s a γ w U; unfold execOp; rw [hop]; simp only [h]; simp [go_sem], rfl⟩
theorem sBin {op : BinOp} {id id' : TypeId} {u v z : Value} (hr : rels[i]? = some (rT (tV z))) (hd : o.dst = some d) (hz : a0.tmps.size = N) (hlt : decide (d < N) = true) (g : Gd ops a0 M W rels i o true)
    (hop : o.op = .binOp op id x y id') (s1 : Src ops a0 M W rels i o x (tV u)) (s2 : Src ops a0 M W rels i o y (tV v))
    (h : ∀ w, (do eqGuard op id x y u v; binOp op id u v : Sem Value).run P w = .ok z w) : StepOk P ops a0 M W Q rels i o :=
  sOp ho hr hd hz hlt g fun a γ w U => ⟨z, by
    have hx : a.eval x = u := s1 a γ w U
    have hy : a.eval y = v := s2 a γ w U
    have := h w
    unfold execOp; rw [hop]; simp only [hx, hy, Sem.run_bind, Sem.run_pure] at this ⊢
    rw [this]; rfl, rfl⟩
end
/-- What a call hands back. -/
def Ret (T : Ty) (w : World) : Ending → World → Prop := fun e w' => ∃ v, e = .returned v ∧ T.p v w' ∧ Below w.heap.size w w'
theorem run_enter {f : FuncId} {fn : Func} {args : Array Value} {w : World} (hf : P.funcs[f]? = some fn) (hn : (fn.name == "runtime.NumGoroutine") = false) (hb : fn.body.isNone = false) : (callFunc f args).run P w = .ok (.enter f args) w := by
  have h1 : ¬ fn.name = "runtime.NumGoroutine" := by simpa using hn
  have h2 : ¬ fn.body = none := by intro e; rw [e] at hb; cases hb
  simp [callFunc, go_sem, hf, h1, h2]
theorem sCall {d : Nat} {f : FuncId} {fn : Func} {args : Array Operand} {ts : Array TypeId} (ho : ops[i]? = some o) (hr : rels[i]? = some (rT T)) (hd : o.dst = some d) (hz : a0.tmps.size = N) (hlt : decide (d < N) = true) (g : Gd ops a0 M W rels i o true)
    (hop : o.op = .call { callee := .value (.func f), args := args, argTypes := ts }) (hf : P.funcs[f]? = some fn) (hn : (fn.name == "runtime.NumGoroutine") = false) (hb : fn.body.isNone = false)
    (h : ∀ a γ w, Up ops a0 M W rels i o a γ w → Calls P f (args.toList.map a.eval).toArray w (Ret T w)) : StepOk P ops a0 M W Q rels i o := by
  intro a γ w K hc hag hearly hdep hkp hK
  have U : Up ops a0 M W rels i o a γ w := ⟨hc, hag, hearly, hdep, hkp⟩
  rw [if_pos (g a γ w U)]
  have hcall := h a γ w U
  have hmap : (args.toList.map a.eval).toArray = args.map a.eval := by rw [← Array.toList_map]
  rw [hmap] at hcall
  have hrun : (execOp a.eval o).run P w = .ok (.enter f (args.map a.eval)) w := by
    unfold execOp
    rw [hop]
    simp [go_sem, resolve, Deferred.ofValue, Act.eval, invoke, run_enter hf hn hb]
  unfold Oper.wp
  rw [hrun]
  refine Calls.mono hcall ?_
  rintro e w' ⟨v, rfl, hp, hbel⟩
  exact hK v _ w' (by unfold effOf; rw [hr]; exact Grow.below γ hbel) (holds_put ho hr rfl hd (lt_of hz hlt hag) hp)
/-- A variable made with its value. -/
theorem sBox {d : Nat} {id : TypeId} {x : Operand} (ho : ops[i]? = some o) (hr : rels[i]? = some (rB i id T none 0)) (hd : o.dst = some d) (hz : a0.tmps.size = N) (hlt : decide (d < N) = true) (hg : o.guard = none)
    (hop : o.op = .box id x) (s : Src ops a0 M W rels i o x T) (hrun : ∀ v w, T.p v w → (Instr.box id v).run P w = .ok (.pointer (some ⟨w.heap.size, 0, none⟩)) (w.alloc (.cells v.cells id))) : StepOk P ops a0 M W Q rels i o := by
  intro a γ w K hc hag hearly hdep hkp hK
  have U : Up ops a0 M W rels i o a γ w := ⟨hc, hag, hearly, hdep, hkp⟩
  rw [if_pos (by simp [Region.wanted, hg])]
  have hv := s a γ w U
  have hrun' : (execOp a.eval o).run P w = .ok (.value (.pointer (some ⟨w.heap.size, 0, none⟩))) (w.alloc (.cells (a.eval x).cells id)) := by
    unfold execOp
    rw [hop]
    simp only [Sem.run_bind, hrun _ w hv, Result.andThen, Sem.run_pure]
  unfold Oper.wp
  rw [hrun']
  exact hK _ (newTag γ w (i + 1)) _ (by unfold effOf; rw [hr]; exact Grow.alloc γ w _ _) (holds_put ho hr rfl hd (lt_of hz hlt hag) ⟨w.heap.size, rfl, by simp [newTag], Cell.new hv⟩)
/-- A new variable that nobody stores into in this region. -/
theorem sNew {d : Nat} {id : TypeId} {z : Value} (ho : ops[i]? = some o) (hr : rels[i]? = some (rB i id T none 0)) (hd : o.dst = some d) (hz : a0.tmps.size = N) (hlt : decide (d < N) = true) (hg : o.guard = none)
    (hop : o.op = .alloc id) (hT : ∀ w, T.p z w) (hrun : ∀ w, (Instr.alloc id true (.tuple #[])).run P w = .ok (.pointer (some ⟨w.heap.size, 0, none⟩)) (w.alloc (.cells z.cells id))) : StepOk P ops a0 M W Q rels i o := by
  intro a γ w K hc hag hearly hdep hkp hK
  rw [if_pos (by simp [Region.wanted, hg])]
  have hrun' : (execOp a.eval o).run P w = .ok (.value (.pointer (some ⟨w.heap.size, 0, none⟩))) (w.alloc (.cells z.cells id)) := by
    unfold execOp
    rw [hop]
    simp only [Sem.run_bind, hrun, Result.andThen, Sem.run_pure]
  unfold Oper.wp
  rw [hrun']
  exact hK _ (newTag γ w (i + 1)) _ (by unfold effOf; rw [hr]; exact Grow.alloc γ w _ _) (holds_put ho hr rfl hd (lt_of hz hlt hag) ⟨w.heap.size, rfl, by simp [newTag], Cell.new (hT w)⟩)
/-- A new variable that is stored into in this region. -/
theorem sAlloc {d k : Nat} {id : TypeId} {z : Value} (ho : ops[i]? = some o) (hr : rels[i]? = some (rVar i id k)) (hd : o.dst = some d) (hz : a0.tmps.size = N) (hlt : decide (d < N) = true) (hg : o.guard = none)
    (hop : o.op = .alloc id) (hk : z.cells.size = k) (hzn : ∀ u ∈ z.cells, notDig u)
    (hrun : ∀ w, (Instr.alloc id true (.tuple #[])).run P w = .ok (.pointer (some ⟨w.heap.size, 0, none⟩)) (w.alloc (.cells z.cells id))) : StepOk P ops a0 M W Q rels i o := by
  intro a γ w K hc hag hearly hdep hkp hK
  rw [if_pos (by simp [Region.wanted, hg])]
  have hrun' : (execOp a.eval o).run P w = .ok (.value (.pointer (some ⟨w.heap.size, 0, none⟩))) (w.alloc (.cells z.cells id)) := by
    unfold execOp
    rw [hop]
    simp only [Sem.run_bind, hrun, Result.andThen, Sem.run_pure]
  unfold Oper.wp
  rw [hrun']
  exact hK _ (newTag γ w (i + 1)) _ (by unfold effOf; rw [hr]; exact Grow.alloc γ w _ _) (holds_put ho hr rfl hd (lt_of hz hlt hag) ⟨w.heap.size, rfl, by simp [newTag], z.cells, hk, hzn, Blk.new w id z.cells⟩)
theorem holds_sub {r : Rel} {a : Act} {γ : Nat → Nat} {w : World} {v : Value} {j : Nat} (ho : ops[i]? = some o) (hr : rels[i]? = some r) (hs : r.sub = some j) (hd : o.dst = none) (h : r.p (valOf ops a j) γ w) :
    Holds ops rels i (a.put o.dst v) γ w := by
  unfold Holds
  rw [hr, hd]
  simp only [hs, Option.getD_some]
  exact h
/-- What a store of such a value does. -/
def StoreOk (P : Program) (id : TypeId) (T : Ty) (k : Nat) : Prop := ∀ v w p us, T.p v w → us.size = k → Blk w p id us →
  ∃ w', (Instr.storeAt id (.pointer (some ⟨p, 0, none⟩)) v).run P w = .ok () w' ∧ But p w w' ∧ Blk w' p id v.cells ∧ v.cells.size = k ∧ ∀ u ∈ v.cells, notDig u
theorem sStore {j k : Nat} {id : TypeId} {tp : Nat} {x : Operand} (ho : ops[i]? = some o) (hr : rels[i]? = some (rB j id T (some j) (j + 1))) (hd : o.dst = none) (hg : o.guard = none)
    (hop : o.op = .store id (.tmp tp) x) (hj : (ops[j]?).bind (·.dst) = some tp) (hwj : waitsFor o j = true) (hrj : rels[j]? = some (rVar j id k))
    (s : Src ops a0 M W rels i o x T) (hst : StoreOk P id T k) : StepOk P ops a0 M W Q rels i o := by
  intro a γ w K hc hag hearly hdep hkp hK
  have h1 := hdep j hwj
  unfold Holds at h1
  rw [hrj] at h1
  have e1 : valOf ops a j = a.eval (.tmp tp) := by simp only [valOf, hj]; rfl
  obtain ⟨p, e, hγ, us, hu1, hu2, hu3⟩ : (rVar j id k).p (valOf ops a j) γ w := h1
  have hv := s a γ w ⟨hc, hag, hearly, hdep, hkp⟩
  obtain ⟨w', hrun, hbut, hblk, hks, hnd⟩ := hst _ w p us hv hu1 hu3
  have hgr : Grow (j + 1) γ w γ w' := Grow.but γ (by omega) hγ hu2 hnd (hu1.trans hks.symm) hu3 hblk hbut
  rw [if_pos (by simp [Region.wanted, hg])]
  have hrun' : (execOp a.eval o).run P w = .ok .skip w' := by
    unfold execOp
    rw [hop]
    simp only
    rw [← e1, e]
    simp only [Sem.run_bind, hrun, Result.andThen, Sem.run_pure]
  unfold Oper.wp
  rw [hrun']
  refine hK undef γ _ (by unfold effOf; rw [hr]; exact hgr) (holds_sub ho hr rfl hd ?_)
  exact ⟨p, e, hγ, _, hblk, T.l _ _ _ _ _ _ hgr hv⟩
/-- A store into an elder variable: the list's number k. -/
theorem sStoreE {k n p : Nat} {id : TypeId} {x y : Operand} (ho : ops[i]? = some o) (hr : rels[i]? = some (rE k id T p)) (hd : o.dst = none) (hg : o.guard = none)
    (hop : o.op = .store id y x) (sy : Src ops a0 M W rels i o y (tV (.pointer (some ⟨p, 0, none⟩)))) (hM : tagOf M 1000 p = 1000 + k) (hold : VarBlk W p id n)
    (s : Src ops a0 M W rels i o x T) (hst : StoreOk P id T n) : StepOk P ops a0 M W Q rels i o := by
  intro a γ w K hc hag hearly hdep hkp hK
  have U : Up ops a0 M W rels i o a γ w := ⟨hc, hag, hearly, hdep, hkp⟩
  have e : a.eval y = .pointer (some ⟨p, 0, none⟩) := sy a γ w U
  have hv := s a γ w U
  obtain ⟨us, hu1, hu2, hu3⟩ := hc.1.var p id n hold
  obtain ⟨w', hrun, hbut, hblk, hks, hnd⟩ := hst _ w p us hv hu1 hu3
  have hγ : γ p = 1000 + k := by rw [hc.2 p hold.lt]; exact hM
  have hgr : Grow (1000 + k) γ w γ w' := Grow.but γ (by omega) hγ hu2 hnd (hu1.trans hks.symm) hu3 hblk hbut
  rw [if_pos (by simp [Region.wanted, hg])]
  have hrun' : (execOp a.eval o).run P w = .ok .skip w' := by
    unfold execOp
    rw [hop]
    simp only
    rw [e]
    simp only [Sem.run_bind, hrun, Result.andThen, Sem.run_pure]
  unfold Oper.wp
  rw [hrun']
  refine hK undef γ _ (by unfold effOf; rw [hr]; exact hgr) ?_
  unfold Holds
  rw [hr]
  exact ⟨hγ, _, hblk, T.l _ _ _ _ _ _ hgr hv⟩

/-! ### A region, and what stands behind it -/
theorem region_drawn {id : Nat} {l : List Oper} (rels : List Rel) (hz : a0.tmps.size = N) (hdf : a0.defers = []) (hm : P.follows .mixedOrders = true) (hB : relB l.toArray N rels = true)
    (hstep : AllSteps (StepOk P l.toArray a0 M W Q rels) 0 l)
    (hend : ∀ a γ w', a.tmps.size = N → a.defers = [] → RelC M W γ w' → (∀ t v, (l.all fun o => !(o.dst == some t)) = true → Sl a0 t v → Sl a t v) → (∀ i, i < l.length → Holds l.toArray rels i a γ w') → Q .normal a w') : (Code.region id l.toArray true).wp P Q a0 W :=
  wp_region_rel rels hm (by rw [hz]; exact hB) hstep fun a γ w' hc hag hh => hend a γ w' (hag.size.trans hz) (hag.defers.trans hdf) hc (fun t v ht hs => (hag.same t fun o ho e => by
    have := List.all_eq_true.1 ht o (by simpa using ho)
    simp [e] at this).trans hs) hh
theorem region_text {id : Nat} {l : List Oper} (rels : List Rel) (hz : a0.tmps.size = N) (hdf : a0.defers = []) (hB : relB l.toArray N rels = true)
    (hstep : AllSteps (StepOk P l.toArray a0 M W Q rels) 0 l)
    (hend : ∀ a γ w', a.tmps.size = N → a.defers = [] → RelC M W γ w' → (∀ t v, (l.all fun o => !(o.dst == some t)) = true → Sl a0 t v → Sl a t v) → (∀ i, i < l.length → Holds l.toArray rels i a γ w') → Q .normal a w') : (Code.region id l.toArray false).wp P Q a0 W :=
  wp_region_rel_text rels (by rw [hz]; exact hB) hstep fun a γ w' hc hag hh => hend a γ w' (hag.size.trans hz) (hag.defers.trans hdf) hc (fun t v ht hs => (hag.same t fun o ho e => by
    have := List.all_eq_true.1 ht o (by simpa using ho)
    simp [e] at this).trans hs) hh
section
variable {a : Act} {γ : Nat → Nat} {w : World} {t : Nat} {l : List Oper}
theorem got {T : Ty} (hz : a.tmps.size = N) (i : Nat) (hh : ∀ i, i < l.length → Holds l.toArray rels i a γ w) (hi : decide (i < l.length) = true) (hr : rels[i]? = some (rT T)) (hd : (l.toArray[i]?).bind (·.dst) = some t) (hlt : decide (t < N) = true) : ∃ v, Sl a t v ∧ T.p v w := by
  have h := hh i (of_decide_eq_true hi)
  unfold Holds at h
  rw [hr] at h
  have e : valOf l.toArray a i = a.eval (.tmp t) := by simp only [valOf, hd]; rfl
  exact ⟨_, Sl.of hz hlt, by rw [← e]; exact h⟩
theorem gotV {u : Value} (hz : a.tmps.size = N) (i : Nat) (hh : ∀ i, i < l.length → Holds l.toArray rels i a γ w) (hi : decide (i < l.length) = true) (hr : rels[i]? = some (rT (tV u))) (hd : (l.toArray[i]?).bind (·.dst) = some t) (hlt : decide (t < N) = true) : Sl a t u := by
  obtain ⟨v, h1, h2⟩ := got (T := tV u) hz i hh hi hr hd hlt
  have h2 : v = u := h2
  subst h2; exact h1
/-- A new variable. -/
theorem gotB {T : Ty} {id : TypeId} {j eff : Nat} {s : Option Nat} (hz : a.tmps.size = N) (i : Nat) (hc : RelC M W γ w) (hh : ∀ i, i < l.length → Holds l.toArray rels i a γ w) (hi : decide (i < l.length) = true) (hr : rels[i]? = some (rB j id T s eff)) (hs : s.getD i = j) (hj : decide (j < 999) = true) (hd : (l.toArray[j]?).bind (·.dst) = some t) (hlt : decide (t < N) = true) :
    ∃ p, Sl a t (.pointer (some ⟨p, 0, none⟩)) ∧ Cell id T p w ∧ W.heap.size ≤ p ∧ γ p = j + 1 := by
  have h := hh i (of_decide_eq_true hi)
  unfold Holds at h
  rw [hr] at h
  have e : valOf l.toArray a j = a.eval (.tmp t) := by simp only [valOf, hd]; rfl
  obtain ⟨p, h1, h2, h3⟩ : (rB j id T s eff).p (valOf l.toArray a (s.getD i)) γ w := h
  rw [hs, e] at h1
  refine ⟨p, by rw [← h1]; exact Sl.of hz hlt, h3, ?_, h2⟩
  rcases Nat.lt_or_ge p W.heap.size with hp | hp
  · have h4 := hc.2 p hp
    rw [h2] at h4
    have hj := of_decide_eq_true hj
    have key : ∀ (M : List Nat) (k : Nat), tagOf M k p = 0 ∨ k ≤ tagOf M k p := by
      intro M
      induction M with
      | nil => exact fun _ => .inl rfl
      | cons m M ih =>
        intro k
        unfold tagOf
        split
        · exact .inr (Nat.le_refl _)
        · rcases ih (k + 1) with h | h
          · exact .inl h
          · exact .inr (by omega)
    rcases key M 1000 with h | h <;> omega
  · exact hp
theorem gotE {T : Ty} {id : TypeId} {k p : Nat} (i : Nat) (hh : ∀ i, i < l.length → Holds l.toArray rels i a γ w) (hi : decide (i < l.length) = true) (hr : rels[i]? = some (rE k id T p)) : Cell id T p w := by
  have h := hh i (of_decide_eq_true hi)
  unfold Holds at h
  rw [hr] at h
  exact h.2
end
end

/-! ### In and out -/
theorem enter {P : Program} {f : FuncId} {fn : Func} {c : Code} {args : Array Value} {w : World} {R : Ending → World → Prop} {N : Nat} (hf : P.funcs[f]? = some fn) (hb : fn.body = some c) (hN : fn.ntmps = N) (hlt : args.size ≤ N)
    (h : ∀ a : Act, a.tmps.size = N → a.defers = [] → (∀ t v, args[t]? = some v → Sl a t v) → c.wp P (bodyPost P fn R) a w) : Calls P f args w R := by
  refine calls_of_wp hf hb (h _ ?_ rfl fun t v ht => ?_)
  · rw [Array.size_append, Array.size_replicate, hN]; omega
  · unfold Sl
    obtain ⟨h1, h2⟩ := Array.getElem?_eq_some_iff.1 ht
    rw [Array.getElem?_append_left h1]; exact ht
theorem ret1 {P : Program} {fn : Func} {R : Ending → World → Prop} {a : Act} {w : World} {t : Nat} {v : Value} (h : fn.results = #[.tmp t]) (hs : Sl a t v) (hdf : a.defers = []) (hR : R (.returned v) w) : bodyPost P fn R .ret a w := by
  refine bodyPost_ret (v := v) ?_ hdf hR
  unfold Sl at hs
  simp [results, h, go_sem, hs]
end Go.Proofs.Ytijbhbjenddiaaa.Rg

namespace Go.Proofs.Ytijbhbjenddiaaa.Rg
open Go.RowKit

def big : Nat := 1099511627776
theorem big_eq : big = 1099511627776 := rfl
section
variable {b lim x : Nat}
theorem tN_nil {w : World} : (tN b lim 0).p (.agg #[.slice none 0 0]) w := ⟨none, 0, 0, rfl, DAt.nil, Nat.zero_le _⟩
theorem tN_le {lim' : Nat} (h : lim ≤ lim') : ∀ v w, (tN b lim x).p v w → (tN b lim' x).p v w := fun v w ⟨A, n, c, e, hd, hn⟩ => ⟨A, n, c, e, hd, Nat.le_trans hn h⟩
theorem tN_eq {y : Nat} (h : x = y) : ∀ v w, (tN b lim x).p v w → (tN b lim y).p v w := fun v w hv => h ▸ hv
end
theorem ld_n64 {b lim x p : Nat} : ∀ v w, (tN b lim x).p v w → Blk w p 25 v.cells → (Instr.loadAt 25 (.pointer (some ⟨p, 0, none⟩))).run Try.prog w = .ok v w := by
  rintro v w ⟨A, n, c, rfl, -, -⟩ hb
  have := hb.cell 0
  simp [go_sem, Value.cells] at this ⊢
  simp [this]
theorem box_n64 {b lim x : Nat} : ∀ v w, (tN b lim x).p v w → (Instr.box 25 v).run Try.prog w = .ok (.pointer (some ⟨w.heap.size, 0, none⟩)) (w.alloc (.cells v.cells 25)) := by
  rintro v w ⟨A, n, c, rfl, -, -⟩
  simp [go_sem, Value.cells]
theorem al_n64 : ∀ w : World, (Instr.alloc 25 true (.tuple #[])).run Try.prog w = .ok (.pointer (some ⟨w.heap.size, 0, none⟩)) (w.alloc (.cells (Value.agg #[.slice none 0 0]).cells 25)) := by
  intro w; simp [go_sem, Value.cells]
theorem st_n64 {b lim x : Nat} : StoreOk Try.prog 25 (tN b lim x) 1 := by
  rintro v w p us ⟨A, n, c, rfl, -, -⟩ hk hb
  obtain ⟨u, rfl⟩ : ∃ u, us = #[u] := by
    obtain ⟨l⟩ := us
    match l, hk with
    | [u], _ => exact ⟨u, rfl⟩
  have h1 := hb.cell 0
  have h2 := hb.frozen 0
  refine ⟨w.setCell ⟨p, 0, none⟩ (.slice A n c), ?_, But.set1 _ _ _ _, hb.set_ 0 _, rfl, ?_⟩
  · simp at h1
    simp [go_sem, h1, h2]
  · intro u hu
    simp [Value.cells] at hu
    subst hu
    intro k n _ h; cases h
theorem bd_n64 : ∀ w : World, (Instr.build 25 #[]).run Try.prog w = .ok (.agg #[.slice none 0 0]) w := by
  intro w; simp [go_sem]

theorem ld_n32 {b lim x p : Nat} : ∀ v w, (tN b lim x).p v w → Blk w p 44 v.cells → (Instr.loadAt 44 (.pointer (some ⟨p, 0, none⟩))).run Try.prog w = .ok v w := by
  rintro v w ⟨A, n, c, rfl, -, -⟩ hb
  have := hb.cell 0
  simp [go_sem, Value.cells] at this ⊢
  simp [this]
theorem box_n32 {b lim x : Nat} : ∀ v w, (tN b lim x).p v w → (Instr.box 44 v).run Try.prog w = .ok (.pointer (some ⟨w.heap.size, 0, none⟩)) (w.alloc (.cells v.cells 44)) := by
  rintro v w ⟨A, n, c, rfl, -, -⟩
  simp [go_sem, Value.cells]
theorem al_n32 : ∀ w : World, (Instr.alloc 44 true (.tuple #[])).run Try.prog w = .ok (.pointer (some ⟨w.heap.size, 0, none⟩)) (w.alloc (.cells (Value.agg #[.slice none 0 0]).cells 44)) := by
  intro w; simp [go_sem, Value.cells]
theorem st_n32 {b lim x : Nat} : StoreOk Try.prog 44 (tN b lim x) 1 := by
  rintro v w p us ⟨A, n, c, rfl, -, -⟩ hk hb
  obtain ⟨u, rfl⟩ : ∃ u, us = #[u] := by
    obtain ⟨l⟩ := us
    match l, hk with
    | [u], _ => exact ⟨u, rfl⟩
  have h1 := hb.cell 0
  have h2 := hb.frozen 0
  refine ⟨w.setCell ⟨p, 0, none⟩ (.slice A n c), ?_, But.set1 _ _ _ _, hb.set_ 0 _, rfl, ?_⟩
  · simp at h1
    simp [go_sem, h1, h2]
  · intro u hu
    simp [Value.cells] at hu
    subst hu
    intro k n _ h; cases h
theorem bd_n32 : ∀ w : World, (Instr.build 44 #[]).run Try.prog w = .ok (.agg #[.slice none 0 0]) w := by
  intro w; simp [go_sem]

theorem parseV_lt (l : List Nat) : ∃ k, k ≤ 400 ∧ parseV l < 10 ^ k := by
  by_cases h : parseOk l = true
  · unfold parseV
    rw [if_pos h]
    unfold parseOk at h
    simp only [Bool.and_eq_true, decide_eq_true_eq] at h
    exact ⟨l.length, h.1.2, readD_lt l (all_dig_le h.2)⟩
  · exact ⟨0, by omega, by unfold parseV; rw [if_neg h]; omega⟩
theorem parse_len {b : Nat} {w : World} {A : Option Addr} {n c : Nat} {l : List Nat} (hb : 2 ≤ b) (hb2 : 10 ≤ b) (h : DAt b w A n c (parseV l)) : n ≤ 400 := by
  obtain ⟨k, hk, hl⟩ := parseV_lt l
  exact Nat.le_trans (h.le hb (Nat.lt_of_lt_of_le hl (Nat.pow_le_pow_left hb2 k))) hk
theorem add_lim {b x y n n' l1 l2 : Nat} (hb : 2 ≤ b) (hx : x < b ^ n) (hn : n ≤ l1) (hy : y < b ^ n') (hn' : n' ≤ l2) : x + y < b ^ (max l1 l2 + 1) := by
  have h3 : b ^ n ≤ b ^ (max l1 l2) := Nat.pow_le_pow_right (by omega) (by omega)
  have h4 : b ^ n' ≤ b ^ (max l1 l2) := Nat.pow_le_pow_right (by omega) (by omega)
  have h6 : b ^ (max l1 l2) * 2 ≤ b ^ (max l1 l2) * b := Nat.mul_le_mul_left _ hb
  rw [Nat.pow_succ]; omega
theorem mul_lim {b x y n n' l1 l2 : Nat} (hb : 2 ≤ b) (hx : x < b ^ n) (hn : n ≤ l1) (hy : y < b ^ n') (hn' : n' ≤ l2) : x * y < b ^ (l1 + l2) := by
  rw [Nat.pow_add]
  exact Nat.mul_lt_mul'' (Nat.lt_of_lt_of_le hx (Nat.pow_le_pow_right (by omega) hn)) (Nat.lt_of_lt_of_le hy (Nat.pow_le_pow_right (by omega) hn'))
theorem le_lim {b x n l1 y : Nat} (hb : 2 ≤ b) (hx : x < b ^ n) (hn : n ≤ l1) (h : y ≤ x) : y < b ^ l1 := Nat.lt_of_le_of_lt h (Nat.lt_of_lt_of_le hx (Nat.pow_le_pow_right (by omega) hn))
theorem gcd_lim {b x y n n' l1 l2 : Nat} (hb : 2 ≤ b) (hx : x < b ^ n) (hn : n ≤ l1) (hy : y < b ^ n') (hn' : n' ≤ l2) : Nat.gcd x y < b ^ (max l1 l2) := by
  rcases Nat.eq_zero_or_pos x with h | h
  · subst h
    rw [Nat.gcd_zero_left]
    exact Nat.lt_of_lt_of_le hy (Nat.pow_le_pow_right (by omega) (by omega))
  · exact Nat.lt_of_le_of_lt (Nat.gcd_le_left y h) (Nat.lt_of_lt_of_le hx (Nat.pow_le_pow_right (by omega) (by omega)))

theorem c_add {l1 l2 x y : Nat} {v1 v2 : Value} {w : World} (h1 : (tN B64 l1 x).p v1 w) (h2 : (tN B64 l2 y).p v2 w) (b1 : l1 ≤ big) (b2 : l2 ≤ big) :
    Calls Try.prog 20 #[v1, v2] w (Ret (tN B64 (max l1 l2 + 1) (x + y)) w) := by
  obtain ⟨A, n, c, rfl, hx, hn⟩ := h1
  obtain ⟨A', n', c', rfl, hy, hn'⟩ := h2
  rw [big_eq] at b1 b2
  refine (Go.Proofs.Ytijbhbjenddiaaa.add_any A n c x A' n' c' y w hx hy (by omega) (by omega)).mono ?_
  rintro e w' ⟨A3, n3, c3, rfl, hd, hb⟩
  exact ⟨_, rfl, ⟨A3, n3, c3, rfl, hd, hd.le (by decide) (add_lim (by decide) (hx.lt (by decide)) hn (hy.lt (by decide)) hn')⟩, hb⟩

theorem c_mul {l1 l2 x y : Nat} {v1 v2 : Value} {w : World} (h1 : (tN B64 l1 x).p v1 w) (h2 : (tN B64 l2 y).p v2 w) (b1 : l1 ≤ big) (b2 : l2 ≤ big) :
    Calls Try.prog 19 #[v1, v2] w (Ret (tN B64 (l1 + l2) (x * y)) w) := by
  obtain ⟨A, n, c, rfl, hx, hn⟩ := h1
  obtain ⟨A', n', c', rfl, hy, hn'⟩ := h2
  rw [big_eq] at b1 b2
  refine (Go.Proofs.Ytijbhbjenddiaaa.mul_any A n c x A' n' c' y w hx hy (by omega) (by omega)).mono ?_
  rintro e w' ⟨A3, n3, c3, rfl, hd, hb⟩
  exact ⟨_, rfl, ⟨A3, n3, c3, rfl, hd, hd.le (by decide) (mul_lim (by decide) (hx.lt (by decide)) hn (hy.lt (by decide)) hn')⟩, hb⟩

theorem c_gcd {l1 l2 x y : Nat} {v1 v2 : Value} {w : World} (h1 : (tN B64 l1 x).p v1 w) (h2 : (tN B64 l2 y).p v2 w) (b1 : l1 ≤ big) (b2 : l2 ≤ big) :
    Calls Try.prog 36 #[v1, v2] w (Ret (tN B64 (max l1 l2) (Nat.gcd x y)) w) := by
  obtain ⟨A, n, c, rfl, hx, hn⟩ := h1
  obtain ⟨A', n', c', rfl, hy, hn'⟩ := h2
  rw [big_eq] at b1 b2
  refine (Go.Proofs.Ytijbhbjenddiaaa.gcd_any A n c x A' n' c' y w hx hy (by omega) (by omega)).mono ?_
  rintro e w' ⟨A3, n3, c3, rfl, hd, hb⟩
  exact ⟨_, rfl, ⟨A3, n3, c3, rfl, hd, hd.le (by decide) (gcd_lim (by decide) (hx.lt (by decide)) hn (hy.lt (by decide)) hn')⟩, hb⟩

theorem d_add {l1 l2 x y : Nat} {v1 v2 : Value} {w : World} (h1 : (tN B32 l1 x).p v1 w) (h2 : (tN B32 l2 y).p v2 w) (b1 : l1 ≤ big) (b2 : l2 ≤ big) :
    Calls Try.prog 58 #[v1, v2] w (Ret (tN B32 (max l1 l2 + 1) (x + y)) w) := by
  obtain ⟨A, n, c, rfl, hx, hn⟩ := h1
  obtain ⟨A', n', c', rfl, hy, hn'⟩ := h2
  rw [big_eq] at b1 b2
  refine (Go.Proofs.Ytijbhbjenddiaaa.Ref.plus_any A n c x A' n' c' y w hx hy (by omega) (by omega)).mono ?_
  rintro e w' ⟨A3, n3, c3, rfl, hd, hb⟩
  exact ⟨_, rfl, ⟨A3, n3, c3, rfl, hd, hd.le (by decide) (add_lim (by decide) (hx.lt (by decide)) hn (hy.lt (by decide)) hn')⟩, hb⟩

theorem d_mul {l1 l2 x y : Nat} {v1 v2 : Value} {w : World} (h1 : (tN B32 l1 x).p v1 w) (h2 : (tN B32 l2 y).p v2 w) (b1 : l1 ≤ big) (b2 : l2 ≤ big) :
    Calls Try.prog 59 #[v1, v2] w (Ret (tN B32 (l1 + l2) (x * y)) w) := by
  obtain ⟨A, n, c, rfl, hx, hn⟩ := h1
  obtain ⟨A', n', c', rfl, hy, hn'⟩ := h2
  rw [big_eq] at b1 b2
  refine (Go.Proofs.Ytijbhbjenddiaaa.Ref.times_any A n c x A' n' c' y w hx hy (by omega) (by omega)).mono ?_
  rintro e w' ⟨A3, n3, c3, rfl, hd, hb⟩
  exact ⟨_, rfl, ⟨A3, n3, c3, rfl, hd, hd.le (by decide) (mul_lim (by decide) (hx.lt (by decide)) hn (hy.lt (by decide)) hn')⟩, hb⟩

theorem d_gcd {l1 l2 x y : Nat} {v1 v2 : Value} {w : World} (h1 : (tN B32 l1 x).p v1 w) (h2 : (tN B32 l2 y).p v2 w) (b1 : l1 ≤ big) (b2 : l2 ≤ big) :
    Calls Try.prog 66 #[v1, v2] w (Ret (tN B32 (max l1 l2) (Nat.gcd x y)) w) := by
  obtain ⟨A, n, c, rfl, hx, hn⟩ := h1
  obtain ⟨A', n', c', rfl, hy, hn'⟩ := h2
  rw [big_eq] at b1 b2
  refine (Go.Proofs.Ytijbhbjenddiaaa.Ref.gcd_any A n c x A' n' c' y w hx hy (by omega) (by omega)).mono ?_
  rintro e w' ⟨A3, n3, c3, rfl, hd, hb⟩
  exact ⟨_, rfl, ⟨A3, n3, c3, rfl, hd, hd.le (by decide) (gcd_lim (by decide) (hx.lt (by decide)) hn (hy.lt (by decide)) hn')⟩, hb⟩

theorem c_len {l1 x : Nat} {v1 : Value} {w : World} (h1 : (tN B64 l1 x).p v1 w) (b1 : l1 ≤ big) :
    Calls Try.prog 16 #[v1] w (Ret (tV (.int .i64 ((bl x : Nat) : Int))) w) := by
  obtain ⟨A, n, c, rfl, hx, hn⟩ := h1
  rw [big_eq] at b1
  refine (Go.Proofs.Ytijbhbjenddiaaa.len_any A n c x w hx (by omega)).mono ?_
  rintro e w' ⟨rfl, hb⟩
  exact ⟨_, rfl, rfl, hb⟩

theorem c_bit {l1 x : Nat} {v1 : Value} {w : World} (h1 : (tN B64 l1 x).p v1 w) (b1 : l1 ≤ big) {i : Int} (hi : i ≤ 9223372036854775807) :
    Calls Try.prog 33 #[v1, .int .i64 i] w (Ret (tV (.bool (bitOf x i))) w) := by
  obtain ⟨A, n, c, rfl, hx, hn⟩ := h1
  rw [big_eq] at b1
  refine (Go.Proofs.Ytijbhbjenddiaaa.bit_any A n c x i w hx hi).mono ?_
  rintro e w' ⟨rfl, hb⟩
  exact ⟨_, rfl, rfl, hb⟩

theorem c_uint {l1 x : Nat} {v1 : Value} {w : World} (h1 : (tN B64 l1 x).p v1 w) (b1 : l1 ≤ big) :
    Calls Try.prog 40 #[v1] w (Ret (tT [tV (.int .u64 ((uintOf x : Nat) : Int)), tV (.bool (fitsU x))]) w) := by
  obtain ⟨A, n, c, rfl, hx, hn⟩ := h1
  rw [big_eq] at b1
  refine (Go.Proofs.Ytijbhbjenddiaaa.uint_any A n c x w hx (by omega)).mono ?_
  rintro e w' ⟨rfl, hb⟩
  exact ⟨_, rfl, ⟨_, rfl, rfl, rfl, trivial⟩, hb⟩

theorem c_text {l1 x : Nat} {v1 : Value} {w : World} (h1 : (tN B64 l1 x).p v1 w) (b1 : l1 ≤ big) :
    Calls Try.prog 23 #[v1] w (Ret (tV (.string (strB (txt x)))) w) := by
  obtain ⟨A, n, c, rfl, hx, hn⟩ := h1
  rw [big_eq] at b1
  refine (Go.Proofs.Ytijbhbjenddiaaa.text_any A n c x w hx (by omega)).mono ?_
  rintro e w' ⟨rfl, hb⟩
  exact ⟨_, rfl, rfl, hb⟩

theorem c_cmp {l1 l2 x y : Nat} {v1 v2 : Value} {w : World} (h1 : (tN B64 l1 x).p v1 w) (h2 : (tN B64 l2 y).p v2 w) (b1 : l1 ≤ big) (b2 : l2 ≤ big) :
    Calls Try.prog 17 #[v1, v2] w (Ret (tV (.int .i64 (cmpI x y))) w) := by
  obtain ⟨A, n, c, rfl, hx, hn⟩ := h1
  obtain ⟨A', n', c', rfl, hy, hn'⟩ := h2
  rw [big_eq] at b1 b2
  refine (Go.Proofs.Ytijbhbjenddiaaa.cmp_any A n c x A' n' c' y w hx hy (by omega) (by omega)).mono ?_
  rintro e w' ⟨rfl, hb⟩
  exact ⟨_, rfl, rfl, hb⟩

theorem c_right {l1 x : Nat} {v1 : Value} {w : World} (h1 : (tN B64 l1 x).p v1 w) (b1 : l1 ≤ big) {i : Int} (hi : i ≤ 9223372036854775807) :
    Calls Try.prog 34 #[v1, .int .i64 i] w (Ret (tN B64 l1 (x / 2 ^ i.toNat)) w) := by
  obtain ⟨A, n, c, rfl, hx, hn⟩ := h1
  rw [big_eq] at b1
  refine (Go.Proofs.Ytijbhbjenddiaaa.right_any A n c x i w hx (by omega) hi).mono ?_
  rintro e w' ⟨A3, n3, c3, rfl, hd, hb⟩
  exact ⟨_, rfl, ⟨A3, n3, c3, rfl, hd, hd.le (by decide) (le_lim (by decide) (hx.lt (by decide)) hn (Nat.div_le_self _ _))⟩, hb⟩

theorem c_of {k : Nat} {w : World} (hk : k < B64) :
    Calls Try.prog 28 #[.int .u64 (k : Int)] w (Ret (tN B64 1 k) w) := by
  skip
  refine (Go.Proofs.Ytijbhbjenddiaaa.of_any k hk w).mono ?_
  rintro e w' ⟨A3, n3, c3, rfl, hd, hb⟩
  exact ⟨_, rfl, ⟨A3, n3, c3, rfl, hd, hd.le (by decide) (by rw [Nat.pow_one]; exact hk)⟩, hb⟩

theorem c_parse {s : ByteArray} {w : World} :
    Calls Try.prog 24 #[.string s] w (Ret (tT [tN B64 400 (parseV (bytesL s)), tV (.bool (parseOk (bytesL s)))]) w) := by
  skip
  refine (Go.Proofs.Ytijbhbjenddiaaa.parse_any s w).mono ?_
  rintro e w' ⟨A3, n3, c3, rfl, hd, hb⟩
  exact ⟨_, rfl, ⟨_, rfl, ⟨A3, n3, c3, rfl, hd, parse_len (by decide) (by decide) hd⟩, rfl, trivial⟩, hb⟩

theorem d_len {l1 x : Nat} {v1 : Value} {w : World} (h1 : (tN B32 l1 x).p v1 w) (b1 : l1 ≤ big) :
    Calls Try.prog 45 #[v1] w (Ret (tV (.int .i64 ((bl x : Nat) : Int))) w) := by
  obtain ⟨A, n, c, rfl, hx, hn⟩ := h1
  rw [big_eq] at b1
  refine (Go.Proofs.Ytijbhbjenddiaaa.Ref.len_any A n c x w hx (by omega)).mono ?_
  rintro e w' ⟨rfl, hb⟩
  exact ⟨_, rfl, rfl, hb⟩

theorem d_bit {l1 x : Nat} {v1 : Value} {w : World} (h1 : (tN B32 l1 x).p v1 w) (b1 : l1 ≤ big) {i : Int} (hi : i ≤ 9223372036854775807) :
    Calls Try.prog 62 #[v1, .int .i64 i] w (Ret (tV (.bool (bitOf x i))) w) := by
  obtain ⟨A, n, c, rfl, hx, hn⟩ := h1
  rw [big_eq] at b1
  refine (Go.Proofs.Ytijbhbjenddiaaa.Ref.bit_any A n c x i w hx hi).mono ?_
  rintro e w' ⟨rfl, hb⟩
  exact ⟨_, rfl, rfl, hb⟩

theorem d_uint {l1 x : Nat} {v1 : Value} {w : World} (h1 : (tN B32 l1 x).p v1 w) (b1 : l1 ≤ big) :
    Calls Try.prog 60 #[v1] w (Ret (tT [tV (.int .u64 ((uintOf x : Nat) : Int)), tV (.bool (fitsU x))]) w) := by
  obtain ⟨A, n, c, rfl, hx, hn⟩ := h1
  rw [big_eq] at b1
  refine (Go.Proofs.Ytijbhbjenddiaaa.Ref.uint_any A n c x w hx (by omega)).mono ?_
  rintro e w' ⟨rfl, hb⟩
  exact ⟨_, rfl, ⟨_, rfl, rfl, rfl, trivial⟩, hb⟩

theorem d_text {l1 x : Nat} {v1 : Value} {w : World} (h1 : (tN B32 l1 x).p v1 w) (b1 : l1 ≤ big) :
    Calls Try.prog 61 #[v1] w (Ret (tV (.string (strB (txt x)))) w) := by
  obtain ⟨A, n, c, rfl, hx, hn⟩ := h1
  rw [big_eq] at b1
  refine (Go.Proofs.Ytijbhbjenddiaaa.Ref.text_any A n c x w hx (by omega)).mono ?_
  rintro e w' ⟨rfl, hb⟩
  exact ⟨_, rfl, rfl, hb⟩

theorem d_cmp {l1 l2 x y : Nat} {v1 v2 : Value} {w : World} (h1 : (tN B32 l1 x).p v1 w) (h2 : (tN B32 l2 y).p v2 w) (b1 : l1 ≤ big) (b2 : l2 ≤ big) :
    Calls Try.prog 65 #[v1, v2] w (Ret (tV (.int .i64 (cmpI x y))) w) := by
  obtain ⟨A, n, c, rfl, hx, hn⟩ := h1
  obtain ⟨A', n', c', rfl, hy, hn'⟩ := h2
  rw [big_eq] at b1 b2
  refine (Go.Proofs.Ytijbhbjenddiaaa.Ref.cmp_any A n c x A' n' c' y w hx hy (by omega) (by omega)).mono ?_
  rintro e w' ⟨rfl, hb⟩
  exact ⟨_, rfl, rfl, hb⟩

theorem d_right {l1 x : Nat} {v1 : Value} {w : World} (h1 : (tN B32 l1 x).p v1 w) (b1 : l1 ≤ big) {i : Int} (hi : i ≤ 9223372036854775807) :
    Calls Try.prog 71 #[v1, .int .i64 i] w (Ret (tN B32 l1 (x / 2 ^ i.toNat)) w) := by
  obtain ⟨A, n, c, rfl, hx, hn⟩ := h1
  rw [big_eq] at b1
  refine (Go.Proofs.Ytijbhbjenddiaaa.Ref.right1_any A n c x i w hx (by omega) hi).mono ?_
  rintro e w' ⟨A3, n3, c3, rfl, hd, hb⟩
  exact ⟨_, rfl, ⟨A3, n3, c3, rfl, hd, hd.le (by decide) (le_lim (by decide) (hx.lt (by decide)) hn (Nat.div_le_self _ _))⟩, hb⟩

theorem d_of {k : Nat} {w : World} (hk : k < B64) :
    Calls Try.prog 29 #[.int .u64 (k : Int)] w (Ret (tN B32 2 k) w) := by
  skip
  refine (Go.Proofs.Ytijbhbjenddiaaa.Ref.of_any k hk w).mono ?_
  rintro e w' ⟨A3, n3, c3, rfl, hd, hn, hb⟩
  exact ⟨_, rfl, ⟨A3, n3, c3, rfl, hd, hn⟩, hb⟩

theorem d_parse {s : ByteArray} {w : World} :
    Calls Try.prog 26 #[.string s] w (Ret (tT [tN B32 400 (parseV (bytesL s)), tV (.bool (parseOk (bytesL s)))]) w) := by
  skip
  refine (Go.Proofs.Ytijbhbjenddiaaa.Ref.parse_any s w).mono ?_
  rintro e w' ⟨A3, n3, c3, rfl, hd, hb⟩
  exact ⟨_, rfl, ⟨_, rfl, ⟨A3, n3, c3, rfl, hd, parse_len (by decide) (by decide) hd⟩, rfl, trivial⟩, hb⟩

theorem c_sub {l1 l2 x y : Nat} {v1 v2 : Value} {w : World} (h1 : (tN B64 l1 x).p v1 w) (h2 : (tN B64 l2 y).p v2 w) (b1 : l1 ≤ big) (b2 : l2 ≤ big) :
    Calls Try.prog 37 #[v1, v2] w (Ret (tT [tN B64 l1 (x - y), tV (.bool (decide (y ≤ x)))]) w) := by
  obtain ⟨A, n, c, rfl, hx, hn⟩ := h1
  obtain ⟨A', n', c', rfl, hy, hn'⟩ := h2
  rw [big_eq] at b1 b2
  refine (sub_any A n c x A' n' c' y w hx hy (by omega) (by omega)).mono ?_
  rintro e w' ⟨A3, n3, c3, rfl, hd, hb⟩
  exact ⟨_, rfl, ⟨_, rfl, ⟨A3, n3, c3, rfl, hd, hd.le (by decide) (le_lim (by decide) (hx.lt (by decide)) hn (Nat.sub_le _ _))⟩, rfl, trivial⟩, hb⟩
theorem d_minus {l1 l2 x y : Nat} {v1 v2 : Value} {w : World} (h1 : (tN B32 l1 x).p v1 w) (h2 : (tN B32 l2 y).p v2 w) (b1 : l1 ≤ big) (b2 : l2 ≤ big) (hyx : y ≤ x) :
    Calls Try.prog 67 #[v1, v2] w (Ret (tN B32 l1 (x - y)) w) := by
  obtain ⟨A, n, c, rfl, hx, hn⟩ := h1
  obtain ⟨A', n', c', rfl, hy, hn'⟩ := h2
  rw [big_eq] at b1 b2
  refine (Ref.minus_any A n c x A' n' c' y w hx hy (by omega) (by omega) hyx).mono ?_
  rintro e w' ⟨A3, n3, c3, rfl, hd, hb⟩
  exact ⟨_, rfl, ⟨A3, n3, c3, rfl, hd, hd.le (by decide) (le_lim (by decide) (hx.lt (by decide)) hn (Nat.sub_le _ _))⟩, hb⟩
theorem c_divmod {l1 l2 x y : Nat} {v1 v2 : Value} {w : World} (h1 : (tN B64 l1 x).p v1 w) (h2 : (tN B64 l2 y).p v2 w) (b1 : l1 ≤ big) (b2 : l2 ≤ big) :
    Calls Try.prog 15 #[v1, v2] w (Ret (tT [tN B64 l1 (x / y), tN B64 l1 (modOf x y), tV (.bool (nz y))]) w) := by
  obtain ⟨A, n, c, rfl, hx, hn⟩ := h1
  obtain ⟨A', n', c', rfl, hy, hn'⟩ := h2
  rw [big_eq] at b1 b2
  refine (divmod_any A n c x A' n' c' y w hx hy (by omega) (by omega)).mono ?_
  rintro e w' ⟨A3, n3, c3, A4, n4, c4, rfl, hd, hd4, hb⟩
  exact ⟨_, rfl, ⟨_, rfl, ⟨A3, n3, c3, rfl, hd, hd.le (by decide) (le_lim (by decide) (hx.lt (by decide)) hn (Nat.div_le_self _ _))⟩, ⟨A4, n4, c4, rfl, hd4, hd4.le (by decide) (le_lim (by decide) (hx.lt (by decide)) hn (modOf_le _ _))⟩, rfl, trivial⟩, hb⟩
theorem d_divmod {l1 l2 x y : Nat} {v1 v2 : Value} {w : World} (h1 : (tN B32 l1 x).p v1 w) (h2 : (tN B32 l2 y).p v2 w) (b1 : l1 ≤ big) (b2 : l2 ≤ big) (hy0 : 0 < y) :
    Calls Try.prog 69 #[v1, v2] w (Ret (tT [tN B32 l1 (x / y), tN B32 l1 (x % y)]) w) := by
  obtain ⟨A, n, c, rfl, hx, hn⟩ := h1
  obtain ⟨A', n', c', rfl, hy, hn'⟩ := h2
  rw [big_eq] at b1 b2
  refine (Ref.divmod_any A n c x A' n' c' y w hx hy (by omega) (by omega) hy0).mono ?_
  rintro e w' ⟨A3, n3, c3, A4, n4, c4, rfl, hd, hd4, hb⟩
  exact ⟨_, rfl, ⟨_, rfl, ⟨A3, n3, c3, rfl, hd, hd.le (by decide) (le_lim (by decide) (hx.lt (by decide)) hn (Nat.div_le_self _ _))⟩, ⟨A4, n4, c4, rfl, hd4, hd4.le (by decide) (le_lim (by decide) (hx.lt (by decide)) hn (Nat.mod_le _ _))⟩, trivial⟩, hb⟩
theorem d_zero {l1 x : Nat} {v1 : Value} {w : World} (h1 : (tN B32 l1 x).p v1 w) :
    Calls Try.prog 68 #[v1] w (Ret (tV (.bool (decide (x = 0)))) w) := by
  obtain ⟨A, n, c, rfl, hx, hn⟩ := h1
  refine (Ref.zero_any A n c x w hx).mono ?_
  rintro e w' ⟨rfl, hb⟩
  exact ⟨_, rfl, rfl, hb⟩
end Go.Proofs.Ytijbhbjenddiaaa.Rg

namespace Go.Proofs.Ytijbhbjenddiaaa.Rg
open Go.RowKit

theorem bat_grow {t : Nat} {γ γ' : Nat → Nat} {w w' : World} {A : Option Addr} {n c : Nat} {l : List Nat} (g : Grow t γ w γ' w') (h : BAt w A n c l) : BAt w' A n c l := by
  refine ⟨⟨h.reads.1, fun hn => ?_⟩, h.byte⟩
  obtain ⟨ad, e, hb, hc⟩ := h.reads.2 hn
  refine ⟨ad, e, Nat.lt_of_lt_of_le hb g.size, fun j v hv => ?_⟩
  obtain ⟨d, _, rfl⟩ := List.mem_map.1 (List.mem_of_getElem? hv)
  exact g.num _ _ _ rfl (hc j _ hv)
/-- Bytes. -/
def tBy (lim : Nat) (l : List Nat) : Ty := ⟨fun v w => ∃ A n c, v = .slice A n c ∧ BAt w A n c l ∧ n ≤ c ∧ n ≤ lim, fun _ _ _ _ _ _ g ⟨A, n, c, e, h, h1, h2⟩ => ⟨A, n, c, e, bat_grow g h, h1, h2⟩⟩
theorem cv_by {lim : Nat} {l : List Nat} : ∀ v w, (tBy lim l).p v w → (convert 22 9 v).run Try.prog w = .ok (.string (strB l)) w := by
  rintro v w ⟨A, n, c, rfl, h, -, -⟩
  rcases Nat.eq_zero_or_pos n with h0 | h0
  · subst h0
    have : l = [] := List.eq_nil_of_length_eq_zero h.len
    subst this
    cases A with
    | none => simp [go_sem, convert]; rfl
    | some ad => simp [go_sem, convert]; rfl
  · obtain ⟨g, off, rfl, hg, hc⟩ := h.flat h0
    refine run_convert_bytes_arg (P := Try.prog) w 22 5 Try.underlying22 Try.underlying5 g off n c (l.map fun (d : Nat) => (d : Int)) (by rw [List.length_map]; exact h.len) (fun i hi => ?_) 9 Try.underlying9
    rw [hc i hi]
    simp only [List.getD_eq_getElem?_getD, List.getElem?_map]
    rw [List.getElem?_eq_getElem (by rw [h.len]; omega)]
    rfl
section
variable {P : Program} {ops : Array Oper} {Q : Exit → Act → World → Prop} {a0 : Act} {M : List Nat} {W : World} {rels : List Rel} {i : Nat} {o : Oper} {T : Ty} {N d : Nat} {x : Operand}
theorem sConv {T' : Ty} {src dst : TypeId} (ho : ops[i]? = some o) (hr : rels[i]? = some (rT T)) (hd : o.dst = some d) (hz : a0.tmps.size = N) (hlt : decide (d < N) = true) (g : Gd ops a0 M W rels i o true)
    (hop : o.op = .convert src dst x) (s : Src ops a0 M W rels i o x T') (h : ∀ v w, T'.p v w → ∃ u, (convert src dst v).run P w = .ok u w ∧ T.p u w) : StepOk P ops a0 M W Q rels i o :=
  sOp ho hr hd hz hlt g fun a γ w U => by
    obtain ⟨u, h1, h2⟩ := h _ w (s a γ w U)
    refine ⟨u, ?_, h2⟩
    unfold execOp; rw [hop]; simp only [Sem.run_bind, h1, Result.andThen, Sem.run_pure]
end
theorem c_fb {lim : Nat} {l : List Nat} {v1 : Value} {w : World} (h1 : (tBy lim l).p v1 w) (b1 : lim ≤ big) :
    Calls Try.prog 13 #[v1] w (Ret (tN B64 lim (bev l)) w) := by
  obtain ⟨A, n, c, rfl, h, -, hn⟩ := h1
  rw [big_eq] at b1
  refine (frombytes_any A n c l w h (by omega)).mono ?_
  rintro e w' ⟨A3, n3, c3, rfl, hd, hb⟩
  refine ⟨_, rfl, ⟨A3, n3, c3, rfl, hd, hd.le (by decide) ?_⟩, hb⟩
  have h1 := bev_lt h.byte
  rw [h.len] at h1
  exact Nat.lt_of_lt_of_le h1 (Nat.le_trans (Nat.pow_le_pow_left (by decide) n) (Nat.pow_le_pow_right (by decide) hn))
theorem d_fb {lim : Nat} {l : List Nat} {v1 : Value} {w : World} (h1 : (tBy lim l).p v1 w) (b1 : lim ≤ big) :
    Calls Try.prog 30 #[v1] w (Ret (tN B32 lim (bev l)) w) := by
  obtain ⟨A, n, c, rfl, h, -, hn⟩ := h1
  rw [big_eq] at b1
  refine (Ref.frombytes_any A n c l w h (by omega)).mono ?_
  rintro e w' ⟨A3, n3, c3, rfl, hd, hb⟩
  refine ⟨_, rfl, ⟨A3, n3, c3, rfl, hd, hd.le (by decide) ?_⟩, hb⟩
  have h1 := bev_lt h.byte
  rw [h.len] at h1
  exact Nat.lt_of_lt_of_le h1 (Nat.le_trans (Nat.pow_le_pow_left (by decide) n) (Nat.pow_le_pow_right (by decide) hn))
theorem bl_of {b lim x k : Nat} {v : Value} {w : World} (h : (tN b lim x).p v w) (hb : b = 2 ^ k) (hb2 : 2 ≤ b) : bl x ≤ k * lim := by
  obtain ⟨A, n, c, rfl, hx, hn⟩ := h
  refine bl_le ?_
  rw [Nat.pow_mul, ← hb]
  exact Nat.lt_of_lt_of_le (hx.lt hb2) (Nat.pow_le_pow_right (by omega) hn)
theorem c_bytes {l1 x : Nat} {v1 : Value} {w : World} (h1 : (tN B64 l1 x).p v1 w) (b1 : l1 ≤ big) :
    Calls Try.prog 22 #[v1] w (Ret (tBy (8 * l1) (bytesOf x)) w) := by
  have hbl := bl_of h1 (k := 64) rfl (by decide)
  obtain ⟨A, n, c, rfl, hx, hn⟩ := h1
  rw [big_eq] at b1
  refine (bytes_any A n c x w hx (by omega)).mono ?_
  rintro e w' ⟨g, m, rfl, hg, hm, hB, hb⟩
  have h3 := hB.bat (bytesOf_lt x)
  rw [bytes_len, ← hm] at h3
  exact ⟨_, rfl, ⟨_, m, m, rfl, h3, Nat.le_refl _, by omega⟩, hb⟩
theorem d_bytes {l1 x : Nat} {v1 : Value} {w : World} (h1 : (tN B32 l1 x).p v1 w) (b1 : l1 ≤ big) :
    Calls Try.prog 72 #[v1] w (Ret (tBy (8 * l1) (bytesOf x)) w) := by
  have hbl := bl_of h1 (k := 32) rfl (by decide)
  obtain ⟨A, n, c, rfl, hx, hn⟩ := h1
  rw [big_eq] at b1
  refine (Ref.bytes_any A n c x w hx (by omega)).mono ?_
  rintro e w' ⟨g, m, rfl, hg, hm, hB, hb⟩
  have h3 := hB.bat (bytesOf_lt x)
  rw [bytes_len, ← hm] at h3
  exact ⟨_, rfl, ⟨_, m, m, rfl, h3, Nat.le_refl _, by omega⟩, hb⟩
set_option maxHeartbeats 400000 in
theorem left_low (A : Option Addr) (n c x : Nat) (k : Int) (w : World) (h : DAt B64 w A n c x) (hn : n ≤ 1099511627776) (hx0 : 0 < x) (hlow : k < -(bl x : Nat)) :
    Calls Try.prog 32 #[.agg #[.slice A n c], .int .i64 k] w fun e w' => ∃ A n c, e = .returned (.tuple #[.agg #[.slice A n c], .bool (leftOk x k)]) ∧ DAt B64 w' A n c (leftV x k) ∧ Below w.heap.size w w' := by
  have hz : ((n : Int) == 0) = false := by
    have := (h.zero_len two_le_B64)
    simp; omega
  have hk0 : k < 0 := by omega
  rw [leftOk_near (by omega), leftV_neg hk0]
  have h1 := h.below (((Below.refl _ _).alloc (Nat.le_refl _) (.cells #[.slice A n c] 25)).alloc (by simp) (.cells #[.slice none 0 0] 25))
  have hbx : bl x ≤ 70368744177664 := Nat.le_trans (bl_le (by have := h.lt two_le_B64; rwa [B64_pow_two] at this)) (by omega)
  have hzz : x / 2 ^ (-k).toNat = 0 := Nat.div_eq_of_lt (Nat.lt_of_lt_of_le bl_lt (Nat.pow_le_pow_right (by omega) (by omega)))
  rw [hzz]
  clear hzz h
  go_enter Try.func32, Try.ntmps32
  go_wp2_with fail
  refine (len_any A n c x _ h1 hn).mono ?_
  rintro e w1 ⟨rfl, hb1⟩
  have hb2 : Below (w.heap.size + 1 + 1) ((w.alloc (.cells #[.slice A n c] 25)).alloc (.cells #[.slice none 0 0] 25)) w1 := hb1.mono (by simp)
  have r1 : w1.cell? ⟨w.heap.size + 1, 0, none⟩ = some (.slice none 0 0) := by have := res_cell (w := w.alloc (.cells #[.slice A n c] 25)) hb2 (by simp); simpa using this
  have r2 : w1.frozen? ⟨w.heap.size + 1, 0, none⟩ = false := by have := res_free (w := w.alloc (.cells #[.slice A n c] 25)) hb2 (by simp); simpa using this
  clear h1
  go_wp2
  refine bodyPost_ret (v := .tuple #[.agg #[.slice none 0 0], .bool true]) (by simp [results, Try.results32, go_sem, r1]) rfl ⟨_, _, _, rfl, DAt.nil, ?_⟩
  exact ((((Below.refl _ _).alloc (Nat.le_refl _) _).alloc (by simp) _).trans (hb2.mono (by omega))).setCell (by simp) _
theorem left_all (A : Option Addr) (n c x : Nat) (k : Int) (w : World) (h : DAt B64 w A n c x) (hn : n ≤ 1099511627776) (hk : k ≤ 9223372036854775807) (hk2 : -9223372036854775808 ≤ k) :
    Calls Try.prog 32 #[.agg #[.slice A n c], .int .i64 k] w fun e w' => ∃ A n c, e = .returned (.tuple #[.agg #[.slice A n c], .bool (leftOk x k)]) ∧ DAt B64 w' A n c (leftV x k) ∧ Below w.heap.size w w' := by
  rcases Nat.eq_zero_or_pos x with hx0 | hx0
  · subst hx0
    have hn0 : n = 0 := (h.zero_len two_le_B64).2 rfl
    subst hn0
    rw [leftOk_zero, leftV_zero]
    clear h
    go_enter Try.func32, Try.ntmps32
    go_wp2
    exact bodyPost_ret (v := .tuple #[.agg #[.slice none 0 0], .bool true]) (by simp [results, Try.results32, go_sem]) rfl ⟨_, _, _, rfl, DAt.nil, ((Below.refl _ _).alloc (Nat.le_refl _) _).alloc (by simp) _⟩
  · by_cases hlow : k < -(bl x : Nat)
    · exact left_low A n c x k w h hn hx0 hlow
    · have hbx : bl x ≤ 70368744177664 := Nat.le_trans (bl_le (by have := h.lt two_le_B64; rwa [B64_pow_two] at this)) (by omega)
      exact left_any A n c x k w h hn hk (by omega)
theorem leftV_lt {b lim x m : Nat} {k : Int} (hb : 2 ≤ b) (hx : x < b ^ lim) (hm : m = 16777216) : leftV x k < b ^ (lim + m) := by
  unfold leftV
  have h0 : b ^ lim ≤ b ^ (lim + m) := Nat.pow_le_pow_right (by omega) (by omega)
  split
  · exact Nat.lt_of_le_of_lt (Nat.div_le_self _ _) (Nat.lt_of_lt_of_le hx h0)
  · split
    · rename_i h1 h2
      by_cases hx0 : x = 0
      · subst hx0; rw [Nat.zero_mul]; exact Nat.pow_pos (by omega)
      · have : k ≤ 16777216 := by unfold leftOk at h2; simp [hx0] at h2; exact h2
        have h3 : 2 ^ k.toNat ≤ b ^ m := Nat.le_trans (Nat.pow_le_pow_right (by omega) (by omega)) (Nat.pow_le_pow_left hb _)
        rw [Nat.pow_add]
        exact Nat.mul_lt_mul_of_lt_of_le hx h3 (Nat.pow_pos (by omega))
    · exact Nat.pow_pos (by omega)
theorem c_left {l1 x : Nat} {v1 : Value} {w : World} {k : Int} (h1 : (tN B64 l1 x).p v1 w) (b1 : l1 ≤ big) (hk : k ≤ 9223372036854775807) (hk2 : -9223372036854775808 ≤ k) :
    Calls Try.prog 32 #[v1, .int .i64 k] w (Ret (tT [tN B64 (l1 + 16777216) (leftV x k), tV (.bool (leftOk x k))]) w) := by
  obtain ⟨A, n, c, rfl, hx, hn⟩ := h1
  rw [big_eq] at b1
  refine (left_all A n c x k w hx (by omega) hk hk2).mono ?_
  rintro e w' ⟨A3, n3, c3, rfl, hd, hb⟩
  exact ⟨_, rfl, ⟨_, rfl, ⟨A3, n3, c3, rfl, hd, hd.le (by decide) (leftV_lt (by decide) (le_lim (by decide) (hx.lt (by decide)) hn (Nat.le_refl _)) rfl)⟩, rfl, trivial⟩, hb⟩
theorem d_left {l1 x : Nat} {v1 : Value} {w : World} {k : Int} (h1 : (tN B32 l1 x).p v1 w) (b1 : l1 ≤ big) (hk2 : -9223372036854775808 ≤ k) :
    Calls Try.prog 70 #[v1, .int .i64 k] w (Ret (tT [tN B32 (l1 + 16777216) (leftV x k), tV (.bool (leftOk x k))]) w) := by
  obtain ⟨A, n, c, rfl, hx, hn⟩ := h1
  rw [big_eq] at b1
  refine (Ref.shifted_any A n c x k w hx (by omega) hk2).mono ?_
  rintro e w' ⟨A3, n3, c3, rfl, hd, hb⟩
  exact ⟨_, rfl, ⟨_, rfl, ⟨A3, n3, c3, rfl, hd, hd.le (by decide) (leftV_lt (by decide) (le_lim (by decide) (hx.lt (by decide)) hn (Nat.le_refl _)) rfl)⟩, rfl, trivial⟩, hb⟩
end Go.Proofs.Ytijbhbjenddiaaa.Rg

namespace Go.Proofs.Ytijbhbjenddiaaa.Rg
open Go.RowKit

theorem nd_slice : ∀ u ∈ (Value.agg #[.slice none 0 0]).cells, notDig u := by
  intro u hu
  simp [Value.cells] at hu
  subst hu
  intro k n _ h; cases h

set_option maxRecDepth 10000 in
set_option maxHeartbeats 1000000 in
theorem same_walk {x : Nat} {v0 v1 : Value} {w : World} (h0 : (tN B64 1099511627776 x).p v0 w) (h1 : (tN B32 1099511627776 x).p v1 w) :
    Calls Try.prog 43 #[v0, v1] w (Ret (tV (.bool true)) w) := by
  refine enter Try.func43 rfl Try.ntmps43 (by simp) ?_
  intro a hz hd ha
  have S0 := ha 0 _ rfl
  have H0 := h0
  have S1 := ha 1 _ rfl
  have H1 := h1
  clear ha
  have HB : Below w.heap.size w w := Below.refl _ _
  refine wp_seq ?_
  refine region_text (M := []) (
      rB 0 25 (tN B64 1099511627776 x) none 0 ::
      rB 1 44 (tN B32 1099511627776 x) none 0 ::
      rT (tV (.bool false)) ::
      []) hz hd (by kernel_rfl) ?_ ?_
  · refine ⟨?_, ?_, ?_, trivial⟩
    · exact sBox rfl rfl rfl hz rfl rfl rfl (Src.out (t := 0) (by kernel_rfl) S0 H0) box_n64
    · exact sBox rfl rfl rfl hz rfl rfl rfl (Src.out (t := 1) (by kernel_rfl) S1 H1) box_n32
    · exact sAs rfl rfl rfl hz rfl (Gd.none_ rfl) rfl (Src.const (.bool false))
  intro a' γ' W' hz' hd' hC hk hh
  clear S0 H0
  clear S1 H1
  obtain ⟨p1, S2, Cp1, lp1, gp1⟩ := gotB hz' 0 hC hh rfl rfl rfl rfl rfl rfl
  obtain ⟨p2, S3, Cp2, lp2, gp2⟩ := gotB hz' 1 hC hh rfl rfl rfl rfl rfl rfl
  have S4 := gotV hz' 2 hh rfl rfl rfl rfl
  clear lp1 gp1 lp2 gp2
  replace HB := aft_call HB (RelC.below_nil hC)
  clear hC hk hh; replace hz := hz'; replace hd := hd'; clear hz' hd'
  refine wp_seq ?_
  refine region_drawn (M := []) (
      rT (tN B64 1099511627776 x) ::
      rT (tBy 8796093022208 (bytesOf x)) ::
      rT (tV (.string (strB (bytesOf x)))) ::
      rT (tN B32 1099511627776 x) ::
      rT (tBy 8796093022208 (bytesOf x)) ::
      rT (tV (.string (strB (bytesOf x)))) ::
      rT (tV (.bool true)) ::
      rT (tV (.bool true)) ::
      rT (tN B64 1099511627776 x) ::
      rT (tV (.int .i64 ((bl x : Nat) : Int))) ::
      rT (tN B32 1099511627776 x) ::
      rT (tV (.int .i64 ((bl x : Nat) : Int))) ::
      rT (tV (.bool true)) ::
      rT (tV (.bool true)) ::
      rT (tV (.bool true)) ::
      []) hz hd (by kernel_rfl) (by kernel_rfl) ?_ ?_
  · refine ⟨?_, ?_, ?_, ?_, ?_, ?_, ?_, ?_, ?_, ?_, ?_, ?_, ?_, ?_, ?_, trivial⟩
    · exact sLoad rfl rfl rfl hz rfl (Gd.none_ rfl) rfl (Src.out (t := 2) (by kernel_rfl) S2 rfl) Cp1 rfl ld_n64
    · exact sCall rfl rfl rfl hz rfl (Gd.none_ rfl) rfl Try.func22 (by kernel_rfl) (by kernel_rfl) fun a γ w U => (by show Calls _ _ #[a.eval (.tmp 5)] _ _; exact c_bytes (Src.at_ (Src.dep (j := 0) (t := 5) (by kernel_rfl) (by kernel_rfl) rfl) U) (by decide))
    · exact sConv (T' := tBy 8796093022208 (bytesOf x)) rfl rfl rfl hz rfl (Gd.none_ rfl) rfl (Src.dep (j := 1) (t := 6) (by kernel_rfl) (by kernel_rfl) rfl) (fun v w h => ⟨_, cv_by (lim := 8796093022208) (l := bytesOf x) v w h, rfl⟩)
    · exact sLoad rfl rfl rfl hz rfl (Gd.none_ rfl) rfl (Src.out (t := 3) (by kernel_rfl) S3 rfl) Cp2 rfl ld_n32
    · exact sCall rfl rfl rfl hz rfl (Gd.none_ rfl) rfl Try.func72 (by kernel_rfl) (by kernel_rfl) fun a γ w U => (by show Calls _ _ #[a.eval (.tmp 8)] _ _; exact d_bytes (Src.at_ (Src.dep (j := 3) (t := 8) (by kernel_rfl) (by kernel_rfl) rfl) U) (by decide))
    · exact sConv (T' := tBy 8796093022208 (bytesOf x)) rfl rfl rfl hz rfl (Gd.none_ rfl) rfl (Src.dep (j := 4) (t := 9) (by kernel_rfl) (by kernel_rfl) rfl) (fun v w h => ⟨_, cv_by (lim := 8796093022208) (l := bytesOf x) v w h, rfl⟩)
    · exact sBin rfl rfl rfl hz rfl (Gd.none_ rfl) rfl (Src.dep (j := 2) (t := 7) (by kernel_rfl) (by kernel_rfl) rfl) (Src.dep (j := 5) (t := 10) (by kernel_rfl) (by kernel_rfl) rfl) (fun w => by simp [go_sem])
    · exact sMv rfl rfl rfl hz rfl (Gd.none_ rfl) rfl (Src.dep (j := 6) (t := 11) (by kernel_rfl) (by kernel_rfl) rfl)
    · exact sLoad rfl rfl rfl hz rfl (Gd.yes rfl rfl (Src.dep (j := 7) (t := 12) (by kernel_rfl) (by kernel_rfl) rfl) rfl) rfl (Src.out (t := 2) (by kernel_rfl) S2 rfl) Cp1 rfl ld_n64
    · exact sCall rfl rfl rfl hz rfl (Gd.yes rfl rfl (Src.dep (j := 7) (t := 12) (by kernel_rfl) (by kernel_rfl) rfl) rfl) rfl Try.func16 (by kernel_rfl) (by kernel_rfl) fun a γ w U => (by show Calls _ _ #[a.eval (.tmp 13)] _ _; exact c_len (Src.at_ (Src.dep (j := 8) (t := 13) (by kernel_rfl) (by kernel_rfl) rfl) U) (by decide))
    · exact sLoad rfl rfl rfl hz rfl (Gd.yes rfl rfl (Src.dep (j := 7) (t := 12) (by kernel_rfl) (by kernel_rfl) rfl) rfl) rfl (Src.out (t := 3) (by kernel_rfl) S3 rfl) Cp2 rfl ld_n32
    · exact sCall rfl rfl rfl hz rfl (Gd.yes rfl rfl (Src.dep (j := 7) (t := 12) (by kernel_rfl) (by kernel_rfl) rfl) rfl) rfl Try.func45 (by kernel_rfl) (by kernel_rfl) fun a γ w U => (by show Calls _ _ #[a.eval (.tmp 15)] _ _; exact d_len (Src.at_ (Src.dep (j := 10) (t := 15) (by kernel_rfl) (by kernel_rfl) rfl) U) (by decide))
    · exact sBin rfl rfl rfl hz rfl (Gd.yes rfl rfl (Src.dep (j := 7) (t := 12) (by kernel_rfl) (by kernel_rfl) rfl) rfl) rfl (Src.dep (j := 9) (t := 14) (by kernel_rfl) (by kernel_rfl) rfl) (Src.dep (j := 11) (t := 16) (by kernel_rfl) (by kernel_rfl) rfl) (fun w => by simp [go_sem])
    · exact sPickT rfl rfl rfl hz rfl (Gd.none_ rfl) rfl (Src.dep (j := 7) (t := 12) (by kernel_rfl) (by kernel_rfl) rfl) (Src.dep (j := 12) (t := 17) (by kernel_rfl) (by kernel_rfl) rfl)
    · exact sAs rfl rfl rfl hz rfl (Gd.none_ rfl) rfl (Src.dep (j := 13) (t := 18) (by kernel_rfl) (by kernel_rfl) rfl)
  intro a' γ' W' hz' hd' hC hk hh
  clear Cp1
  clear Cp2
  clear S2
  clear S3
  clear S4
  have S4 := gotV hz' 14 hh rfl rfl rfl rfl
  replace HB := aft_call HB (RelC.below_nil hC)
  clear hC hk hh; replace hz := hz'; replace hd := hd'; clear hz' hd'
  refine wp_ret ?_
  exact ret1 (by kernel_rfl) S4 hd ⟨_, rfl, rfl, HB⟩
theorem l_same {l1 l2 x : Nat} {v1 v2 : Value} {w : World} (h1 : (tN B64 l1 x).p v1 w) (h2 : (tN B32 l2 x).p v2 w) (b1 : l1 ≤ big) (b2 : l2 ≤ big) :
    Calls Try.prog 43 #[v1, v2] w (Ret (tV (.bool true)) w) := same_walk (tN_le b1 _ _ h1) (tN_le b2 _ _ h2)

end Go.Proofs.Ytijbhbjenddiaaa.Rg

namespace Go.Proofs.Ytijbhbjenddiaaa.Rg
open Go.RowKit

section
variable {P : Program} {ops : Array Oper} {Q : Exit → Act → World → Prop} {a0 : Act} {M : List Nat} {W : World} {rels : List Rel} {i : Nat} {o : Oper} {T T' : Ty} {N d : Nat} {x : Operand}
theorem sGrow (ho : ops[i]? = some o) (hr : rels[i]? = some (rT T)) (hd : o.dst = some d) (hz : a0.tmps.size = N) (hlt : decide (d < N) = true) (g : Gd ops a0 M W rels i o true)
    (h : ∀ a γ w, Up ops a0 M W rels i o a γ w → ∃ v w', (execOp a.eval o).run P w = .ok (.value v) w' ∧ Below w.heap.size w w' ∧ T.p v w') : StepOk P ops a0 M W Q rels i o := by
  intro a γ w K hc hag hearly hdep hkp hK
  have U : Up ops a0 M W rels i o a γ w := ⟨hc, hag, hearly, hdep, hkp⟩
  obtain ⟨v, w', hrun, hb, hp⟩ := h a γ w U
  rw [if_pos (g a γ w U)]
  unfold Oper.wp
  rw [hrun]
  exact hK v (cutTag γ w) w' (by unfold effOf; rw [hr]; exact Grow.below γ hb) (holds_put ho hr rfl hd (lt_of hz hlt hag) hp)
theorem sLen {id : TypeId} {n : Nat} (ho : ops[i]? = some o) (hr : rels[i]? = some (rT (tV (.int .i64 (n : Int))))) (hd : o.dst = some d) (hz : a0.tmps.size = N) (hlt : decide (d < N) = true) (g : Gd ops a0 M W rels i o true)
    (hop : o.op = .call { callee := .builtin .len, args := #[x], argTypes := #[id] }) (s : Src ops a0 M W rels i o x T') (hl : ∀ v w, T'.p v w → ∃ A c, v = .slice A n c) (hid : ∀ w A c, (Builtin.len_ #[id] o.type #[.slice A n c]).run P w = .ok (.int .i64 n) w) : StepOk P ops a0 M W Q rels i o :=
  sOp ho hr hd hz hlt g fun a γ w U => by
    obtain ⟨A, c, e⟩ := hl _ w (s a γ w U)
    refine ⟨_, ?_, rfl⟩
    simp [Act.eval] at e
    unfold execOp; rw [hop]; simp [go_sem, e, hid]
end
theorem len_by {n : Nat} : ∀ (w : World) A c, (Builtin.len_ #[22] 3 #[.slice A n c]).run Try.prog w = .ok (.int .i64 n) w := by
  intro w A c; simp [go_sem]
/-- Bytes with five marks behind, in a row of one's own. -/
def tW (l : List Nat) : Ty := ⟨fun v w => ∃ A n c, v = .slice A n c ∧ BAt w A (n + 5) c (l ++ [201, 202, 203, 204, 205]) ∧ n + 5 ≤ c ∧ n ≤ 600 ∧ l.length = n, fun _ _ _ _ _ _ g ⟨A, n, c, e, h, h1⟩ => ⟨A, n, c, e, bat_grow g h, h1⟩⟩
theorem bat_take {w : World} {A : Option Addr} {n c k : Nat} {l : List Nat} (h : BAt w A n c l) (hk : k ≤ n) : BAt w A k c (l.take k) := by
  refine ⟨⟨by rw [bv_length, List.length_take, h.len]; omega, fun hk0 => ?_⟩, fun d hd => h.byte d (List.mem_of_mem_take hd)⟩
  obtain ⟨ad, e, hlt, hc⟩ := h.reads.2 (by omega)
  refine ⟨ad, e, hlt, fun j u hu => hc j u ?_⟩
  have hj : j < k := by have := (List.getElem?_eq_some_iff.1 hu).1; rw [bv_length, List.length_take] at this; omega
  unfold bv at hu ⊢
  rw [List.map_take, List.getElem?_take_of_lt hj] at hu
  exact hu
theorem tW_by {l : List Nat} : ∀ v w, (tW l).p v w → (tBy 600 l).p v w := by
  rintro v w ⟨A, n, c, rfl, h, h1, h2, h3⟩
  have h4 := bat_take h (show n ≤ n + 5 by omega)
  rw [List.take_append_of_le_length (by omega), List.take_of_length_le (by omega)] at h4
  exact ⟨A, n, c, rfl, h4, by omega, h2⟩
theorem tW_len {l : List Nat} : ∀ v w, (tW l).p v w → ∃ A c, v = .slice A l.length c := by
  rintro v w ⟨A, n, c, rfl, h, h1, h2, h3⟩
  exact ⟨A, c, by rw [h3]⟩
/-- The longer row, and its end. -/
def tW2 (l : List Nat) : Ty := ⟨fun v w => ∃ A n c, v = .slice A (n + 5) c ∧ BAt w A (n + 5) c (l ++ [201, 202, 203, 204, 205]) ∧ n + 5 ≤ c ∧ n ≤ 600 ∧ l.length = n, fun _ _ _ _ _ _ g ⟨A, n, c, e, h, h1⟩ => ⟨A, n, c, e, bat_grow g h, h1⟩⟩
theorem sl1 {l : List Nat} : ∀ v w, (tW l).p v w → ∃ u, (Instr.sliceAt 22 v none (some (.int .i64 ((l.length : Int) + 5))) none).run Try.prog w = .ok u w ∧ (tW2 l).p u w := by
  rintro v w ⟨A, n, c, rfl, h, h1, h2, h3⟩
  refine ⟨.slice A (n + 5) c, ?_, A, n, c, rfl, h, h1, h2, h3⟩
  rw [h3]
  have e : ((n : Int) + 5).toNat = n + 5 := by omega
  have hc : (c : Int) ≠ 0 := by omega
  simp [go_sem, show (0 : Int) ≤ (n : Int) + 5 by omega, show (n : Int) + 5 ≤ (c : Int) by omega, e, sliced]
def marks : List Nat := [201, 202, 203, 204, 205]
theorem sl2 {l : List Nat} : ∀ v w, (tW2 l).p v w → ∃ u, (Instr.sliceAt 22 v (some (.int .i64 (l.length : Int))) none none).run Try.prog w = .ok u w ∧ (tBy 5 marks).p u w := by
  rintro v w ⟨A, n, c, rfl, h, h1, h2, h3⟩
  have h4 : BAt w (if c = n then A else A.map (·.add (n * 1))) 5 (c - n) marks := by
    have h5 := h.reads.cut (k := n) (cap := c) (by omega) h1
    have e : (bv (l ++ [201, 202, 203, 204, 205])).drop (n * 1) = bv marks := by
      unfold bv; rw [← List.map_drop, Nat.mul_one, ← h3, List.drop_left]; rfl
    rw [e, show n + 5 - n = 5 by omega] at h5
    exact ⟨h5, by unfold marks; decide⟩
  refine ⟨.slice (if c = n then A else A.map (·.add (n * 1))) 5 (c - n), ?_, _, 5, c - n, rfl, h4, by omega, by omega⟩
  rw [h3]
  simp [go_sem, show (n : Int) ≤ (n : Int) + 5 by omega, sliced]
section
variable {P : Program} {ops : Array Oper} {Q : Exit → Act → World → Prop} {a0 : Act} {M : List Nat} {W : World} {rels : List Rel} {i : Nat} {o : Oper} {T T' : Ty} {N d : Nat} {x : Operand}
theorem sSlH {id : TypeId} {y : Operand} {u : Value} (ho : ops[i]? = some o) (hr : rels[i]? = some (rT T)) (hd : o.dst = some d) (hz : a0.tmps.size = N) (hlt : decide (d < N) = true) (g : Gd ops a0 M W rels i o true)
    (hop : o.op = .slice id x none (some y) none) (s : Src ops a0 M W rels i o x T') (sy : Src ops a0 M W rels i o y (tV u)) (h : ∀ v w, T'.p v w → ∃ z, (Instr.sliceAt id v none (some u) none).run P w = .ok z w ∧ T.p z w) : StepOk P ops a0 M W Q rels i o :=
  sOp ho hr hd hz hlt g fun a γ w U => by
    obtain ⟨z, h1, h2⟩ := h _ w (s a γ w U)
    have e : a.eval y = u := sy a γ w U
    refine ⟨z, ?_, h2⟩
    unfold execOp; rw [hop]; simp only [Option.map, e, Sem.run_bind, h1, Result.andThen, Sem.run_pure]
theorem sSlL {id : TypeId} {y : Operand} {u : Value} (ho : ops[i]? = some o) (hr : rels[i]? = some (rT T)) (hd : o.dst = some d) (hz : a0.tmps.size = N) (hlt : decide (d < N) = true) (g : Gd ops a0 M W rels i o true)
    (hop : o.op = .slice id x (some y) none none) (s : Src ops a0 M W rels i o x T') (sy : Src ops a0 M W rels i o y (tV u)) (h : ∀ v w, T'.p v w → ∃ z, (Instr.sliceAt id v (some u) none none).run P w = .ok z w ∧ T.p z w) : StepOk P ops a0 M W Q rels i o :=
  sOp ho hr hd hz hlt g fun a γ w U => by
    obtain ⟨z, h1, h2⟩ := h _ w (s a γ w U)
    have e : a.eval y = u := sy a γ w U
    refine ⟨z, ?_, h2⟩
    unfold execOp; rw [hop]; simp only [Option.map, e, Sem.run_bind, h1, Result.andThen, Sem.run_pure]
end
theorem marks_read (w : World) : (tBy 5 marks).p (.slice (some ⟨w.heap.size, 0, none⟩) 5 5) (w.alloc (.cells (bv marks).toArray 5)) := by
  refine ⟨_, 5, 5, rfl, ⟨?_, by unfold marks; decide⟩, by omega, by omega⟩
  have := lit_read w marks 5
  have h2 : w.heap.size + 1 = (w.alloc (.cells (bv marks).toArray 5)).heap.size := by simp
  rw [h2] at this
  exact this
theorem l_cut {lim : Nat} {l : List Nat} {v1 : Value} {w : World} (h1 : (tBy lim l).p v1 w) :
    Calls Try.prog 14 #[v1] w (Ret (tBy 600 (l.take 600)) w) := by
  obtain ⟨A, n, c, rfl, h, h2, -⟩ := h1
  refine (cut_any A n c l w h h2).mono ?_
  rintro e w' ⟨k, rfl, hd, hk, rfl⟩
  have h3 := h.len
  have h4 := hd.len
  rw [List.length_take] at h4
  exact ⟨_, rfl, ⟨A, k, c, rfl, hd, by omega, hk⟩, Below.refl _ _⟩
theorem l_wide {l : List Nat} {v1 : Value} {w : World} (h1 : (tBy 600 l).p v1 w) :
    Calls Try.prog 25 #[v1] w (Ret (tW l) w) := by
  obtain ⟨A, n, c, rfl, h, h2, h3⟩ := h1
  refine (wide_any A n c l w h h3).mono ?_
  rintro e w' ⟨g, c2, rfl, hg, hB, hc2, hm, hb⟩
  exact ⟨_, rfl, ⟨_, n, c2, rfl, hB.bat (by rw [List.length_append, h.len]; rfl) (fun d hd => by
    rcases List.mem_append.1 hd with h' | h'
    · exact h.byte d h'
    · have : ∀ d ∈ [201, 202, 203, 204, 205], d < 256 := by decide
      exact this d h') c2, hc2, h3, h.len⟩, hb⟩
end Go.Proofs.Ytijbhbjenddiaaa.Rg

namespace Go.Proofs.Ytijbhbjenddiaaa.Rg
open Go.RowKit

set_option maxRecDepth 10000 in
set_option maxHeartbeats 2000000 in
theorem l_kept {l : List Nat} {v0 v1 : Value} {w : World} (h0 : (tW l).p v0 w) (h1 : (tBy 600 l).p v1 w) (hll : l.length ≤ 600) :
    Calls Try.prog 31 #[v0, v1] w (Ret (tV (.bool true)) w) := by
  refine enter Try.func31 rfl Try.ntmps31 (by simp) ?_
  intro a hz hd ha
  have S0 := ha 0 _ rfl
  have H0 := h0
  have S1 := ha 1 _ rfl
  have H1 := h1
  clear ha
  have HB : Below w.heap.size w w := Below.refl _ _
  refine wp_seq ?_
  refine region_text (M := []) (
      rT (tV (.bool false)) ::
      []) hz hd (by kernel_rfl) ?_ ?_
  · refine ⟨?_, trivial⟩
    · exact sAs rfl rfl rfl hz rfl (Gd.none_ rfl) rfl (Src.const (.bool false))
  intro a' γ' W' hz' hd' hC hk hh
  replace S0 := hk 0 _ (by kernel_rfl) S0
  replace H0 := Ty.aft _ H0 hC
  replace S1 := hk 1 _ (by kernel_rfl) S1
  replace H1 := Ty.aft _ H1 hC
  have S4 := gotV hz' 0 hh rfl rfl rfl rfl
  replace HB := aft_call HB (RelC.below_nil hC)
  clear hC hk hh; replace hz := hz'; replace hd := hd'; clear hz' hd'
  refine wp_seq ?_
  refine region_text (M := []) (
      rT (tW l) ::
      rT (tV (.int .i64 (l.length : Int))) ::
      rT (tV (.int .i64 (l.length : Int))) ::
      []) hz hd (by kernel_rfl) ?_ ?_
  · refine ⟨?_, ?_, ?_, trivial⟩
    · exact sMv rfl rfl rfl hz rfl (Gd.none_ rfl) rfl (Src.out (t := 0) (by kernel_rfl) S0 H0)
    · exact sLen rfl rfl rfl hz rfl (Gd.none_ rfl) rfl (Src.dep (j := 0) (t := 6) (by kernel_rfl) (by kernel_rfl) rfl) tW_len len_by
    · exact sAs rfl rfl rfl hz rfl (Gd.none_ rfl) rfl (Src.dep (j := 1) (t := 7) (by kernel_rfl) (by kernel_rfl) rfl)
  intro a' γ' W' hz' hd' hC hk hh
  replace S0 := hk 0 _ (by kernel_rfl) S0
  replace H0 := Ty.aft _ H0 hC
  replace S1 := hk 1 _ (by kernel_rfl) S1
  replace H1 := Ty.aft _ H1 hC
  replace S4 := hk 4 _ (by kernel_rfl) S4
  have S5 := gotV hz' 2 hh rfl rfl rfl rfl
  replace HB := aft_call HB (RelC.below_nil hC)
  clear hC hk hh; replace hz := hz'; replace hd := hd'; clear hz' hd'
  refine wp_seq ?_
  refine region_drawn (M := []) (
      rT (tW l) ::
      rT (tV (.string (strB l))) ::
      rT (tBy 600 l) ::
      rT (tV (.string (strB l))) ::
      rT (tV (.bool true)) ::
      rT (tV (.bool true)) ::
      rT (tW l) ::
      rT (tV (.int .i64 (l.length : Int))) ::
      rT (tV (.int .i64 ((l.length : Int) + 5))) ::
      rT (tW2 l) ::
      rT (tV (.int .i64 (l.length : Int))) ::
      rT (tBy 5 marks) ::
      rT (tV (.string (strB marks))) ::
      rT (tBy 5 marks) ::
      rT (tV (.string (strB marks))) ::
      rT (tV (.bool true)) ::
      rT (tV (.bool true)) ::
      rT (tV (.bool true)) ::
      []) hz hd (by kernel_rfl) (by kernel_rfl) ?_ ?_
  · refine ⟨?_, ?_, ?_, ?_, ?_, ?_, ?_, ?_, ?_, ?_, ?_, ?_, ?_, ?_, ?_, ?_, ?_, ?_, trivial⟩
    · exact sMv rfl rfl rfl hz rfl (Gd.none_ rfl) rfl (Src.out (t := 0) (by kernel_rfl) S0 H0)
    · exact sConv (T' := tBy 600 l) rfl rfl rfl hz rfl (Gd.none_ rfl) rfl (Src.to (Src.dep (j := 0) (t := 8) (by kernel_rfl) (by kernel_rfl) rfl) tW_by) (fun v w h => ⟨_, cv_by v w h, rfl⟩)
    · exact sMv rfl rfl rfl hz rfl (Gd.none_ rfl) rfl (Src.out (t := 1) (by kernel_rfl) S1 H1)
    · exact sConv (T' := tBy 600 l) rfl rfl rfl hz rfl (Gd.none_ rfl) rfl (Src.dep (j := 2) (t := 10) (by kernel_rfl) (by kernel_rfl) rfl) (fun v w h => ⟨_, cv_by v w h, rfl⟩)
    · exact sBin rfl rfl rfl hz rfl (Gd.none_ rfl) rfl (Src.dep (j := 1) (t := 9) (by kernel_rfl) (by kernel_rfl) rfl) (Src.dep (j := 3) (t := 11) (by kernel_rfl) (by kernel_rfl) rfl) (fun w => by simp [go_sem])
    · exact sMv rfl rfl rfl hz rfl (Gd.none_ rfl) rfl (Src.dep (j := 4) (t := 12) (by kernel_rfl) (by kernel_rfl) rfl)
    · exact sMv rfl rfl rfl hz rfl (Gd.yes rfl rfl (Src.dep (j := 5) (t := 13) (by kernel_rfl) (by kernel_rfl) rfl) rfl) rfl (Src.out (t := 0) (by kernel_rfl) S0 H0)
    · exact sMv rfl rfl rfl hz rfl (Gd.yes rfl rfl (Src.dep (j := 5) (t := 13) (by kernel_rfl) (by kernel_rfl) rfl) rfl) rfl (Src.out (t := 5) (by kernel_rfl) S5 rfl)
    · exact sBin rfl rfl rfl hz rfl (Gd.yes rfl rfl (Src.dep (j := 5) (t := 13) (by kernel_rfl) (by kernel_rfl) rfl) rfl) rfl (Src.dep (j := 7) (t := 15) (by kernel_rfl) (by kernel_rfl) rfl) (Src.const (.int .i64 5)) (fun w => by simp [go_sem, IntKind.wrap_i64]; omega)
    · exact sSlH rfl rfl rfl hz rfl (Gd.yes rfl rfl (Src.dep (j := 5) (t := 13) (by kernel_rfl) (by kernel_rfl) rfl) rfl) rfl (Src.dep (j := 6) (t := 14) (by kernel_rfl) (by kernel_rfl) rfl) (Src.dep (j := 8) (t := 16) (by kernel_rfl) (by kernel_rfl) rfl) sl1
    · exact sMv rfl rfl rfl hz rfl (Gd.yes rfl rfl (Src.dep (j := 5) (t := 13) (by kernel_rfl) (by kernel_rfl) rfl) rfl) rfl (Src.out (t := 5) (by kernel_rfl) S5 rfl)
    · exact sSlL rfl rfl rfl hz rfl (Gd.yes rfl rfl (Src.dep (j := 5) (t := 13) (by kernel_rfl) (by kernel_rfl) rfl) rfl) rfl (Src.dep (j := 9) (t := 17) (by kernel_rfl) (by kernel_rfl) rfl) (Src.dep (j := 10) (t := 18) (by kernel_rfl) (by kernel_rfl) rfl) sl2
    · exact sConv (T' := tBy 5 marks) rfl rfl rfl hz rfl (Gd.yes rfl rfl (Src.dep (j := 5) (t := 13) (by kernel_rfl) (by kernel_rfl) rfl) rfl) rfl (Src.dep (j := 11) (t := 19) (by kernel_rfl) (by kernel_rfl) rfl) (fun v w h => ⟨_, cv_by (lim := 5) (l := marks) v w h, rfl⟩)
    · exact sGrow rfl rfl rfl hz rfl (Gd.yes rfl rfl (Src.dep (j := 5) (t := 13) (by kernel_rfl) (by kernel_rfl) rfl) rfl) (fun a γ w U => ⟨_, w.alloc (.cells (bv marks).toArray 5), by simp [execOp, go_sem, Act.eval]; rfl, (Below.refl _ _).alloc (Nat.le_refl _) _, marks_read w⟩)
    · exact sConv (T' := tBy 5 marks) rfl rfl rfl hz rfl (Gd.yes rfl rfl (Src.dep (j := 5) (t := 13) (by kernel_rfl) (by kernel_rfl) rfl) rfl) rfl (Src.dep (j := 13) (t := 21) (by kernel_rfl) (by kernel_rfl) rfl) (fun v w h => ⟨_, cv_by (lim := 5) (l := marks) v w h, rfl⟩)
    · exact sBin rfl rfl rfl hz rfl (Gd.yes rfl rfl (Src.dep (j := 5) (t := 13) (by kernel_rfl) (by kernel_rfl) rfl) rfl) rfl (Src.dep (j := 12) (t := 20) (by kernel_rfl) (by kernel_rfl) rfl) (Src.dep (j := 14) (t := 22) (by kernel_rfl) (by kernel_rfl) rfl) (fun w => by simp [go_sem])
    · exact sPickT rfl rfl rfl hz rfl (Gd.none_ rfl) rfl (Src.dep (j := 5) (t := 13) (by kernel_rfl) (by kernel_rfl) rfl) (Src.dep (j := 15) (t := 23) (by kernel_rfl) (by kernel_rfl) rfl)
    · exact sAs rfl rfl rfl hz rfl (Gd.none_ rfl) rfl (Src.dep (j := 16) (t := 24) (by kernel_rfl) (by kernel_rfl) rfl)
  intro a' γ' W' hz' hd' hC hk hh
  clear S0 H0
  clear S1 H1
  clear S4
  clear S5
  have S4 := gotV hz' 17 hh rfl rfl rfl rfl
  replace HB := aft_call HB (RelC.below_nil hC)
  clear hC hk hh; replace hz := hz'; replace hd := hd'; clear hz' hd'
  refine wp_ret ?_
  exact ret1 (by kernel_rfl) S4 hd ⟨_, rfl, rfl, HB⟩

set_option maxRecDepth 10000 in
set_option maxHeartbeats 2000000 in
theorem told_walk {x : Nat} {i : Int} {v0 v1 : Value} {w : World} (h0 : (tN B64 10000000000 x).p v0 w) (h1 : (tN B32 10000000000 x).p v1 w) (hi1 : i ≤ 9223372036854775807) :
    Calls Try.prog 27 #[v0, v1, .int .i64 i] w (Ret (tV (.bool true)) w) := by
  refine enter Try.func27 rfl Try.ntmps27 (by simp) ?_
  intro a hz hd ha
  have S0 := ha 0 _ rfl
  have H0 := h0
  have S1 := ha 1 _ rfl
  have H1 := h1
  have S2 := ha 2 _ rfl
  clear ha
  have HB : Below w.heap.size w w := Below.refl _ _
  refine wp_seq ?_
  refine region_text (M := []) (
      rB 0 25 (tN B64 10000000000 x) none 0 ::
      rB 1 44 (tN B32 10000000000 x) none 0 ::
      rT (tV (.bool false)) ::
      []) hz hd (by kernel_rfl) ?_ ?_
  · refine ⟨?_, ?_, ?_, trivial⟩
    · exact sBox rfl rfl rfl hz rfl rfl rfl (Src.out (t := 0) (by kernel_rfl) S0 H0) box_n64
    · exact sBox rfl rfl rfl hz rfl rfl rfl (Src.out (t := 1) (by kernel_rfl) S1 H1) box_n32
    · exact sAs rfl rfl rfl hz rfl (Gd.none_ rfl) rfl (Src.const (.bool false))
  intro a' γ' W' hz' hd' hC hk hh
  clear S0 H0
  clear S1 H1
  replace S2 := hk 2 _ (by kernel_rfl) S2
  obtain ⟨p1, S3, Cp1, lp1, gp1⟩ := gotB hz' 0 hC hh rfl rfl rfl rfl rfl rfl
  obtain ⟨p2, S4, Cp2, lp2, gp2⟩ := gotB hz' 1 hC hh rfl rfl rfl rfl rfl rfl
  have S6 := gotV hz' 2 hh rfl rfl rfl rfl
  clear lp1 gp1 lp2 gp2
  replace HB := aft_call HB (RelC.below_nil hC)
  clear hC hk hh; replace hz := hz'; replace hd := hd'; clear hz' hd'
  refine wp_seq ?_
  refine region_text (M := []) (
      rT (tN B64 10000000000 x) ::
      rT (tT [tV (.int .u64 ((uintOf x : Nat) : Int)), tV (.bool (fitsU x))]) ::
      rT (tT [tV (.int .u64 ((uintOf x : Nat) : Int)), tV (.bool (fitsU x))]) ::
      rT (tV (.int .u64 ((uintOf x : Nat) : Int))) ::
      rT (tV (.bool (fitsU x))) ::
      rT (tV (.int .u64 ((uintOf x : Nat) : Int))) ::
      rT (tV (.bool (fitsU x))) ::
      []) hz hd (by kernel_rfl) ?_ ?_
  · refine ⟨?_, ?_, ?_, ?_, ?_, ?_, ?_, trivial⟩
    · exact sLoad rfl rfl rfl hz rfl (Gd.none_ rfl) rfl (Src.out (t := 3) (by kernel_rfl) S3 rfl) Cp1 rfl ld_n64
    · exact sCall rfl rfl rfl hz rfl (Gd.none_ rfl) rfl Try.func40 (by kernel_rfl) (by kernel_rfl) fun a γ w U => (by show Calls _ _ #[a.eval (.tmp 12)] _ _; exact c_uint (Src.at_ (Src.dep (j := 0) (t := 12) (by kernel_rfl) (by kernel_rfl) rfl) U) (by decide))
    · exact sMv rfl rfl rfl hz rfl (Gd.none_ rfl) rfl (Src.dep (j := 1) (t := 13) (by kernel_rfl) (by kernel_rfl) rfl)
    · exact sExt rfl rfl rfl hz rfl (Gd.none_ rfl) rfl (Src.dep (j := 2) (t := 11) (by kernel_rfl) (by kernel_rfl) rfl) rfl
    · exact sExt rfl rfl rfl hz rfl (Gd.none_ rfl) rfl (Src.dep (j := 2) (t := 11) (by kernel_rfl) (by kernel_rfl) rfl) rfl
    · exact sAs rfl rfl rfl hz rfl (Gd.none_ rfl) rfl (Src.dep (j := 3) (t := 14) (by kernel_rfl) (by kernel_rfl) rfl)
    · exact sAs rfl rfl rfl hz rfl (Gd.none_ rfl) rfl (Src.dep (j := 4) (t := 15) (by kernel_rfl) (by kernel_rfl) rfl)
  intro a' γ' W' hz' hd' hC hk hh
  replace Cp1 := Cell.aft Cp1 hC rfl
  replace Cp2 := Cell.aft Cp2 hC rfl
  replace S2 := hk 2 _ (by kernel_rfl) S2
  replace S3 := hk 3 _ (by kernel_rfl) S3
  replace S4 := hk 4 _ (by kernel_rfl) S4
  replace S6 := hk 6 _ (by kernel_rfl) S6
  have S7 := gotV hz' 5 hh rfl rfl rfl rfl
  have S8 := gotV hz' 6 hh rfl rfl rfl rfl
  replace HB := aft_call HB (RelC.below_nil hC)
  clear hC hk hh; replace hz := hz'; replace hd := hd'; clear hz' hd'
  refine wp_seq ?_
  refine region_text (M := []) (
      rT (tN B32 10000000000 x) ::
      rT (tT [tV (.int .u64 ((uintOf x : Nat) : Int)), tV (.bool (fitsU x))]) ::
      rT (tT [tV (.int .u64 ((uintOf x : Nat) : Int)), tV (.bool (fitsU x))]) ::
      rT (tV (.int .u64 ((uintOf x : Nat) : Int))) ::
      rT (tV (.bool (fitsU x))) ::
      rT (tV (.int .u64 ((uintOf x : Nat) : Int))) ::
      rT (tV (.bool (fitsU x))) ::
      []) hz hd (by kernel_rfl) ?_ ?_
  · refine ⟨?_, ?_, ?_, ?_, ?_, ?_, ?_, trivial⟩
    · exact sLoad rfl rfl rfl hz rfl (Gd.none_ rfl) rfl (Src.out (t := 4) (by kernel_rfl) S4 rfl) Cp2 rfl ld_n32
    · exact sCall rfl rfl rfl hz rfl (Gd.none_ rfl) rfl Try.func60 (by kernel_rfl) (by kernel_rfl) fun a γ w U => (by show Calls _ _ #[a.eval (.tmp 17)] _ _; exact d_uint (Src.at_ (Src.dep (j := 0) (t := 17) (by kernel_rfl) (by kernel_rfl) rfl) U) (by decide))
    · exact sMv rfl rfl rfl hz rfl (Gd.none_ rfl) rfl (Src.dep (j := 1) (t := 18) (by kernel_rfl) (by kernel_rfl) rfl)
    · exact sExt rfl rfl rfl hz rfl (Gd.none_ rfl) rfl (Src.dep (j := 2) (t := 16) (by kernel_rfl) (by kernel_rfl) rfl) rfl
    · exact sExt rfl rfl rfl hz rfl (Gd.none_ rfl) rfl (Src.dep (j := 2) (t := 16) (by kernel_rfl) (by kernel_rfl) rfl) rfl
    · exact sAs rfl rfl rfl hz rfl (Gd.none_ rfl) rfl (Src.dep (j := 3) (t := 19) (by kernel_rfl) (by kernel_rfl) rfl)
    · exact sAs rfl rfl rfl hz rfl (Gd.none_ rfl) rfl (Src.dep (j := 4) (t := 20) (by kernel_rfl) (by kernel_rfl) rfl)
  intro a' γ' W' hz' hd' hC hk hh
  replace Cp1 := Cell.aft Cp1 hC rfl
  replace Cp2 := Cell.aft Cp2 hC rfl
  replace S2 := hk 2 _ (by kernel_rfl) S2
  replace S3 := hk 3 _ (by kernel_rfl) S3
  replace S4 := hk 4 _ (by kernel_rfl) S4
  replace S6 := hk 6 _ (by kernel_rfl) S6
  replace S7 := hk 7 _ (by kernel_rfl) S7
  replace S8 := hk 8 _ (by kernel_rfl) S8
  have S9 := gotV hz' 5 hh rfl rfl rfl rfl
  have S10 := gotV hz' 6 hh rfl rfl rfl rfl
  replace HB := aft_call HB (RelC.below_nil hC)
  clear hC hk hh; replace hz := hz'; replace hd := hd'; clear hz' hd'
  refine wp_seq ?_
  refine region_drawn (M := []) (
      rT (tN B64 10000000000 x) ::
      rT (tN B32 10000000000 x) ::
      rT (tV (.bool true)) ::
      rT (tV (.bool true)) ::
      rT (tV (.int .u64 ((uintOf x : Nat) : Int))) ::
      rT (tV (.int .u64 ((uintOf x : Nat) : Int))) ::
      rT (tV (.bool true)) ::
      rT (tV (.bool true)) ::
      rT (tV (.bool true)) ::
      rT (tV (.bool (fitsU x))) ::
      rT (tV (.bool (fitsU x))) ::
      rT (tV (.bool true)) ::
      rT (tV (.bool true)) ::
      rT (tV (.bool true)) ::
      rT (tN B64 10000000000 x) ::
      rT (tV (.string (strB (txt x)))) ::
      rT (tN B32 10000000000 x) ::
      rT (tV (.string (strB (txt x)))) ::
      rT (tV (.bool true)) ::
      rT (tV (.bool true)) ::
      rT (tV (.bool true)) ::
      rT (tN B64 10000000000 x) ::
      rT (tV (.int .i64 i)) ::
      rT (tV (.bool (bitOf x i))) ::
      rT (tN B32 10000000000 x) ::
      rT (tV (.int .i64 i)) ::
      rT (tV (.bool (bitOf x i))) ::
      rT (tV (.bool true)) ::
      rT (tV (.bool true)) ::
      rT (tV (.bool true)) ::
      []) hz hd (by kernel_rfl) (by kernel_rfl) ?_ ?_
  · refine ⟨?_, ?_, ?_, ?_, ?_, ?_, ?_, ?_, ?_, ?_, ?_, ?_, ?_, ?_, ?_, ?_, ?_, ?_, ?_, ?_, ?_, ?_, ?_, ?_, ?_, ?_, ?_, ?_, ?_, ?_, trivial⟩
    · exact sLoad rfl rfl rfl hz rfl (Gd.none_ rfl) rfl (Src.out (t := 3) (by kernel_rfl) S3 rfl) Cp1 rfl ld_n64
    · exact sLoad rfl rfl rfl hz rfl (Gd.none_ rfl) rfl (Src.out (t := 4) (by kernel_rfl) S4 rfl) Cp2 rfl ld_n32
    · exact sCall rfl rfl rfl hz rfl (Gd.none_ rfl) rfl Try.func43 (by kernel_rfl) (by kernel_rfl) fun a γ w U => (by show Calls _ _ #[a.eval (.tmp 21), a.eval (.tmp 22)] _ _; exact l_same (Src.at_ (Src.dep (j := 0) (t := 21) (by kernel_rfl) (by kernel_rfl) rfl) U) (Src.at_ (Src.dep (j := 1) (t := 22) (by kernel_rfl) (by kernel_rfl) rfl) U) (by decide) (by decide))
    · exact sMv rfl rfl rfl hz rfl (Gd.none_ rfl) rfl (Src.dep (j := 2) (t := 23) (by kernel_rfl) (by kernel_rfl) rfl)
    · exact sMv rfl rfl rfl hz rfl (Gd.yes rfl rfl (Src.dep (j := 3) (t := 24) (by kernel_rfl) (by kernel_rfl) rfl) rfl) rfl (Src.out (t := 7) (by kernel_rfl) S7 rfl)
    · exact sMv rfl rfl rfl hz rfl (Gd.yes rfl rfl (Src.dep (j := 3) (t := 24) (by kernel_rfl) (by kernel_rfl) rfl) rfl) rfl (Src.out (t := 9) (by kernel_rfl) S9 rfl)
    · exact sBin rfl rfl rfl hz rfl (Gd.yes rfl rfl (Src.dep (j := 3) (t := 24) (by kernel_rfl) (by kernel_rfl) rfl) rfl) rfl (Src.dep (j := 4) (t := 25) (by kernel_rfl) (by kernel_rfl) rfl) (Src.dep (j := 5) (t := 26) (by kernel_rfl) (by kernel_rfl) rfl) (fun w => by simp [go_sem])
    · exact sPickT rfl rfl rfl hz rfl (Gd.none_ rfl) rfl (Src.dep (j := 3) (t := 24) (by kernel_rfl) (by kernel_rfl) rfl) (Src.dep (j := 6) (t := 27) (by kernel_rfl) (by kernel_rfl) rfl)
    · exact sMv rfl rfl rfl hz rfl (Gd.none_ rfl) rfl (Src.dep (j := 7) (t := 28) (by kernel_rfl) (by kernel_rfl) rfl)
    · exact sMv rfl rfl rfl hz rfl (Gd.yes rfl rfl (Src.dep (j := 8) (t := 29) (by kernel_rfl) (by kernel_rfl) rfl) rfl) rfl (Src.out (t := 8) (by kernel_rfl) S8 rfl)
    · exact sMv rfl rfl rfl hz rfl (Gd.yes rfl rfl (Src.dep (j := 8) (t := 29) (by kernel_rfl) (by kernel_rfl) rfl) rfl) rfl (Src.out (t := 10) (by kernel_rfl) S10 rfl)
    · exact sBin rfl rfl rfl hz rfl (Gd.yes rfl rfl (Src.dep (j := 8) (t := 29) (by kernel_rfl) (by kernel_rfl) rfl) rfl) rfl (Src.dep (j := 9) (t := 30) (by kernel_rfl) (by kernel_rfl) rfl) (Src.dep (j := 10) (t := 31) (by kernel_rfl) (by kernel_rfl) rfl) (fun w => by simp [go_sem])
    · exact sPickT rfl rfl rfl hz rfl (Gd.none_ rfl) rfl (Src.dep (j := 8) (t := 29) (by kernel_rfl) (by kernel_rfl) rfl) (Src.dep (j := 11) (t := 32) (by kernel_rfl) (by kernel_rfl) rfl)
    · exact sMv rfl rfl rfl hz rfl (Gd.none_ rfl) rfl (Src.dep (j := 12) (t := 33) (by kernel_rfl) (by kernel_rfl) rfl)
    · exact sLoad rfl rfl rfl hz rfl (Gd.yes rfl rfl (Src.dep (j := 13) (t := 34) (by kernel_rfl) (by kernel_rfl) rfl) rfl) rfl (Src.out (t := 3) (by kernel_rfl) S3 rfl) Cp1 rfl ld_n64
    · exact sCall rfl rfl rfl hz rfl (Gd.yes rfl rfl (Src.dep (j := 13) (t := 34) (by kernel_rfl) (by kernel_rfl) rfl) rfl) rfl Try.func23 (by kernel_rfl) (by kernel_rfl) fun a γ w U => (by show Calls _ _ #[a.eval (.tmp 35)] _ _; exact c_text (Src.at_ (Src.dep (j := 14) (t := 35) (by kernel_rfl) (by kernel_rfl) rfl) U) (by decide))
    · exact sLoad rfl rfl rfl hz rfl (Gd.yes rfl rfl (Src.dep (j := 13) (t := 34) (by kernel_rfl) (by kernel_rfl) rfl) rfl) rfl (Src.out (t := 4) (by kernel_rfl) S4 rfl) Cp2 rfl ld_n32
    · exact sCall rfl rfl rfl hz rfl (Gd.yes rfl rfl (Src.dep (j := 13) (t := 34) (by kernel_rfl) (by kernel_rfl) rfl) rfl) rfl Try.func61 (by kernel_rfl) (by kernel_rfl) fun a γ w U => (by show Calls _ _ #[a.eval (.tmp 37)] _ _; exact d_text (Src.at_ (Src.dep (j := 16) (t := 37) (by kernel_rfl) (by kernel_rfl) rfl) U) (by decide))
    · exact sBin rfl rfl rfl hz rfl (Gd.yes rfl rfl (Src.dep (j := 13) (t := 34) (by kernel_rfl) (by kernel_rfl) rfl) rfl) rfl (Src.dep (j := 15) (t := 36) (by kernel_rfl) (by kernel_rfl) rfl) (Src.dep (j := 17) (t := 38) (by kernel_rfl) (by kernel_rfl) rfl) (fun w => by simp [go_sem])
    · exact sPickT rfl rfl rfl hz rfl (Gd.none_ rfl) rfl (Src.dep (j := 13) (t := 34) (by kernel_rfl) (by kernel_rfl) rfl) (Src.dep (j := 18) (t := 39) (by kernel_rfl) (by kernel_rfl) rfl)
    · exact sMv rfl rfl rfl hz rfl (Gd.none_ rfl) rfl (Src.dep (j := 19) (t := 40) (by kernel_rfl) (by kernel_rfl) rfl)
    · exact sLoad rfl rfl rfl hz rfl (Gd.yes rfl rfl (Src.dep (j := 20) (t := 41) (by kernel_rfl) (by kernel_rfl) rfl) rfl) rfl (Src.out (t := 3) (by kernel_rfl) S3 rfl) Cp1 rfl ld_n64
    · exact sMv rfl rfl rfl hz rfl (Gd.yes rfl rfl (Src.dep (j := 20) (t := 41) (by kernel_rfl) (by kernel_rfl) rfl) rfl) rfl (Src.out (t := 2) (by kernel_rfl) S2 rfl)
    · exact sCall rfl rfl rfl hz rfl (Gd.yes rfl rfl (Src.dep (j := 20) (t := 41) (by kernel_rfl) (by kernel_rfl) rfl) rfl) rfl Try.func33 (by kernel_rfl) (by kernel_rfl) fun a γ w U => (by show Calls _ _ #[a.eval (.tmp 42), a.eval (.tmp 43)] _ _; rw [show a.eval (.tmp 43) = .int .i64 i from Src.at_ (Src.dep (j := 22) (t := 43) (by kernel_rfl) (by kernel_rfl) rfl) U]; exact c_bit (Src.at_ (Src.dep (j := 21) (t := 42) (by kernel_rfl) (by kernel_rfl) rfl) U) (by decide) hi1)
    · exact sLoad rfl rfl rfl hz rfl (Gd.yes rfl rfl (Src.dep (j := 20) (t := 41) (by kernel_rfl) (by kernel_rfl) rfl) rfl) rfl (Src.out (t := 4) (by kernel_rfl) S4 rfl) Cp2 rfl ld_n32
    · exact sMv rfl rfl rfl hz rfl (Gd.yes rfl rfl (Src.dep (j := 20) (t := 41) (by kernel_rfl) (by kernel_rfl) rfl) rfl) rfl (Src.out (t := 2) (by kernel_rfl) S2 rfl)
    · exact sCall rfl rfl rfl hz rfl (Gd.yes rfl rfl (Src.dep (j := 20) (t := 41) (by kernel_rfl) (by kernel_rfl) rfl) rfl) rfl Try.func62 (by kernel_rfl) (by kernel_rfl) fun a γ w U => (by show Calls _ _ #[a.eval (.tmp 45), a.eval (.tmp 46)] _ _; rw [show a.eval (.tmp 46) = .int .i64 i from Src.at_ (Src.dep (j := 25) (t := 46) (by kernel_rfl) (by kernel_rfl) rfl) U]; exact d_bit (Src.at_ (Src.dep (j := 24) (t := 45) (by kernel_rfl) (by kernel_rfl) rfl) U) (by decide) hi1)
    · exact sBin rfl rfl rfl hz rfl (Gd.yes rfl rfl (Src.dep (j := 20) (t := 41) (by kernel_rfl) (by kernel_rfl) rfl) rfl) rfl (Src.dep (j := 23) (t := 44) (by kernel_rfl) (by kernel_rfl) rfl) (Src.dep (j := 26) (t := 47) (by kernel_rfl) (by kernel_rfl) rfl) (fun w => by simp [go_sem])
    · exact sPickT rfl rfl rfl hz rfl (Gd.none_ rfl) rfl (Src.dep (j := 20) (t := 41) (by kernel_rfl) (by kernel_rfl) rfl) (Src.dep (j := 27) (t := 48) (by kernel_rfl) (by kernel_rfl) rfl)
    · exact sAs rfl rfl rfl hz rfl (Gd.none_ rfl) rfl (Src.dep (j := 28) (t := 49) (by kernel_rfl) (by kernel_rfl) rfl)
  intro a' γ' W' hz' hd' hC hk hh
  clear Cp1
  clear Cp2
  clear S2
  clear S3
  clear S4
  clear S6
  clear S7
  clear S8
  clear S9
  clear S10
  have S6 := gotV hz' 29 hh rfl rfl rfl rfl
  replace HB := aft_call HB (RelC.below_nil hC)
  clear hC hk hh; replace hz := hz'; replace hd := hd'; clear hz' hd'
  refine wp_ret ?_
  exact ret1 (by kernel_rfl) S6 hd ⟨_, rfl, rfl, HB⟩

theorem l_told {l1 l2 x : Nat} {i : Int} {v1 v2 : Value} {w : World} (h1 : (tN B64 l1 x).p v1 w) (h2 : (tN B32 l2 x).p v2 w) (b1 : l1 ≤ 10000000000) (b2 : l2 ≤ 10000000000) (hi1 : i ≤ 9223372036854775807) :
    Calls Try.prog 27 #[v1, v2, .int .i64 i] w (Ret (tV (.bool true)) w) := told_walk (tN_le b1 _ _ h1) (tN_le b2 _ _ h2) hi1

set_option maxRecDepth 10000 in
set_option maxHeartbeats 2000000 in
theorem moved_walk {x : Nat} {i : Int} {v0 v1 : Value} {w : World} (h0 : (tN B64 10000000000 x).p v0 w) (h1 : (tN B32 10000000000 x).p v1 w) (hi1 : i ≤ 9223372036854775807) (hi0 : -9223372036854775808 ≤ i) :
    Calls Try.prog 42 #[v0, v1, .int .i64 i] w (Ret (tV (.bool true)) w) := by
  refine enter Try.func42 rfl Try.ntmps42 (by simp) ?_
  intro a hz hd ha
  have S0 := ha 0 _ rfl
  have H0 := h0
  have S1 := ha 1 _ rfl
  have H1 := h1
  have S2 := ha 2 _ rfl
  clear ha
  have HB : Below w.heap.size w w := Below.refl _ _
  refine wp_seq ?_
  refine region_text (M := []) (
      rB 0 25 (tN B64 10000000000 x) none 0 ::
      rB 1 44 (tN B32 10000000000 x) none 0 ::
      rT (tV (.bool false)) ::
      []) hz hd (by kernel_rfl) ?_ ?_
  · refine ⟨?_, ?_, ?_, trivial⟩
    · exact sBox rfl rfl rfl hz rfl rfl rfl (Src.out (t := 0) (by kernel_rfl) S0 H0) box_n64
    · exact sBox rfl rfl rfl hz rfl rfl rfl (Src.out (t := 1) (by kernel_rfl) S1 H1) box_n32
    · exact sAs rfl rfl rfl hz rfl (Gd.none_ rfl) rfl (Src.const (.bool false))
  intro a' γ' W' hz' hd' hC hk hh
  clear S0 H0
  clear S1 H1
  replace S2 := hk 2 _ (by kernel_rfl) S2
  obtain ⟨p1, S3, Cp1, lp1, gp1⟩ := gotB hz' 0 hC hh rfl rfl rfl rfl rfl rfl
  obtain ⟨p2, S4, Cp2, lp2, gp2⟩ := gotB hz' 1 hC hh rfl rfl rfl rfl rfl rfl
  have S6 := gotV hz' 2 hh rfl rfl rfl rfl
  clear lp1 gp1 lp2 gp2
  replace HB := aft_call HB (RelC.below_nil hC)
  clear hC hk hh; replace hz := hz'; replace hd := hd'; clear hz' hd'
  refine wp_seq ?_
  refine region_text (M := []) (
      rT (tN B64 10000000000 x) ::
      rT (tV (.int .i64 i)) ::
      rT (tT [tN B64 10016777216 (leftV x i), tV (.bool (leftOk x i))]) ::
      rT (tT [tN B64 10016777216 (leftV x i), tV (.bool (leftOk x i))]) ::
      rT (tN B64 10016777216 (leftV x i)) ::
      rT (tV (.bool (leftOk x i))) ::
      rVar 6 25 1 ::
      rB 6 25 (tN B64 10016777216 (leftV x i)) (some 6) 7 ::
      rT (tV (.bool (leftOk x i))) ::
      []) hz hd (by kernel_rfl) ?_ ?_
  · refine ⟨?_, ?_, ?_, ?_, ?_, ?_, ?_, ?_, ?_, trivial⟩
    · exact sLoad rfl rfl rfl hz rfl (Gd.none_ rfl) rfl (Src.out (t := 3) (by kernel_rfl) S3 rfl) Cp1 rfl ld_n64
    · exact sMv rfl rfl rfl hz rfl (Gd.none_ rfl) rfl (Src.out (t := 2) (by kernel_rfl) S2 rfl)
    · exact sCall rfl rfl rfl hz rfl (Gd.none_ rfl) rfl Try.func32 (by kernel_rfl) (by kernel_rfl) fun a γ w U => (by show Calls _ _ #[a.eval (.tmp 12), a.eval (.tmp 13)] _ _; rw [show a.eval (.tmp 13) = .int .i64 i from Src.at_ (Src.dep (j := 1) (t := 13) (by kernel_rfl) (by kernel_rfl) rfl) U]; exact c_left (Src.at_ (Src.dep (j := 0) (t := 12) (by kernel_rfl) (by kernel_rfl) rfl) U) (by decide) hi1 hi0)
    · exact sMv rfl rfl rfl hz rfl (Gd.none_ rfl) rfl (Src.dep (j := 2) (t := 14) (by kernel_rfl) (by kernel_rfl) rfl)
    · exact sExt rfl rfl rfl hz rfl (Gd.none_ rfl) rfl (Src.dep (j := 3) (t := 11) (by kernel_rfl) (by kernel_rfl) rfl) rfl
    · exact sExt rfl rfl rfl hz rfl (Gd.none_ rfl) rfl (Src.dep (j := 3) (t := 11) (by kernel_rfl) (by kernel_rfl) rfl) rfl
    · exact sAlloc rfl rfl rfl hz rfl rfl rfl rfl nd_slice al_n64
    · exact sStore rfl rfl rfl rfl rfl (by kernel_rfl) (by kernel_rfl) rfl (Src.dep (j := 4) (t := 15) (by kernel_rfl) (by kernel_rfl) rfl) st_n64
    · exact sAs rfl rfl rfl hz rfl (Gd.none_ rfl) rfl (Src.dep (j := 5) (t := 16) (by kernel_rfl) (by kernel_rfl) rfl)
  intro a' γ' W' hz' hd' hC hk hh
  replace Cp1 := Cell.aft Cp1 hC rfl
  replace Cp2 := Cell.aft Cp2 hC rfl
  replace S2 := hk 2 _ (by kernel_rfl) S2
  replace S3 := hk 3 _ (by kernel_rfl) S3
  replace S4 := hk 4 _ (by kernel_rfl) S4
  replace S6 := hk 6 _ (by kernel_rfl) S6
  obtain ⟨p3, S7, Cp3, lp3, gp3⟩ := gotB hz' 7 hC hh rfl rfl rfl rfl rfl rfl
  have S8 := gotV hz' 8 hh rfl rfl rfl rfl
  clear lp3 gp3
  replace HB := aft_call HB (RelC.below_nil hC)
  clear hC hk hh; replace hz := hz'; replace hd := hd'; clear hz' hd'
  refine wp_seq ?_
  refine region_text (M := []) (
      rT (tN B32 10000000000 x) ::
      rT (tV (.int .i64 i)) ::
      rT (tT [tN B32 10016777216 (leftV x i), tV (.bool (leftOk x i))]) ::
      rT (tT [tN B32 10016777216 (leftV x i), tV (.bool (leftOk x i))]) ::
      rT (tN B32 10016777216 (leftV x i)) ::
      rT (tV (.bool (leftOk x i))) ::
      rVar 6 44 1 ::
      rB 6 44 (tN B32 10016777216 (leftV x i)) (some 6) 7 ::
      rT (tV (.bool (leftOk x i))) ::
      []) hz hd (by kernel_rfl) ?_ ?_
  · refine ⟨?_, ?_, ?_, ?_, ?_, ?_, ?_, ?_, ?_, trivial⟩
    · exact sLoad rfl rfl rfl hz rfl (Gd.none_ rfl) rfl (Src.out (t := 4) (by kernel_rfl) S4 rfl) Cp2 rfl ld_n32
    · exact sMv rfl rfl rfl hz rfl (Gd.none_ rfl) rfl (Src.out (t := 2) (by kernel_rfl) S2 rfl)
    · exact sCall rfl rfl rfl hz rfl (Gd.none_ rfl) rfl Try.func70 (by kernel_rfl) (by kernel_rfl) fun a γ w U => (by show Calls _ _ #[a.eval (.tmp 18), a.eval (.tmp 19)] _ _; rw [show a.eval (.tmp 19) = .int .i64 i from Src.at_ (Src.dep (j := 1) (t := 19) (by kernel_rfl) (by kernel_rfl) rfl) U]; exact d_left (Src.at_ (Src.dep (j := 0) (t := 18) (by kernel_rfl) (by kernel_rfl) rfl) U) (by decide) hi0)
    · exact sMv rfl rfl rfl hz rfl (Gd.none_ rfl) rfl (Src.dep (j := 2) (t := 20) (by kernel_rfl) (by kernel_rfl) rfl)
    · exact sExt rfl rfl rfl hz rfl (Gd.none_ rfl) rfl (Src.dep (j := 3) (t := 17) (by kernel_rfl) (by kernel_rfl) rfl) rfl
    · exact sExt rfl rfl rfl hz rfl (Gd.none_ rfl) rfl (Src.dep (j := 3) (t := 17) (by kernel_rfl) (by kernel_rfl) rfl) rfl
    · exact sAlloc rfl rfl rfl hz rfl rfl rfl rfl nd_slice al_n32
    · exact sStore rfl rfl rfl rfl rfl (by kernel_rfl) (by kernel_rfl) rfl (Src.dep (j := 4) (t := 21) (by kernel_rfl) (by kernel_rfl) rfl) st_n32
    · exact sAs rfl rfl rfl hz rfl (Gd.none_ rfl) rfl (Src.dep (j := 5) (t := 22) (by kernel_rfl) (by kernel_rfl) rfl)
  intro a' γ' W' hz' hd' hC hk hh
  replace Cp1 := Cell.aft Cp1 hC rfl
  replace Cp2 := Cell.aft Cp2 hC rfl
  replace Cp3 := Cell.aft Cp3 hC rfl
  replace S2 := hk 2 _ (by kernel_rfl) S2
  replace S3 := hk 3 _ (by kernel_rfl) S3
  replace S4 := hk 4 _ (by kernel_rfl) S4
  replace S6 := hk 6 _ (by kernel_rfl) S6
  replace S7 := hk 7 _ (by kernel_rfl) S7
  replace S8 := hk 8 _ (by kernel_rfl) S8
  obtain ⟨p4, S9, Cp4, lp4, gp4⟩ := gotB hz' 7 hC hh rfl rfl rfl rfl rfl rfl
  have S10 := gotV hz' 8 hh rfl rfl rfl rfl
  clear lp4 gp4
  replace HB := aft_call HB (RelC.below_nil hC)
  clear hC hk hh; replace hz := hz'; replace hd := hd'; clear hz' hd'
  refine wp_seq ?_
  refine region_drawn (M := []) (
      rT (tV (.bool (leftOk x i))) ::
      rT (tV (.bool (leftOk x i))) ::
      rT (tV (.bool true)) ::
      rT (tV (.bool true)) ::
      rT (tN B64 10016777216 (leftV x i)) ::
      rT (tN B32 10016777216 (leftV x i)) ::
      rT (tV (.bool true)) ::
      rT (tV (.bool true)) ::
      rT (tV (.bool true)) ::
      rT (tN B64 10000000000 x) ::
      rT (tV (.int .i64 i)) ::
      rT (tN B64 10000000000 (x / 2 ^ i.toNat)) ::
      rT (tN B32 10000000000 x) ::
      rT (tV (.int .i64 i)) ::
      rT (tN B32 10000000000 (x / 2 ^ i.toNat)) ::
      rT (tV (.bool true)) ::
      rT (tV (.bool true)) ::
      rT (tV (.bool true)) ::
      []) hz hd (by kernel_rfl) (by kernel_rfl) ?_ ?_
  · refine ⟨?_, ?_, ?_, ?_, ?_, ?_, ?_, ?_, ?_, ?_, ?_, ?_, ?_, ?_, ?_, ?_, ?_, ?_, trivial⟩
    · exact sMv rfl rfl rfl hz rfl (Gd.none_ rfl) rfl (Src.out (t := 8) (by kernel_rfl) S8 rfl)
    · exact sMv rfl rfl rfl hz rfl (Gd.none_ rfl) rfl (Src.out (t := 10) (by kernel_rfl) S10 rfl)
    · exact sBin rfl rfl rfl hz rfl (Gd.none_ rfl) rfl (Src.dep (j := 0) (t := 23) (by kernel_rfl) (by kernel_rfl) rfl) (Src.dep (j := 1) (t := 24) (by kernel_rfl) (by kernel_rfl) rfl) (fun w => by simp [go_sem])
    · exact sMv rfl rfl rfl hz rfl (Gd.none_ rfl) rfl (Src.dep (j := 2) (t := 25) (by kernel_rfl) (by kernel_rfl) rfl)
    · exact sLoad rfl rfl rfl hz rfl (Gd.yes rfl rfl (Src.dep (j := 3) (t := 26) (by kernel_rfl) (by kernel_rfl) rfl) rfl) rfl (Src.out (t := 7) (by kernel_rfl) S7 rfl) Cp3 rfl ld_n64
    · exact sLoad rfl rfl rfl hz rfl (Gd.yes rfl rfl (Src.dep (j := 3) (t := 26) (by kernel_rfl) (by kernel_rfl) rfl) rfl) rfl (Src.out (t := 9) (by kernel_rfl) S9 rfl) Cp4 rfl ld_n32
    · exact sCall rfl rfl rfl hz rfl (Gd.yes rfl rfl (Src.dep (j := 3) (t := 26) (by kernel_rfl) (by kernel_rfl) rfl) rfl) rfl Try.func43 (by kernel_rfl) (by kernel_rfl) fun a γ w U => (by show Calls _ _ #[a.eval (.tmp 27), a.eval (.tmp 28)] _ _; exact l_same (Src.at_ (Src.dep (j := 4) (t := 27) (by kernel_rfl) (by kernel_rfl) rfl) U) (Src.at_ (Src.dep (j := 5) (t := 28) (by kernel_rfl) (by kernel_rfl) rfl) U) (by decide) (by decide))
    · exact sPickT rfl rfl rfl hz rfl (Gd.none_ rfl) rfl (Src.dep (j := 3) (t := 26) (by kernel_rfl) (by kernel_rfl) rfl) (Src.dep (j := 6) (t := 29) (by kernel_rfl) (by kernel_rfl) rfl)
    · exact sMv rfl rfl rfl hz rfl (Gd.none_ rfl) rfl (Src.dep (j := 7) (t := 30) (by kernel_rfl) (by kernel_rfl) rfl)
    · exact sLoad rfl rfl rfl hz rfl (Gd.yes rfl rfl (Src.dep (j := 8) (t := 31) (by kernel_rfl) (by kernel_rfl) rfl) rfl) rfl (Src.out (t := 3) (by kernel_rfl) S3 rfl) Cp1 rfl ld_n64
    · exact sMv rfl rfl rfl hz rfl (Gd.yes rfl rfl (Src.dep (j := 8) (t := 31) (by kernel_rfl) (by kernel_rfl) rfl) rfl) rfl (Src.out (t := 2) (by kernel_rfl) S2 rfl)
    · exact sCall rfl rfl rfl hz rfl (Gd.yes rfl rfl (Src.dep (j := 8) (t := 31) (by kernel_rfl) (by kernel_rfl) rfl) rfl) rfl Try.func34 (by kernel_rfl) (by kernel_rfl) fun a γ w U => (by show Calls _ _ #[a.eval (.tmp 32), a.eval (.tmp 33)] _ _; rw [show a.eval (.tmp 33) = .int .i64 i from Src.at_ (Src.dep (j := 10) (t := 33) (by kernel_rfl) (by kernel_rfl) rfl) U]; exact c_right (Src.at_ (Src.dep (j := 9) (t := 32) (by kernel_rfl) (by kernel_rfl) rfl) U) (by decide) hi1)
    · exact sLoad rfl rfl rfl hz rfl (Gd.yes rfl rfl (Src.dep (j := 8) (t := 31) (by kernel_rfl) (by kernel_rfl) rfl) rfl) rfl (Src.out (t := 4) (by kernel_rfl) S4 rfl) Cp2 rfl ld_n32
    · exact sMv rfl rfl rfl hz rfl (Gd.yes rfl rfl (Src.dep (j := 8) (t := 31) (by kernel_rfl) (by kernel_rfl) rfl) rfl) rfl (Src.out (t := 2) (by kernel_rfl) S2 rfl)
    · exact sCall rfl rfl rfl hz rfl (Gd.yes rfl rfl (Src.dep (j := 8) (t := 31) (by kernel_rfl) (by kernel_rfl) rfl) rfl) rfl Try.func71 (by kernel_rfl) (by kernel_rfl) fun a γ w U => (by show Calls _ _ #[a.eval (.tmp 35), a.eval (.tmp 36)] _ _; rw [show a.eval (.tmp 36) = .int .i64 i from Src.at_ (Src.dep (j := 13) (t := 36) (by kernel_rfl) (by kernel_rfl) rfl) U]; exact d_right (Src.at_ (Src.dep (j := 12) (t := 35) (by kernel_rfl) (by kernel_rfl) rfl) U) (by decide) hi1)
    · exact sCall rfl rfl rfl hz rfl (Gd.yes rfl rfl (Src.dep (j := 8) (t := 31) (by kernel_rfl) (by kernel_rfl) rfl) rfl) rfl Try.func43 (by kernel_rfl) (by kernel_rfl) fun a γ w U => (by show Calls _ _ #[a.eval (.tmp 34), a.eval (.tmp 37)] _ _; exact l_same (Src.at_ (Src.dep (j := 11) (t := 34) (by kernel_rfl) (by kernel_rfl) rfl) U) (Src.at_ (Src.dep (j := 14) (t := 37) (by kernel_rfl) (by kernel_rfl) rfl) U) (by decide) (by decide))
    · exact sPickT rfl rfl rfl hz rfl (Gd.none_ rfl) rfl (Src.dep (j := 8) (t := 31) (by kernel_rfl) (by kernel_rfl) rfl) (Src.dep (j := 15) (t := 38) (by kernel_rfl) (by kernel_rfl) rfl)
    · exact sAs rfl rfl rfl hz rfl (Gd.none_ rfl) rfl (Src.dep (j := 16) (t := 39) (by kernel_rfl) (by kernel_rfl) rfl)
  intro a' γ' W' hz' hd' hC hk hh
  clear Cp1
  clear Cp2
  clear Cp3
  clear Cp4
  clear S2
  clear S3
  clear S4
  clear S6
  clear S7
  clear S8
  clear S9
  clear S10
  have S6 := gotV hz' 17 hh rfl rfl rfl rfl
  replace HB := aft_call HB (RelC.below_nil hC)
  clear hC hk hh; replace hz := hz'; replace hd := hd'; clear hz' hd'
  refine wp_ret ?_
  exact ret1 (by kernel_rfl) S6 hd ⟨_, rfl, rfl, HB⟩

theorem l_moved {l1 l2 x : Nat} {i : Int} {v1 v2 : Value} {w : World} (h1 : (tN B64 l1 x).p v1 w) (h2 : (tN B32 l2 x).p v2 w) (b1 : l1 ≤ 10000000000) (b2 : l2 ≤ 10000000000) (hi1 : i ≤ 9223372036854775807) (hi0 : -9223372036854775808 ≤ i) :
    Calls Try.prog 42 #[v1, v2, .int .i64 i] w (Ret (tV (.bool true)) w) := moved_walk (tN_le b1 _ _ h1) (tN_le b2 _ _ h2) hi1 hi0

set_option maxRecDepth 10000 in
set_option maxHeartbeats 2000000 in
theorem pair_less {x y : Nat} {v0 v1 v2 v3 : Value} {w : World} (h0 : (tN B64 10000000000 x).p v0 w) (h1 : (tN B64 10000000000 y).p v1 w) (h2 : (tN B32 10000000000 x).p v2 w) (h3 : (tN B32 10000000000 y).p v3 w) (e1 : decide (y ≤ x) = false) (e2 : x - y = 0) (e3 : decide (cmpI x y < 0) = true) (e4 : nz y = true) (e5 : modOf x y = x % y) (e6 : decide (y = 0) = false) (e7 : 0 < y) :
    Calls Try.prog 41 #[v0, v1, v2, v3] w (Ret (tV (.bool true)) w) := by
  refine enter Try.func41 rfl Try.ntmps41 (by simp) ?_
  intro a hz hd ha
  have S0 := ha 0 _ rfl
  have H0 := h0
  have S1 := ha 1 _ rfl
  have H1 := h1
  have S2 := ha 2 _ rfl
  have H2 := h2
  have S3 := ha 3 _ rfl
  have H3 := h3
  clear ha
  have HB : Below w.heap.size w w := Below.refl _ _
  refine wp_seq ?_
  refine region_text (M := []) (
      rB 0 25 (tN B64 10000000000 x) none 0 ::
      rB 1 25 (tN B64 10000000000 y) none 0 ::
      rB 2 44 (tN B32 10000000000 x) none 0 ::
      rB 3 44 (tN B32 10000000000 y) none 0 ::
      rT (tV (.bool false)) ::
      []) hz hd (by kernel_rfl) ?_ ?_
  · refine ⟨?_, ?_, ?_, ?_, ?_, trivial⟩
    · exact sBox rfl rfl rfl hz rfl rfl rfl (Src.out (t := 0) (by kernel_rfl) S0 H0) box_n64
    · exact sBox rfl rfl rfl hz rfl rfl rfl (Src.out (t := 1) (by kernel_rfl) S1 H1) box_n64
    · exact sBox rfl rfl rfl hz rfl rfl rfl (Src.out (t := 2) (by kernel_rfl) S2 H2) box_n32
    · exact sBox rfl rfl rfl hz rfl rfl rfl (Src.out (t := 3) (by kernel_rfl) S3 H3) box_n32
    · exact sAs rfl rfl rfl hz rfl (Gd.none_ rfl) rfl (Src.const (.bool false))
  intro a' γ' W' hz' hd' hC hk hh
  clear S0 H0
  clear S1 H1
  clear S2 H2
  clear S3 H3
  obtain ⟨p1, S4, Cp1, lp1, gp1⟩ := gotB hz' 0 hC hh rfl rfl rfl rfl rfl rfl
  obtain ⟨p2, S5, Cp2, lp2, gp2⟩ := gotB hz' 1 hC hh rfl rfl rfl rfl rfl rfl
  obtain ⟨p3, S6, Cp3, lp3, gp3⟩ := gotB hz' 2 hC hh rfl rfl rfl rfl rfl rfl
  obtain ⟨p4, S7, Cp4, lp4, gp4⟩ := gotB hz' 3 hC hh rfl rfl rfl rfl rfl rfl
  have S8 := gotV hz' 4 hh rfl rfl rfl rfl
  clear lp1 gp1 lp2 gp2 lp3 gp3 lp4 gp4
  replace HB := aft_call HB (RelC.below_nil hC)
  clear hC hk hh; replace hz := hz'; replace hd := hd'; clear hz' hd'
  refine wp_seq ?_
  refine wp_seq ?_
  refine region_drawn (M := []) (
      rT (tN B64 10000000000 x) ::
      rT (tN B64 10000000000 y) ::
      rT (tN B64 10000000001 (x + y)) ::
      rT (tN B32 10000000000 x) ::
      rT (tN B32 10000000000 y) ::
      rT (tN B32 10000000001 (x + y)) ::
      rT (tV (.bool true)) ::
      rT (tV (.bool false)) ::
      rT (tV (.bool false)) ::
      rT (tN B64 10000000000 x) ::
      rT (tN B64 10000000000 y) ::
      rT (tN B64 20000000000 (x * y)) ::
      rT (tN B32 10000000000 x) ::
      rT (tN B32 10000000000 y) ::
      rT (tN B32 20000000000 (x * y)) ::
      rT (tV (.bool true)) ::
      rT (tV (.bool false)) ::
      rT (tV (.bool false)) ::
      rT (tV (.bool false)) ::
      rT (tN B64 10000000000 x) ::
      rT (tN B64 10000000000 y) ::
      rT (tV (.int .i64 (cmpI x y))) ::
      rT (tN B32 10000000000 x) ::
      rT (tN B32 10000000000 y) ::
      rT (tV (.int .i64 (cmpI x y))) ::
      rT (tV (.bool false)) ::
      rT (tV (.bool false)) ::
      rT (tV (.bool false)) ::
      rT (tN B64 10000000000 x) ::
      rT (tN B64 10000000000 y) ::
      rT (tN B64 10000000000 (Nat.gcd x y)) ::
      rT (tN B32 10000000000 x) ::
      rT (tN B32 10000000000 y) ::
      rT (tN B32 10000000000 (Nat.gcd x y)) ::
      rT (tV (.bool true)) ::
      rT (tV (.bool false)) ::
      rT (tV (.bool false)) ::
      []) hz hd (by kernel_rfl) (by kernel_rfl) ?_ ?_
  · refine ⟨?_, ?_, ?_, ?_, ?_, ?_, ?_, ?_, ?_, ?_, ?_, ?_, ?_, ?_, ?_, ?_, ?_, ?_, ?_, ?_, ?_, ?_, ?_, ?_, ?_, ?_, ?_, ?_, ?_, ?_, ?_, ?_, ?_, ?_, ?_, ?_, ?_, trivial⟩
    · exact sLoad rfl rfl rfl hz rfl (Gd.none_ rfl) rfl (Src.out (t := 4) (by kernel_rfl) S4 rfl) Cp1 rfl ld_n64
    · exact sLoad rfl rfl rfl hz rfl (Gd.none_ rfl) rfl (Src.out (t := 5) (by kernel_rfl) S5 rfl) Cp2 rfl ld_n64
    · exact sCall rfl rfl rfl hz rfl (Gd.none_ rfl) rfl Try.func20 (by kernel_rfl) (by kernel_rfl) fun a γ w U => (by show Calls _ _ #[a.eval (.tmp 16), a.eval (.tmp 17)] _ _; exact c_add (Src.at_ (Src.dep (j := 0) (t := 16) (by kernel_rfl) (by kernel_rfl) rfl) U) (Src.at_ (Src.dep (j := 1) (t := 17) (by kernel_rfl) (by kernel_rfl) rfl) U) (by decide) (by decide))
    · exact sLoad rfl rfl rfl hz rfl (Gd.none_ rfl) rfl (Src.out (t := 6) (by kernel_rfl) S6 rfl) Cp3 rfl ld_n32
    · exact sLoad rfl rfl rfl hz rfl (Gd.none_ rfl) rfl (Src.out (t := 7) (by kernel_rfl) S7 rfl) Cp4 rfl ld_n32
    · exact sCall rfl rfl rfl hz rfl (Gd.none_ rfl) rfl Try.func58 (by kernel_rfl) (by kernel_rfl) fun a γ w U => (by show Calls _ _ #[a.eval (.tmp 19), a.eval (.tmp 20)] _ _; exact d_add (Src.at_ (Src.dep (j := 3) (t := 19) (by kernel_rfl) (by kernel_rfl) rfl) U) (Src.at_ (Src.dep (j := 4) (t := 20) (by kernel_rfl) (by kernel_rfl) rfl) U) (by decide) (by decide))
    · exact sCall rfl rfl rfl hz rfl (Gd.none_ rfl) rfl Try.func43 (by kernel_rfl) (by kernel_rfl) fun a γ w U => (by show Calls _ _ #[a.eval (.tmp 18), a.eval (.tmp 21)] _ _; exact l_same (Src.at_ (Src.dep (j := 2) (t := 18) (by kernel_rfl) (by kernel_rfl) rfl) U) (Src.at_ (Src.dep (j := 5) (t := 21) (by kernel_rfl) (by kernel_rfl) rfl) U) (by decide) (by decide))
    · exact sNot (b := true) rfl rfl rfl hz rfl (Gd.none_ rfl) rfl (Src.dep (j := 6) (t := 22) (by kernel_rfl) (by kernel_rfl) rfl)
    · exact sMv rfl rfl rfl hz rfl (Gd.none_ rfl) rfl (Src.dep (j := 7) (t := 23) (by kernel_rfl) (by kernel_rfl) rfl)
    · exact sLoad rfl rfl rfl hz rfl (Gd.yes rfl rfl (Src.dep (j := 8) (t := 24) (by kernel_rfl) (by kernel_rfl) rfl) rfl) rfl (Src.out (t := 4) (by kernel_rfl) S4 rfl) Cp1 rfl ld_n64
    · exact sLoad rfl rfl rfl hz rfl (Gd.yes rfl rfl (Src.dep (j := 8) (t := 24) (by kernel_rfl) (by kernel_rfl) rfl) rfl) rfl (Src.out (t := 5) (by kernel_rfl) S5 rfl) Cp2 rfl ld_n64
    · exact sCall rfl rfl rfl hz rfl (Gd.yes rfl rfl (Src.dep (j := 8) (t := 24) (by kernel_rfl) (by kernel_rfl) rfl) rfl) rfl Try.func19 (by kernel_rfl) (by kernel_rfl) fun a γ w U => (by show Calls _ _ #[a.eval (.tmp 25), a.eval (.tmp 26)] _ _; exact c_mul (Src.at_ (Src.dep (j := 9) (t := 25) (by kernel_rfl) (by kernel_rfl) rfl) U) (Src.at_ (Src.dep (j := 10) (t := 26) (by kernel_rfl) (by kernel_rfl) rfl) U) (by decide) (by decide))
    · exact sLoad rfl rfl rfl hz rfl (Gd.yes rfl rfl (Src.dep (j := 8) (t := 24) (by kernel_rfl) (by kernel_rfl) rfl) rfl) rfl (Src.out (t := 6) (by kernel_rfl) S6 rfl) Cp3 rfl ld_n32
    · exact sLoad rfl rfl rfl hz rfl (Gd.yes rfl rfl (Src.dep (j := 8) (t := 24) (by kernel_rfl) (by kernel_rfl) rfl) rfl) rfl (Src.out (t := 7) (by kernel_rfl) S7 rfl) Cp4 rfl ld_n32
    · exact sCall rfl rfl rfl hz rfl (Gd.yes rfl rfl (Src.dep (j := 8) (t := 24) (by kernel_rfl) (by kernel_rfl) rfl) rfl) rfl Try.func59 (by kernel_rfl) (by kernel_rfl) fun a γ w U => (by show Calls _ _ #[a.eval (.tmp 28), a.eval (.tmp 29)] _ _; exact d_mul (Src.at_ (Src.dep (j := 12) (t := 28) (by kernel_rfl) (by kernel_rfl) rfl) U) (Src.at_ (Src.dep (j := 13) (t := 29) (by kernel_rfl) (by kernel_rfl) rfl) U) (by decide) (by decide))
    · exact sCall rfl rfl rfl hz rfl (Gd.yes rfl rfl (Src.dep (j := 8) (t := 24) (by kernel_rfl) (by kernel_rfl) rfl) rfl) rfl Try.func43 (by kernel_rfl) (by kernel_rfl) fun a γ w U => (by show Calls _ _ #[a.eval (.tmp 27), a.eval (.tmp 30)] _ _; exact l_same (Src.at_ (Src.dep (j := 11) (t := 27) (by kernel_rfl) (by kernel_rfl) rfl) U) (Src.at_ (Src.dep (j := 14) (t := 30) (by kernel_rfl) (by kernel_rfl) rfl) U) (by decide) (by decide))
    · exact sNot (b := true) rfl rfl rfl hz rfl (Gd.yes rfl rfl (Src.dep (j := 8) (t := 24) (by kernel_rfl) (by kernel_rfl) rfl) rfl) rfl (Src.dep (j := 15) (t := 31) (by kernel_rfl) (by kernel_rfl) rfl)
    · exact sPickF rfl rfl rfl hz rfl (Gd.none_ rfl) rfl (Src.dep (j := 8) (t := 24) (by kernel_rfl) (by kernel_rfl) rfl) (Src.dep (j := 16) (t := 32) (by kernel_rfl) (by kernel_rfl) rfl)
    · exact sMv rfl rfl rfl hz rfl (Gd.none_ rfl) rfl (Src.dep (j := 17) (t := 33) (by kernel_rfl) (by kernel_rfl) rfl)
    · exact sLoad rfl rfl rfl hz rfl (Gd.yes rfl rfl (Src.dep (j := 18) (t := 34) (by kernel_rfl) (by kernel_rfl) rfl) rfl) rfl (Src.out (t := 4) (by kernel_rfl) S4 rfl) Cp1 rfl ld_n64
    · exact sLoad rfl rfl rfl hz rfl (Gd.yes rfl rfl (Src.dep (j := 18) (t := 34) (by kernel_rfl) (by kernel_rfl) rfl) rfl) rfl (Src.out (t := 5) (by kernel_rfl) S5 rfl) Cp2 rfl ld_n64
    · exact sCall rfl rfl rfl hz rfl (Gd.yes rfl rfl (Src.dep (j := 18) (t := 34) (by kernel_rfl) (by kernel_rfl) rfl) rfl) rfl Try.func17 (by kernel_rfl) (by kernel_rfl) fun a γ w U => (by show Calls _ _ #[a.eval (.tmp 35), a.eval (.tmp 36)] _ _; exact c_cmp (Src.at_ (Src.dep (j := 19) (t := 35) (by kernel_rfl) (by kernel_rfl) rfl) U) (Src.at_ (Src.dep (j := 20) (t := 36) (by kernel_rfl) (by kernel_rfl) rfl) U) (by decide) (by decide))
    · exact sLoad rfl rfl rfl hz rfl (Gd.yes rfl rfl (Src.dep (j := 18) (t := 34) (by kernel_rfl) (by kernel_rfl) rfl) rfl) rfl (Src.out (t := 6) (by kernel_rfl) S6 rfl) Cp3 rfl ld_n32
    · exact sLoad rfl rfl rfl hz rfl (Gd.yes rfl rfl (Src.dep (j := 18) (t := 34) (by kernel_rfl) (by kernel_rfl) rfl) rfl) rfl (Src.out (t := 7) (by kernel_rfl) S7 rfl) Cp4 rfl ld_n32
    · exact sCall rfl rfl rfl hz rfl (Gd.yes rfl rfl (Src.dep (j := 18) (t := 34) (by kernel_rfl) (by kernel_rfl) rfl) rfl) rfl Try.func65 (by kernel_rfl) (by kernel_rfl) fun a γ w U => (by show Calls _ _ #[a.eval (.tmp 38), a.eval (.tmp 39)] _ _; exact d_cmp (Src.at_ (Src.dep (j := 22) (t := 38) (by kernel_rfl) (by kernel_rfl) rfl) U) (Src.at_ (Src.dep (j := 23) (t := 39) (by kernel_rfl) (by kernel_rfl) rfl) U) (by decide) (by decide))
    · exact sBin rfl rfl rfl hz rfl (Gd.yes rfl rfl (Src.dep (j := 18) (t := 34) (by kernel_rfl) (by kernel_rfl) rfl) rfl) rfl (Src.dep (j := 21) (t := 37) (by kernel_rfl) (by kernel_rfl) rfl) (Src.dep (j := 24) (t := 40) (by kernel_rfl) (by kernel_rfl) rfl) (fun w => by simp [go_sem])
    · exact sPickF rfl rfl rfl hz rfl (Gd.none_ rfl) rfl (Src.dep (j := 18) (t := 34) (by kernel_rfl) (by kernel_rfl) rfl) (Src.dep (j := 25) (t := 41) (by kernel_rfl) (by kernel_rfl) rfl)
    · exact sMv rfl rfl rfl hz rfl (Gd.none_ rfl) rfl (Src.dep (j := 26) (t := 42) (by kernel_rfl) (by kernel_rfl) rfl)
    · exact sLoad rfl rfl rfl hz rfl (Gd.yes rfl rfl (Src.dep (j := 27) (t := 43) (by kernel_rfl) (by kernel_rfl) rfl) rfl) rfl (Src.out (t := 4) (by kernel_rfl) S4 rfl) Cp1 rfl ld_n64
    · exact sLoad rfl rfl rfl hz rfl (Gd.yes rfl rfl (Src.dep (j := 27) (t := 43) (by kernel_rfl) (by kernel_rfl) rfl) rfl) rfl (Src.out (t := 5) (by kernel_rfl) S5 rfl) Cp2 rfl ld_n64
    · exact sCall rfl rfl rfl hz rfl (Gd.yes rfl rfl (Src.dep (j := 27) (t := 43) (by kernel_rfl) (by kernel_rfl) rfl) rfl) rfl Try.func36 (by kernel_rfl) (by kernel_rfl) fun a γ w U => (by show Calls _ _ #[a.eval (.tmp 44), a.eval (.tmp 45)] _ _; exact c_gcd (Src.at_ (Src.dep (j := 28) (t := 44) (by kernel_rfl) (by kernel_rfl) rfl) U) (Src.at_ (Src.dep (j := 29) (t := 45) (by kernel_rfl) (by kernel_rfl) rfl) U) (by decide) (by decide))
    · exact sLoad rfl rfl rfl hz rfl (Gd.yes rfl rfl (Src.dep (j := 27) (t := 43) (by kernel_rfl) (by kernel_rfl) rfl) rfl) rfl (Src.out (t := 6) (by kernel_rfl) S6 rfl) Cp3 rfl ld_n32
    · exact sLoad rfl rfl rfl hz rfl (Gd.yes rfl rfl (Src.dep (j := 27) (t := 43) (by kernel_rfl) (by kernel_rfl) rfl) rfl) rfl (Src.out (t := 7) (by kernel_rfl) S7 rfl) Cp4 rfl ld_n32
    · exact sCall rfl rfl rfl hz rfl (Gd.yes rfl rfl (Src.dep (j := 27) (t := 43) (by kernel_rfl) (by kernel_rfl) rfl) rfl) rfl Try.func66 (by kernel_rfl) (by kernel_rfl) fun a γ w U => (by show Calls _ _ #[a.eval (.tmp 47), a.eval (.tmp 48)] _ _; exact d_gcd (Src.at_ (Src.dep (j := 31) (t := 47) (by kernel_rfl) (by kernel_rfl) rfl) U) (Src.at_ (Src.dep (j := 32) (t := 48) (by kernel_rfl) (by kernel_rfl) rfl) U) (by decide) (by decide))
    · exact sCall rfl rfl rfl hz rfl (Gd.yes rfl rfl (Src.dep (j := 27) (t := 43) (by kernel_rfl) (by kernel_rfl) rfl) rfl) rfl Try.func43 (by kernel_rfl) (by kernel_rfl) fun a γ w U => (by show Calls _ _ #[a.eval (.tmp 46), a.eval (.tmp 49)] _ _; exact l_same (Src.at_ (Src.dep (j := 30) (t := 46) (by kernel_rfl) (by kernel_rfl) rfl) U) (Src.at_ (Src.dep (j := 33) (t := 49) (by kernel_rfl) (by kernel_rfl) rfl) U) (by decide) (by decide))
    · exact sNot (b := true) rfl rfl rfl hz rfl (Gd.yes rfl rfl (Src.dep (j := 27) (t := 43) (by kernel_rfl) (by kernel_rfl) rfl) rfl) rfl (Src.dep (j := 34) (t := 50) (by kernel_rfl) (by kernel_rfl) rfl)
    · exact sPickF rfl rfl rfl hz rfl (Gd.none_ rfl) rfl (Src.dep (j := 27) (t := 43) (by kernel_rfl) (by kernel_rfl) rfl) (Src.dep (j := 35) (t := 51) (by kernel_rfl) (by kernel_rfl) rfl)
  intro a' γ' W' hz' hd' hC hk hh
  replace Cp1 := Cell.aft Cp1 hC rfl
  replace Cp2 := Cell.aft Cp2 hC rfl
  replace Cp3 := Cell.aft Cp3 hC rfl
  replace Cp4 := Cell.aft Cp4 hC rfl
  replace S4 := hk 4 _ (by kernel_rfl) S4
  replace S5 := hk 5 _ (by kernel_rfl) S5
  replace S6 := hk 6 _ (by kernel_rfl) S6
  replace S7 := hk 7 _ (by kernel_rfl) S7
  replace S8 := hk 8 _ (by kernel_rfl) S8
  have S52 := gotV hz' 36 hh rfl rfl rfl rfl
  replace HB := aft_call HB (RelC.below_nil hC)
  clear hC hk hh; replace hz := hz'; replace hd := hd'; clear hz' hd'
  refine wp_cond_false S52.ev ?_
  refine wp_skip ?_
  refine wp_seq ?_
  refine region_text (M := []) (
      rT (tN B64 10000000000 x) ::
      rT (tN B64 10000000000 y) ::
      rT (tT [tN B64 10000000000 0, tV (.bool false)]) ::
      rT (tT [tN B64 10000000000 0, tV (.bool false)]) ::
      rT (tN B64 10000000000 0) ::
      rT (tV (.bool false)) ::
      rVar 6 25 1 ::
      rB 6 25 (tN B64 10000000000 0) (some 6) 7 ::
      rT (tV (.bool false)) ::
      []) hz hd (by kernel_rfl) ?_ ?_
  · refine ⟨?_, ?_, ?_, ?_, ?_, ?_, ?_, ?_, ?_, trivial⟩
    · exact sLoad rfl rfl rfl hz rfl (Gd.none_ rfl) rfl (Src.out (t := 4) (by kernel_rfl) S4 rfl) Cp1 rfl ld_n64
    · exact sLoad rfl rfl rfl hz rfl (Gd.none_ rfl) rfl (Src.out (t := 5) (by kernel_rfl) S5 rfl) Cp2 rfl ld_n64
    · exact sCall rfl rfl rfl hz rfl (Gd.none_ rfl) rfl Try.func37 (by kernel_rfl) (by kernel_rfl) fun a γ w U => (by show Calls _ _ #[a.eval (.tmp 54), a.eval (.tmp 55)] _ _; have hq : Calls _ _ #[a.eval (.tmp 54), a.eval (.tmp 55)] w (Ret _ w) := c_sub (Src.at_ (Src.dep (j := 0) (t := 54) (by kernel_rfl) (by kernel_rfl) rfl) U) (Src.at_ (Src.dep (j := 1) (t := 55) (by kernel_rfl) (by kernel_rfl) rfl) U) (by decide) (by decide); simp only [e2, e1] at hq; exact hq)
    · exact sMv rfl rfl rfl hz rfl (Gd.none_ rfl) rfl (Src.dep (j := 2) (t := 56) (by kernel_rfl) (by kernel_rfl) rfl)
    · exact sExt rfl rfl rfl hz rfl (Gd.none_ rfl) rfl (Src.dep (j := 3) (t := 53) (by kernel_rfl) (by kernel_rfl) rfl) rfl
    · exact sExt rfl rfl rfl hz rfl (Gd.none_ rfl) rfl (Src.dep (j := 3) (t := 53) (by kernel_rfl) (by kernel_rfl) rfl) rfl
    · exact sAlloc rfl rfl rfl hz rfl rfl rfl rfl nd_slice al_n64
    · exact sStore rfl rfl rfl rfl rfl (by kernel_rfl) (by kernel_rfl) rfl (Src.dep (j := 4) (t := 57) (by kernel_rfl) (by kernel_rfl) rfl) st_n64
    · exact sAs rfl rfl rfl hz rfl (Gd.none_ rfl) rfl (Src.dep (j := 5) (t := 58) (by kernel_rfl) (by kernel_rfl) rfl)
  intro a' γ' W' hz' hd' hC hk hh
  replace Cp1 := Cell.aft Cp1 hC rfl
  replace Cp2 := Cell.aft Cp2 hC rfl
  replace Cp3 := Cell.aft Cp3 hC rfl
  replace Cp4 := Cell.aft Cp4 hC rfl
  replace S4 := hk 4 _ (by kernel_rfl) S4
  replace S5 := hk 5 _ (by kernel_rfl) S5
  replace S6 := hk 6 _ (by kernel_rfl) S6
  replace S7 := hk 7 _ (by kernel_rfl) S7
  replace S8 := hk 8 _ (by kernel_rfl) S8
  clear S52
  obtain ⟨p5, S9, Cp5, lp5, gp5⟩ := gotB hz' 7 hC hh rfl rfl rfl rfl rfl rfl
  have S10 := gotV hz' 8 hh rfl rfl rfl rfl
  clear lp5 gp5
  replace HB := aft_call HB (RelC.below_nil hC)
  clear hC hk hh; replace hz := hz'; replace hd := hd'; clear hz' hd'
  refine wp_seq ?_
  refine wp_seq ?_
  refine region_text (M := []) (
      rT (tN B32 10000000000 x) ::
      rT (tN B32 10000000000 y) ::
      rT (tV (.int .i64 (cmpI x y))) ::
      rT (tV (.bool true)) ::
      []) hz hd (by kernel_rfl) ?_ ?_
  · refine ⟨?_, ?_, ?_, ?_, trivial⟩
    · exact sLoad rfl rfl rfl hz rfl (Gd.none_ rfl) rfl (Src.out (t := 6) (by kernel_rfl) S6 rfl) Cp3 rfl ld_n32
    · exact sLoad rfl rfl rfl hz rfl (Gd.none_ rfl) rfl (Src.out (t := 7) (by kernel_rfl) S7 rfl) Cp4 rfl ld_n32
    · exact sCall rfl rfl rfl hz rfl (Gd.none_ rfl) rfl Try.func65 (by kernel_rfl) (by kernel_rfl) fun a γ w U => (by show Calls _ _ #[a.eval (.tmp 59), a.eval (.tmp 60)] _ _; exact d_cmp (Src.at_ (Src.dep (j := 0) (t := 59) (by kernel_rfl) (by kernel_rfl) rfl) U) (Src.at_ (Src.dep (j := 1) (t := 60) (by kernel_rfl) (by kernel_rfl) rfl) U) (by decide) (by decide))
    · exact sBin rfl rfl rfl hz rfl (Gd.none_ rfl) rfl (Src.dep (j := 2) (t := 61) (by kernel_rfl) (by kernel_rfl) rfl) (Src.const (.int .i64 0)) (fun w => by simp [go_sem, e3] at *)
  intro a' γ' W' hz' hd' hC hk hh
  replace Cp1 := Cell.aft Cp1 hC rfl
  replace Cp2 := Cell.aft Cp2 hC rfl
  replace Cp3 := Cell.aft Cp3 hC rfl
  replace Cp4 := Cell.aft Cp4 hC rfl
  replace Cp5 := Cell.aft Cp5 hC rfl
  replace S4 := hk 4 _ (by kernel_rfl) S4
  replace S5 := hk 5 _ (by kernel_rfl) S5
  replace S6 := hk 6 _ (by kernel_rfl) S6
  replace S7 := hk 7 _ (by kernel_rfl) S7
  replace S8 := hk 8 _ (by kernel_rfl) S8
  replace S9 := hk 9 _ (by kernel_rfl) S9
  replace S10 := hk 10 _ (by kernel_rfl) S10
  have S62 := gotV hz' 3 hh rfl rfl rfl rfl
  replace HB := aft_call HB (RelC.below_nil hC)
  clear hC hk hh; replace hz := hz'; replace hd := hd'; clear hz' hd'
  refine wp_cond_true S62.ev ?_
  refine wp_seq ?_
  refine region_text (M := []) (
      rT (tV (.bool false)) ::
      rT (tV (.bool false)) ::
      rT (tN B64 10000000000 0) ::
      rT (tN B32 0 0) ::
      rT (tV (.bool true)) ::
      rT (tV (.bool false)) ::
      rT (tV (.bool false)) ::
      []) hz hd (by kernel_rfl) ?_ ?_
  · refine ⟨?_, ?_, ?_, ?_, ?_, ?_, ?_, trivial⟩
    · exact sMv rfl rfl rfl hz rfl (Gd.none_ rfl) rfl (Src.out (t := 10) (by kernel_rfl) S10 rfl)
    · exact sMv rfl rfl rfl hz rfl (Gd.none_ rfl) rfl (Src.dep (j := 0) (t := 63) (by kernel_rfl) (by kernel_rfl) rfl)
    · exact sLoad rfl rfl rfl hz rfl (Gd.yes rfl rfl (Src.dep (j := 1) (t := 64) (by kernel_rfl) (by kernel_rfl) rfl) rfl) rfl (Src.out (t := 9) (by kernel_rfl) S9 rfl) Cp5 rfl ld_n64
    · exact sBuild0 rfl rfl rfl hz rfl (Gd.yes rfl rfl (Src.dep (j := 1) (t := 64) (by kernel_rfl) (by kernel_rfl) rfl) rfl) rfl bd_n32 (fun _ => tN_nil)
    · exact sCall rfl rfl rfl hz rfl (Gd.yes rfl rfl (Src.dep (j := 1) (t := 64) (by kernel_rfl) (by kernel_rfl) rfl) rfl) rfl Try.func43 (by kernel_rfl) (by kernel_rfl) fun a γ w U => (by show Calls _ _ #[a.eval (.tmp 65), a.eval (.tmp 66)] _ _; exact l_same (Src.at_ (Src.dep (j := 2) (t := 65) (by kernel_rfl) (by kernel_rfl) rfl) U) (Src.at_ (Src.dep (j := 3) (t := 66) (by kernel_rfl) (by kernel_rfl) rfl) U) (by decide) (by decide))
    · exact sNot (b := true) rfl rfl rfl hz rfl (Gd.yes rfl rfl (Src.dep (j := 1) (t := 64) (by kernel_rfl) (by kernel_rfl) rfl) rfl) rfl (Src.dep (j := 4) (t := 67) (by kernel_rfl) (by kernel_rfl) rfl)
    · exact sPickF rfl rfl rfl hz rfl (Gd.none_ rfl) rfl (Src.dep (j := 1) (t := 64) (by kernel_rfl) (by kernel_rfl) rfl) (Src.dep (j := 5) (t := 68) (by kernel_rfl) (by kernel_rfl) rfl)
  intro a' γ' W' hz' hd' hC hk hh
  replace Cp1 := Cell.aft Cp1 hC rfl
  replace Cp2 := Cell.aft Cp2 hC rfl
  replace Cp3 := Cell.aft Cp3 hC rfl
  replace Cp4 := Cell.aft Cp4 hC rfl
  clear Cp5
  replace S4 := hk 4 _ (by kernel_rfl) S4
  replace S5 := hk 5 _ (by kernel_rfl) S5
  replace S6 := hk 6 _ (by kernel_rfl) S6
  replace S7 := hk 7 _ (by kernel_rfl) S7
  replace S8 := hk 8 _ (by kernel_rfl) S8
  clear S9
  clear S10
  clear S62
  have S69 := gotV hz' 6 hh rfl rfl rfl rfl
  replace HB := aft_call HB (RelC.below_nil hC)
  clear hC hk hh; replace hz := hz'; replace hd := hd'; clear hz' hd'
  refine wp_cond_false S69.ev ?_
  refine wp_skip ?_
  refine wp_seq ?_
  refine region_text (M := []) (
      rT (tN B64 10000000000 x) ::
      rT (tN B64 10000000000 y) ::
      rT (tT [tN B64 10000000000 (x / y), tN B64 10000000000 (x % y), tV (.bool true)]) ::
      rT (tT [tN B64 10000000000 (x / y), tN B64 10000000000 (x % y), tV (.bool true)]) ::
      rT (tN B64 10000000000 (x / y)) ::
      rT (tN B64 10000000000 (x % y)) ::
      rT (tV (.bool true)) ::
      rVar 7 25 1 ::
      rVar 8 25 1 ::
      rB 7 25 (tN B64 10000000000 (x / y)) (some 7) 8 ::
      rB 8 25 (tN B64 10000000000 (x % y)) (some 8) 9 ::
      rT (tV (.bool true)) ::
      []) hz hd (by kernel_rfl) ?_ ?_
  · refine ⟨?_, ?_, ?_, ?_, ?_, ?_, ?_, ?_, ?_, ?_, ?_, ?_, trivial⟩
    · exact sLoad rfl rfl rfl hz rfl (Gd.none_ rfl) rfl (Src.out (t := 4) (by kernel_rfl) S4 rfl) Cp1 rfl ld_n64
    · exact sLoad rfl rfl rfl hz rfl (Gd.none_ rfl) rfl (Src.out (t := 5) (by kernel_rfl) S5 rfl) Cp2 rfl ld_n64
    · exact sCall rfl rfl rfl hz rfl (Gd.none_ rfl) rfl Try.func15 (by kernel_rfl) (by kernel_rfl) fun a γ w U => (by show Calls _ _ #[a.eval (.tmp 81), a.eval (.tmp 82)] _ _; have hq : Calls _ _ #[a.eval (.tmp 81), a.eval (.tmp 82)] w (Ret _ w) := c_divmod (Src.at_ (Src.dep (j := 0) (t := 81) (by kernel_rfl) (by kernel_rfl) rfl) U) (Src.at_ (Src.dep (j := 1) (t := 82) (by kernel_rfl) (by kernel_rfl) rfl) U) (by decide) (by decide); simp only [e5, e4] at hq; exact hq)
    · exact sMv rfl rfl rfl hz rfl (Gd.none_ rfl) rfl (Src.dep (j := 2) (t := 83) (by kernel_rfl) (by kernel_rfl) rfl)
    · exact sExt rfl rfl rfl hz rfl (Gd.none_ rfl) rfl (Src.dep (j := 3) (t := 80) (by kernel_rfl) (by kernel_rfl) rfl) rfl
    · exact sExt rfl rfl rfl hz rfl (Gd.none_ rfl) rfl (Src.dep (j := 3) (t := 80) (by kernel_rfl) (by kernel_rfl) rfl) rfl
    · exact sExt rfl rfl rfl hz rfl (Gd.none_ rfl) rfl (Src.dep (j := 3) (t := 80) (by kernel_rfl) (by kernel_rfl) rfl) rfl
    · exact sAlloc rfl rfl rfl hz rfl rfl rfl rfl nd_slice al_n64
    · exact sAlloc rfl rfl rfl hz rfl rfl rfl rfl nd_slice al_n64
    · exact sStore rfl rfl rfl rfl rfl (by kernel_rfl) (by kernel_rfl) rfl (Src.dep (j := 4) (t := 84) (by kernel_rfl) (by kernel_rfl) rfl) st_n64
    · exact sStore rfl rfl rfl rfl rfl (by kernel_rfl) (by kernel_rfl) rfl (Src.dep (j := 5) (t := 85) (by kernel_rfl) (by kernel_rfl) rfl) st_n64
    · exact sAs rfl rfl rfl hz rfl (Gd.none_ rfl) rfl (Src.dep (j := 6) (t := 86) (by kernel_rfl) (by kernel_rfl) rfl)
  intro a' γ' W' hz' hd' hC hk hh
  clear Cp1
  clear Cp2
  replace Cp3 := Cell.aft Cp3 hC rfl
  replace Cp4 := Cell.aft Cp4 hC rfl
  clear S4
  clear S5
  replace S6 := hk 6 _ (by kernel_rfl) S6
  replace S7 := hk 7 _ (by kernel_rfl) S7
  replace S8 := hk 8 _ (by kernel_rfl) S8
  clear S69
  obtain ⟨p6, S11, Cp6, lp6, gp6⟩ := gotB hz' 9 hC hh rfl rfl rfl rfl rfl rfl
  obtain ⟨p7, S12, Cp7, lp7, gp7⟩ := gotB hz' 10 hC hh rfl rfl rfl rfl rfl rfl
  have S13 := gotV hz' 11 hh rfl rfl rfl rfl
  clear lp6 gp6 lp7 gp7
  replace HB := aft_call HB (RelC.below_nil hC)
  clear hC hk hh; replace hz := hz'; replace hd := hd'; clear hz' hd'
  refine wp_seq ?_
  refine wp_seq ?_
  refine region_text (M := []) (
      rT (tN B32 10000000000 y) ::
      rT (tV (.bool false)) ::
      []) hz hd (by kernel_rfl) ?_ ?_
  · refine ⟨?_, ?_, trivial⟩
    · exact sLoad rfl rfl rfl hz rfl (Gd.none_ rfl) rfl (Src.out (t := 7) (by kernel_rfl) S7 rfl) Cp4 rfl ld_n32
    · exact sCall rfl rfl rfl hz rfl (Gd.none_ rfl) rfl Try.func68 (by kernel_rfl) (by kernel_rfl) fun a γ w U => (by show Calls _ _ #[a.eval (.tmp 87)] _ _; have hq : Calls _ _ #[a.eval (.tmp 87)] w (Ret _ w) := d_zero (Src.at_ (Src.dep (j := 0) (t := 87) (by kernel_rfl) (by kernel_rfl) rfl) U); simp only [e6] at hq; exact hq)
  intro a' γ' W' hz' hd' hC hk hh
  replace Cp3 := Cell.aft Cp3 hC rfl
  replace Cp4 := Cell.aft Cp4 hC rfl
  replace Cp6 := Cell.aft Cp6 hC rfl
  replace Cp7 := Cell.aft Cp7 hC rfl
  replace S6 := hk 6 _ (by kernel_rfl) S6
  replace S7 := hk 7 _ (by kernel_rfl) S7
  replace S8 := hk 8 _ (by kernel_rfl) S8
  replace S11 := hk 11 _ (by kernel_rfl) S11
  replace S12 := hk 12 _ (by kernel_rfl) S12
  replace S13 := hk 13 _ (by kernel_rfl) S13
  have S88 := gotV hz' 1 hh rfl rfl rfl rfl
  replace HB := aft_call HB (RelC.below_nil hC)
  clear hC hk hh; replace hz := hz'; replace hd := hd'; clear hz' hd'
  refine wp_cond_false S88.ev ?_
  refine wp_skip ?_
  refine wp_seq ?_
  refine region_text (M := []) (
      rT (tN B32 10000000000 x) ::
      rT (tN B32 10000000000 y) ::
      rT (tT [tN B32 10000000000 (x / y), tN B32 10000000000 (x % y)]) ::
      rT (tT [tN B32 10000000000 (x / y), tN B32 10000000000 (x % y)]) ::
      rT (tN B32 10000000000 (x / y)) ::
      rT (tN B32 10000000000 (x % y)) ::
      rVar 6 44 1 ::
      rVar 7 44 1 ::
      rB 6 44 (tN B32 10000000000 (x / y)) (some 6) 7 ::
      rB 7 44 (tN B32 10000000000 (x % y)) (some 7) 8 ::
      []) hz hd (by kernel_rfl) ?_ ?_
  · refine ⟨?_, ?_, ?_, ?_, ?_, ?_, ?_, ?_, ?_, ?_, trivial⟩
    · exact sLoad rfl rfl rfl hz rfl (Gd.none_ rfl) rfl (Src.out (t := 6) (by kernel_rfl) S6 rfl) Cp3 rfl ld_n32
    · exact sLoad rfl rfl rfl hz rfl (Gd.none_ rfl) rfl (Src.out (t := 7) (by kernel_rfl) S7 rfl) Cp4 rfl ld_n32
    · exact sCall rfl rfl rfl hz rfl (Gd.none_ rfl) rfl Try.func69 (by kernel_rfl) (by kernel_rfl) fun a γ w U => (by show Calls _ _ #[a.eval (.tmp 102), a.eval (.tmp 103)] _ _; exact d_divmod (Src.at_ (Src.dep (j := 0) (t := 102) (by kernel_rfl) (by kernel_rfl) rfl) U) (Src.at_ (Src.dep (j := 1) (t := 103) (by kernel_rfl) (by kernel_rfl) rfl) U) (by decide) (by decide) e7)
    · exact sMv rfl rfl rfl hz rfl (Gd.none_ rfl) rfl (Src.dep (j := 2) (t := 104) (by kernel_rfl) (by kernel_rfl) rfl)
    · exact sExt rfl rfl rfl hz rfl (Gd.none_ rfl) rfl (Src.dep (j := 3) (t := 101) (by kernel_rfl) (by kernel_rfl) rfl) rfl
    · exact sExt rfl rfl rfl hz rfl (Gd.none_ rfl) rfl (Src.dep (j := 3) (t := 101) (by kernel_rfl) (by kernel_rfl) rfl) rfl
    · exact sAlloc rfl rfl rfl hz rfl rfl rfl rfl nd_slice al_n32
    · exact sAlloc rfl rfl rfl hz rfl rfl rfl rfl nd_slice al_n32
    · exact sStore rfl rfl rfl rfl rfl (by kernel_rfl) (by kernel_rfl) rfl (Src.dep (j := 4) (t := 105) (by kernel_rfl) (by kernel_rfl) rfl) st_n32
    · exact sStore rfl rfl rfl rfl rfl (by kernel_rfl) (by kernel_rfl) rfl (Src.dep (j := 5) (t := 106) (by kernel_rfl) (by kernel_rfl) rfl) st_n32
  intro a' γ' W' hz' hd' hC hk hh
  clear Cp3
  clear Cp4
  replace Cp6 := Cell.aft Cp6 hC rfl
  replace Cp7 := Cell.aft Cp7 hC rfl
  clear S6
  clear S7
  replace S8 := hk 8 _ (by kernel_rfl) S8
  replace S11 := hk 11 _ (by kernel_rfl) S11
  replace S12 := hk 12 _ (by kernel_rfl) S12
  replace S13 := hk 13 _ (by kernel_rfl) S13
  clear S88
  obtain ⟨p8, S14, Cp8, lp8, gp8⟩ := gotB hz' 8 hC hh rfl rfl rfl rfl rfl rfl
  obtain ⟨p9, S15, Cp9, lp9, gp9⟩ := gotB hz' 9 hC hh rfl rfl rfl rfl rfl rfl
  clear lp8 gp8 lp9 gp9
  replace HB := aft_call HB (RelC.below_nil hC)
  clear hC hk hh; replace hz := hz'; replace hd := hd'; clear hz' hd'
  refine wp_seq ?_
  refine region_text (M := []) (
      rT (tV (.bool true)) ::
      rT (tV (.bool true)) ::
      rT (tN B64 10000000000 (x / y)) ::
      rT (tN B32 10000000000 (x / y)) ::
      rT (tV (.bool true)) ::
      rT (tV (.bool true)) ::
      rT (tV (.bool true)) ::
      rT (tN B64 10000000000 (x % y)) ::
      rT (tN B32 10000000000 (x % y)) ::
      rT (tV (.bool true)) ::
      rT (tV (.bool true)) ::
      rT (tV (.bool true)) ::
      []) hz hd (by kernel_rfl) ?_ ?_
  · refine ⟨?_, ?_, ?_, ?_, ?_, ?_, ?_, ?_, ?_, ?_, ?_, ?_, trivial⟩
    · exact sMv rfl rfl rfl hz rfl (Gd.none_ rfl) rfl (Src.out (t := 13) (by kernel_rfl) S13 rfl)
    · exact sMv rfl rfl rfl hz rfl (Gd.none_ rfl) rfl (Src.dep (j := 0) (t := 107) (by kernel_rfl) (by kernel_rfl) rfl)
    · exact sLoad rfl rfl rfl hz rfl (Gd.yes rfl rfl (Src.dep (j := 1) (t := 108) (by kernel_rfl) (by kernel_rfl) rfl) rfl) rfl (Src.out (t := 11) (by kernel_rfl) S11 rfl) Cp6 rfl ld_n64
    · exact sLoad rfl rfl rfl hz rfl (Gd.yes rfl rfl (Src.dep (j := 1) (t := 108) (by kernel_rfl) (by kernel_rfl) rfl) rfl) rfl (Src.out (t := 14) (by kernel_rfl) S14 rfl) Cp8 rfl ld_n32
    · exact sCall rfl rfl rfl hz rfl (Gd.yes rfl rfl (Src.dep (j := 1) (t := 108) (by kernel_rfl) (by kernel_rfl) rfl) rfl) rfl Try.func43 (by kernel_rfl) (by kernel_rfl) fun a γ w U => (by show Calls _ _ #[a.eval (.tmp 109), a.eval (.tmp 110)] _ _; exact l_same (Src.at_ (Src.dep (j := 2) (t := 109) (by kernel_rfl) (by kernel_rfl) rfl) U) (Src.at_ (Src.dep (j := 3) (t := 110) (by kernel_rfl) (by kernel_rfl) rfl) U) (by decide) (by decide))
    · exact sPickT rfl rfl rfl hz rfl (Gd.none_ rfl) rfl (Src.dep (j := 1) (t := 108) (by kernel_rfl) (by kernel_rfl) rfl) (Src.dep (j := 4) (t := 111) (by kernel_rfl) (by kernel_rfl) rfl)
    · exact sMv rfl rfl rfl hz rfl (Gd.none_ rfl) rfl (Src.dep (j := 5) (t := 112) (by kernel_rfl) (by kernel_rfl) rfl)
    · exact sLoad rfl rfl rfl hz rfl (Gd.yes rfl rfl (Src.dep (j := 6) (t := 113) (by kernel_rfl) (by kernel_rfl) rfl) rfl) rfl (Src.out (t := 12) (by kernel_rfl) S12 rfl) Cp7 rfl ld_n64
    · exact sLoad rfl rfl rfl hz rfl (Gd.yes rfl rfl (Src.dep (j := 6) (t := 113) (by kernel_rfl) (by kernel_rfl) rfl) rfl) rfl (Src.out (t := 15) (by kernel_rfl) S15 rfl) Cp9 rfl ld_n32
    · exact sCall rfl rfl rfl hz rfl (Gd.yes rfl rfl (Src.dep (j := 6) (t := 113) (by kernel_rfl) (by kernel_rfl) rfl) rfl) rfl Try.func43 (by kernel_rfl) (by kernel_rfl) fun a γ w U => (by show Calls _ _ #[a.eval (.tmp 114), a.eval (.tmp 115)] _ _; exact l_same (Src.at_ (Src.dep (j := 7) (t := 114) (by kernel_rfl) (by kernel_rfl) rfl) U) (Src.at_ (Src.dep (j := 8) (t := 115) (by kernel_rfl) (by kernel_rfl) rfl) U) (by decide) (by decide))
    · exact sPickT rfl rfl rfl hz rfl (Gd.none_ rfl) rfl (Src.dep (j := 6) (t := 113) (by kernel_rfl) (by kernel_rfl) rfl) (Src.dep (j := 9) (t := 116) (by kernel_rfl) (by kernel_rfl) rfl)
    · exact sAs rfl rfl rfl hz rfl (Gd.none_ rfl) rfl (Src.dep (j := 10) (t := 117) (by kernel_rfl) (by kernel_rfl) rfl)
  intro a' γ' W' hz' hd' hC hk hh
  clear Cp6
  clear Cp7
  clear Cp8
  clear Cp9
  clear S8
  clear S11
  clear S12
  clear S13
  clear S14
  clear S15
  have S8 := gotV hz' 11 hh rfl rfl rfl rfl
  replace HB := aft_call HB (RelC.below_nil hC)
  clear hC hk hh; replace hz := hz'; replace hd := hd'; clear hz' hd'
  refine wp_ret ?_
  exact ret1 (by kernel_rfl) S8 hd ⟨_, rfl, rfl, HB⟩

set_option maxRecDepth 10000 in
set_option maxHeartbeats 2000000 in
theorem pair_zero {x y : Nat} {v0 v1 v2 v3 : Value} {w : World} (h0 : (tN B64 10000000000 x).p v0 w) (h1 : (tN B64 10000000000 y).p v1 w) (h2 : (tN B32 10000000000 x).p v2 w) (h3 : (tN B32 10000000000 y).p v3 w) (e1 : decide (y ≤ x) = true) (e3 : decide (cmpI x y < 0) = false) (e4 : nz y = false) (e5 : modOf x y = y) (e6 : decide (y = 0) = true) (e7 : x / y = y) (e8 : y ≤ x) :
    Calls Try.prog 41 #[v0, v1, v2, v3] w (Ret (tV (.bool true)) w) := by
  refine enter Try.func41 rfl Try.ntmps41 (by simp) ?_
  intro a hz hd ha
  have S0 := ha 0 _ rfl
  have H0 := h0
  have S1 := ha 1 _ rfl
  have H1 := h1
  have S2 := ha 2 _ rfl
  have H2 := h2
  have S3 := ha 3 _ rfl
  have H3 := h3
  clear ha
  have HB : Below w.heap.size w w := Below.refl _ _
  refine wp_seq ?_
  refine region_text (M := []) (
      rB 0 25 (tN B64 10000000000 x) none 0 ::
      rB 1 25 (tN B64 10000000000 y) none 0 ::
      rB 2 44 (tN B32 10000000000 x) none 0 ::
      rB 3 44 (tN B32 10000000000 y) none 0 ::
      rT (tV (.bool false)) ::
      []) hz hd (by kernel_rfl) ?_ ?_
  · refine ⟨?_, ?_, ?_, ?_, ?_, trivial⟩
    · exact sBox rfl rfl rfl hz rfl rfl rfl (Src.out (t := 0) (by kernel_rfl) S0 H0) box_n64
    · exact sBox rfl rfl rfl hz rfl rfl rfl (Src.out (t := 1) (by kernel_rfl) S1 H1) box_n64
    · exact sBox rfl rfl rfl hz rfl rfl rfl (Src.out (t := 2) (by kernel_rfl) S2 H2) box_n32
    · exact sBox rfl rfl rfl hz rfl rfl rfl (Src.out (t := 3) (by kernel_rfl) S3 H3) box_n32
    · exact sAs rfl rfl rfl hz rfl (Gd.none_ rfl) rfl (Src.const (.bool false))
  intro a' γ' W' hz' hd' hC hk hh
  clear S0 H0
  clear S1 H1
  clear S2 H2
  clear S3 H3
  obtain ⟨p1, S4, Cp1, lp1, gp1⟩ := gotB hz' 0 hC hh rfl rfl rfl rfl rfl rfl
  obtain ⟨p2, S5, Cp2, lp2, gp2⟩ := gotB hz' 1 hC hh rfl rfl rfl rfl rfl rfl
  obtain ⟨p3, S6, Cp3, lp3, gp3⟩ := gotB hz' 2 hC hh rfl rfl rfl rfl rfl rfl
  obtain ⟨p4, S7, Cp4, lp4, gp4⟩ := gotB hz' 3 hC hh rfl rfl rfl rfl rfl rfl
  have S8 := gotV hz' 4 hh rfl rfl rfl rfl
  clear lp1 gp1 lp2 gp2 lp3 gp3 lp4 gp4
  replace HB := aft_call HB (RelC.below_nil hC)
  clear hC hk hh; replace hz := hz'; replace hd := hd'; clear hz' hd'
  refine wp_seq ?_
  refine wp_seq ?_
  refine region_drawn (M := []) (
      rT (tN B64 10000000000 x) ::
      rT (tN B64 10000000000 y) ::
      rT (tN B64 10000000001 (x + y)) ::
      rT (tN B32 10000000000 x) ::
      rT (tN B32 10000000000 y) ::
      rT (tN B32 10000000001 (x + y)) ::
      rT (tV (.bool true)) ::
      rT (tV (.bool false)) ::
      rT (tV (.bool false)) ::
      rT (tN B64 10000000000 x) ::
      rT (tN B64 10000000000 y) ::
      rT (tN B64 20000000000 (x * y)) ::
      rT (tN B32 10000000000 x) ::
      rT (tN B32 10000000000 y) ::
      rT (tN B32 20000000000 (x * y)) ::
      rT (tV (.bool true)) ::
      rT (tV (.bool false)) ::
      rT (tV (.bool false)) ::
      rT (tV (.bool false)) ::
      rT (tN B64 10000000000 x) ::
      rT (tN B64 10000000000 y) ::
      rT (tV (.int .i64 (cmpI x y))) ::
      rT (tN B32 10000000000 x) ::
      rT (tN B32 10000000000 y) ::
      rT (tV (.int .i64 (cmpI x y))) ::
      rT (tV (.bool false)) ::
      rT (tV (.bool false)) ::
      rT (tV (.bool false)) ::
      rT (tN B64 10000000000 x) ::
      rT (tN B64 10000000000 y) ::
      rT (tN B64 10000000000 (Nat.gcd x y)) ::
      rT (tN B32 10000000000 x) ::
      rT (tN B32 10000000000 y) ::
      rT (tN B32 10000000000 (Nat.gcd x y)) ::
      rT (tV (.bool true)) ::
      rT (tV (.bool false)) ::
      rT (tV (.bool false)) ::
      []) hz hd (by kernel_rfl) (by kernel_rfl) ?_ ?_
  · refine ⟨?_, ?_, ?_, ?_, ?_, ?_, ?_, ?_, ?_, ?_, ?_, ?_, ?_, ?_, ?_, ?_, ?_, ?_, ?_, ?_, ?_, ?_, ?_, ?_, ?_, ?_, ?_, ?_, ?_, ?_, ?_, ?_, ?_, ?_, ?_, ?_, ?_, trivial⟩
    · exact sLoad rfl rfl rfl hz rfl (Gd.none_ rfl) rfl (Src.out (t := 4) (by kernel_rfl) S4 rfl) Cp1 rfl ld_n64
    · exact sLoad rfl rfl rfl hz rfl (Gd.none_ rfl) rfl (Src.out (t := 5) (by kernel_rfl) S5 rfl) Cp2 rfl ld_n64
    · exact sCall rfl rfl rfl hz rfl (Gd.none_ rfl) rfl Try.func20 (by kernel_rfl) (by kernel_rfl) fun a γ w U => (by show Calls _ _ #[a.eval (.tmp 16), a.eval (.tmp 17)] _ _; exact c_add (Src.at_ (Src.dep (j := 0) (t := 16) (by kernel_rfl) (by kernel_rfl) rfl) U) (Src.at_ (Src.dep (j := 1) (t := 17) (by kernel_rfl) (by kernel_rfl) rfl) U) (by decide) (by decide))
    · exact sLoad rfl rfl rfl hz rfl (Gd.none_ rfl) rfl (Src.out (t := 6) (by kernel_rfl) S6 rfl) Cp3 rfl ld_n32
    · exact sLoad rfl rfl rfl hz rfl (Gd.none_ rfl) rfl (Src.out (t := 7) (by kernel_rfl) S7 rfl) Cp4 rfl ld_n32
    · exact sCall rfl rfl rfl hz rfl (Gd.none_ rfl) rfl Try.func58 (by kernel_rfl) (by kernel_rfl) fun a γ w U => (by show Calls _ _ #[a.eval (.tmp 19), a.eval (.tmp 20)] _ _; exact d_add (Src.at_ (Src.dep (j := 3) (t := 19) (by kernel_rfl) (by kernel_rfl) rfl) U) (Src.at_ (Src.dep (j := 4) (t := 20) (by kernel_rfl) (by kernel_rfl) rfl) U) (by decide) (by decide))
    · exact sCall rfl rfl rfl hz rfl (Gd.none_ rfl) rfl Try.func43 (by kernel_rfl) (by kernel_rfl) fun a γ w U => (by show Calls _ _ #[a.eval (.tmp 18), a.eval (.tmp 21)] _ _; exact l_same (Src.at_ (Src.dep (j := 2) (t := 18) (by kernel_rfl) (by kernel_rfl) rfl) U) (Src.at_ (Src.dep (j := 5) (t := 21) (by kernel_rfl) (by kernel_rfl) rfl) U) (by decide) (by decide))
    · exact sNot (b := true) rfl rfl rfl hz rfl (Gd.none_ rfl) rfl (Src.dep (j := 6) (t := 22) (by kernel_rfl) (by kernel_rfl) rfl)
    · exact sMv rfl rfl rfl hz rfl (Gd.none_ rfl) rfl (Src.dep (j := 7) (t := 23) (by kernel_rfl) (by kernel_rfl) rfl)
    · exact sLoad rfl rfl rfl hz rfl (Gd.yes rfl rfl (Src.dep (j := 8) (t := 24) (by kernel_rfl) (by kernel_rfl) rfl) rfl) rfl (Src.out (t := 4) (by kernel_rfl) S4 rfl) Cp1 rfl ld_n64
    · exact sLoad rfl rfl rfl hz rfl (Gd.yes rfl rfl (Src.dep (j := 8) (t := 24) (by kernel_rfl) (by kernel_rfl) rfl) rfl) rfl (Src.out (t := 5) (by kernel_rfl) S5 rfl) Cp2 rfl ld_n64
    · exact sCall rfl rfl rfl hz rfl (Gd.yes rfl rfl (Src.dep (j := 8) (t := 24) (by kernel_rfl) (by kernel_rfl) rfl) rfl) rfl Try.func19 (by kernel_rfl) (by kernel_rfl) fun a γ w U => (by show Calls _ _ #[a.eval (.tmp 25), a.eval (.tmp 26)] _ _; exact c_mul (Src.at_ (Src.dep (j := 9) (t := 25) (by kernel_rfl) (by kernel_rfl) rfl) U) (Src.at_ (Src.dep (j := 10) (t := 26) (by kernel_rfl) (by kernel_rfl) rfl) U) (by decide) (by decide))
    · exact sLoad rfl rfl rfl hz rfl (Gd.yes rfl rfl (Src.dep (j := 8) (t := 24) (by kernel_rfl) (by kernel_rfl) rfl) rfl) rfl (Src.out (t := 6) (by kernel_rfl) S6 rfl) Cp3 rfl ld_n32
    · exact sLoad rfl rfl rfl hz rfl (Gd.yes rfl rfl (Src.dep (j := 8) (t := 24) (by kernel_rfl) (by kernel_rfl) rfl) rfl) rfl (Src.out (t := 7) (by kernel_rfl) S7 rfl) Cp4 rfl ld_n32
    · exact sCall rfl rfl rfl hz rfl (Gd.yes rfl rfl (Src.dep (j := 8) (t := 24) (by kernel_rfl) (by kernel_rfl) rfl) rfl) rfl Try.func59 (by kernel_rfl) (by kernel_rfl) fun a γ w U => (by show Calls _ _ #[a.eval (.tmp 28), a.eval (.tmp 29)] _ _; exact d_mul (Src.at_ (Src.dep (j := 12) (t := 28) (by kernel_rfl) (by kernel_rfl) rfl) U) (Src.at_ (Src.dep (j := 13) (t := 29) (by kernel_rfl) (by kernel_rfl) rfl) U) (by decide) (by decide))
    · exact sCall rfl rfl rfl hz rfl (Gd.yes rfl rfl (Src.dep (j := 8) (t := 24) (by kernel_rfl) (by kernel_rfl) rfl) rfl) rfl Try.func43 (by kernel_rfl) (by kernel_rfl) fun a γ w U => (by show Calls _ _ #[a.eval (.tmp 27), a.eval (.tmp 30)] _ _; exact l_same (Src.at_ (Src.dep (j := 11) (t := 27) (by kernel_rfl) (by kernel_rfl) rfl) U) (Src.at_ (Src.dep (j := 14) (t := 30) (by kernel_rfl) (by kernel_rfl) rfl) U) (by decide) (by decide))
    · exact sNot (b := true) rfl rfl rfl hz rfl (Gd.yes rfl rfl (Src.dep (j := 8) (t := 24) (by kernel_rfl) (by kernel_rfl) rfl) rfl) rfl (Src.dep (j := 15) (t := 31) (by kernel_rfl) (by kernel_rfl) rfl)
    · exact sPickF rfl rfl rfl hz rfl (Gd.none_ rfl) rfl (Src.dep (j := 8) (t := 24) (by kernel_rfl) (by kernel_rfl) rfl) (Src.dep (j := 16) (t := 32) (by kernel_rfl) (by kernel_rfl) rfl)
    · exact sMv rfl rfl rfl hz rfl (Gd.none_ rfl) rfl (Src.dep (j := 17) (t := 33) (by kernel_rfl) (by kernel_rfl) rfl)
    · exact sLoad rfl rfl rfl hz rfl (Gd.yes rfl rfl (Src.dep (j := 18) (t := 34) (by kernel_rfl) (by kernel_rfl) rfl) rfl) rfl (Src.out (t := 4) (by kernel_rfl) S4 rfl) Cp1 rfl ld_n64
    · exact sLoad rfl rfl rfl hz rfl (Gd.yes rfl rfl (Src.dep (j := 18) (t := 34) (by kernel_rfl) (by kernel_rfl) rfl) rfl) rfl (Src.out (t := 5) (by kernel_rfl) S5 rfl) Cp2 rfl ld_n64
    · exact sCall rfl rfl rfl hz rfl (Gd.yes rfl rfl (Src.dep (j := 18) (t := 34) (by kernel_rfl) (by kernel_rfl) rfl) rfl) rfl Try.func17 (by kernel_rfl) (by kernel_rfl) fun a γ w U => (by show Calls _ _ #[a.eval (.tmp 35), a.eval (.tmp 36)] _ _; exact c_cmp (Src.at_ (Src.dep (j := 19) (t := 35) (by kernel_rfl) (by kernel_rfl) rfl) U) (Src.at_ (Src.dep (j := 20) (t := 36) (by kernel_rfl) (by kernel_rfl) rfl) U) (by decide) (by decide))
    · exact sLoad rfl rfl rfl hz rfl (Gd.yes rfl rfl (Src.dep (j := 18) (t := 34) (by kernel_rfl) (by kernel_rfl) rfl) rfl) rfl (Src.out (t := 6) (by kernel_rfl) S6 rfl) Cp3 rfl ld_n32
    · exact sLoad rfl rfl rfl hz rfl (Gd.yes rfl rfl (Src.dep (j := 18) (t := 34) (by kernel_rfl) (by kernel_rfl) rfl) rfl) rfl (Src.out (t := 7) (by kernel_rfl) S7 rfl) Cp4 rfl ld_n32
    · exact sCall rfl rfl rfl hz rfl (Gd.yes rfl rfl (Src.dep (j := 18) (t := 34) (by kernel_rfl) (by kernel_rfl) rfl) rfl) rfl Try.func65 (by kernel_rfl) (by kernel_rfl) fun a γ w U => (by show Calls _ _ #[a.eval (.tmp 38), a.eval (.tmp 39)] _ _; exact d_cmp (Src.at_ (Src.dep (j := 22) (t := 38) (by kernel_rfl) (by kernel_rfl) rfl) U) (Src.at_ (Src.dep (j := 23) (t := 39) (by kernel_rfl) (by kernel_rfl) rfl) U) (by decide) (by decide))
    · exact sBin rfl rfl rfl hz rfl (Gd.yes rfl rfl (Src.dep (j := 18) (t := 34) (by kernel_rfl) (by kernel_rfl) rfl) rfl) rfl (Src.dep (j := 21) (t := 37) (by kernel_rfl) (by kernel_rfl) rfl) (Src.dep (j := 24) (t := 40) (by kernel_rfl) (by kernel_rfl) rfl) (fun w => by simp [go_sem])
    · exact sPickF rfl rfl rfl hz rfl (Gd.none_ rfl) rfl (Src.dep (j := 18) (t := 34) (by kernel_rfl) (by kernel_rfl) rfl) (Src.dep (j := 25) (t := 41) (by kernel_rfl) (by kernel_rfl) rfl)
    · exact sMv rfl rfl rfl hz rfl (Gd.none_ rfl) rfl (Src.dep (j := 26) (t := 42) (by kernel_rfl) (by kernel_rfl) rfl)
    · exact sLoad rfl rfl rfl hz rfl (Gd.yes rfl rfl (Src.dep (j := 27) (t := 43) (by kernel_rfl) (by kernel_rfl) rfl) rfl) rfl (Src.out (t := 4) (by kernel_rfl) S4 rfl) Cp1 rfl ld_n64
    · exact sLoad rfl rfl rfl hz rfl (Gd.yes rfl rfl (Src.dep (j := 27) (t := 43) (by kernel_rfl) (by kernel_rfl) rfl) rfl) rfl (Src.out (t := 5) (by kernel_rfl) S5 rfl) Cp2 rfl ld_n64
    · exact sCall rfl rfl rfl hz rfl (Gd.yes rfl rfl (Src.dep (j := 27) (t := 43) (by kernel_rfl) (by kernel_rfl) rfl) rfl) rfl Try.func36 (by kernel_rfl) (by kernel_rfl) fun a γ w U => (by show Calls _ _ #[a.eval (.tmp 44), a.eval (.tmp 45)] _ _; exact c_gcd (Src.at_ (Src.dep (j := 28) (t := 44) (by kernel_rfl) (by kernel_rfl) rfl) U) (Src.at_ (Src.dep (j := 29) (t := 45) (by kernel_rfl) (by kernel_rfl) rfl) U) (by decide) (by decide))
    · exact sLoad rfl rfl rfl hz rfl (Gd.yes rfl rfl (Src.dep (j := 27) (t := 43) (by kernel_rfl) (by kernel_rfl) rfl) rfl) rfl (Src.out (t := 6) (by kernel_rfl) S6 rfl) Cp3 rfl ld_n32
    · exact sLoad rfl rfl rfl hz rfl (Gd.yes rfl rfl (Src.dep (j := 27) (t := 43) (by kernel_rfl) (by kernel_rfl) rfl) rfl) rfl (Src.out (t := 7) (by kernel_rfl) S7 rfl) Cp4 rfl ld_n32
    · exact sCall rfl rfl rfl hz rfl (Gd.yes rfl rfl (Src.dep (j := 27) (t := 43) (by kernel_rfl) (by kernel_rfl) rfl) rfl) rfl Try.func66 (by kernel_rfl) (by kernel_rfl) fun a γ w U => (by show Calls _ _ #[a.eval (.tmp 47), a.eval (.tmp 48)] _ _; exact d_gcd (Src.at_ (Src.dep (j := 31) (t := 47) (by kernel_rfl) (by kernel_rfl) rfl) U) (Src.at_ (Src.dep (j := 32) (t := 48) (by kernel_rfl) (by kernel_rfl) rfl) U) (by decide) (by decide))
    · exact sCall rfl rfl rfl hz rfl (Gd.yes rfl rfl (Src.dep (j := 27) (t := 43) (by kernel_rfl) (by kernel_rfl) rfl) rfl) rfl Try.func43 (by kernel_rfl) (by kernel_rfl) fun a γ w U => (by show Calls _ _ #[a.eval (.tmp 46), a.eval (.tmp 49)] _ _; exact l_same (Src.at_ (Src.dep (j := 30) (t := 46) (by kernel_rfl) (by kernel_rfl) rfl) U) (Src.at_ (Src.dep (j := 33) (t := 49) (by kernel_rfl) (by kernel_rfl) rfl) U) (by decide) (by decide))
    · exact sNot (b := true) rfl rfl rfl hz rfl (Gd.yes rfl rfl (Src.dep (j := 27) (t := 43) (by kernel_rfl) (by kernel_rfl) rfl) rfl) rfl (Src.dep (j := 34) (t := 50) (by kernel_rfl) (by kernel_rfl) rfl)
    · exact sPickF rfl rfl rfl hz rfl (Gd.none_ rfl) rfl (Src.dep (j := 27) (t := 43) (by kernel_rfl) (by kernel_rfl) rfl) (Src.dep (j := 35) (t := 51) (by kernel_rfl) (by kernel_rfl) rfl)
  intro a' γ' W' hz' hd' hC hk hh
  replace Cp1 := Cell.aft Cp1 hC rfl
  replace Cp2 := Cell.aft Cp2 hC rfl
  replace Cp3 := Cell.aft Cp3 hC rfl
  replace Cp4 := Cell.aft Cp4 hC rfl
  replace S4 := hk 4 _ (by kernel_rfl) S4
  replace S5 := hk 5 _ (by kernel_rfl) S5
  replace S6 := hk 6 _ (by kernel_rfl) S6
  replace S7 := hk 7 _ (by kernel_rfl) S7
  replace S8 := hk 8 _ (by kernel_rfl) S8
  have S52 := gotV hz' 36 hh rfl rfl rfl rfl
  replace HB := aft_call HB (RelC.below_nil hC)
  clear hC hk hh; replace hz := hz'; replace hd := hd'; clear hz' hd'
  refine wp_cond_false S52.ev ?_
  refine wp_skip ?_
  refine wp_seq ?_
  refine region_text (M := []) (
      rT (tN B64 10000000000 x) ::
      rT (tN B64 10000000000 y) ::
      rT (tT [tN B64 10000000000 (x - y), tV (.bool true)]) ::
      rT (tT [tN B64 10000000000 (x - y), tV (.bool true)]) ::
      rT (tN B64 10000000000 (x - y)) ::
      rT (tV (.bool true)) ::
      rVar 6 25 1 ::
      rB 6 25 (tN B64 10000000000 (x - y)) (some 6) 7 ::
      rT (tV (.bool true)) ::
      []) hz hd (by kernel_rfl) ?_ ?_
  · refine ⟨?_, ?_, ?_, ?_, ?_, ?_, ?_, ?_, ?_, trivial⟩
    · exact sLoad rfl rfl rfl hz rfl (Gd.none_ rfl) rfl (Src.out (t := 4) (by kernel_rfl) S4 rfl) Cp1 rfl ld_n64
    · exact sLoad rfl rfl rfl hz rfl (Gd.none_ rfl) rfl (Src.out (t := 5) (by kernel_rfl) S5 rfl) Cp2 rfl ld_n64
    · exact sCall rfl rfl rfl hz rfl (Gd.none_ rfl) rfl Try.func37 (by kernel_rfl) (by kernel_rfl) fun a γ w U => (by show Calls _ _ #[a.eval (.tmp 54), a.eval (.tmp 55)] _ _; have hq : Calls _ _ #[a.eval (.tmp 54), a.eval (.tmp 55)] w (Ret _ w) := c_sub (Src.at_ (Src.dep (j := 0) (t := 54) (by kernel_rfl) (by kernel_rfl) rfl) U) (Src.at_ (Src.dep (j := 1) (t := 55) (by kernel_rfl) (by kernel_rfl) rfl) U) (by decide) (by decide); simp only [e1] at hq; exact hq)
    · exact sMv rfl rfl rfl hz rfl (Gd.none_ rfl) rfl (Src.dep (j := 2) (t := 56) (by kernel_rfl) (by kernel_rfl) rfl)
    · exact sExt rfl rfl rfl hz rfl (Gd.none_ rfl) rfl (Src.dep (j := 3) (t := 53) (by kernel_rfl) (by kernel_rfl) rfl) rfl
    · exact sExt rfl rfl rfl hz rfl (Gd.none_ rfl) rfl (Src.dep (j := 3) (t := 53) (by kernel_rfl) (by kernel_rfl) rfl) rfl
    · exact sAlloc rfl rfl rfl hz rfl rfl rfl rfl nd_slice al_n64
    · exact sStore rfl rfl rfl rfl rfl (by kernel_rfl) (by kernel_rfl) rfl (Src.dep (j := 4) (t := 57) (by kernel_rfl) (by kernel_rfl) rfl) st_n64
    · exact sAs rfl rfl rfl hz rfl (Gd.none_ rfl) rfl (Src.dep (j := 5) (t := 58) (by kernel_rfl) (by kernel_rfl) rfl)
  intro a' γ' W' hz' hd' hC hk hh
  replace Cp1 := Cell.aft Cp1 hC rfl
  replace Cp2 := Cell.aft Cp2 hC rfl
  replace Cp3 := Cell.aft Cp3 hC rfl
  replace Cp4 := Cell.aft Cp4 hC rfl
  replace S4 := hk 4 _ (by kernel_rfl) S4
  replace S5 := hk 5 _ (by kernel_rfl) S5
  replace S6 := hk 6 _ (by kernel_rfl) S6
  replace S7 := hk 7 _ (by kernel_rfl) S7
  replace S8 := hk 8 _ (by kernel_rfl) S8
  clear S52
  obtain ⟨p5, S9, Cp5, lp5, gp5⟩ := gotB hz' 7 hC hh rfl rfl rfl rfl rfl rfl
  have S10 := gotV hz' 8 hh rfl rfl rfl rfl
  clear lp5 gp5
  replace HB := aft_call HB (RelC.below_nil hC)
  clear hC hk hh; replace hz := hz'; replace hd := hd'; clear hz' hd'
  refine wp_seq ?_
  refine wp_seq ?_
  refine region_text (M := []) (
      rT (tN B32 10000000000 x) ::
      rT (tN B32 10000000000 y) ::
      rT (tV (.int .i64 (cmpI x y))) ::
      rT (tV (.bool false)) ::
      []) hz hd (by kernel_rfl) ?_ ?_
  · refine ⟨?_, ?_, ?_, ?_, trivial⟩
    · exact sLoad rfl rfl rfl hz rfl (Gd.none_ rfl) rfl (Src.out (t := 6) (by kernel_rfl) S6 rfl) Cp3 rfl ld_n32
    · exact sLoad rfl rfl rfl hz rfl (Gd.none_ rfl) rfl (Src.out (t := 7) (by kernel_rfl) S7 rfl) Cp4 rfl ld_n32
    · exact sCall rfl rfl rfl hz rfl (Gd.none_ rfl) rfl Try.func65 (by kernel_rfl) (by kernel_rfl) fun a γ w U => (by show Calls _ _ #[a.eval (.tmp 59), a.eval (.tmp 60)] _ _; exact d_cmp (Src.at_ (Src.dep (j := 0) (t := 59) (by kernel_rfl) (by kernel_rfl) rfl) U) (Src.at_ (Src.dep (j := 1) (t := 60) (by kernel_rfl) (by kernel_rfl) rfl) U) (by decide) (by decide))
    · exact sBin rfl rfl rfl hz rfl (Gd.none_ rfl) rfl (Src.dep (j := 2) (t := 61) (by kernel_rfl) (by kernel_rfl) rfl) (Src.const (.int .i64 0)) (fun w => by simp [go_sem, e3] at *)
  intro a' γ' W' hz' hd' hC hk hh
  replace Cp1 := Cell.aft Cp1 hC rfl
  replace Cp2 := Cell.aft Cp2 hC rfl
  replace Cp3 := Cell.aft Cp3 hC rfl
  replace Cp4 := Cell.aft Cp4 hC rfl
  replace Cp5 := Cell.aft Cp5 hC rfl
  replace S4 := hk 4 _ (by kernel_rfl) S4
  replace S5 := hk 5 _ (by kernel_rfl) S5
  replace S6 := hk 6 _ (by kernel_rfl) S6
  replace S7 := hk 7 _ (by kernel_rfl) S7
  replace S8 := hk 8 _ (by kernel_rfl) S8
  replace S9 := hk 9 _ (by kernel_rfl) S9
  replace S10 := hk 10 _ (by kernel_rfl) S10
  have S62 := gotV hz' 3 hh rfl rfl rfl rfl
  replace HB := aft_call HB (RelC.below_nil hC)
  clear hC hk hh; replace hz := hz'; replace hd := hd'; clear hz' hd'
  refine wp_cond_false S62.ev ?_
  refine wp_seq ?_
  refine region_drawn (M := []) (
      rT (tV (.bool true)) ::
      rT (tV (.bool false)) ::
      rT (tV (.bool false)) ::
      rT (tN B64 10000000000 (x - y)) ::
      rT (tN B32 10000000000 x) ::
      rT (tN B32 10000000000 y) ::
      rT (tN B32 10000000000 (x - y)) ::
      rT (tV (.bool true)) ::
      rT (tV (.bool false)) ::
      rT (tV (.bool false)) ::
      []) hz hd (by kernel_rfl) (by kernel_rfl) ?_ ?_
  · refine ⟨?_, ?_, ?_, ?_, ?_, ?_, ?_, ?_, ?_, ?_, trivial⟩
    · exact sMv rfl rfl rfl hz rfl (Gd.none_ rfl) rfl (Src.out (t := 10) (by kernel_rfl) S10 rfl)
    · exact sNot (b := true) rfl rfl rfl hz rfl (Gd.none_ rfl) rfl (Src.dep (j := 0) (t := 70) (by kernel_rfl) (by kernel_rfl) rfl)
    · exact sMv rfl rfl rfl hz rfl (Gd.none_ rfl) rfl (Src.dep (j := 1) (t := 71) (by kernel_rfl) (by kernel_rfl) rfl)
    · exact sLoad rfl rfl rfl hz rfl (Gd.yes rfl rfl (Src.dep (j := 2) (t := 72) (by kernel_rfl) (by kernel_rfl) rfl) rfl) rfl (Src.out (t := 9) (by kernel_rfl) S9 rfl) Cp5 rfl ld_n64
    · exact sLoad rfl rfl rfl hz rfl (Gd.yes rfl rfl (Src.dep (j := 2) (t := 72) (by kernel_rfl) (by kernel_rfl) rfl) rfl) rfl (Src.out (t := 6) (by kernel_rfl) S6 rfl) Cp3 rfl ld_n32
    · exact sLoad rfl rfl rfl hz rfl (Gd.yes rfl rfl (Src.dep (j := 2) (t := 72) (by kernel_rfl) (by kernel_rfl) rfl) rfl) rfl (Src.out (t := 7) (by kernel_rfl) S7 rfl) Cp4 rfl ld_n32
    · exact sCall rfl rfl rfl hz rfl (Gd.yes rfl rfl (Src.dep (j := 2) (t := 72) (by kernel_rfl) (by kernel_rfl) rfl) rfl) rfl Try.func67 (by kernel_rfl) (by kernel_rfl) fun a γ w U => (by show Calls _ _ #[a.eval (.tmp 74), a.eval (.tmp 75)] _ _; exact d_minus (Src.at_ (Src.dep (j := 4) (t := 74) (by kernel_rfl) (by kernel_rfl) rfl) U) (Src.at_ (Src.dep (j := 5) (t := 75) (by kernel_rfl) (by kernel_rfl) rfl) U) (by decide) (by decide) e8)
    · exact sCall rfl rfl rfl hz rfl (Gd.yes rfl rfl (Src.dep (j := 2) (t := 72) (by kernel_rfl) (by kernel_rfl) rfl) rfl) rfl Try.func43 (by kernel_rfl) (by kernel_rfl) fun a γ w U => (by show Calls _ _ #[a.eval (.tmp 73), a.eval (.tmp 76)] _ _; exact l_same (Src.at_ (Src.dep (j := 3) (t := 73) (by kernel_rfl) (by kernel_rfl) rfl) U) (Src.at_ (Src.dep (j := 6) (t := 76) (by kernel_rfl) (by kernel_rfl) rfl) U) (by decide) (by decide))
    · exact sNot (b := true) rfl rfl rfl hz rfl (Gd.yes rfl rfl (Src.dep (j := 2) (t := 72) (by kernel_rfl) (by kernel_rfl) rfl) rfl) rfl (Src.dep (j := 7) (t := 77) (by kernel_rfl) (by kernel_rfl) rfl)
    · exact sPickF rfl rfl rfl hz rfl (Gd.none_ rfl) rfl (Src.dep (j := 2) (t := 72) (by kernel_rfl) (by kernel_rfl) rfl) (Src.dep (j := 8) (t := 78) (by kernel_rfl) (by kernel_rfl) rfl)
  intro a' γ' W' hz' hd' hC hk hh
  replace Cp1 := Cell.aft Cp1 hC rfl
  replace Cp2 := Cell.aft Cp2 hC rfl
  replace Cp3 := Cell.aft Cp3 hC rfl
  replace Cp4 := Cell.aft Cp4 hC rfl
  clear Cp5
  replace S4 := hk 4 _ (by kernel_rfl) S4
  replace S5 := hk 5 _ (by kernel_rfl) S5
  replace S6 := hk 6 _ (by kernel_rfl) S6
  replace S7 := hk 7 _ (by kernel_rfl) S7
  replace S8 := hk 8 _ (by kernel_rfl) S8
  clear S9
  clear S10
  clear S62
  have S79 := gotV hz' 9 hh rfl rfl rfl rfl
  replace HB := aft_call HB (RelC.below_nil hC)
  clear hC hk hh; replace hz := hz'; replace hd := hd'; clear hz' hd'
  refine wp_cond_false S79.ev ?_
  refine wp_skip ?_
  refine wp_seq ?_
  refine region_text (M := []) (
      rT (tN B64 10000000000 x) ::
      rT (tN B64 10000000000 y) ::
      rT (tT [tN B64 10000000000 y, tN B64 10000000000 y, tV (.bool false)]) ::
      rT (tT [tN B64 10000000000 y, tN B64 10000000000 y, tV (.bool false)]) ::
      rT (tN B64 10000000000 y) ::
      rT (tN B64 10000000000 y) ::
      rT (tV (.bool false)) ::
      rVar 7 25 1 ::
      rVar 8 25 1 ::
      rB 7 25 (tN B64 10000000000 y) (some 7) 8 ::
      rB 8 25 (tN B64 10000000000 y) (some 8) 9 ::
      rT (tV (.bool false)) ::
      []) hz hd (by kernel_rfl) ?_ ?_
  · refine ⟨?_, ?_, ?_, ?_, ?_, ?_, ?_, ?_, ?_, ?_, ?_, ?_, trivial⟩
    · exact sLoad rfl rfl rfl hz rfl (Gd.none_ rfl) rfl (Src.out (t := 4) (by kernel_rfl) S4 rfl) Cp1 rfl ld_n64
    · exact sLoad rfl rfl rfl hz rfl (Gd.none_ rfl) rfl (Src.out (t := 5) (by kernel_rfl) S5 rfl) Cp2 rfl ld_n64
    · exact sCall rfl rfl rfl hz rfl (Gd.none_ rfl) rfl Try.func15 (by kernel_rfl) (by kernel_rfl) fun a γ w U => (by show Calls _ _ #[a.eval (.tmp 81), a.eval (.tmp 82)] _ _; have hq : Calls _ _ #[a.eval (.tmp 81), a.eval (.tmp 82)] w (Ret _ w) := c_divmod (Src.at_ (Src.dep (j := 0) (t := 81) (by kernel_rfl) (by kernel_rfl) rfl) U) (Src.at_ (Src.dep (j := 1) (t := 82) (by kernel_rfl) (by kernel_rfl) rfl) U) (by decide) (by decide); simp only [e7, e5, e4] at hq; exact hq)
    · exact sMv rfl rfl rfl hz rfl (Gd.none_ rfl) rfl (Src.dep (j := 2) (t := 83) (by kernel_rfl) (by kernel_rfl) rfl)
    · exact sExt rfl rfl rfl hz rfl (Gd.none_ rfl) rfl (Src.dep (j := 3) (t := 80) (by kernel_rfl) (by kernel_rfl) rfl) rfl
    · exact sExt rfl rfl rfl hz rfl (Gd.none_ rfl) rfl (Src.dep (j := 3) (t := 80) (by kernel_rfl) (by kernel_rfl) rfl) rfl
    · exact sExt rfl rfl rfl hz rfl (Gd.none_ rfl) rfl (Src.dep (j := 3) (t := 80) (by kernel_rfl) (by kernel_rfl) rfl) rfl
    · exact sAlloc rfl rfl rfl hz rfl rfl rfl rfl nd_slice al_n64
    · exact sAlloc rfl rfl rfl hz rfl rfl rfl rfl nd_slice al_n64
    · exact sStore rfl rfl rfl rfl rfl (by kernel_rfl) (by kernel_rfl) rfl (Src.dep (j := 4) (t := 84) (by kernel_rfl) (by kernel_rfl) rfl) st_n64
    · exact sStore rfl rfl rfl rfl rfl (by kernel_rfl) (by kernel_rfl) rfl (Src.dep (j := 5) (t := 85) (by kernel_rfl) (by kernel_rfl) rfl) st_n64
    · exact sAs rfl rfl rfl hz rfl (Gd.none_ rfl) rfl (Src.dep (j := 6) (t := 86) (by kernel_rfl) (by kernel_rfl) rfl)
  intro a' γ' W' hz' hd' hC hk hh
  clear Cp1
  clear Cp2
  replace Cp3 := Cell.aft Cp3 hC rfl
  replace Cp4 := Cell.aft Cp4 hC rfl
  clear S4
  clear S5
  replace S6 := hk 6 _ (by kernel_rfl) S6
  replace S7 := hk 7 _ (by kernel_rfl) S7
  replace S8 := hk 8 _ (by kernel_rfl) S8
  clear S79
  obtain ⟨p6, S11, Cp6, lp6, gp6⟩ := gotB hz' 9 hC hh rfl rfl rfl rfl rfl rfl
  obtain ⟨p7, S12, Cp7, lp7, gp7⟩ := gotB hz' 10 hC hh rfl rfl rfl rfl rfl rfl
  have S13 := gotV hz' 11 hh rfl rfl rfl rfl
  clear lp6 gp6 lp7 gp7
  replace HB := aft_call HB (RelC.below_nil hC)
  clear hC hk hh; replace hz := hz'; replace hd := hd'; clear hz' hd'
  refine wp_seq ?_
  refine wp_seq ?_
  refine region_text (M := []) (
      rT (tN B32 10000000000 y) ::
      rT (tV (.bool true)) ::
      []) hz hd (by kernel_rfl) ?_ ?_
  · refine ⟨?_, ?_, trivial⟩
    · exact sLoad rfl rfl rfl hz rfl (Gd.none_ rfl) rfl (Src.out (t := 7) (by kernel_rfl) S7 rfl) Cp4 rfl ld_n32
    · exact sCall rfl rfl rfl hz rfl (Gd.none_ rfl) rfl Try.func68 (by kernel_rfl) (by kernel_rfl) fun a γ w U => (by show Calls _ _ #[a.eval (.tmp 87)] _ _; have hq : Calls _ _ #[a.eval (.tmp 87)] w (Ret _ w) := d_zero (Src.at_ (Src.dep (j := 0) (t := 87) (by kernel_rfl) (by kernel_rfl) rfl) U); simp only [e6] at hq; exact hq)
  intro a' γ' W' hz' hd' hC hk hh
  replace Cp3 := Cell.aft Cp3 hC rfl
  replace Cp4 := Cell.aft Cp4 hC rfl
  replace Cp6 := Cell.aft Cp6 hC rfl
  replace Cp7 := Cell.aft Cp7 hC rfl
  replace S6 := hk 6 _ (by kernel_rfl) S6
  replace S7 := hk 7 _ (by kernel_rfl) S7
  replace S8 := hk 8 _ (by kernel_rfl) S8
  replace S11 := hk 11 _ (by kernel_rfl) S11
  replace S12 := hk 12 _ (by kernel_rfl) S12
  replace S13 := hk 13 _ (by kernel_rfl) S13
  have S88 := gotV hz' 1 hh rfl rfl rfl rfl
  replace HB := aft_call HB (RelC.below_nil hC)
  clear hC hk hh; replace hz := hz'; replace hd := hd'; clear hz' hd'
  refine wp_cond_true S88.ev ?_
  refine wp_seq ?_
  refine region_text (M := []) (
      rT (tV (.bool false)) ::
      rT (tV (.bool true)) ::
      rT (tV (.bool true)) ::
      rT (tN B64 10000000000 y) ::
      rT (tN B32 10000000000 y) ::
      rT (tV (.bool true)) ::
      rT (tV (.bool true)) ::
      rT (tV (.bool true)) ::
      rT (tN B64 10000000000 y) ::
      rT (tN B32 10000000000 y) ::
      rT (tV (.bool true)) ::
      rT (tV (.bool true)) ::
      rT (tV (.bool true)) ::
      []) hz hd (by kernel_rfl) ?_ ?_
  · refine ⟨?_, ?_, ?_, ?_, ?_, ?_, ?_, ?_, ?_, ?_, ?_, ?_, ?_, trivial⟩
    · exact sMv rfl rfl rfl hz rfl (Gd.none_ rfl) rfl (Src.out (t := 13) (by kernel_rfl) S13 rfl)
    · exact sNot (b := false) rfl rfl rfl hz rfl (Gd.none_ rfl) rfl (Src.dep (j := 0) (t := 89) (by kernel_rfl) (by kernel_rfl) rfl)
    · exact sMv rfl rfl rfl hz rfl (Gd.none_ rfl) rfl (Src.dep (j := 1) (t := 90) (by kernel_rfl) (by kernel_rfl) rfl)
    · exact sLoad rfl rfl rfl hz rfl (Gd.yes rfl rfl (Src.dep (j := 2) (t := 91) (by kernel_rfl) (by kernel_rfl) rfl) rfl) rfl (Src.out (t := 11) (by kernel_rfl) S11 rfl) Cp6 rfl ld_n64
    · exact sLoad rfl rfl rfl hz rfl (Gd.yes rfl rfl (Src.dep (j := 2) (t := 91) (by kernel_rfl) (by kernel_rfl) rfl) rfl) rfl (Src.out (t := 7) (by kernel_rfl) S7 rfl) Cp4 rfl ld_n32
    · exact sCall rfl rfl rfl hz rfl (Gd.yes rfl rfl (Src.dep (j := 2) (t := 91) (by kernel_rfl) (by kernel_rfl) rfl) rfl) rfl Try.func43 (by kernel_rfl) (by kernel_rfl) fun a γ w U => (by show Calls _ _ #[a.eval (.tmp 92), a.eval (.tmp 93)] _ _; exact l_same (Src.at_ (Src.dep (j := 3) (t := 92) (by kernel_rfl) (by kernel_rfl) rfl) U) (Src.at_ (Src.dep (j := 4) (t := 93) (by kernel_rfl) (by kernel_rfl) rfl) U) (by decide) (by decide))
    · exact sPickT rfl rfl rfl hz rfl (Gd.none_ rfl) rfl (Src.dep (j := 2) (t := 91) (by kernel_rfl) (by kernel_rfl) rfl) (Src.dep (j := 5) (t := 94) (by kernel_rfl) (by kernel_rfl) rfl)
    · exact sMv rfl rfl rfl hz rfl (Gd.none_ rfl) rfl (Src.dep (j := 6) (t := 95) (by kernel_rfl) (by kernel_rfl) rfl)
    · exact sLoad rfl rfl rfl hz rfl (Gd.yes rfl rfl (Src.dep (j := 7) (t := 96) (by kernel_rfl) (by kernel_rfl) rfl) rfl) rfl (Src.out (t := 12) (by kernel_rfl) S12 rfl) Cp7 rfl ld_n64
    · exact sLoad rfl rfl rfl hz rfl (Gd.yes rfl rfl (Src.dep (j := 7) (t := 96) (by kernel_rfl) (by kernel_rfl) rfl) rfl) rfl (Src.out (t := 7) (by kernel_rfl) S7 rfl) Cp4 rfl ld_n32
    · exact sCall rfl rfl rfl hz rfl (Gd.yes rfl rfl (Src.dep (j := 7) (t := 96) (by kernel_rfl) (by kernel_rfl) rfl) rfl) rfl Try.func43 (by kernel_rfl) (by kernel_rfl) fun a γ w U => (by show Calls _ _ #[a.eval (.tmp 97), a.eval (.tmp 98)] _ _; exact l_same (Src.at_ (Src.dep (j := 8) (t := 97) (by kernel_rfl) (by kernel_rfl) rfl) U) (Src.at_ (Src.dep (j := 9) (t := 98) (by kernel_rfl) (by kernel_rfl) rfl) U) (by decide) (by decide))
    · exact sPickT rfl rfl rfl hz rfl (Gd.none_ rfl) rfl (Src.dep (j := 7) (t := 96) (by kernel_rfl) (by kernel_rfl) rfl) (Src.dep (j := 10) (t := 99) (by kernel_rfl) (by kernel_rfl) rfl)
    · exact sAs rfl rfl rfl hz rfl (Gd.none_ rfl) rfl (Src.dep (j := 11) (t := 100) (by kernel_rfl) (by kernel_rfl) rfl)
  intro a' γ' W' hz' hd' hC hk hh
  replace Cp3 := Cell.aft Cp3 hC rfl
  replace Cp4 := Cell.aft Cp4 hC rfl
  replace Cp6 := Cell.aft Cp6 hC rfl
  replace Cp7 := Cell.aft Cp7 hC rfl
  replace S6 := hk 6 _ (by kernel_rfl) S6
  replace S7 := hk 7 _ (by kernel_rfl) S7
  clear S8
  replace S11 := hk 11 _ (by kernel_rfl) S11
  replace S12 := hk 12 _ (by kernel_rfl) S12
  replace S13 := hk 13 _ (by kernel_rfl) S13
  clear S88
  have S8 := gotV hz' 12 hh rfl rfl rfl rfl
  replace HB := aft_call HB (RelC.below_nil hC)
  clear hC hk hh; replace hz := hz'; replace hd := hd'; clear hz' hd'
  refine wp_ret ?_
  exact ret1 (by kernel_rfl) S8 hd ⟨_, rfl, rfl, HB⟩

set_option maxRecDepth 10000 in
set_option maxHeartbeats 2000000 in
theorem pair_great {x y : Nat} {v0 v1 v2 v3 : Value} {w : World} (h0 : (tN B64 10000000000 x).p v0 w) (h1 : (tN B64 10000000000 y).p v1 w) (h2 : (tN B32 10000000000 x).p v2 w) (h3 : (tN B32 10000000000 y).p v3 w) (e1 : decide (y ≤ x) = true) (e3 : decide (cmpI x y < 0) = false) (e4 : nz y = true) (e5 : modOf x y = x % y) (e6 : decide (y = 0) = false) (e7 : 0 < y) (e8 : y ≤ x) :
    Calls Try.prog 41 #[v0, v1, v2, v3] w (Ret (tV (.bool true)) w) := by
  refine enter Try.func41 rfl Try.ntmps41 (by simp) ?_
  intro a hz hd ha
  have S0 := ha 0 _ rfl
  have H0 := h0
  have S1 := ha 1 _ rfl
  have H1 := h1
  have S2 := ha 2 _ rfl
  have H2 := h2
  have S3 := ha 3 _ rfl
  have H3 := h3
  clear ha
  have HB : Below w.heap.size w w := Below.refl _ _
  refine wp_seq ?_
  refine region_text (M := []) (
      rB 0 25 (tN B64 10000000000 x) none 0 ::
      rB 1 25 (tN B64 10000000000 y) none 0 ::
      rB 2 44 (tN B32 10000000000 x) none 0 ::
      rB 3 44 (tN B32 10000000000 y) none 0 ::
      rT (tV (.bool false)) ::
      []) hz hd (by kernel_rfl) ?_ ?_
  · refine ⟨?_, ?_, ?_, ?_, ?_, trivial⟩
    · exact sBox rfl rfl rfl hz rfl rfl rfl (Src.out (t := 0) (by kernel_rfl) S0 H0) box_n64
    · exact sBox rfl rfl rfl hz rfl rfl rfl (Src.out (t := 1) (by kernel_rfl) S1 H1) box_n64
    · exact sBox rfl rfl rfl hz rfl rfl rfl (Src.out (t := 2) (by kernel_rfl) S2 H2) box_n32
    · exact sBox rfl rfl rfl hz rfl rfl rfl (Src.out (t := 3) (by kernel_rfl) S3 H3) box_n32
    · exact sAs rfl rfl rfl hz rfl (Gd.none_ rfl) rfl (Src.const (.bool false))
  intro a' γ' W' hz' hd' hC hk hh
  clear S0 H0
  clear S1 H1
  clear S2 H2
  clear S3 H3
  obtain ⟨p1, S4, Cp1, lp1, gp1⟩ := gotB hz' 0 hC hh rfl rfl rfl rfl rfl rfl
  obtain ⟨p2, S5, Cp2, lp2, gp2⟩ := gotB hz' 1 hC hh rfl rfl rfl rfl rfl rfl
  obtain ⟨p3, S6, Cp3, lp3, gp3⟩ := gotB hz' 2 hC hh rfl rfl rfl rfl rfl rfl
  obtain ⟨p4, S7, Cp4, lp4, gp4⟩ := gotB hz' 3 hC hh rfl rfl rfl rfl rfl rfl
  have S8 := gotV hz' 4 hh rfl rfl rfl rfl
  clear lp1 gp1 lp2 gp2 lp3 gp3 lp4 gp4
  replace HB := aft_call HB (RelC.below_nil hC)
  clear hC hk hh; replace hz := hz'; replace hd := hd'; clear hz' hd'
  refine wp_seq ?_
  refine wp_seq ?_
  refine region_drawn (M := []) (
      rT (tN B64 10000000000 x) ::
      rT (tN B64 10000000000 y) ::
      rT (tN B64 10000000001 (x + y)) ::
      rT (tN B32 10000000000 x) ::
      rT (tN B32 10000000000 y) ::
      rT (tN B32 10000000001 (x + y)) ::
      rT (tV (.bool true)) ::
      rT (tV (.bool false)) ::
      rT (tV (.bool false)) ::
      rT (tN B64 10000000000 x) ::
      rT (tN B64 10000000000 y) ::
      rT (tN B64 20000000000 (x * y)) ::
      rT (tN B32 10000000000 x) ::
      rT (tN B32 10000000000 y) ::
      rT (tN B32 20000000000 (x * y)) ::
      rT (tV (.bool true)) ::
      rT (tV (.bool false)) ::
      rT (tV (.bool false)) ::
      rT (tV (.bool false)) ::
      rT (tN B64 10000000000 x) ::
      rT (tN B64 10000000000 y) ::
      rT (tV (.int .i64 (cmpI x y))) ::
      rT (tN B32 10000000000 x) ::
      rT (tN B32 10000000000 y) ::
      rT (tV (.int .i64 (cmpI x y))) ::
      rT (tV (.bool false)) ::
      rT (tV (.bool false)) ::
      rT (tV (.bool false)) ::
      rT (tN B64 10000000000 x) ::
      rT (tN B64 10000000000 y) ::
      rT (tN B64 10000000000 (Nat.gcd x y)) ::
      rT (tN B32 10000000000 x) ::
      rT (tN B32 10000000000 y) ::
      rT (tN B32 10000000000 (Nat.gcd x y)) ::
      rT (tV (.bool true)) ::
      rT (tV (.bool false)) ::
      rT (tV (.bool false)) ::
      []) hz hd (by kernel_rfl) (by kernel_rfl) ?_ ?_
  · refine ⟨?_, ?_, ?_, ?_, ?_, ?_, ?_, ?_, ?_, ?_, ?_, ?_, ?_, ?_, ?_, ?_, ?_, ?_, ?_, ?_, ?_, ?_, ?_, ?_, ?_, ?_, ?_, ?_, ?_, ?_, ?_, ?_, ?_, ?_, ?_, ?_, ?_, trivial⟩
    · exact sLoad rfl rfl rfl hz rfl (Gd.none_ rfl) rfl (Src.out (t := 4) (by kernel_rfl) S4 rfl) Cp1 rfl ld_n64
    · exact sLoad rfl rfl rfl hz rfl (Gd.none_ rfl) rfl (Src.out (t := 5) (by kernel_rfl) S5 rfl) Cp2 rfl ld_n64
    · exact sCall rfl rfl rfl hz rfl (Gd.none_ rfl) rfl Try.func20 (by kernel_rfl) (by kernel_rfl) fun a γ w U => (by show Calls _ _ #[a.eval (.tmp 16), a.eval (.tmp 17)] _ _; exact c_add (Src.at_ (Src.dep (j := 0) (t := 16) (by kernel_rfl) (by kernel_rfl) rfl) U) (Src.at_ (Src.dep (j := 1) (t := 17) (by kernel_rfl) (by kernel_rfl) rfl) U) (by decide) (by decide))
    · exact sLoad rfl rfl rfl hz rfl (Gd.none_ rfl) rfl (Src.out (t := 6) (by kernel_rfl) S6 rfl) Cp3 rfl ld_n32
    · exact sLoad rfl rfl rfl hz rfl (Gd.none_ rfl) rfl (Src.out (t := 7) (by kernel_rfl) S7 rfl) Cp4 rfl ld_n32
    · exact sCall rfl rfl rfl hz rfl (Gd.none_ rfl) rfl Try.func58 (by kernel_rfl) (by kernel_rfl) fun a γ w U => (by show Calls _ _ #[a.eval (.tmp 19), a.eval (.tmp 20)] _ _; exact d_add (Src.at_ (Src.dep (j := 3) (t := 19) (by kernel_rfl) (by kernel_rfl) rfl) U) (Src.at_ (Src.dep (j := 4) (t := 20) (by kernel_rfl) (by kernel_rfl) rfl) U) (by decide) (by decide))
    · exact sCall rfl rfl rfl hz rfl (Gd.none_ rfl) rfl Try.func43 (by kernel_rfl) (by kernel_rfl) fun a γ w U => (by show Calls _ _ #[a.eval (.tmp 18), a.eval (.tmp 21)] _ _; exact l_same (Src.at_ (Src.dep (j := 2) (t := 18) (by kernel_rfl) (by kernel_rfl) rfl) U) (Src.at_ (Src.dep (j := 5) (t := 21) (by kernel_rfl) (by kernel_rfl) rfl) U) (by decide) (by decide))
    · exact sNot (b := true) rfl rfl rfl hz rfl (Gd.none_ rfl) rfl (Src.dep (j := 6) (t := 22) (by kernel_rfl) (by kernel_rfl) rfl)
    · exact sMv rfl rfl rfl hz rfl (Gd.none_ rfl) rfl (Src.dep (j := 7) (t := 23) (by kernel_rfl) (by kernel_rfl) rfl)
    · exact sLoad rfl rfl rfl hz rfl (Gd.yes rfl rfl (Src.dep (j := 8) (t := 24) (by kernel_rfl) (by kernel_rfl) rfl) rfl) rfl (Src.out (t := 4) (by kernel_rfl) S4 rfl) Cp1 rfl ld_n64
    · exact sLoad rfl rfl rfl hz rfl (Gd.yes rfl rfl (Src.dep (j := 8) (t := 24) (by kernel_rfl) (by kernel_rfl) rfl) rfl) rfl (Src.out (t := 5) (by kernel_rfl) S5 rfl) Cp2 rfl ld_n64
    · exact sCall rfl rfl rfl hz rfl (Gd.yes rfl rfl (Src.dep (j := 8) (t := 24) (by kernel_rfl) (by kernel_rfl) rfl) rfl) rfl Try.func19 (by kernel_rfl) (by kernel_rfl) fun a γ w U => (by show Calls _ _ #[a.eval (.tmp 25), a.eval (.tmp 26)] _ _; exact c_mul (Src.at_ (Src.dep (j := 9) (t := 25) (by kernel_rfl) (by kernel_rfl) rfl) U) (Src.at_ (Src.dep (j := 10) (t := 26) (by kernel_rfl) (by kernel_rfl) rfl) U) (by decide) (by decide))
    · exact sLoad rfl rfl rfl hz rfl (Gd.yes rfl rfl (Src.dep (j := 8) (t := 24) (by kernel_rfl) (by kernel_rfl) rfl) rfl) rfl (Src.out (t := 6) (by kernel_rfl) S6 rfl) Cp3 rfl ld_n32
    · exact sLoad rfl rfl rfl hz rfl (Gd.yes rfl rfl (Src.dep (j := 8) (t := 24) (by kernel_rfl) (by kernel_rfl) rfl) rfl) rfl (Src.out (t := 7) (by kernel_rfl) S7 rfl) Cp4 rfl ld_n32
    · exact sCall rfl rfl rfl hz rfl (Gd.yes rfl rfl (Src.dep (j := 8) (t := 24) (by kernel_rfl) (by kernel_rfl) rfl) rfl) rfl Try.func59 (by kernel_rfl) (by kernel_rfl) fun a γ w U => (by show Calls _ _ #[a.eval (.tmp 28), a.eval (.tmp 29)] _ _; exact d_mul (Src.at_ (Src.dep (j := 12) (t := 28) (by kernel_rfl) (by kernel_rfl) rfl) U) (Src.at_ (Src.dep (j := 13) (t := 29) (by kernel_rfl) (by kernel_rfl) rfl) U) (by decide) (by decide))
    · exact sCall rfl rfl rfl hz rfl (Gd.yes rfl rfl (Src.dep (j := 8) (t := 24) (by kernel_rfl) (by kernel_rfl) rfl) rfl) rfl Try.func43 (by kernel_rfl) (by kernel_rfl) fun a γ w U => (by show Calls _ _ #[a.eval (.tmp 27), a.eval (.tmp 30)] _ _; exact l_same (Src.at_ (Src.dep (j := 11) (t := 27) (by kernel_rfl) (by kernel_rfl) rfl) U) (Src.at_ (Src.dep (j := 14) (t := 30) (by kernel_rfl) (by kernel_rfl) rfl) U) (by decide) (by decide))
    · exact sNot (b := true) rfl rfl rfl hz rfl (Gd.yes rfl rfl (Src.dep (j := 8) (t := 24) (by kernel_rfl) (by kernel_rfl) rfl) rfl) rfl (Src.dep (j := 15) (t := 31) (by kernel_rfl) (by kernel_rfl) rfl)
    · exact sPickF rfl rfl rfl hz rfl (Gd.none_ rfl) rfl (Src.dep (j := 8) (t := 24) (by kernel_rfl) (by kernel_rfl) rfl) (Src.dep (j := 16) (t := 32) (by kernel_rfl) (by kernel_rfl) rfl)
    · exact sMv rfl rfl rfl hz rfl (Gd.none_ rfl) rfl (Src.dep (j := 17) (t := 33) (by kernel_rfl) (by kernel_rfl) rfl)
    · exact sLoad rfl rfl rfl hz rfl (Gd.yes rfl rfl (Src.dep (j := 18) (t := 34) (by kernel_rfl) (by kernel_rfl) rfl) rfl) rfl (Src.out (t := 4) (by kernel_rfl) S4 rfl) Cp1 rfl ld_n64
    · exact sLoad rfl rfl rfl hz rfl (Gd.yes rfl rfl (Src.dep (j := 18) (t := 34) (by kernel_rfl) (by kernel_rfl) rfl) rfl) rfl (Src.out (t := 5) (by kernel_rfl) S5 rfl) Cp2 rfl ld_n64
    · exact sCall rfl rfl rfl hz rfl (Gd.yes rfl rfl (Src.dep (j := 18) (t := 34) (by kernel_rfl) (by kernel_rfl) rfl) rfl) rfl Try.func17 (by kernel_rfl) (by kernel_rfl) fun a γ w U => (by show Calls _ _ #[a.eval (.tmp 35), a.eval (.tmp 36)] _ _; exact c_cmp (Src.at_ (Src.dep (j := 19) (t := 35) (by kernel_rfl) (by kernel_rfl) rfl) U) (Src.at_ (Src.dep (j := 20) (t := 36) (by kernel_rfl) (by kernel_rfl) rfl) U) (by decide) (by decide))
    · exact sLoad rfl rfl rfl hz rfl (Gd.yes rfl rfl (Src.dep (j := 18) (t := 34) (by kernel_rfl) (by kernel_rfl) rfl) rfl) rfl (Src.out (t := 6) (by kernel_rfl) S6 rfl) Cp3 rfl ld_n32
    · exact sLoad rfl rfl rfl hz rfl (Gd.yes rfl rfl (Src.dep (j := 18) (t := 34) (by kernel_rfl) (by kernel_rfl) rfl) rfl) rfl (Src.out (t := 7) (by kernel_rfl) S7 rfl) Cp4 rfl ld_n32
    · exact sCall rfl rfl rfl hz rfl (Gd.yes rfl rfl (Src.dep (j := 18) (t := 34) (by kernel_rfl) (by kernel_rfl) rfl) rfl) rfl Try.func65 (by kernel_rfl) (by kernel_rfl) fun a γ w U => (by show Calls _ _ #[a.eval (.tmp 38), a.eval (.tmp 39)] _ _; exact d_cmp (Src.at_ (Src.dep (j := 22) (t := 38) (by kernel_rfl) (by kernel_rfl) rfl) U) (Src.at_ (Src.dep (j := 23) (t := 39) (by kernel_rfl) (by kernel_rfl) rfl) U) (by decide) (by decide))
    · exact sBin rfl rfl rfl hz rfl (Gd.yes rfl rfl (Src.dep (j := 18) (t := 34) (by kernel_rfl) (by kernel_rfl) rfl) rfl) rfl (Src.dep (j := 21) (t := 37) (by kernel_rfl) (by kernel_rfl) rfl) (Src.dep (j := 24) (t := 40) (by kernel_rfl) (by kernel_rfl) rfl) (fun w => by simp [go_sem])
    · exact sPickF rfl rfl rfl hz rfl (Gd.none_ rfl) rfl (Src.dep (j := 18) (t := 34) (by kernel_rfl) (by kernel_rfl) rfl) (Src.dep (j := 25) (t := 41) (by kernel_rfl) (by kernel_rfl) rfl)
    · exact sMv rfl rfl rfl hz rfl (Gd.none_ rfl) rfl (Src.dep (j := 26) (t := 42) (by kernel_rfl) (by kernel_rfl) rfl)
    · exact sLoad rfl rfl rfl hz rfl (Gd.yes rfl rfl (Src.dep (j := 27) (t := 43) (by kernel_rfl) (by kernel_rfl) rfl) rfl) rfl (Src.out (t := 4) (by kernel_rfl) S4 rfl) Cp1 rfl ld_n64
    · exact sLoad rfl rfl rfl hz rfl (Gd.yes rfl rfl (Src.dep (j := 27) (t := 43) (by kernel_rfl) (by kernel_rfl) rfl) rfl) rfl (Src.out (t := 5) (by kernel_rfl) S5 rfl) Cp2 rfl ld_n64
    · exact sCall rfl rfl rfl hz rfl (Gd.yes rfl rfl (Src.dep (j := 27) (t := 43) (by kernel_rfl) (by kernel_rfl) rfl) rfl) rfl Try.func36 (by kernel_rfl) (by kernel_rfl) fun a γ w U => (by show Calls _ _ #[a.eval (.tmp 44), a.eval (.tmp 45)] _ _; exact c_gcd (Src.at_ (Src.dep (j := 28) (t := 44) (by kernel_rfl) (by kernel_rfl) rfl) U) (Src.at_ (Src.dep (j := 29) (t := 45) (by kernel_rfl) (by kernel_rfl) rfl) U) (by decide) (by decide))
    · exact sLoad rfl rfl rfl hz rfl (Gd.yes rfl rfl (Src.dep (j := 27) (t := 43) (by kernel_rfl) (by kernel_rfl) rfl) rfl) rfl (Src.out (t := 6) (by kernel_rfl) S6 rfl) Cp3 rfl ld_n32
    · exact sLoad rfl rfl rfl hz rfl (Gd.yes rfl rfl (Src.dep (j := 27) (t := 43) (by kernel_rfl) (by kernel_rfl) rfl) rfl) rfl (Src.out (t := 7) (by kernel_rfl) S7 rfl) Cp4 rfl ld_n32
    · exact sCall rfl rfl rfl hz rfl (Gd.yes rfl rfl (Src.dep (j := 27) (t := 43) (by kernel_rfl) (by kernel_rfl) rfl) rfl) rfl Try.func66 (by kernel_rfl) (by kernel_rfl) fun a γ w U => (by show Calls _ _ #[a.eval (.tmp 47), a.eval (.tmp 48)] _ _; exact d_gcd (Src.at_ (Src.dep (j := 31) (t := 47) (by kernel_rfl) (by kernel_rfl) rfl) U) (Src.at_ (Src.dep (j := 32) (t := 48) (by kernel_rfl) (by kernel_rfl) rfl) U) (by decide) (by decide))
    · exact sCall rfl rfl rfl hz rfl (Gd.yes rfl rfl (Src.dep (j := 27) (t := 43) (by kernel_rfl) (by kernel_rfl) rfl) rfl) rfl Try.func43 (by kernel_rfl) (by kernel_rfl) fun a γ w U => (by show Calls _ _ #[a.eval (.tmp 46), a.eval (.tmp 49)] _ _; exact l_same (Src.at_ (Src.dep (j := 30) (t := 46) (by kernel_rfl) (by kernel_rfl) rfl) U) (Src.at_ (Src.dep (j := 33) (t := 49) (by kernel_rfl) (by kernel_rfl) rfl) U) (by decide) (by decide))
    · exact sNot (b := true) rfl rfl rfl hz rfl (Gd.yes rfl rfl (Src.dep (j := 27) (t := 43) (by kernel_rfl) (by kernel_rfl) rfl) rfl) rfl (Src.dep (j := 34) (t := 50) (by kernel_rfl) (by kernel_rfl) rfl)
    · exact sPickF rfl rfl rfl hz rfl (Gd.none_ rfl) rfl (Src.dep (j := 27) (t := 43) (by kernel_rfl) (by kernel_rfl) rfl) (Src.dep (j := 35) (t := 51) (by kernel_rfl) (by kernel_rfl) rfl)
  intro a' γ' W' hz' hd' hC hk hh
  replace Cp1 := Cell.aft Cp1 hC rfl
  replace Cp2 := Cell.aft Cp2 hC rfl
  replace Cp3 := Cell.aft Cp3 hC rfl
  replace Cp4 := Cell.aft Cp4 hC rfl
  replace S4 := hk 4 _ (by kernel_rfl) S4
  replace S5 := hk 5 _ (by kernel_rfl) S5
  replace S6 := hk 6 _ (by kernel_rfl) S6
  replace S7 := hk 7 _ (by kernel_rfl) S7
  replace S8 := hk 8 _ (by kernel_rfl) S8
  have S52 := gotV hz' 36 hh rfl rfl rfl rfl
  replace HB := aft_call HB (RelC.below_nil hC)
  clear hC hk hh; replace hz := hz'; replace hd := hd'; clear hz' hd'
  refine wp_cond_false S52.ev ?_
  refine wp_skip ?_
  refine wp_seq ?_
  refine region_text (M := []) (
      rT (tN B64 10000000000 x) ::
      rT (tN B64 10000000000 y) ::
      rT (tT [tN B64 10000000000 (x - y), tV (.bool true)]) ::
      rT (tT [tN B64 10000000000 (x - y), tV (.bool true)]) ::
      rT (tN B64 10000000000 (x - y)) ::
      rT (tV (.bool true)) ::
      rVar 6 25 1 ::
      rB 6 25 (tN B64 10000000000 (x - y)) (some 6) 7 ::
      rT (tV (.bool true)) ::
      []) hz hd (by kernel_rfl) ?_ ?_
  · refine ⟨?_, ?_, ?_, ?_, ?_, ?_, ?_, ?_, ?_, trivial⟩
    · exact sLoad rfl rfl rfl hz rfl (Gd.none_ rfl) rfl (Src.out (t := 4) (by kernel_rfl) S4 rfl) Cp1 rfl ld_n64
    · exact sLoad rfl rfl rfl hz rfl (Gd.none_ rfl) rfl (Src.out (t := 5) (by kernel_rfl) S5 rfl) Cp2 rfl ld_n64
    · exact sCall rfl rfl rfl hz rfl (Gd.none_ rfl) rfl Try.func37 (by kernel_rfl) (by kernel_rfl) fun a γ w U => (by show Calls _ _ #[a.eval (.tmp 54), a.eval (.tmp 55)] _ _; have hq : Calls _ _ #[a.eval (.tmp 54), a.eval (.tmp 55)] w (Ret _ w) := c_sub (Src.at_ (Src.dep (j := 0) (t := 54) (by kernel_rfl) (by kernel_rfl) rfl) U) (Src.at_ (Src.dep (j := 1) (t := 55) (by kernel_rfl) (by kernel_rfl) rfl) U) (by decide) (by decide); simp only [e1] at hq; exact hq)
    · exact sMv rfl rfl rfl hz rfl (Gd.none_ rfl) rfl (Src.dep (j := 2) (t := 56) (by kernel_rfl) (by kernel_rfl) rfl)
    · exact sExt rfl rfl rfl hz rfl (Gd.none_ rfl) rfl (Src.dep (j := 3) (t := 53) (by kernel_rfl) (by kernel_rfl) rfl) rfl
    · exact sExt rfl rfl rfl hz rfl (Gd.none_ rfl) rfl (Src.dep (j := 3) (t := 53) (by kernel_rfl) (by kernel_rfl) rfl) rfl
    · exact sAlloc rfl rfl rfl hz rfl rfl rfl rfl nd_slice al_n64
    · exact sStore rfl rfl rfl rfl rfl (by kernel_rfl) (by kernel_rfl) rfl (Src.dep (j := 4) (t := 57) (by kernel_rfl) (by kernel_rfl) rfl) st_n64
    · exact sAs rfl rfl rfl hz rfl (Gd.none_ rfl) rfl (Src.dep (j := 5) (t := 58) (by kernel_rfl) (by kernel_rfl) rfl)
  intro a' γ' W' hz' hd' hC hk hh
  replace Cp1 := Cell.aft Cp1 hC rfl
  replace Cp2 := Cell.aft Cp2 hC rfl
  replace Cp3 := Cell.aft Cp3 hC rfl
  replace Cp4 := Cell.aft Cp4 hC rfl
  replace S4 := hk 4 _ (by kernel_rfl) S4
  replace S5 := hk 5 _ (by kernel_rfl) S5
  replace S6 := hk 6 _ (by kernel_rfl) S6
  replace S7 := hk 7 _ (by kernel_rfl) S7
  replace S8 := hk 8 _ (by kernel_rfl) S8
  clear S52
  obtain ⟨p5, S9, Cp5, lp5, gp5⟩ := gotB hz' 7 hC hh rfl rfl rfl rfl rfl rfl
  have S10 := gotV hz' 8 hh rfl rfl rfl rfl
  clear lp5 gp5
  replace HB := aft_call HB (RelC.below_nil hC)
  clear hC hk hh; replace hz := hz'; replace hd := hd'; clear hz' hd'
  refine wp_seq ?_
  refine wp_seq ?_
  refine region_text (M := []) (
      rT (tN B32 10000000000 x) ::
      rT (tN B32 10000000000 y) ::
      rT (tV (.int .i64 (cmpI x y))) ::
      rT (tV (.bool false)) ::
      []) hz hd (by kernel_rfl) ?_ ?_
  · refine ⟨?_, ?_, ?_, ?_, trivial⟩
    · exact sLoad rfl rfl rfl hz rfl (Gd.none_ rfl) rfl (Src.out (t := 6) (by kernel_rfl) S6 rfl) Cp3 rfl ld_n32
    · exact sLoad rfl rfl rfl hz rfl (Gd.none_ rfl) rfl (Src.out (t := 7) (by kernel_rfl) S7 rfl) Cp4 rfl ld_n32
    · exact sCall rfl rfl rfl hz rfl (Gd.none_ rfl) rfl Try.func65 (by kernel_rfl) (by kernel_rfl) fun a γ w U => (by show Calls _ _ #[a.eval (.tmp 59), a.eval (.tmp 60)] _ _; exact d_cmp (Src.at_ (Src.dep (j := 0) (t := 59) (by kernel_rfl) (by kernel_rfl) rfl) U) (Src.at_ (Src.dep (j := 1) (t := 60) (by kernel_rfl) (by kernel_rfl) rfl) U) (by decide) (by decide))
    · exact sBin rfl rfl rfl hz rfl (Gd.none_ rfl) rfl (Src.dep (j := 2) (t := 61) (by kernel_rfl) (by kernel_rfl) rfl) (Src.const (.int .i64 0)) (fun w => by simp [go_sem, e3] at *)
  intro a' γ' W' hz' hd' hC hk hh
  replace Cp1 := Cell.aft Cp1 hC rfl
  replace Cp2 := Cell.aft Cp2 hC rfl
  replace Cp3 := Cell.aft Cp3 hC rfl
  replace Cp4 := Cell.aft Cp4 hC rfl
  replace Cp5 := Cell.aft Cp5 hC rfl
  replace S4 := hk 4 _ (by kernel_rfl) S4
  replace S5 := hk 5 _ (by kernel_rfl) S5
  replace S6 := hk 6 _ (by kernel_rfl) S6
  replace S7 := hk 7 _ (by kernel_rfl) S7
  replace S8 := hk 8 _ (by kernel_rfl) S8
  replace S9 := hk 9 _ (by kernel_rfl) S9
  replace S10 := hk 10 _ (by kernel_rfl) S10
  have S62 := gotV hz' 3 hh rfl rfl rfl rfl
  replace HB := aft_call HB (RelC.below_nil hC)
  clear hC hk hh; replace hz := hz'; replace hd := hd'; clear hz' hd'
  refine wp_cond_false S62.ev ?_
  refine wp_seq ?_
  refine region_drawn (M := []) (
      rT (tV (.bool true)) ::
      rT (tV (.bool false)) ::
      rT (tV (.bool false)) ::
      rT (tN B64 10000000000 (x - y)) ::
      rT (tN B32 10000000000 x) ::
      rT (tN B32 10000000000 y) ::
      rT (tN B32 10000000000 (x - y)) ::
      rT (tV (.bool true)) ::
      rT (tV (.bool false)) ::
      rT (tV (.bool false)) ::
      []) hz hd (by kernel_rfl) (by kernel_rfl) ?_ ?_
  · refine ⟨?_, ?_, ?_, ?_, ?_, ?_, ?_, ?_, ?_, ?_, trivial⟩
    · exact sMv rfl rfl rfl hz rfl (Gd.none_ rfl) rfl (Src.out (t := 10) (by kernel_rfl) S10 rfl)
    · exact sNot (b := true) rfl rfl rfl hz rfl (Gd.none_ rfl) rfl (Src.dep (j := 0) (t := 70) (by kernel_rfl) (by kernel_rfl) rfl)
    · exact sMv rfl rfl rfl hz rfl (Gd.none_ rfl) rfl (Src.dep (j := 1) (t := 71) (by kernel_rfl) (by kernel_rfl) rfl)
    · exact sLoad rfl rfl rfl hz rfl (Gd.yes rfl rfl (Src.dep (j := 2) (t := 72) (by kernel_rfl) (by kernel_rfl) rfl) rfl) rfl (Src.out (t := 9) (by kernel_rfl) S9 rfl) Cp5 rfl ld_n64
    · exact sLoad rfl rfl rfl hz rfl (Gd.yes rfl rfl (Src.dep (j := 2) (t := 72) (by kernel_rfl) (by kernel_rfl) rfl) rfl) rfl (Src.out (t := 6) (by kernel_rfl) S6 rfl) Cp3 rfl ld_n32
    · exact sLoad rfl rfl rfl hz rfl (Gd.yes rfl rfl (Src.dep (j := 2) (t := 72) (by kernel_rfl) (by kernel_rfl) rfl) rfl) rfl (Src.out (t := 7) (by kernel_rfl) S7 rfl) Cp4 rfl ld_n32
    · exact sCall rfl rfl rfl hz rfl (Gd.yes rfl rfl (Src.dep (j := 2) (t := 72) (by kernel_rfl) (by kernel_rfl) rfl) rfl) rfl Try.func67 (by kernel_rfl) (by kernel_rfl) fun a γ w U => (by show Calls _ _ #[a.eval (.tmp 74), a.eval (.tmp 75)] _ _; exact d_minus (Src.at_ (Src.dep (j := 4) (t := 74) (by kernel_rfl) (by kernel_rfl) rfl) U) (Src.at_ (Src.dep (j := 5) (t := 75) (by kernel_rfl) (by kernel_rfl) rfl) U) (by decide) (by decide) e8)
    · exact sCall rfl rfl rfl hz rfl (Gd.yes rfl rfl (Src.dep (j := 2) (t := 72) (by kernel_rfl) (by kernel_rfl) rfl) rfl) rfl Try.func43 (by kernel_rfl) (by kernel_rfl) fun a γ w U => (by show Calls _ _ #[a.eval (.tmp 73), a.eval (.tmp 76)] _ _; exact l_same (Src.at_ (Src.dep (j := 3) (t := 73) (by kernel_rfl) (by kernel_rfl) rfl) U) (Src.at_ (Src.dep (j := 6) (t := 76) (by kernel_rfl) (by kernel_rfl) rfl) U) (by decide) (by decide))
    · exact sNot (b := true) rfl rfl rfl hz rfl (Gd.yes rfl rfl (Src.dep (j := 2) (t := 72) (by kernel_rfl) (by kernel_rfl) rfl) rfl) rfl (Src.dep (j := 7) (t := 77) (by kernel_rfl) (by kernel_rfl) rfl)
    · exact sPickF rfl rfl rfl hz rfl (Gd.none_ rfl) rfl (Src.dep (j := 2) (t := 72) (by kernel_rfl) (by kernel_rfl) rfl) (Src.dep (j := 8) (t := 78) (by kernel_rfl) (by kernel_rfl) rfl)
  intro a' γ' W' hz' hd' hC hk hh
  replace Cp1 := Cell.aft Cp1 hC rfl
  replace Cp2 := Cell.aft Cp2 hC rfl
  replace Cp3 := Cell.aft Cp3 hC rfl
  replace Cp4 := Cell.aft Cp4 hC rfl
  clear Cp5
  replace S4 := hk 4 _ (by kernel_rfl) S4
  replace S5 := hk 5 _ (by kernel_rfl) S5
  replace S6 := hk 6 _ (by kernel_rfl) S6
  replace S7 := hk 7 _ (by kernel_rfl) S7
  replace S8 := hk 8 _ (by kernel_rfl) S8
  clear S9
  clear S10
  clear S62
  have S79 := gotV hz' 9 hh rfl rfl rfl rfl
  replace HB := aft_call HB (RelC.below_nil hC)
  clear hC hk hh; replace hz := hz'; replace hd := hd'; clear hz' hd'
  refine wp_cond_false S79.ev ?_
  refine wp_skip ?_
  refine wp_seq ?_
  refine region_text (M := []) (
      rT (tN B64 10000000000 x) ::
      rT (tN B64 10000000000 y) ::
      rT (tT [tN B64 10000000000 (x / y), tN B64 10000000000 (x % y), tV (.bool true)]) ::
      rT (tT [tN B64 10000000000 (x / y), tN B64 10000000000 (x % y), tV (.bool true)]) ::
      rT (tN B64 10000000000 (x / y)) ::
      rT (tN B64 10000000000 (x % y)) ::
      rT (tV (.bool true)) ::
      rVar 7 25 1 ::
      rVar 8 25 1 ::
      rB 7 25 (tN B64 10000000000 (x / y)) (some 7) 8 ::
      rB 8 25 (tN B64 10000000000 (x % y)) (some 8) 9 ::
      rT (tV (.bool true)) ::
      []) hz hd (by kernel_rfl) ?_ ?_
  · refine ⟨?_, ?_, ?_, ?_, ?_, ?_, ?_, ?_, ?_, ?_, ?_, ?_, trivial⟩
    · exact sLoad rfl rfl rfl hz rfl (Gd.none_ rfl) rfl (Src.out (t := 4) (by kernel_rfl) S4 rfl) Cp1 rfl ld_n64
    · exact sLoad rfl rfl rfl hz rfl (Gd.none_ rfl) rfl (Src.out (t := 5) (by kernel_rfl) S5 rfl) Cp2 rfl ld_n64
    · exact sCall rfl rfl rfl hz rfl (Gd.none_ rfl) rfl Try.func15 (by kernel_rfl) (by kernel_rfl) fun a γ w U => (by show Calls _ _ #[a.eval (.tmp 81), a.eval (.tmp 82)] _ _; have hq : Calls _ _ #[a.eval (.tmp 81), a.eval (.tmp 82)] w (Ret _ w) := c_divmod (Src.at_ (Src.dep (j := 0) (t := 81) (by kernel_rfl) (by kernel_rfl) rfl) U) (Src.at_ (Src.dep (j := 1) (t := 82) (by kernel_rfl) (by kernel_rfl) rfl) U) (by decide) (by decide); simp only [e5, e4] at hq; exact hq)
    · exact sMv rfl rfl rfl hz rfl (Gd.none_ rfl) rfl (Src.dep (j := 2) (t := 83) (by kernel_rfl) (by kernel_rfl) rfl)
    · exact sExt rfl rfl rfl hz rfl (Gd.none_ rfl) rfl (Src.dep (j := 3) (t := 80) (by kernel_rfl) (by kernel_rfl) rfl) rfl
    · exact sExt rfl rfl rfl hz rfl (Gd.none_ rfl) rfl (Src.dep (j := 3) (t := 80) (by kernel_rfl) (by kernel_rfl) rfl) rfl
    · exact sExt rfl rfl rfl hz rfl (Gd.none_ rfl) rfl (Src.dep (j := 3) (t := 80) (by kernel_rfl) (by kernel_rfl) rfl) rfl
    · exact sAlloc rfl rfl rfl hz rfl rfl rfl rfl nd_slice al_n64
    · exact sAlloc rfl rfl rfl hz rfl rfl rfl rfl nd_slice al_n64
    · exact sStore rfl rfl rfl rfl rfl (by kernel_rfl) (by kernel_rfl) rfl (Src.dep (j := 4) (t := 84) (by kernel_rfl) (by kernel_rfl) rfl) st_n64
    · exact sStore rfl rfl rfl rfl rfl (by kernel_rfl) (by kernel_rfl) rfl (Src.dep (j := 5) (t := 85) (by kernel_rfl) (by kernel_rfl) rfl) st_n64
    · exact sAs rfl rfl rfl hz rfl (Gd.none_ rfl) rfl (Src.dep (j := 6) (t := 86) (by kernel_rfl) (by kernel_rfl) rfl)
  intro a' γ' W' hz' hd' hC hk hh
  clear Cp1
  clear Cp2
  replace Cp3 := Cell.aft Cp3 hC rfl
  replace Cp4 := Cell.aft Cp4 hC rfl
  clear S4
  clear S5
  replace S6 := hk 6 _ (by kernel_rfl) S6
  replace S7 := hk 7 _ (by kernel_rfl) S7
  replace S8 := hk 8 _ (by kernel_rfl) S8
  clear S79
  obtain ⟨p6, S11, Cp6, lp6, gp6⟩ := gotB hz' 9 hC hh rfl rfl rfl rfl rfl rfl
  obtain ⟨p7, S12, Cp7, lp7, gp7⟩ := gotB hz' 10 hC hh rfl rfl rfl rfl rfl rfl
  have S13 := gotV hz' 11 hh rfl rfl rfl rfl
  clear lp6 gp6 lp7 gp7
  replace HB := aft_call HB (RelC.below_nil hC)
  clear hC hk hh; replace hz := hz'; replace hd := hd'; clear hz' hd'
  refine wp_seq ?_
  refine wp_seq ?_
  refine region_text (M := []) (
      rT (tN B32 10000000000 y) ::
      rT (tV (.bool false)) ::
      []) hz hd (by kernel_rfl) ?_ ?_
  · refine ⟨?_, ?_, trivial⟩
    · exact sLoad rfl rfl rfl hz rfl (Gd.none_ rfl) rfl (Src.out (t := 7) (by kernel_rfl) S7 rfl) Cp4 rfl ld_n32
    · exact sCall rfl rfl rfl hz rfl (Gd.none_ rfl) rfl Try.func68 (by kernel_rfl) (by kernel_rfl) fun a γ w U => (by show Calls _ _ #[a.eval (.tmp 87)] _ _; have hq : Calls _ _ #[a.eval (.tmp 87)] w (Ret _ w) := d_zero (Src.at_ (Src.dep (j := 0) (t := 87) (by kernel_rfl) (by kernel_rfl) rfl) U); simp only [e6] at hq; exact hq)
  intro a' γ' W' hz' hd' hC hk hh
  replace Cp3 := Cell.aft Cp3 hC rfl
  replace Cp4 := Cell.aft Cp4 hC rfl
  replace Cp6 := Cell.aft Cp6 hC rfl
  replace Cp7 := Cell.aft Cp7 hC rfl
  replace S6 := hk 6 _ (by kernel_rfl) S6
  replace S7 := hk 7 _ (by kernel_rfl) S7
  replace S8 := hk 8 _ (by kernel_rfl) S8
  replace S11 := hk 11 _ (by kernel_rfl) S11
  replace S12 := hk 12 _ (by kernel_rfl) S12
  replace S13 := hk 13 _ (by kernel_rfl) S13
  have S88 := gotV hz' 1 hh rfl rfl rfl rfl
  replace HB := aft_call HB (RelC.below_nil hC)
  clear hC hk hh; replace hz := hz'; replace hd := hd'; clear hz' hd'
  refine wp_cond_false S88.ev ?_
  refine wp_skip ?_
  refine wp_seq ?_
  refine region_text (M := []) (
      rT (tN B32 10000000000 x) ::
      rT (tN B32 10000000000 y) ::
      rT (tT [tN B32 10000000000 (x / y), tN B32 10000000000 (x % y)]) ::
      rT (tT [tN B32 10000000000 (x / y), tN B32 10000000000 (x % y)]) ::
      rT (tN B32 10000000000 (x / y)) ::
      rT (tN B32 10000000000 (x % y)) ::
      rVar 6 44 1 ::
      rVar 7 44 1 ::
      rB 6 44 (tN B32 10000000000 (x / y)) (some 6) 7 ::
      rB 7 44 (tN B32 10000000000 (x % y)) (some 7) 8 ::
      []) hz hd (by kernel_rfl) ?_ ?_
  · refine ⟨?_, ?_, ?_, ?_, ?_, ?_, ?_, ?_, ?_, ?_, trivial⟩
    · exact sLoad rfl rfl rfl hz rfl (Gd.none_ rfl) rfl (Src.out (t := 6) (by kernel_rfl) S6 rfl) Cp3 rfl ld_n32
    · exact sLoad rfl rfl rfl hz rfl (Gd.none_ rfl) rfl (Src.out (t := 7) (by kernel_rfl) S7 rfl) Cp4 rfl ld_n32
    · exact sCall rfl rfl rfl hz rfl (Gd.none_ rfl) rfl Try.func69 (by kernel_rfl) (by kernel_rfl) fun a γ w U => (by show Calls _ _ #[a.eval (.tmp 102), a.eval (.tmp 103)] _ _; exact d_divmod (Src.at_ (Src.dep (j := 0) (t := 102) (by kernel_rfl) (by kernel_rfl) rfl) U) (Src.at_ (Src.dep (j := 1) (t := 103) (by kernel_rfl) (by kernel_rfl) rfl) U) (by decide) (by decide) e7)
    · exact sMv rfl rfl rfl hz rfl (Gd.none_ rfl) rfl (Src.dep (j := 2) (t := 104) (by kernel_rfl) (by kernel_rfl) rfl)
    · exact sExt rfl rfl rfl hz rfl (Gd.none_ rfl) rfl (Src.dep (j := 3) (t := 101) (by kernel_rfl) (by kernel_rfl) rfl) rfl
    · exact sExt rfl rfl rfl hz rfl (Gd.none_ rfl) rfl (Src.dep (j := 3) (t := 101) (by kernel_rfl) (by kernel_rfl) rfl) rfl
    · exact sAlloc rfl rfl rfl hz rfl rfl rfl rfl nd_slice al_n32
    · exact sAlloc rfl rfl rfl hz rfl rfl rfl rfl nd_slice al_n32
    · exact sStore rfl rfl rfl rfl rfl (by kernel_rfl) (by kernel_rfl) rfl (Src.dep (j := 4) (t := 105) (by kernel_rfl) (by kernel_rfl) rfl) st_n32
    · exact sStore rfl rfl rfl rfl rfl (by kernel_rfl) (by kernel_rfl) rfl (Src.dep (j := 5) (t := 106) (by kernel_rfl) (by kernel_rfl) rfl) st_n32
  intro a' γ' W' hz' hd' hC hk hh
  clear Cp3
  clear Cp4
  replace Cp6 := Cell.aft Cp6 hC rfl
  replace Cp7 := Cell.aft Cp7 hC rfl
  clear S6
  clear S7
  replace S8 := hk 8 _ (by kernel_rfl) S8
  replace S11 := hk 11 _ (by kernel_rfl) S11
  replace S12 := hk 12 _ (by kernel_rfl) S12
  replace S13 := hk 13 _ (by kernel_rfl) S13
  clear S88
  obtain ⟨p8, S14, Cp8, lp8, gp8⟩ := gotB hz' 8 hC hh rfl rfl rfl rfl rfl rfl
  obtain ⟨p9, S15, Cp9, lp9, gp9⟩ := gotB hz' 9 hC hh rfl rfl rfl rfl rfl rfl
  clear lp8 gp8 lp9 gp9
  replace HB := aft_call HB (RelC.below_nil hC)
  clear hC hk hh; replace hz := hz'; replace hd := hd'; clear hz' hd'
  refine wp_seq ?_
  refine region_text (M := []) (
      rT (tV (.bool true)) ::
      rT (tV (.bool true)) ::
      rT (tN B64 10000000000 (x / y)) ::
      rT (tN B32 10000000000 (x / y)) ::
      rT (tV (.bool true)) ::
      rT (tV (.bool true)) ::
      rT (tV (.bool true)) ::
      rT (tN B64 10000000000 (x % y)) ::
      rT (tN B32 10000000000 (x % y)) ::
      rT (tV (.bool true)) ::
      rT (tV (.bool true)) ::
      rT (tV (.bool true)) ::
      []) hz hd (by kernel_rfl) ?_ ?_
  · refine ⟨?_, ?_, ?_, ?_, ?_, ?_, ?_, ?_, ?_, ?_, ?_, ?_, trivial⟩
    · exact sMv rfl rfl rfl hz rfl (Gd.none_ rfl) rfl (Src.out (t := 13) (by kernel_rfl) S13 rfl)
    · exact sMv rfl rfl rfl hz rfl (Gd.none_ rfl) rfl (Src.dep (j := 0) (t := 107) (by kernel_rfl) (by kernel_rfl) rfl)
    · exact sLoad rfl rfl rfl hz rfl (Gd.yes rfl rfl (Src.dep (j := 1) (t := 108) (by kernel_rfl) (by kernel_rfl) rfl) rfl) rfl (Src.out (t := 11) (by kernel_rfl) S11 rfl) Cp6 rfl ld_n64
    · exact sLoad rfl rfl rfl hz rfl (Gd.yes rfl rfl (Src.dep (j := 1) (t := 108) (by kernel_rfl) (by kernel_rfl) rfl) rfl) rfl (Src.out (t := 14) (by kernel_rfl) S14 rfl) Cp8 rfl ld_n32
    · exact sCall rfl rfl rfl hz rfl (Gd.yes rfl rfl (Src.dep (j := 1) (t := 108) (by kernel_rfl) (by kernel_rfl) rfl) rfl) rfl Try.func43 (by kernel_rfl) (by kernel_rfl) fun a γ w U => (by show Calls _ _ #[a.eval (.tmp 109), a.eval (.tmp 110)] _ _; exact l_same (Src.at_ (Src.dep (j := 2) (t := 109) (by kernel_rfl) (by kernel_rfl) rfl) U) (Src.at_ (Src.dep (j := 3) (t := 110) (by kernel_rfl) (by kernel_rfl) rfl) U) (by decide) (by decide))
    · exact sPickT rfl rfl rfl hz rfl (Gd.none_ rfl) rfl (Src.dep (j := 1) (t := 108) (by kernel_rfl) (by kernel_rfl) rfl) (Src.dep (j := 4) (t := 111) (by kernel_rfl) (by kernel_rfl) rfl)
    · exact sMv rfl rfl rfl hz rfl (Gd.none_ rfl) rfl (Src.dep (j := 5) (t := 112) (by kernel_rfl) (by kernel_rfl) rfl)
    · exact sLoad rfl rfl rfl hz rfl (Gd.yes rfl rfl (Src.dep (j := 6) (t := 113) (by kernel_rfl) (by kernel_rfl) rfl) rfl) rfl (Src.out (t := 12) (by kernel_rfl) S12 rfl) Cp7 rfl ld_n64
    · exact sLoad rfl rfl rfl hz rfl (Gd.yes rfl rfl (Src.dep (j := 6) (t := 113) (by kernel_rfl) (by kernel_rfl) rfl) rfl) rfl (Src.out (t := 15) (by kernel_rfl) S15 rfl) Cp9 rfl ld_n32
    · exact sCall rfl rfl rfl hz rfl (Gd.yes rfl rfl (Src.dep (j := 6) (t := 113) (by kernel_rfl) (by kernel_rfl) rfl) rfl) rfl Try.func43 (by kernel_rfl) (by kernel_rfl) fun a γ w U => (by show Calls _ _ #[a.eval (.tmp 114), a.eval (.tmp 115)] _ _; exact l_same (Src.at_ (Src.dep (j := 7) (t := 114) (by kernel_rfl) (by kernel_rfl) rfl) U) (Src.at_ (Src.dep (j := 8) (t := 115) (by kernel_rfl) (by kernel_rfl) rfl) U) (by decide) (by decide))
    · exact sPickT rfl rfl rfl hz rfl (Gd.none_ rfl) rfl (Src.dep (j := 6) (t := 113) (by kernel_rfl) (by kernel_rfl) rfl) (Src.dep (j := 9) (t := 116) (by kernel_rfl) (by kernel_rfl) rfl)
    · exact sAs rfl rfl rfl hz rfl (Gd.none_ rfl) rfl (Src.dep (j := 10) (t := 117) (by kernel_rfl) (by kernel_rfl) rfl)
  intro a' γ' W' hz' hd' hC hk hh
  clear Cp6
  clear Cp7
  clear Cp8
  clear Cp9
  clear S8
  clear S11
  clear S12
  clear S13
  clear S14
  clear S15
  have S8 := gotV hz' 11 hh rfl rfl rfl rfl
  replace HB := aft_call HB (RelC.below_nil hC)
  clear hC hk hh; replace hz := hz'; replace hd := hd'; clear hz' hd'
  refine wp_ret ?_
  exact ret1 (by kernel_rfl) S8 hd ⟨_, rfl, rfl, HB⟩

end Go.Proofs.Ytijbhbjenddiaaa.Rg

namespace Go.Proofs.Ytijbhbjenddiaaa.Rg
open Go.RowKit

set_option maxRecDepth 10000 in
set_option maxHeartbeats 2000000 in
theorem l_started {w : World} : Calls Try.prog 21 #[] w (Ret (tV (.bool true)) w) := by
  have s1 : nz 5 = true := rfl
  have s2 : 17 / 5 = 3 := rfl
  have s3 : modOf 17 5 = 2 := rfl
  have s4 : ((uintOf 3 : Nat) : Int) = 3 := rfl
  have s5 : ((uintOf 2 : Nat) : Int) = 2 := rfl
  have s6 : fitsU 3 = true := rfl
  have s7 : fitsU 2 = true := rfl
  have s8 : parseV (bytesL ⟨#[48, 48, 55]⟩) = 7 := by rw [bytes_007]; exact parse_007.2
  have s9 : parseOk (bytesL ⟨#[48, 48, 55]⟩) = true := by rw [bytes_007]; exact parse_007.1
  have s10 : leftOk 1 16777217 = false := rfl
  have s11 : leftV 1 16777217 = 0 := rfl
  refine enter Try.func21 rfl Try.ntmps21 (by simp) ?_
  intro a hz hd ha
  clear ha
  have HB : Below w.heap.size w w := Below.refl _ _
  refine wp_seq ?_
  refine region_text (M := []) (
      rT (tV (.bool false)) ::
      []) hz hd (by kernel_rfl) ?_ ?_
  · refine ⟨?_, trivial⟩
    · exact sAs rfl rfl rfl hz rfl (Gd.none_ rfl) rfl (Src.const (.bool false))
  intro a' γ' W' hz' hd' hC hk hh
  have S0 := gotV hz' 0 hh rfl rfl rfl rfl
  replace HB := aft_call HB (RelC.below_nil hC)
  clear hC hk hh; replace hz := hz'; replace hd := hd'; clear hz' hd'
  refine wp_seq ?_
  refine region_text (M := []) (
      rT (tN B64 1 18446744073709551615) ::
      rT (tN B64 1 1) ::
      rT (tN B64 2 (18446744073709551615 + 1)) ::
      rT (tN B64 1 17) ::
      rVar 4 25 1 ::
      rVar 5 25 1 ::
      rB 4 25 (tN B64 2 (18446744073709551615 + 1)) (some 4) 5 ::
      rB 5 25 (tN B64 1 17) (some 5) 6 ::
      []) hz hd (by kernel_rfl) ?_ ?_
  · refine ⟨?_, ?_, ?_, ?_, ?_, ?_, ?_, ?_, trivial⟩
    · exact sCall rfl rfl rfl hz rfl (Gd.none_ rfl) rfl Try.func28 (by kernel_rfl) (by kernel_rfl) fun a γ w U => (by show Calls _ _ #[.int .u64 18446744073709551615] _ _; exact c_of (by decide))
    · exact sCall rfl rfl rfl hz rfl (Gd.none_ rfl) rfl Try.func28 (by kernel_rfl) (by kernel_rfl) fun a γ w U => (by show Calls _ _ #[.int .u64 1] _ _; exact c_of (by decide))
    · exact sCall rfl rfl rfl hz rfl (Gd.none_ rfl) rfl Try.func20 (by kernel_rfl) (by kernel_rfl) fun a γ w U => (by show Calls _ _ #[a.eval (.tmp 14), a.eval (.tmp 15)] _ _; exact c_add (Src.at_ (Src.dep (j := 0) (t := 14) (by kernel_rfl) (by kernel_rfl) rfl) U) (Src.at_ (Src.dep (j := 1) (t := 15) (by kernel_rfl) (by kernel_rfl) rfl) U) (by decide) (by decide))
    · exact sCall rfl rfl rfl hz rfl (Gd.none_ rfl) rfl Try.func28 (by kernel_rfl) (by kernel_rfl) fun a γ w U => (by show Calls _ _ #[.int .u64 17] _ _; exact c_of (by decide))
    · exact sAlloc rfl rfl rfl hz rfl rfl rfl rfl nd_slice al_n64
    · exact sAlloc rfl rfl rfl hz rfl rfl rfl rfl nd_slice al_n64
    · exact sStore rfl rfl rfl rfl rfl (by kernel_rfl) (by kernel_rfl) rfl (Src.dep (j := 2) (t := 16) (by kernel_rfl) (by kernel_rfl) rfl) st_n64
    · exact sStore rfl rfl rfl rfl rfl (by kernel_rfl) (by kernel_rfl) rfl (Src.dep (j := 3) (t := 17) (by kernel_rfl) (by kernel_rfl) rfl) st_n64
  intro a' γ' W' hz' hd' hC hk hh
  replace S0 := hk 0 _ (by kernel_rfl) S0
  obtain ⟨p1, S1, Cp1, lp1⟩ := gotB hz' 6 hC hh rfl rfl rfl rfl rfl rfl
  clear lp1
  obtain ⟨p2, S2, Cp2, lp2⟩ := gotB hz' 7 hC hh rfl rfl rfl rfl rfl rfl
  clear lp2
  replace HB := aft_call HB (RelC.below_nil hC)
  clear hC hk hh; replace hz := hz'; replace hd := hd'; clear hz' hd'
  refine wp_seq ?_
  refine region_drawn (M := []) (
      rT (tN B64 1 17) ::
      rT (tN B64 1 5) ::
      rT (tT [tN B64 1 3, tN B64 1 2, tV (.bool true)]) ::
      rT (tT [tN B64 1 3, tN B64 1 2, tV (.bool true)]) ::
      rT (tN B64 1 3) ::
      rT (tN B64 1 2) ::
      rT (tV (.bool true)) ::
      rVar 7 25 1 ::
      rVar 8 25 1 ::
      rB 7 25 (tN B64 1 3) (some 7) 8 ::
      rB 8 25 (tN B64 1 2) (some 8) 9 ::
      rT (tV (.bool true)) ::
      []) hz hd (by kernel_rfl) (by kernel_rfl) ?_ ?_
  · refine ⟨?_, ?_, ?_, ?_, ?_, ?_, ?_, ?_, ?_, ?_, ?_, ?_, trivial⟩
    · exact sLoad rfl rfl rfl hz rfl (Gd.none_ rfl) rfl (Src.out (t := 2) (by kernel_rfl) S2 rfl) Cp2 rfl ld_n64
    · exact sCall rfl rfl rfl hz rfl (Gd.none_ rfl) rfl Try.func28 (by kernel_rfl) (by kernel_rfl) fun a γ w U => (by show Calls _ _ #[.int .u64 5] _ _; exact c_of (by decide))
    · exact sCall rfl rfl rfl hz rfl (Gd.none_ rfl) rfl Try.func15 (by kernel_rfl) (by kernel_rfl) fun a γ w U => (by show Calls _ _ #[a.eval (.tmp 19), a.eval (.tmp 20)] _ _; have hq : Calls _ _ #[a.eval (.tmp 19), a.eval (.tmp 20)] w (Ret _ w) := c_divmod (Src.at_ (Src.dep (j := 0) (t := 19) (by kernel_rfl) (by kernel_rfl) rfl) U) (Src.at_ (Src.dep (j := 1) (t := 20) (by kernel_rfl) (by kernel_rfl) rfl) U) (by decide) (by decide); simp only [s2, s3, s1] at hq; exact hq)
    · exact sMv rfl rfl rfl hz rfl (Gd.none_ rfl) rfl (Src.dep (j := 2) (t := 21) (by kernel_rfl) (by kernel_rfl) rfl)
    · exact sExt rfl rfl rfl hz rfl (Gd.none_ rfl) rfl (Src.dep (j := 3) (t := 18) (by kernel_rfl) (by kernel_rfl) rfl) rfl
    · exact sExt rfl rfl rfl hz rfl (Gd.none_ rfl) rfl (Src.dep (j := 3) (t := 18) (by kernel_rfl) (by kernel_rfl) rfl) rfl
    · exact sExt rfl rfl rfl hz rfl (Gd.none_ rfl) rfl (Src.dep (j := 3) (t := 18) (by kernel_rfl) (by kernel_rfl) rfl) rfl
    · exact sAlloc rfl rfl rfl hz rfl rfl rfl rfl nd_slice al_n64
    · exact sAlloc rfl rfl rfl hz rfl rfl rfl rfl nd_slice al_n64
    · exact sStore rfl rfl rfl rfl rfl (by kernel_rfl) (by kernel_rfl) rfl (Src.dep (j := 4) (t := 22) (by kernel_rfl) (by kernel_rfl) rfl) st_n64
    · exact sStore rfl rfl rfl rfl rfl (by kernel_rfl) (by kernel_rfl) rfl (Src.dep (j := 5) (t := 23) (by kernel_rfl) (by kernel_rfl) rfl) st_n64
    · exact sAs rfl rfl rfl hz rfl (Gd.none_ rfl) rfl (Src.dep (j := 6) (t := 24) (by kernel_rfl) (by kernel_rfl) rfl)
  intro a' γ' W' hz' hd' hC hk hh
  replace Cp1 := Cell.aft Cp1 hC rfl
  clear Cp2
  replace S0 := hk 0 _ (by kernel_rfl) S0
  replace S1 := hk 1 _ (by kernel_rfl) S1
  clear S2
  obtain ⟨p3, S3, Cp3, lp3⟩ := gotB hz' 9 hC hh rfl rfl rfl rfl rfl rfl
  clear lp3
  obtain ⟨p4, S4, Cp4, lp4⟩ := gotB hz' 10 hC hh rfl rfl rfl rfl rfl rfl
  clear lp4
  have S5 := gotV hz' 11 hh rfl rfl rfl rfl
  replace HB := aft_call HB (RelC.below_nil hC)
  clear hC hk hh; replace hz := hz'; replace hd := hd'; clear hz' hd'
  refine wp_seq ?_
  refine region_text (M := []) (
      rT (tN B64 1 3) ::
      rT (tT [tV (.int .u64 3), tV (.bool true)]) ::
      rT (tT [tV (.int .u64 3), tV (.bool true)]) ::
      rT (tV (.int .u64 3)) ::
      rT (tV (.bool true)) ::
      rT (tV (.int .u64 3)) ::
      rT (tV (.bool true)) ::
      []) hz hd (by kernel_rfl) ?_ ?_
  · refine ⟨?_, ?_, ?_, ?_, ?_, ?_, ?_, trivial⟩
    · exact sLoad rfl rfl rfl hz rfl (Gd.none_ rfl) rfl (Src.out (t := 3) (by kernel_rfl) S3 rfl) Cp3 rfl ld_n64
    · exact sCall rfl rfl rfl hz rfl (Gd.none_ rfl) rfl Try.func40 (by kernel_rfl) (by kernel_rfl) fun a γ w U => (by show Calls _ _ #[a.eval (.tmp 26)] _ _; have hq : Calls _ _ #[a.eval (.tmp 26)] w (Ret _ w) := c_uint (Src.at_ (Src.dep (j := 0) (t := 26) (by kernel_rfl) (by kernel_rfl) rfl) U) (by decide); simp only [s4, s6] at hq; exact hq)
    · exact sMv rfl rfl rfl hz rfl (Gd.none_ rfl) rfl (Src.dep (j := 1) (t := 27) (by kernel_rfl) (by kernel_rfl) rfl)
    · exact sExt rfl rfl rfl hz rfl (Gd.none_ rfl) rfl (Src.dep (j := 2) (t := 25) (by kernel_rfl) (by kernel_rfl) rfl) rfl
    · exact sExt rfl rfl rfl hz rfl (Gd.none_ rfl) rfl (Src.dep (j := 2) (t := 25) (by kernel_rfl) (by kernel_rfl) rfl) rfl
    · exact sAs rfl rfl rfl hz rfl (Gd.none_ rfl) rfl (Src.dep (j := 3) (t := 28) (by kernel_rfl) (by kernel_rfl) rfl)
    · exact sAs rfl rfl rfl hz rfl (Gd.none_ rfl) rfl (Src.dep (j := 4) (t := 29) (by kernel_rfl) (by kernel_rfl) rfl)
  intro a' γ' W' hz' hd' hC hk hh
  replace Cp1 := Cell.aft Cp1 hC rfl
  clear Cp3
  replace Cp4 := Cell.aft Cp4 hC rfl
  replace S0 := hk 0 _ (by kernel_rfl) S0
  replace S1 := hk 1 _ (by kernel_rfl) S1
  clear S3
  replace S4 := hk 4 _ (by kernel_rfl) S4
  replace S5 := hk 5 _ (by kernel_rfl) S5
  have S6 := gotV hz' 5 hh rfl rfl rfl rfl
  have S7 := gotV hz' 6 hh rfl rfl rfl rfl
  replace HB := aft_call HB (RelC.below_nil hC)
  clear hC hk hh; replace hz := hz'; replace hd := hd'; clear hz' hd'
  refine wp_seq ?_
  refine region_text (M := []) (
      rT (tN B64 1 2) ::
      rT (tT [tV (.int .u64 2), tV (.bool true)]) ::
      rT (tT [tV (.int .u64 2), tV (.bool true)]) ::
      rT (tV (.int .u64 2)) ::
      rT (tV (.bool true)) ::
      rT (tV (.int .u64 2)) ::
      rT (tV (.bool true)) ::
      []) hz hd (by kernel_rfl) ?_ ?_
  · refine ⟨?_, ?_, ?_, ?_, ?_, ?_, ?_, trivial⟩
    · exact sLoad rfl rfl rfl hz rfl (Gd.none_ rfl) rfl (Src.out (t := 4) (by kernel_rfl) S4 rfl) Cp4 rfl ld_n64
    · exact sCall rfl rfl rfl hz rfl (Gd.none_ rfl) rfl Try.func40 (by kernel_rfl) (by kernel_rfl) fun a γ w U => (by show Calls _ _ #[a.eval (.tmp 31)] _ _; have hq : Calls _ _ #[a.eval (.tmp 31)] w (Ret _ w) := c_uint (Src.at_ (Src.dep (j := 0) (t := 31) (by kernel_rfl) (by kernel_rfl) rfl) U) (by decide); simp only [s5, s7] at hq; exact hq)
    · exact sMv rfl rfl rfl hz rfl (Gd.none_ rfl) rfl (Src.dep (j := 1) (t := 32) (by kernel_rfl) (by kernel_rfl) rfl)
    · exact sExt rfl rfl rfl hz rfl (Gd.none_ rfl) rfl (Src.dep (j := 2) (t := 30) (by kernel_rfl) (by kernel_rfl) rfl) rfl
    · exact sExt rfl rfl rfl hz rfl (Gd.none_ rfl) rfl (Src.dep (j := 2) (t := 30) (by kernel_rfl) (by kernel_rfl) rfl) rfl
    · exact sAs rfl rfl rfl hz rfl (Gd.none_ rfl) rfl (Src.dep (j := 3) (t := 33) (by kernel_rfl) (by kernel_rfl) rfl)
    · exact sAs rfl rfl rfl hz rfl (Gd.none_ rfl) rfl (Src.dep (j := 4) (t := 34) (by kernel_rfl) (by kernel_rfl) rfl)
  intro a' γ' W' hz' hd' hC hk hh
  replace Cp1 := Cell.aft Cp1 hC rfl
  clear Cp4
  replace S0 := hk 0 _ (by kernel_rfl) S0
  replace S1 := hk 1 _ (by kernel_rfl) S1
  clear S4
  replace S5 := hk 5 _ (by kernel_rfl) S5
  replace S6 := hk 6 _ (by kernel_rfl) S6
  replace S7 := hk 7 _ (by kernel_rfl) S7
  have S8 := gotV hz' 5 hh rfl rfl rfl rfl
  have S9 := gotV hz' 6 hh rfl rfl rfl rfl
  replace HB := aft_call HB (RelC.below_nil hC)
  clear hC hk hh; replace hz := hz'; replace hd := hd'; clear hz' hd'
  refine wp_seq ?_
  refine region_text (M := []) (
      rT (tT [tN B64 400 7, tV (.bool true)]) ::
      rT (tT [tN B64 400 7, tV (.bool true)]) ::
      rT (tN B64 400 7) ::
      rT (tV (.bool true)) ::
      rVar 4 25 1 ::
      rB 4 25 (tN B64 400 7) (some 4) 5 ::
      rT (tV (.bool true)) ::
      []) hz hd (by kernel_rfl) ?_ ?_
  · refine ⟨?_, ?_, ?_, ?_, ?_, ?_, ?_, trivial⟩
    · exact sCall rfl rfl rfl hz rfl (Gd.none_ rfl) rfl Try.func24 (by kernel_rfl) (by kernel_rfl) fun a γ w U => (by show Calls _ _ #[.string ⟨#[48, 48, 55]⟩] _ _; have hq : Calls _ _ #[.string ⟨#[48, 48, 55]⟩] w (Ret _ w) := c_parse; simp only [s8, s9] at hq; exact hq)
    · exact sMv rfl rfl rfl hz rfl (Gd.none_ rfl) rfl (Src.dep (j := 0) (t := 36) (by kernel_rfl) (by kernel_rfl) rfl)
    · exact sExt rfl rfl rfl hz rfl (Gd.none_ rfl) rfl (Src.dep (j := 1) (t := 35) (by kernel_rfl) (by kernel_rfl) rfl) rfl
    · exact sExt rfl rfl rfl hz rfl (Gd.none_ rfl) rfl (Src.dep (j := 1) (t := 35) (by kernel_rfl) (by kernel_rfl) rfl) rfl
    · exact sAlloc rfl rfl rfl hz rfl rfl rfl rfl nd_slice al_n64
    · exact sStore rfl rfl rfl rfl rfl (by kernel_rfl) (by kernel_rfl) rfl (Src.dep (j := 2) (t := 37) (by kernel_rfl) (by kernel_rfl) rfl) st_n64
    · exact sAs rfl rfl rfl hz rfl (Gd.none_ rfl) rfl (Src.dep (j := 3) (t := 38) (by kernel_rfl) (by kernel_rfl) rfl)
  intro a' γ' W' hz' hd' hC hk hh
  replace Cp1 := Cell.aft Cp1 hC rfl
  replace S0 := hk 0 _ (by kernel_rfl) S0
  replace S1 := hk 1 _ (by kernel_rfl) S1
  replace S5 := hk 5 _ (by kernel_rfl) S5
  replace S6 := hk 6 _ (by kernel_rfl) S6
  replace S7 := hk 7 _ (by kernel_rfl) S7
  replace S8 := hk 8 _ (by kernel_rfl) S8
  replace S9 := hk 9 _ (by kernel_rfl) S9
  obtain ⟨p5, S10, Cp5, lp5⟩ := gotB hz' 5 hC hh rfl rfl rfl rfl rfl rfl
  clear lp5
  have S11 := gotV hz' 6 hh rfl rfl rfl rfl
  replace HB := aft_call HB (RelC.below_nil hC)
  clear hC hk hh; replace hz := hz'; replace hd := hd'; clear hz' hd'
  refine wp_seq ?_
  refine region_text (M := []) (
      rT (tN B64 1 1) ::
      rT (tT [tN B64 16777217 0, tV (.bool false)]) ::
      rT (tT [tN B64 16777217 0, tV (.bool false)]) ::
      rT (tN B64 16777217 0) ::
      rT (tV (.bool false)) ::
      rVar 5 25 1 ::
      rB 5 25 (tN B64 16777217 0) (some 5) 6 ::
      rT (tV (.bool false)) ::
      []) hz hd (by kernel_rfl) ?_ ?_
  · refine ⟨?_, ?_, ?_, ?_, ?_, ?_, ?_, ?_, trivial⟩
    · exact sCall rfl rfl rfl hz rfl (Gd.none_ rfl) rfl Try.func28 (by kernel_rfl) (by kernel_rfl) fun a γ w U => (by show Calls _ _ #[.int .u64 1] _ _; exact c_of (by decide))
    · exact sCall rfl rfl rfl hz rfl (Gd.none_ rfl) rfl Try.func32 (by kernel_rfl) (by kernel_rfl) fun a γ w U => (by show Calls _ _ #[a.eval (.tmp 40), .int .i64 16777217] _ _; have hq : Calls _ _ #[a.eval (.tmp 40), .int .i64 16777217] w (Ret _ w) := c_left (Src.at_ (Src.dep (j := 0) (t := 40) (by kernel_rfl) (by kernel_rfl) rfl) U) (by decide) (by decide) (by decide); simp only [s11, s10] at hq; exact hq)
    · exact sMv rfl rfl rfl hz rfl (Gd.none_ rfl) rfl (Src.dep (j := 1) (t := 41) (by kernel_rfl) (by kernel_rfl) rfl)
    · exact sExt rfl rfl rfl hz rfl (Gd.none_ rfl) rfl (Src.dep (j := 2) (t := 39) (by kernel_rfl) (by kernel_rfl) rfl) rfl
    · exact sExt rfl rfl rfl hz rfl (Gd.none_ rfl) rfl (Src.dep (j := 2) (t := 39) (by kernel_rfl) (by kernel_rfl) rfl) rfl
    · exact sAlloc rfl rfl rfl hz rfl rfl rfl rfl nd_slice al_n64
    · exact sStore rfl rfl rfl rfl rfl (by kernel_rfl) (by kernel_rfl) rfl (Src.dep (j := 3) (t := 42) (by kernel_rfl) (by kernel_rfl) rfl) st_n64
    · exact sAs rfl rfl rfl hz rfl (Gd.none_ rfl) rfl (Src.dep (j := 4) (t := 43) (by kernel_rfl) (by kernel_rfl) rfl)
  intro a' γ' W' hz' hd' hC hk hh
  replace Cp1 := Cell.aft Cp1 hC rfl
  replace Cp5 := Cell.aft Cp5 hC rfl
  replace S0 := hk 0 _ (by kernel_rfl) S0
  replace S1 := hk 1 _ (by kernel_rfl) S1
  replace S5 := hk 5 _ (by kernel_rfl) S5
  replace S6 := hk 6 _ (by kernel_rfl) S6
  replace S7 := hk 7 _ (by kernel_rfl) S7
  replace S8 := hk 8 _ (by kernel_rfl) S8
  replace S9 := hk 9 _ (by kernel_rfl) S9
  replace S10 := hk 10 _ (by kernel_rfl) S10
  replace S11 := hk 11 _ (by kernel_rfl) S11
  have S13 := gotV hz' 7 hh rfl rfl rfl rfl
  replace HB := aft_call HB (RelC.below_nil hC)
  clear hC hk hh; replace hz := hz'; replace hd := hd'; clear hz' hd'
  refine wp_seq ?_
  refine region_text (M := []) (
      rT (tV (.bool false)) ::
      rT (tV (.bool true)) ::
      rT (tV (.bool true)) ::
      rT (tN B64 2 (18446744073709551615 + 1)) ::
      rT (tV (.string (strB (txt (18446744073709551615 + 1))))) ::
      rT (tV (.bool true)) ::
      rT (tV (.bool true)) ::
      rT (tV (.bool true)) ::
      rT (tN B64 2 (18446744073709551615 + 1)) ::
      rT (tV (.int .i64 ((bl (18446744073709551615 + 1) : Nat) : Int))) ::
      rT (tV (.bool true)) ::
      rT (tV (.bool true)) ::
      rT (tV (.bool true)) ::
      rT (tV (.bool true)) ::
      rT (tV (.bool true)) ::
      rT (tV (.bool true)) ::
      rT (tV (.bool true)) ::
      rT (tV (.bool true)) ::
      rT (tV (.bool true)) ::
      rT (tV (.bool true)) ::
      rT (tV (.bool true)) ::
      rT (tV (.bool true)) ::
      rT (tV (.int .u64 3)) ::
      rT (tV (.bool true)) ::
      rT (tV (.bool true)) ::
      rT (tV (.bool true)) ::
      rT (tV (.int .u64 2)) ::
      rT (tV (.bool true)) ::
      rT (tV (.bool true)) ::
      rT (tV (.bool true)) ::
      rT (tV (.bool true)) ::
      rT (tV (.bool true)) ::
      rT (tV (.bool true)) ::
      rT (tN B64 400 7) ::
      rT (tV (.string (strB (txt 7)))) ::
      rT (tV (.bool true)) ::
      rT (tV (.bool true)) ::
      rT (tV (.bool true)) ::
      rT (tN B64 1 256) ::
      rT (tBy 8 (bytesOf 256)) ::
      rT (tV (.string (strB (bytesOf 256)))) ::
      rT (tV (.bool true)) ::
      rT (tV (.bool true)) ::
      rT (tV (.bool true)) ::
      []) hz hd (by kernel_rfl) ?_ ?_
  · refine ⟨?_, ?_, ?_, ?_, ?_, ?_, ?_, ?_, ?_, ?_, ?_, ?_, ?_, ?_, ?_, ?_, ?_, ?_, ?_, ?_, ?_, ?_, ?_, ?_, ?_, ?_, ?_, ?_, ?_, ?_, ?_, ?_, ?_, ?_, ?_, ?_, ?_, ?_, ?_, ?_, ?_, ?_, ?_, ?_, trivial⟩
    · exact sMv rfl rfl rfl hz rfl (Gd.none_ rfl) rfl (Src.out (t := 13) (by kernel_rfl) S13 rfl)
    · exact sNot (b := false) rfl rfl rfl hz rfl (Gd.none_ rfl) rfl (Src.dep (j := 0) (t := 44) (by kernel_rfl) (by kernel_rfl) rfl)
    · exact sMv rfl rfl rfl hz rfl (Gd.none_ rfl) rfl (Src.dep (j := 1) (t := 45) (by kernel_rfl) (by kernel_rfl) rfl)
    · exact sLoad rfl rfl rfl hz rfl (Gd.yes rfl rfl (Src.dep (j := 2) (t := 46) (by kernel_rfl) (by kernel_rfl) rfl) rfl) rfl (Src.out (t := 1) (by kernel_rfl) S1 rfl) Cp1 rfl ld_n64
    · exact sCall rfl rfl rfl hz rfl (Gd.yes rfl rfl (Src.dep (j := 2) (t := 46) (by kernel_rfl) (by kernel_rfl) rfl) rfl) rfl Try.func23 (by kernel_rfl) (by kernel_rfl) fun a γ w U => (by show Calls _ _ #[a.eval (.tmp 47)] _ _; exact c_text (Src.at_ (Src.dep (j := 3) (t := 47) (by kernel_rfl) (by kernel_rfl) rfl) U) (by decide))
    · exact sBin rfl rfl rfl hz rfl (Gd.yes rfl rfl (Src.dep (j := 2) (t := 46) (by kernel_rfl) (by kernel_rfl) rfl) rfl) rfl (Src.dep (j := 4) (t := 48) (by kernel_rfl) (by kernel_rfl) rfl) (Src.const (.string ⟨#[49, 56, 52, 52, 54, 55, 52, 52, 48, 55, 51, 55, 48, 57, 53, 53, 49, 54, 49, 54]⟩)) (fun w => by simp [go_sem, txt_great])
    · exact sPickT rfl rfl rfl hz rfl (Gd.none_ rfl) rfl (Src.dep (j := 2) (t := 46) (by kernel_rfl) (by kernel_rfl) rfl) (Src.dep (j := 5) (t := 49) (by kernel_rfl) (by kernel_rfl) rfl)
    · exact sMv rfl rfl rfl hz rfl (Gd.none_ rfl) rfl (Src.dep (j := 6) (t := 50) (by kernel_rfl) (by kernel_rfl) rfl)
    · exact sLoad rfl rfl rfl hz rfl (Gd.yes rfl rfl (Src.dep (j := 7) (t := 51) (by kernel_rfl) (by kernel_rfl) rfl) rfl) rfl (Src.out (t := 1) (by kernel_rfl) S1 rfl) Cp1 rfl ld_n64
    · exact sCall rfl rfl rfl hz rfl (Gd.yes rfl rfl (Src.dep (j := 7) (t := 51) (by kernel_rfl) (by kernel_rfl) rfl) rfl) rfl Try.func16 (by kernel_rfl) (by kernel_rfl) fun a γ w U => (by show Calls _ _ #[a.eval (.tmp 52)] _ _; exact c_len (Src.at_ (Src.dep (j := 8) (t := 52) (by kernel_rfl) (by kernel_rfl) rfl) U) (by decide))
    · exact sBin rfl rfl rfl hz rfl (Gd.yes rfl rfl (Src.dep (j := 7) (t := 51) (by kernel_rfl) (by kernel_rfl) rfl) rfl) rfl (Src.dep (j := 9) (t := 53) (by kernel_rfl) (by kernel_rfl) rfl) (Src.const (.int .i64 65)) (fun w => by simp [go_sem, bl_great])
    · exact sPickT rfl rfl rfl hz rfl (Gd.none_ rfl) rfl (Src.dep (j := 7) (t := 51) (by kernel_rfl) (by kernel_rfl) rfl) (Src.dep (j := 10) (t := 54) (by kernel_rfl) (by kernel_rfl) rfl)
    · exact sMv rfl rfl rfl hz rfl (Gd.none_ rfl) rfl (Src.dep (j := 11) (t := 55) (by kernel_rfl) (by kernel_rfl) rfl)
    · exact sMv rfl rfl rfl hz rfl (Gd.yes rfl rfl (Src.dep (j := 12) (t := 56) (by kernel_rfl) (by kernel_rfl) rfl) rfl) rfl (Src.out (t := 5) (by kernel_rfl) S5 rfl)
    · exact sPickT rfl rfl rfl hz rfl (Gd.none_ rfl) rfl (Src.dep (j := 12) (t := 56) (by kernel_rfl) (by kernel_rfl) rfl) (Src.dep (j := 13) (t := 57) (by kernel_rfl) (by kernel_rfl) rfl)
    · exact sMv rfl rfl rfl hz rfl (Gd.none_ rfl) rfl (Src.dep (j := 14) (t := 58) (by kernel_rfl) (by kernel_rfl) rfl)
    · exact sMv rfl rfl rfl hz rfl (Gd.yes rfl rfl (Src.dep (j := 15) (t := 59) (by kernel_rfl) (by kernel_rfl) rfl) rfl) rfl (Src.out (t := 7) (by kernel_rfl) S7 rfl)
    · exact sPickT rfl rfl rfl hz rfl (Gd.none_ rfl) rfl (Src.dep (j := 15) (t := 59) (by kernel_rfl) (by kernel_rfl) rfl) (Src.dep (j := 16) (t := 60) (by kernel_rfl) (by kernel_rfl) rfl)
    · exact sMv rfl rfl rfl hz rfl (Gd.none_ rfl) rfl (Src.dep (j := 17) (t := 61) (by kernel_rfl) (by kernel_rfl) rfl)
    · exact sMv rfl rfl rfl hz rfl (Gd.yes rfl rfl (Src.dep (j := 18) (t := 62) (by kernel_rfl) (by kernel_rfl) rfl) rfl) rfl (Src.out (t := 9) (by kernel_rfl) S9 rfl)
    · exact sPickT rfl rfl rfl hz rfl (Gd.none_ rfl) rfl (Src.dep (j := 18) (t := 62) (by kernel_rfl) (by kernel_rfl) rfl) (Src.dep (j := 19) (t := 63) (by kernel_rfl) (by kernel_rfl) rfl)
    · exact sMv rfl rfl rfl hz rfl (Gd.none_ rfl) rfl (Src.dep (j := 20) (t := 64) (by kernel_rfl) (by kernel_rfl) rfl)
    · exact sMv rfl rfl rfl hz rfl (Gd.yes rfl rfl (Src.dep (j := 21) (t := 65) (by kernel_rfl) (by kernel_rfl) rfl) rfl) rfl (Src.out (t := 6) (by kernel_rfl) S6 rfl)
    · exact sBin rfl rfl rfl hz rfl (Gd.yes rfl rfl (Src.dep (j := 21) (t := 65) (by kernel_rfl) (by kernel_rfl) rfl) rfl) rfl (Src.dep (j := 22) (t := 66) (by kernel_rfl) (by kernel_rfl) rfl) (Src.const (.int .u64 3)) (fun w => by simp [go_sem])
    · exact sPickT rfl rfl rfl hz rfl (Gd.none_ rfl) rfl (Src.dep (j := 21) (t := 65) (by kernel_rfl) (by kernel_rfl) rfl) (Src.dep (j := 23) (t := 67) (by kernel_rfl) (by kernel_rfl) rfl)
    · exact sMv rfl rfl rfl hz rfl (Gd.none_ rfl) rfl (Src.dep (j := 24) (t := 68) (by kernel_rfl) (by kernel_rfl) rfl)
    · exact sMv rfl rfl rfl hz rfl (Gd.yes rfl rfl (Src.dep (j := 25) (t := 69) (by kernel_rfl) (by kernel_rfl) rfl) rfl) rfl (Src.out (t := 8) (by kernel_rfl) S8 rfl)
    · exact sBin rfl rfl rfl hz rfl (Gd.yes rfl rfl (Src.dep (j := 25) (t := 69) (by kernel_rfl) (by kernel_rfl) rfl) rfl) rfl (Src.dep (j := 26) (t := 70) (by kernel_rfl) (by kernel_rfl) rfl) (Src.const (.int .u64 2)) (fun w => by simp [go_sem])
    · exact sPickT rfl rfl rfl hz rfl (Gd.none_ rfl) rfl (Src.dep (j := 25) (t := 69) (by kernel_rfl) (by kernel_rfl) rfl) (Src.dep (j := 27) (t := 71) (by kernel_rfl) (by kernel_rfl) rfl)
    · exact sMv rfl rfl rfl hz rfl (Gd.none_ rfl) rfl (Src.dep (j := 28) (t := 72) (by kernel_rfl) (by kernel_rfl) rfl)
    · exact sMv rfl rfl rfl hz rfl (Gd.yes rfl rfl (Src.dep (j := 29) (t := 73) (by kernel_rfl) (by kernel_rfl) rfl) rfl) rfl (Src.out (t := 11) (by kernel_rfl) S11 rfl)
    · exact sPickT rfl rfl rfl hz rfl (Gd.none_ rfl) rfl (Src.dep (j := 29) (t := 73) (by kernel_rfl) (by kernel_rfl) rfl) (Src.dep (j := 30) (t := 74) (by kernel_rfl) (by kernel_rfl) rfl)
    · exact sMv rfl rfl rfl hz rfl (Gd.none_ rfl) rfl (Src.dep (j := 31) (t := 75) (by kernel_rfl) (by kernel_rfl) rfl)
    · exact sLoad rfl rfl rfl hz rfl (Gd.yes rfl rfl (Src.dep (j := 32) (t := 76) (by kernel_rfl) (by kernel_rfl) rfl) rfl) rfl (Src.out (t := 10) (by kernel_rfl) S10 rfl) Cp5 rfl ld_n64
    · exact sCall rfl rfl rfl hz rfl (Gd.yes rfl rfl (Src.dep (j := 32) (t := 76) (by kernel_rfl) (by kernel_rfl) rfl) rfl) rfl Try.func23 (by kernel_rfl) (by kernel_rfl) fun a γ w U => (by show Calls _ _ #[a.eval (.tmp 77)] _ _; exact c_text (Src.at_ (Src.dep (j := 33) (t := 77) (by kernel_rfl) (by kernel_rfl) rfl) U) (by decide))
    · exact sBin rfl rfl rfl hz rfl (Gd.yes rfl rfl (Src.dep (j := 32) (t := 76) (by kernel_rfl) (by kernel_rfl) rfl) rfl) rfl (Src.dep (j := 34) (t := 78) (by kernel_rfl) (by kernel_rfl) rfl) (Src.const (.string ⟨#[55]⟩)) (fun w => by simp [go_sem, txt_seven])
    · exact sPickT rfl rfl rfl hz rfl (Gd.none_ rfl) rfl (Src.dep (j := 32) (t := 76) (by kernel_rfl) (by kernel_rfl) rfl) (Src.dep (j := 35) (t := 79) (by kernel_rfl) (by kernel_rfl) rfl)
    · exact sMv rfl rfl rfl hz rfl (Gd.none_ rfl) rfl (Src.dep (j := 36) (t := 80) (by kernel_rfl) (by kernel_rfl) rfl)
    · exact sCall rfl rfl rfl hz rfl (Gd.yes rfl rfl (Src.dep (j := 37) (t := 81) (by kernel_rfl) (by kernel_rfl) rfl) rfl) rfl Try.func28 (by kernel_rfl) (by kernel_rfl) fun a γ w U => (by show Calls _ _ #[.int .u64 256] _ _; exact c_of (by decide))
    · exact sCall rfl rfl rfl hz rfl (Gd.yes rfl rfl (Src.dep (j := 37) (t := 81) (by kernel_rfl) (by kernel_rfl) rfl) rfl) rfl Try.func22 (by kernel_rfl) (by kernel_rfl) fun a γ w U => (by show Calls _ _ #[a.eval (.tmp 82)] _ _; exact c_bytes (Src.at_ (Src.dep (j := 38) (t := 82) (by kernel_rfl) (by kernel_rfl) rfl) U) (by decide))
    · exact sConv (T' := tBy 8 (bytesOf 256)) rfl rfl rfl hz rfl (Gd.yes rfl rfl (Src.dep (j := 37) (t := 81) (by kernel_rfl) (by kernel_rfl) rfl) rfl) rfl (Src.dep (j := 39) (t := 83) (by kernel_rfl) (by kernel_rfl) rfl) (fun v w h => ⟨_, cv_by (lim := 8) (l := bytesOf 256) v w h, rfl⟩)
    · exact sBin rfl rfl rfl hz rfl (Gd.yes rfl rfl (Src.dep (j := 37) (t := 81) (by kernel_rfl) (by kernel_rfl) rfl) rfl) rfl (Src.dep (j := 40) (t := 84) (by kernel_rfl) (by kernel_rfl) rfl) (Src.const (.string ⟨#[1, 0]⟩)) (fun w => by simp [go_sem, bytes_256, str_256])
    · exact sPickT rfl rfl rfl hz rfl (Gd.none_ rfl) rfl (Src.dep (j := 37) (t := 81) (by kernel_rfl) (by kernel_rfl) rfl) (Src.dep (j := 41) (t := 85) (by kernel_rfl) (by kernel_rfl) rfl)
    · exact sAs rfl rfl rfl hz rfl (Gd.none_ rfl) rfl (Src.dep (j := 42) (t := 86) (by kernel_rfl) (by kernel_rfl) rfl)
  intro a' γ' W' hz' hd' hC hk hh
  clear Cp1
  clear Cp5
  clear S0
  clear S1
  clear S5
  clear S6
  clear S7
  clear S8
  clear S9
  clear S10
  clear S11
  clear S13
  have S0 := gotV hz' 43 hh rfl rfl rfl rfl
  replace HB := aft_call HB (RelC.below_nil hC)
  clear hC hk hh; replace hz := hz'; replace hd := hd'; clear hz' hd'
  refine wp_ret ?_
  exact ret1 (by kernel_rfl) S0 hd ⟨_, rfl, rfl, HB⟩
end Go.Proofs.Ytijbhbjenddiaaa.Rg
