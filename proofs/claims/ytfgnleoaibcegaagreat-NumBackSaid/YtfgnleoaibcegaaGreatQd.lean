/-
  Walks and plain laws, put together: SA SB SC SD SI SX TA TM SZ.
-/
import Derived.Test.YtfgnleoaibcegaaGreatQc
import Derived.Below
import Derived.Orders
import Derived.Tactics
import Derived.KernelRfl
import Derived.Test.YtfgnleoaibcegaaGreatXR
import Derived.Test.YtfgnleoaibcegaaGreatXAX
import Derived.Test.YtfgnleoaibcegaaGreatXBB
set_option linter.unusedVariables false
set_option linter.unusedSimpArgs false
namespace Go.Proofs.YtfgnleoaibcegaaGreat.Rg

open Go.RowKit

def digK : IntKind → Bool | .u64 => true | .u8 => true | _ => false
def notDig (v : Value) : Prop := ∀ (k : IntKind) (n : Int), digK k = true → v ≠ .int k n
def VarBlk (w : World) (p : Nat) (T : TypeId) (n : Nat) : Prop := ∃ cs : Array Value, cs.size = n ∧ (∀ x ∈ cs, notDig x) ∧ w.heap[p]? = some (.cells cs T (0, 0))
structure Grow (t : Nat) (γ : Nat → Nat) (w : World) (γ' : Nat → Nat) (w' : World) : Prop where
  os : w'.os = w.os
  tape : w'.tape = w.tape
  output : w'.output = w.output
  size : w.heap.size ≤ w'.heap.size
  tag : ∀ b, b < w.heap.size → γ' b = γ b
  block : ∀ b, b < w.heap.size → (t = 0 ∨ γ b ≠ t) → w'.heap[b]? = w.heap[b]?
  num : ∀ (a : Addr) (k : IntKind) (n : Int), digK k = true → w.cell? a = some (.int k n) → w'.cell? a = some (.int k n)
  var : ∀ (p : Nat) (T : TypeId) (n : Nat), VarBlk w p T n → VarBlk w' p T n

structure Rel where
  sub : Option Nat
  eff : Nat
  tag : Nat
  p : Value → (Nat → Nat) → World → Prop
  st : ∀ (t : Nat) (γ : Nat → Nat) (w : World) (γ' : Nat → Nat) (w' : World) (v : Value), (t = 0 ∨ t ≠ tag) → Grow t γ w γ' w' → p v γ w → p v γ' w'

def tagOf : List Nat → Nat → Nat → Nat
  | [], _, _ => 0
  | m :: l, k, b => if b = m then k else tagOf l (k + 1) b
def mt (M : List Nat) (b : Nat) : Nat := if tagOf M 1000 b = 0 then 0 else 1
def RelC (M : List Nat) (W : World) (γ : Nat → Nat) (w : World) : Prop := Grow 1 (mt M) W (mt M) w ∧ ∀ b, b < W.heap.size → γ b = tagOf M 1000 b
theorem RelC.grow {M : List Nat} {W w w' : World} {t : Nat} {γ γ' : Nat → Nat} (h : RelC M W γ w) (g : Grow t γ w γ' w') : RelC M W γ' w' :=
  ⟨⟨g.os.trans h.1.os, g.tape.trans h.1.tape, g.output.trans h.1.output, Nat.le_trans h.1.size g.size, fun _ _ => rfl, fun b hb ht => by
      have h0 : tagOf M 1000 b = 0 := by
        rcases ht with ht | ht
        · cases ht
        · unfold mt at ht
          by_cases h0 : tagOf M 1000 b = 0
          · exact h0
          · rw [if_neg h0] at ht; exact absurd rfl ht
      rw [← h.1.block b hb ht]
      exact g.block b (Nat.lt_of_lt_of_le hb h.1.size) (by rw [h.2 b hb, h0]; omega),
     fun a k n hk ha => g.num a k n hk (h.1.num a k n hk ha), fun p T n hv => g.var p T n (h.1.var p T n hv)⟩,
   fun b hb => by rw [g.tag b (Nat.lt_of_lt_of_le hb h.1.size)]; exact h.2 b hb⟩

def valOf (ops : Array Oper) (a : Act) (i : Nat) : Value := match (ops[i]?).bind (·.dst) with
  | some t => a.tmps.getD t undef
  | none => undef
def Holds (ops : Array Oper) (rels : List Rel) (i : Nat) (a : Act) (γ : Nat → Nat) (w : World) : Prop := match rels[i]? with
  | some r => r.p (valOf ops a (r.sub.getD i)) γ w
  | none => True
structure Agree (ops : Array Oper) (a0 a : Act) : Prop where
  defers : a.defers = a0.defers
  size : a.tmps.size = a0.tmps.size
  same : ∀ t, (∀ o ∈ ops, o.dst ≠ some t) → a.tmps[t]? = a0.tmps[t]?

def waitsFor (o : Oper) (j : Nat) : Bool := o.after.toList.any fun e => Region.binds .any e && e.on == j
def waitsD (o : Oper) (j : Nat) : Bool := o.after.toList.any fun e => Region.binds .any e && e.on == j && (match e.ground with | .phase => false | _ => true)
theorem waitsD_for {o : Oper} {j : Nat} (h : waitsD o j = true) : waitsFor o j = true := by
  obtain ⟨e, he, h1⟩ := List.any_eq_true.1 h
  exact List.any_eq_true.2 ⟨e, he, (Bool.and_eq_true_iff.1 h1).1⟩
def effOf (rels : List Rel) (i : Nat) : Nat := match rels[i]? with
  | some r => r.eff
  | none => 0
def masks (ops : Array Oper) : List Nat := ops.toList.foldl (fun ms o => ms ++ [o.after.toList.foldl (fun x e => if Region.binds .any e then (x ||| (ms.getD e.on 0)) ||| (1 <<< e.on) else x) 0]) []
def ahead (ops : Array Oper) (j i : Nat) : Bool := ((masks ops).getD j 0).testBit i
def kill (ops : Array Oper) (rels : List Rel) (m j : Nat) : Bool := !(m == j) && !(effOf rels m == 0) && (match rels[j]? with | some rj => effOf rels m == rj.tag | none => false) && !(((masks ops).getD j 0).testBit m)
def alive (ops : Array Oper) (rels : List Rel) (j : Nat) : Bool := (List.range ops.size).all fun m => !kill ops rels m j
def relB (ops : Array Oper) (n : Nat) (rels : List Rel) : Bool :=
  ((List.range ops.size).all fun i => match ops[i]?, rels[i]? with
    | some o, some r =>
      (match o.dst with
        | none => true
        | some d => decide (d < n) && (List.range ops.size).all fun j => j == i || !(((ops[j]?).bind (·.dst)) == some d)) &&
      (match r.sub with
        | none => true
        | some s => waitsFor o s) &&
      (o.after.all fun e => !Region.binds .any e || decide (e.on < i))
    | _, _ => false) &&
  (List.range ops.size).all fun m => effOf rels m == 0 || ((List.range ops.size).all fun j => !kill ops rels m j || (List.range ops.size).all fun i => i == m || (match ops[i]? with | some o => !waitsD o j | none => true) || ((masks ops).getD m 0).testBit i)

def Early (ops : Array Oper) (a0 a : Act) (i : Nat) : Prop := ∀ t, (∀ o ∈ ops, o.dst = some t → waitsFor o i = true) → a.tmps[t]? = a0.tmps[t]?
def dependsT (ops : Array Oper) (rels : List Rel) (i : Nat) (o : Oper) (j : Nat) : Bool :=
  (o.after.toList.any fun e => Region.binds .any e && ((masks ops).getD e.on 0).testBit j) && (List.range ops.size).all fun m => !kill ops rels m j || m == i || ((masks ops).getD m 0).testBit i
def StepOk (P : Program) (ops : Array Oper) (a0 : Act) (M : List Nat) (W : World) (Q : Exit → Act → World → Prop) (rels : List Rel) (i : Nat) (o : Oper) : Prop :=
  ∀ (a : Act) (γ : Nat → Nat) (w : World) (K : Act → World → Prop), RelC M W γ w → Agree ops a0 a → Early ops a0 a i → (∀ j, waitsD o j = true ∨ dependsT ops rels i o j = true → Holds ops rels j a γ w) → (∀ b, b < W.heap.size → (∀ j o', ops[j]? = some o' → j ≠ i → ahead ops j i = false → effOf rels j ≠ tagOf M 1000 b) → w.heap[b]? = W.heap[b]?) →
    (∀ v γ' w', Grow (effOf rels i) γ w γ' w' → Holds ops rels i (a.put o.dst v) γ' w' → K (a.put o.dst v) w') →
    if Region.wanted o (yielded ops a.tmps) = true then o.wp P a w K Q else K (a.put o.dst undef) w

section

variable {P : Program} {ops : Array Oper} {Q : Exit → Act → World → Prop} {a0 : Act} {M : List Nat} {W : World} {rels : List Rel} {listed : Array Bool} {a : Act} {γ : Nat → Nat} {w : World}

theorem relB_dst {n : Nat} (h : relB ops n rels = true) {i : Nat} {o : Oper} {d : Nat} (ho : ops[i]? = some o) (hd : o.dst = some d) : d < n ∧ ∀ j, j ≠ i → (ops[j]?).bind (·.dst) ≠ some d := by
  have hi : i < ops.size := (Array.getElem?_eq_some_iff.1 ho).1
  have h := (Bool.and_eq_true_iff.1 h).1
  have h1 := List.all_eq_true.1 h i (List.mem_range.2 hi)
  rw [ho] at h1
  cases hr : rels[i]? with
  | none => simp [hr] at h1
  | some r =>
    rw [hr] at h1
    simp only [hd, Bool.and_eq_true, decide_eq_true_eq] at h1
    refine ⟨h1.1.1.1, fun j hj he => ?_⟩
    have hjs : j < ops.size := by
      rcases Nat.lt_or_ge j ops.size with h' | h'
      · exact h'
      · rw [Array.getElem?_eq_none h'] at he; cases he
    have h2 := List.all_eq_true.1 h1.1.1.2 j (List.mem_range.2 hjs)
    rw [he] at h2
    simp [hj] at h2
theorem relB_rel {n : Nat} (h : relB ops n rels = true) {i : Nat} {o : Oper} (ho : ops[i]? = some o) :
    ∃ r, rels[i]? = some r ∧ (∀ s, r.sub = some s → waitsFor o s = true) ∧ (∀ e ∈ o.after, Region.binds .any e = true → e.on < i) := by
  have hi : i < ops.size := (Array.getElem?_eq_some_iff.1 ho).1
  have h := (Bool.and_eq_true_iff.1 h).1
  have h1 := List.all_eq_true.1 h i (List.mem_range.2 hi)
  rw [ho] at h1
  cases hr : rels[i]? with
  | none => simp [hr] at h1
  | some r =>
    rw [hr] at h1
    simp only [Bool.and_eq_true] at h1
    refine ⟨r, rfl, fun s hs => ?_, fun e he hbe => ?_⟩
    · have := h1.1.2
      rwa [hs] at this
    · have := Array.all_eq_true_iff_forall_mem.1 h1.2 e he
      rw [hbe] at this
      simpa using this
theorem relB_kill {n : Nat} (h : relB ops n rels = true) {m j i : Nat} {o : Oper} (hk : kill ops rels m j = true) (hm : m < ops.size) (hj : j < ops.size) (ho : ops[i]? = some o) (hw : waitsD o j = true) : i = m ∨ ((masks ops).getD m 0).testBit i = true := by
  have hi : i < ops.size := (Array.getElem?_eq_some_iff.1 ho).1
  have h1 := List.all_eq_true.1 (Bool.and_eq_true_iff.1 h).2 m (List.mem_range.2 hm)
  rcases Bool.or_eq_true_iff.1 h1 with h2 | h2
  · unfold kill at hk
    rw [h2] at hk
    simp at hk
  · have h3 := List.all_eq_true.1 h2 j (List.mem_range.2 hj)
    rw [hk] at h3
    simp only [Bool.not_true, Bool.false_or] at h3
    have h4 := List.all_eq_true.1 h3 i (List.mem_range.2 hi)
    rw [ho] at h4
    simp only [hw, Bool.not_true, Bool.or_false, Bool.or_eq_true, beq_iff_eq] at h4
    exact h4

theorem valOf_put {a : Act} {i j : Nat} {o : Oper} {n : Nat} (h : relB ops n rels = true) (ho : ops[i]? = some o) (hj : j ≠ i) (v : Value) : valOf ops (a.put o.dst v) j = valOf ops a j := by
  unfold valOf
  cases hd : o.dst with
  | none => rfl
  | some d =>
    have h1 := (relB_dst h ho hd).2 j hj
    cases ht : (ops[j]?).bind (·.dst) with
    | none => rfl
    | some t =>
      have hne : d ≠ t := by rintro rfl; exact h1 ht
      simp [Act.put, Array.getElem?_setIfInBounds_ne hne]

theorem agree_put {a : Act} {i : Nat} {o : Oper} (h : Agree ops a0 a) (ho : ops[i]? = some o) (v : Value) : Agree ops a0 (a.put o.dst v) := by
  cases hd : o.dst with
  | none => exact h
  | some d =>
    refine ⟨h.defers, by simpa [Act.put] using h.size, fun t ht => ?_⟩
    have hne : d ≠ t := by rintro rfl; exact ht o (Array.mem_of_getElem? ho) hd
    simp only [Act.put, Array.getElem?_setIfInBounds_ne hne]
    exact h.same t ht

structure Inv (ops : Array Oper) (rels : List Rel) (a0 : Act) (M : List Nat) (W : World) (listed : Array Bool) (a : Act) (γ : Nat → Nat) (w : World) : Prop where
  c : RelC M W γ w
  ag : Agree ops a0 a
  size : listed.size = ops.size
  held : ∀ j, listed.getD j false = true → (∀ m, kill ops rels m j = true → listed.getD m false = false) → Holds ops rels j a γ w
  subs : ∀ j r s, listed.getD j false = true → rels[j]? = some r → r.sub = some s → listed.getD s false = true
  un : ∀ (j : Nat) (o : Oper) (t : Nat), ops[j]? = some o → o.dst = some t → listed.getD j false = false → a.tmps[t]? = a0.tmps[t]?
  cl : ∀ (j : Nat) (o : Oper) (k : Nat), ops[j]? = some o → listed.getD j false = true → waitsFor o k = true → listed.getD k false = true
  kp : ∀ b, b < W.heap.size → (∀ j, listed.getD j false = true → effOf rels j ≠ tagOf M 1000 b) → w.heap[b]? = W.heap[b]?

theorem getD_listed {listed : Array Bool} {i j : Nat} (hi : i < listed.size) : (listed.setIfInBounds i true).getD j false = (if i = j then true else listed.getD j false) := by
  by_cases h : i = j
  · subst h; simp [hi]
  · rw [if_neg h]; simp [Array.getElem?_setIfInBounds_ne h]

theorem ready_nil_all {listed : Array Bool} (hsz : listed.size = ops.size) (hac : ∀ (i : Nat) (o : Oper), ops[i]? = some o → ∀ e ∈ o.after, Region.binds .any e = true → e.on < i) (h : Region.ready .any ops listed = []) : ∀ i, i < ops.size → listed.getD i false = true := by
  intro i
  induction i using Nat.strongRecOn with
  | ind i ih =>
    intro hi
    cases hl : listed.getD i false with
    | true => rfl
    | false =>
      have : i ∈ Region.ready .any ops listed := by
        refine mem_ready.2 ⟨?_, ops[i], Array.getElem?_eq_getElem hi, fun e he hb => ih e.on (hac i _ (Array.getElem?_eq_getElem hi) e he hb) (Nat.lt_trans (hac i _ (Array.getElem?_eq_getElem hi) e he hb) hi)⟩
        have : i < listed.size := by omega
        simp [this] at hl ⊢
        exact hl
      rw [h] at this
      cases this

theorem Inv.early (h : Inv ops rels a0 M W listed a γ w) {i : Nat} (hi : listed.getD i false = false) : Early ops a0 a i := by
  intro t ht
  by_cases hex : ∃ o ∈ ops, o.dst = some t
  · obtain ⟨o, ho, hd⟩ := hex
    obtain ⟨j, hj, rfl⟩ := Array.mem_iff_getElem.1 ho
    refine h.un j _ t (Array.getElem?_eq_getElem hj) hd ?_
    cases hl : listed.getD j false with
    | false => rfl
    | true =>
      have := h.cl j _ i (Array.getElem?_eq_getElem hj) hl (ht _ ho hd)
      rw [hi] at this; cases this
  · exact h.ag.same t fun o ho hd => hex ⟨o, ho, hd⟩

theorem mask_fold (ms : List Nat) (i : Nat) : ∀ (l : List Edge) (x : Nat), (l.foldl (fun x e => if Region.binds .any e then (x ||| (ms.getD e.on 0)) ||| (1 <<< e.on) else x) x).testBit i = true → x.testBit i = true ∨ ∃ e ∈ l, Region.binds .any e = true ∧ ((ms.getD e.on 0).testBit i = true ∨ i = e.on) := by
  intro l
  induction l with
  | nil => intro x h; exact .inl h
  | cons e l ih =>
    intro x h
    rw [List.foldl_cons] at h
    rcases ih _ h with h1 | ⟨e', he', h2⟩
    · by_cases hb : Region.binds .any e = true
      · rw [if_pos hb] at h1
        rw [Nat.testBit_or, Nat.testBit_or, Bool.or_eq_true, Bool.or_eq_true] at h1
        rcases h1 with (h1 | h1) | h1
        · exact .inl h1
        · exact .inr ⟨e, List.mem_cons_self, hb, .inl h1⟩
        · refine .inr ⟨e, List.mem_cons_self, hb, .inr ?_⟩
          rw [Nat.shiftLeft_eq, Nat.one_mul, Nat.testBit_two_pow] at h1
          exact (show e.on = i by simpa using h1).symm
      · rw [if_neg hb] at h1; exact .inl h1
    · exact .inr ⟨e', List.mem_cons_of_mem _ he', h2⟩
theorem Inv.closed (h : Inv ops rels a0 M W listed a γ w) : ∀ (m i : Nat), listed.getD m false = true → ((masks ops).getD m 0).testBit i = true → listed.getD i false = true := by
  have key : ∀ (l pre : List Oper) (ms : List Nat), ops.toList = pre ++ l → ms.length = pre.length → (∀ m i, m < ms.length → listed.getD m false = true → (ms.getD m 0).testBit i = true → listed.getD i false = true) →
      ∀ m i, listed.getD m false = true → ((l.foldl (fun ms o => ms ++ [o.after.toList.foldl (fun x e => if Region.binds .any e then (x ||| (ms.getD e.on 0)) ||| (1 <<< e.on) else x) 0]) ms).getD m 0).testBit i = true → listed.getD i false = true := by
    intro l
    induction l with
    | nil =>
      intro pre ms hpre hlen hms m i hm hi
      by_cases hml : m < ms.length
      · exact hms m i hml hm hi
      · rw [List.foldl_nil, List.getD_eq_getElem?_getD, List.getElem?_eq_none (by omega)] at hi
        simp at hi
    | cons o l ih =>
      intro pre ms hpre hlen hms m i hm hi
      rw [List.foldl_cons] at hi
      refine ih (pre ++ [o]) _ (by rw [hpre]; simp) (by simp [hlen]) (fun m' i' hm' hl' hb' => ?_) m i hm hi
      rw [List.length_append, List.length_singleton] at hm'
      by_cases hlt : m' < ms.length
      · rw [List.getD_eq_getElem?_getD, List.getElem?_append_left hlt, ← List.getD_eq_getElem?_getD] at hb'
        exact hms m' i' hlt hl' hb'
      · obtain rfl : m' = ms.length := by omega
        rw [List.getD_eq_getElem?_getD, List.getElem?_append_right (Nat.le_refl _)] at hb'
        simp only [Nat.sub_self, List.getElem?_cons_zero, Option.getD_some] at hb'
        have ho : ops[ms.length]? = some o := by
          have : ops.toList[ms.length]? = some o := by rw [hpre, hlen, List.getElem?_append_right (Nat.le_refl _)]; simp
          simpa using this
        rcases mask_fold ms i' _ _ hb' with h0 | ⟨e, he, hb, h1⟩
        · simp at h0
        · have hw : listed.getD e.on false = true := h.cl _ o e.on ho hl' (List.any_eq_true.2 ⟨e, he, by rw [hb]; simp⟩)
          rcases h1 with h1 | h1
          · by_cases hel : e.on < ms.length
            · exact hms e.on i' hel hw h1
            · rw [List.getD_eq_getElem?_getD, List.getElem?_eq_none (by omega)] at h1; simp at h1
          · rw [h1]; exact hw
  exact key ops.toList [] [] rfl rfl fun m i hm => absurd hm (by simp)
theorem Inv.keep (h : Inv ops rels a0 M W listed a γ w) {i : Nat} (hf : listed.getD i false = false) : ∀ b, b < W.heap.size → (∀ j o', ops[j]? = some o' → j ≠ i → ahead ops j i = false → effOf rels j ≠ tagOf M 1000 b) → w.heap[b]? = W.heap[b]? := by
  intro b hb hne
  refine h.kp b hb fun j hj => ?_
  have hjs : j < ops.size := by
    rcases Nat.lt_or_ge j ops.size with h' | h'
    · exact h'
    · rw [← h.size] at h'; simp [Array.getElem?_eq_none h'] at hj
  refine hne j _ (Array.getElem?_eq_getElem hjs) ?_ ?_
  · rintro rfl
    rw [hf] at hj; cases hj
  · cases hw : ahead ops j i with
    | false => rfl
    | true =>
      have := h.closed j i hj hw
      rw [hf] at this; cases this

theorem Inv.next (hB : relB ops a0.tmps.size rels = true) (hI : Inv ops rels a0 M W listed a γ w) {i : Nat} {o : Oper} (ho : ops[i]? = some o) (hfalse : listed.getD i false = false) (hlisted : ∀ j, waitsFor o j = true → listed.getD j false = true)
    {v : Value} {γ' : Nat → Nat} {w' : World} (hg : Grow (effOf rels i) γ w γ' w') (hh : Holds ops rels i (a.put o.dst v) γ' w') : Inv ops rels a0 M W (listed.setIfInBounds i true) (a.put o.dst v) γ' w' := by
  have hlt : i < ops.size := (Array.getElem?_eq_some_iff.1 ho).1
  have hlt' : i < listed.size := by rw [hI.size]; exact hlt
  obtain ⟨r, hr, hsub, hac⟩ := relB_rel hB ho
  have hself : waitsFor o i = false := by
    cases hw : waitsFor o i with
    | false => rfl
    | true =>
      obtain ⟨e, he', hb⟩ := List.any_eq_true.1 hw
      have he : e ∈ o.after := by simpa using he'
      simp only [Bool.and_eq_true, beq_iff_eq] at hb
      have := hac e he hb.1
      omega
  refine ⟨hI.c.grow hg, agree_put hI.ag ho v, by rw [Array.size_setIfInBounds]; exact hI.size, fun j hj hnk => ?_, fun j rj s hj hrj hs => ?_, fun j oj t hoj hd hj => ?_, fun j oj k hoj hj hk => ?_, fun b hb hne => ?_⟩
  · rw [getD_listed hlt'] at hj
    by_cases hij : i = j
    · subst hij; exact hh
    · rw [if_neg hij] at hj
      have h0 := hI.held j hj fun m hm => by
        have := hnk m hm
        rw [getD_listed hlt'] at this
        by_cases him : i = m
        · rw [if_pos him] at this; cases this
        · rwa [if_neg him] at this
      have hki : kill ops rels i j = false := by
        cases hk : kill ops rels i j with
        | false => rfl
        | true => have := hnk i hk; rw [getD_listed hlt', if_pos rfl] at this; cases this
      unfold Holds at h0 ⊢
      cases hrj : rels[j]? with
      | none => trivial
      | some rj =>
        rw [hrj] at h0
        have hjs : j < ops.size := by
          rcases Nat.lt_or_ge j ops.size with h' | h'
          · exact h'
          · rw [← hI.size] at h'; simp [Array.getElem?_eq_none h'] at hj
        have he : effOf rels i = 0 ∨ effOf rels i ≠ rj.tag := by
          by_cases e0 : effOf rels i = 0
          · exact .inl e0
          · refine .inr fun e1 => ?_
            unfold kill at hki
            rw [hrj] at hki
            have hw : ((masks ops).getD j 0).testBit i = true := by
              cases hw : ((masks ops).getD j 0).testBit i with
              | true => rfl
              | false => rw [hw] at hki; simp [hij, e1] at hki; exact absurd (e1.trans hki) e0
            have := hI.closed j i hj hw
            rw [hfalse] at this; cases this
        have hsi : rj.sub.getD j ≠ i := by
          cases hs : rj.sub with
          | none => simpa using Ne.symm hij
          | some s =>
            intro e
            simp at e
            subst e
            have := hI.subs j rj s hj hrj hs
            rw [hfalse] at this; cases this
        show rj.p (valOf ops (a.put o.dst v) (rj.sub.getD j)) γ' w'
        rw [valOf_put hB ho hsi]
        exact rj.st _ γ w γ' w' _ he hg h0
  · rw [getD_listed hlt'] at hj ⊢
    by_cases his : i = s
    · rw [if_pos his]
    · rw [if_neg his]
      by_cases hij : i = j
      · subst hij
        rw [hr] at hrj; cases hrj
        exact hlisted s (hsub s hs)
      · rw [if_neg hij] at hj
        exact hI.subs j rj s hj hrj hs
  · rw [getD_listed hlt'] at hj
    have hij : i ≠ j := by rintro rfl; simp at hj
    rw [if_neg hij] at hj
    rw [← hI.un j oj t hoj hd hj]
    cases hdo : o.dst with
    | none => rfl
    | some d =>
      have hne : d ≠ t := by
        rintro rfl
        exact (relB_dst hB ho hdo).2 j (Ne.symm hij) (by rw [hoj]; exact hd)
      simp [Act.put, Array.getElem?_setIfInBounds_ne hne]
  · rw [getD_listed hlt'] at hj ⊢
    by_cases hik : i = k
    · rw [if_pos hik]
    · rw [if_neg hik]
      by_cases hij : i = j
      · subst hij
        rw [ho] at hoj; cases hoj
        exact hlisted k hk
      · rw [if_neg hij] at hj
        exact hI.cl j oj k hoj hj hk
  · rw [← hI.kp b hb fun j hj => hne j (by rw [getD_listed hlt']; by_cases hij : i = j; · rw [if_pos hij]
                                           · rw [if_neg hij]; exact hj)]
    refine hg.block b (Nat.lt_of_lt_of_le hb hI.c.1.size) ?_
    have h1 := hne i (by rw [getD_listed hlt', if_pos rfl])
    rw [hI.c.2 b hb]
    by_cases h0 : effOf rels i = 0
    · exact .inl h0
    · exact .inr (Ne.symm h1)

theorem Inv.dep (hB : relB ops a0.tmps.size rels = true) (h : Inv ops rels a0 M W listed a γ w) {i : Nat} {o : Oper} (ho : ops[i]? = some o) (hf : listed.getD i false = false) {j : Nat} (hj : waitsD o j = true) (hl : listed.getD j false = true) : Holds ops rels j a γ w := by
  have hsz : ∀ m, listed.getD m false = true → m < ops.size := fun m hm => by
    rcases Nat.lt_or_ge m ops.size with h' | h'
    · exact h'
    · rw [← h.size] at h'; simp [Array.getElem?_eq_none h'] at hm
  refine h.held j hl fun m hm => ?_
  cases hlm : listed.getD m false with
  | false => rfl
  | true =>
    rcases relB_kill hB hm (hsz m hlm) (hsz j hl) ho hj with e | e
    · rw [e, hlm] at hf; cases hf
    · have := h.closed m i hlm e
      rw [hf] at this; cases this
theorem Inv.depT (h : Inv ops rels a0 M W listed a γ w) {i : Nat} {o : Oper} (hf : listed.getD i false = false) (hlisted : ∀ j, waitsFor o j = true → listed.getD j false = true) {j : Nat} (hj : dependsT ops rels i o j = true) : Holds ops rels j a γ w := by
  obtain ⟨h1, h2⟩ := Bool.and_eq_true_iff.1 hj
  obtain ⟨e, he, h3⟩ := List.any_eq_true.1 h1
  obtain ⟨hb, h4⟩ := Bool.and_eq_true_iff.1 h3
  have hl := h.closed e.on j (hlisted e.on (List.any_eq_true.2 ⟨e, he, by rw [hb]; simp⟩)) h4
  refine h.held j hl fun m hm => ?_
  cases hlm : listed.getD m false with
  | false => rfl
  | true =>
    have hsz : m < ops.size := by
      rcases Nat.lt_or_ge m ops.size with h' | h'
      · exact h'
      · rw [← h.size] at h'; simp [Array.getElem?_eq_none h'] at hlm
    have h5 := List.all_eq_true.1 h2 m (List.mem_range.2 hsz)
    rw [hm] at h5
    simp only [Bool.not_true, Bool.false_or, Bool.or_eq_true, beq_iff_eq] at h5
    rcases h5 with e | e
    · rw [← e, hlm] at hf; cases hf
    · have := h.closed m i hlm e
      rw [hf] at this; cases this
theorem alive_not {j : Nat} (h : alive ops rels j = true) (hsz : listed.size = ops.size) : ∀ m, kill ops rels m j = true → listed.getD m false = false := by
  intro m hm
  by_cases hlt : m < ops.size
  · have := List.all_eq_true.1 h m (List.mem_range.2 hlt)
    rw [hm] at this; cases this
  · simp [Array.getElem?_eq_none (show listed.size ≤ m by omega)]
theorem wpAny_rel (hB : relB ops a0.tmps.size rels = true) (hstep : ∀ i o, ops[i]? = some o → StepOk P ops a0 M W Q rels i o)
    (hend : ∀ a γ w', RelC M W γ w' → Agree ops a0 a → (∀ i, i < ops.size → alive ops rels i = true → Holds ops rels i a γ w') → Q .normal a w') :
    ∀ (fuel : Nat) (listed : Array Bool) (a : Act) (γ : Nat → Nat) (w : World), Inv ops rels a0 M W listed a γ w → listed.toList.countP (· == false) ≤ fuel → wpAny P .any ops Q fuel listed a w := by
  have hac : ∀ (i : Nat) (o : Oper), ops[i]? = some o → ∀ e ∈ o.after, Region.binds .any e = true → e.on < i := fun i o ho => by obtain ⟨r, _, _, h⟩ := relB_rel hB ho; exact h
  intro fuel
  induction fuel with
  | zero =>
    intro listed a γ w hI hc
    have hall : ∀ i, i < ops.size → listed.getD i false = true := by
      intro i hi
      have h0 : listed.toList.countP (· == false) = 0 := by omega
      rw [List.countP_eq_zero] at h0
      have hi' : i < listed.size := by rw [hI.size]; exact hi
      have := h0 listed[i] (by simp)
      simp [hi'] at this ⊢
      exact this
    refine ⟨?_, hend a γ w hI.c hI.ag fun i hi ha => hI.held i (hall i hi) (alive_not ha hI.size)⟩
    cases hr : Region.ready .any ops listed with
    | nil => rfl
    | cons i l =>
      have hi : i ∈ Region.ready .any ops listed := by rw [hr]; exact List.mem_cons_self
      obtain ⟨h1, o, ho, _⟩ := mem_ready.1 hi
      have hlt : i < ops.size := (Array.getElem?_eq_some_iff.1 ho).1
      have h2 := hall i hlt
      have hlt' : i < listed.size := by rw [hI.size]; exact hlt
      simp [hlt'] at h1 h2
      rw [h1] at h2; cases h2
  | succ fuel ih =>
    intro listed a γ w hI hc
    refine ⟨fun hr => hend a γ w hI.c hI.ag fun i hi ha => hI.held i (ready_nil_all hI.size hac hr i hi) (alive_not ha hI.size), fun i hi => ?_⟩
    obtain ⟨h1, o, ho, hdep⟩ := mem_ready.1 hi
    have hlt : i < ops.size := (Array.getElem?_eq_some_iff.1 ho).1
    have hlt' : i < listed.size := by rw [hI.size]; exact hlt
    have hfalse : listed[i]'hlt' = false := by simp [hlt'] at h1; exact h1
    have hfalse' : listed.getD i false = false := by simp [hlt', hfalse]
    have hcnt : (listed.setIfInBounds i true).toList.countP (· == false) ≤ fuel := by
      rw [Array.toList_setIfInBounds, List.countP_set (by simpa using hlt')]
      rw [if_pos (by simpa using hfalse), if_neg (by decide)]
      omega
    have hlisted : ∀ j, waitsFor o j = true → listed.getD j false = true := by
      intro j hj
      obtain ⟨e, he', hb⟩ := List.any_eq_true.1 hj
      have he : e ∈ o.after := by simpa using he'
      simp only [Bool.and_eq_true, beq_iff_eq] at hb
      rw [← hb.2]; exact hdep e he hb.1
    have hs := hstep i o ho a γ w (wpAny P .any ops Q fuel (listed.setIfInBounds i true)) hI.c hI.ag (hI.early hfalse') (fun j hj => hj.elim (fun hj => hI.dep hB ho hfalse' hj (hlisted j (waitsD_for hj))) fun hj => hI.depT hfalse' hlisted hj) (hI.keep hfalse') (fun v γ' w' hg hh => ih _ _ γ' w' (hI.next hB ho hfalse' hlisted hg hh) hcnt)
    unfold wpOp
    simp only [ho]
    split
    · rename_i hw; rw [if_pos hw] at hs; exact .inl hs
    · rename_i hw; rw [if_neg hw] at hs; exact hs

def AllSteps (S : Nat → Oper → Prop) : Nat → List Oper → Prop
  | _, [] => True
  | k, o :: l => S k o ∧ AllSteps S (k + 1) l
theorem AllSteps.at_ {S : Nat → Oper → Prop} : ∀ {l : List Oper} {k : Nat}, AllSteps S k l → ∀ (i : Nat) (o : Oper), l[i]? = some o → S (k + i) o
  | [], _, _, i, o, h => by simp at h
  | x :: l, k, h, 0, o, ho => by simp at ho; subst ho; exact h.1
  | x :: l, k, h, i + 1, o, ho => by
    have := h.2.at_ i o (by simpa using ho)
    rw [show k + (i + 1) = k + 1 + i by omega]; exact this

theorem Inv.start : Inv ops rels a0 M W (Array.replicate ops.size false) a0 (tagOf M 1000) W.drew := by
  have h0 : ∀ j, (Array.replicate ops.size false).getD j false = false := by
    intro j
    simp only [Array.getD_eq_getD_getElem?, Array.getElem?_replicate]
    split <;> rfl
  exact ⟨⟨⟨rfl, rfl, rfl, Nat.le_refl _, fun _ _ => rfl, fun _ _ _ => rfl, fun _ _ _ _ h => h, fun _ _ _ h => h⟩, fun _ _ => rfl⟩, ⟨rfl, rfl, fun _ _ => rfl⟩, by simp, fun j hj => absurd hj (by rw [h0]; exact Bool.false_ne_true), fun j r s hj _ _ => absurd hj (by rw [h0]; exact Bool.false_ne_true),
    fun _ _ _ _ _ _ => rfl, fun j _ _ _ hj _ => absurd hj (by rw [h0]; exact Bool.false_ne_true), fun _ _ _ => rfl⟩
theorem Inv.start' : Inv ops rels a0 M W (Array.replicate ops.size false) a0 (tagOf M 1000) W := by
  have h0 : ∀ j, (Array.replicate ops.size false).getD j false = false := by
    intro j
    simp only [Array.getD_eq_getD_getElem?, Array.getElem?_replicate]
    split <;> rfl
  exact ⟨⟨⟨rfl, rfl, rfl, Nat.le_refl _, fun _ _ => rfl, fun _ _ _ => rfl, fun _ _ _ _ h => h, fun _ _ _ h => h⟩, fun _ _ => rfl⟩, ⟨rfl, rfl, fun _ _ => rfl⟩, by simp, fun j hj => absurd hj (by rw [h0]; exact Bool.false_ne_true), fun j r s hj _ _ => absurd hj (by rw [h0]; exact Bool.false_ne_true),
    fun _ _ _ _ _ _ => rfl, fun j _ _ _ hj _ => absurd hj (by rw [h0]; exact Bool.false_ne_true), fun _ _ _ => rfl⟩

theorem wp_region_rel {id : Nat} {l : List Oper} (rels : List Rel) (hm : P.follows .mixedOrders = true) (hB : relB l.toArray a0.tmps.size rels = true)
    (hstep : AllSteps (StepOk P l.toArray a0 M W Q rels) 0 l)
    (hend : ∀ a γ w', RelC M W γ w' → Agree l.toArray a0 a → (∀ i, i < l.length → alive l.toArray rels i = true → Holds l.toArray rels i a γ w') → Q .normal a w') : (Code.region id l.toArray true).wp P Q a0 W := by
  refine wp_region_any hm (wpAny_rel hB (fun i o ho => ?_) hend _ _ a0 (tagOf M 1000) _ Inv.start ?_)
  · have := hstep.at_ i o (by simpa using ho)
    rwa [Nat.zero_add] at this
  · exact Nat.le_trans List.countP_le_length (by simp)

theorem wpList_rel {l0 : List Oper} (hB : relB l0.toArray a0.tmps.size rels = true)
    (hend : ∀ a γ w', RelC M W γ w' → Agree l0.toArray a0 a → (∀ i, i < l0.length → alive l0.toArray rels i = true → Holds l0.toArray rels i a γ w') → Q .normal a w') :
    ∀ (l : List Oper) (k : Nat) (listed : Array Bool) (a : Act) (γ : Nat → Nat) (w : World), (∀ i, l[i]? = l0[k + i]?) → k + l.length = l0.length → AllSteps (StepOk P l0.toArray a0 M W Q rels) k l →
      Inv l0.toArray rels a0 M W listed a γ w → (∀ i, listed.getD i false = decide (i < k)) → wpList P l0.toArray Q l a w
  | [], k, listed, a, γ, w, hl, hk, _, hI, hlist => by
    refine wpList_nil (hend a γ w hI.c hI.ag fun i hi ha => hI.held i ?_ (alive_not ha hI.size))
    rw [hlist]; simp at hk; exact decide_eq_true (by omega)
  | o :: l, k, listed, a, γ, w, hl, hk, hst, hI, hlist => by
    have ho : l0.toArray[k]? = some o := by have := hl 0; simp at this; simpa using this.symm
    have hf : listed.getD k false = false := by rw [hlist]; exact decide_eq_false (by omega)
    obtain ⟨r, hr, hsub, hac⟩ := relB_rel hB ho
    have hw : ∀ j, waitsFor o j = true → listed.getD j false = true := by
      intro j hj
      obtain ⟨e, he', hb⟩ := List.any_eq_true.1 hj
      have he : e ∈ o.after := by simpa using he'
      simp only [Bool.and_eq_true, beq_iff_eq] at hb
      have := hac e he hb.1
      rw [hlist]; exact decide_eq_true (by omega)
    have hks : k < listed.size := by rw [hI.size]; exact (Array.getElem?_eq_some_iff.1 ho).1
    refine wpList_step fun K hK => ?_
    refine hst.1 a γ w K hI.c hI.ag (hI.early hf) (fun j hj => hj.elim (fun hj => hI.dep hB ho hf hj (hw j (waitsD_for hj))) fun hj => hI.depT hf hw hj) (hI.keep hf) (fun v γ' w' hg hh => hK _ _ ?_)
    refine wpList_rel hB hend l (k + 1) (listed.setIfInBounds k true) _ γ' w' (fun i => by have := hl (i + 1); simpa [Nat.add_assoc, Nat.add_comm 1 i] using this) (by simp at hk; omega) hst.2 (hI.next hB ho hf hw hg hh) fun i => ?_
    rw [getD_listed hks, hlist]
    by_cases hki : k = i
    · rw [if_pos hki]; exact (decide_eq_true (by omega)).symm
    · rw [if_neg hki, decide_eq_decide]; omega
theorem wp_region_rel_text {id : Nat} {l : List Oper} (rels : List Rel) (hB : relB l.toArray a0.tmps.size rels = true)
    (hstep : AllSteps (StepOk P l.toArray a0 M W Q rels) 0 l)
    (hend : ∀ a γ w', RelC M W γ w' → Agree l.toArray a0 a → (∀ i, i < l.length → alive l.toArray rels i = true → Holds l.toArray rels i a γ w') → Q .normal a w') : (Code.region id l.toArray false).wp P Q a0 W :=
  wp_region_lit (wpList_rel hB hend l 0 _ a0 (tagOf M 1000) W (fun i => by rw [Nat.zero_add]) (by simp) hstep Inv.start' fun i => by
    simp only [Array.getD_eq_getD_getElem?, Array.getElem?_replicate]
    split <;> simp)
end

end Go.Proofs.YtfgnleoaibcegaaGreat.Rg

namespace Go.Proofs.YtfgnleoaibcegaaGreat.Rg

open Go.RowKit

def cutTag (γ : Nat → Nat) (w : World) : Nat → Nat := fun b => if b < w.heap.size then γ b else 0
def newTag (γ : Nat → Nat) (w : World) (t : Nat) : Nat → Nat := fun b => if b = w.heap.size then t else γ b
section

variable {γ γ' : Nat → Nat} {w w' : World} {t : Nat}
theorem num_below (hb : Below w.heap.size w w') (a : Addr) (k : IntKind) (n : Int) (h : w.cell? a = some (.int k n)) : w'.cell? a = some (.int k n) := (hb.cell (World.block_lt_of_cell? w a h)).trans h
theorem VarBlk.lt {p n : Nat} {T : TypeId} (h : VarBlk w p T n) : p < w.heap.size := by
  obtain ⟨cs, _, _, h⟩ := h
  exact Blk.lt (t := T) (cs := cs) h
theorem var_below (hb : Below w.heap.size w w') (p : Nat) (T : TypeId) (n : Nat) (h : VarBlk w p T n) : VarBlk w' p T n := by
  have hl := h.lt
  obtain ⟨cs, h1, h2, h3⟩ := h
  exact ⟨cs, h1, h2, (hb.block p hl).trans h3⟩
theorem Grow.below (γ : Nat → Nat) (hb : Below w.heap.size w w') : Grow 0 γ w (cutTag γ w) w' :=
  ⟨hb.os, hb.tape, hb.output, hb.size, fun b h => by simp [cutTag, h], fun b h _ => hb.block b h, fun a k n _ => num_below hb a k n, var_below hb⟩
theorem Grow.refl_ (γ : Nat → Nat) (w : World) : Grow 0 γ w γ w := ⟨rfl, rfl, rfl, Nat.le_refl _, fun _ _ => rfl, fun _ _ _ => rfl, fun _ _ _ _ h => h, fun _ _ _ h => h⟩
theorem Grow.alloc (γ : Nat → Nat) (w : World) (o : Obj) (t : Nat) : Grow 0 γ w (newTag γ w t) (w.alloc o) := by
  have hb : Below w.heap.size w (w.alloc o) := (Below.refl _ _).alloc (Nat.le_refl _) _
  exact ⟨hb.os, hb.tape, hb.output, hb.size, fun b h => by simp only [newTag]; rw [if_neg (by omega)], fun b h _ => hb.block b h, fun a k n _ => num_below hb a k n, var_below hb⟩
structure But (p : Nat) (w w' : World) : Prop where
  os : w'.os = w.os
  tape : w'.tape = w.tape
  output : w'.output = w.output
  size : w'.heap.size = w.heap.size
  block : ∀ b, b ≠ p → w'.heap[b]? = w.heap[b]?
theorem But.set1 (w : World) (p o : Nat) (u : Value) : But p w (w.setCell ⟨p, o, none⟩ u) :=
  ⟨rfl, rfl, rfl, by simp [World.setCell], fun b hb => Below.heap_setCell w ⟨p, o, none⟩ u b hb⟩
theorem But.trans {p : Nat} {w w' w'' : World} (h : But p w w') (g : But p w' w'') : But p w w'' := ⟨g.os.trans h.os, g.tape.trans h.tape, g.output.trans h.output, g.size.trans h.size, fun b hb => (g.block b hb).trans (h.block b hb)⟩
theorem Grow.but {p : Nat} {T : TypeId} {us cs : Array Value} (γ : Nat → Nat) (ht0 : t ≠ 0) (hγ : γ p = t) (hu : ∀ u ∈ us, notDig u) (hc : ∀ u ∈ cs, notDig u) (hsz : us.size = cs.size) (h1 : Blk w p T us) (h2 : Blk w' p T cs) (hb : But p w w') : Grow t γ w γ w' := by
  refine ⟨hb.os, hb.tape, hb.output, by rw [hb.size]; exact Nat.le_refl _, fun _ _ => rfl, fun b hlt ht => ?_, fun a k n hk ha => ?_, fun q T' n hq => ?_⟩
  · refine hb.block b ?_
    rintro rfl
    exact ht.elim ht0 (fun h => h hγ)
  · by_cases hap : a.block = p
    · exfalso
      have h3 : w.heap[a.block]? = some (.cells us T (0, 0)) := by rw [hap]; exact h1
      have hmem : ∃ x ∈ us, x = .int k n := by
        obtain ⟨b, o, s⟩ := a
        simp only at hap
        subst hap
        cases s with
        | none =>
          have := Blk.cell h1 o
          rw [ha] at this
          exact ⟨_, Array.mem_of_getElem? this.symm, rfl⟩
        | some s => simp [World.cell?, h3] at ha
      obtain ⟨x, hx, e⟩ := hmem
      exact hu x hx k n hk e
    · rw [World.cell?_of_block (hb.block a.block hap)]; exact ha
  · obtain ⟨ds, h3, h4, h5⟩ := hq
    by_cases hqp : q = p
    · subst hqp
      have h1' : w.heap[q]? = some (.cells us T (0, 0)) := h1
      rw [h1'] at h5
      injection h5 with h5
      injection h5 with e1 e2 e3
      exact ⟨cs, by rw [← hsz, e1]; exact h3, hc, by rw [← e2]; exact h2⟩
    · exact ⟨ds, h3, h4, (hb.block q hqp).trans h5⟩
theorem Grow.blk (g : Grow t γ w γ' w') {p : Nat} {T : TypeId} {cs : Array Value} (h : t = 0 ∨ γ p ≠ t) (hb : Blk w p T cs) : Blk w' p T cs := (g.block p hb.lt h).trans hb
theorem dat_grow {b : Nat} {A : Option Addr} {n c x : Nat} (g : Grow t γ w γ' w') (h : DAt b w A n c x) : DAt b w' A n c x := by
  refine ⟨⟨h.reads.1, fun hn => ?_⟩, h.cap, h.room⟩
  obtain ⟨ad, e, hb, hc⟩ := h.reads.2 hn
  refine ⟨ad, e, Nat.lt_of_lt_of_le hb g.size, fun j v hv => ?_⟩
  obtain ⟨d, _, rfl⟩ := List.mem_map.1 (List.mem_of_getElem? hv)
  exact g.num _ _ _ rfl (hc j _ hv)
theorem RelC.below {M : List Nat} {W w : World} (h : RelC M W γ w) (hM : ∀ b, b < W.heap.size → tagOf M 1000 b = 0) : Below W.heap.size W w :=
  ⟨h.1.os, h.1.tape, h.1.output, h.1.size, fun b hb => h.1.block b hb (.inr (by unfold mt; rw [if_pos (hM b hb)]; omega))⟩
theorem RelC.below_nil {W w : World} (h : RelC [] W γ w) : Below W.heap.size W w := h.below fun _ _ => rfl
end

/-! ### What is known of a value -/
structure Ty where
  p : Value → World → Prop
  l : ∀ (t : Nat) (γ : Nat → Nat) (w : World) (γ' : Nat → Nat) (w' : World) (v : Value), Grow t γ w γ' w' → p v w → p v w'
theorem Ty.below {w w' : World} (T : Ty) {v : Value} (h : T.p v w) (hb : Below w.heap.size w w') : T.p v w' := T.l _ _ _ _ _ _ (Grow.below (fun _ => 0) hb) h
theorem Ty.drew {w : World} (T : Ty) {v : Value} (h : T.p v w) : T.p v w.drew := T.below h (Below.refl _ _).drew
theorem Ty.al {w : World} (T : Ty) {v : Value} (h : T.p v w) (o : Obj) : T.p v (w.alloc o) := T.below h ((Below.refl _ _).alloc (Nat.le_refl _) _)
theorem Ty.aft {M : List Nat} {W w : World} {γ : Nat → Nat} (T : Ty) {v : Value} (h : T.p v W) (hc : RelC M W γ w) : T.p v w := T.l _ _ _ _ _ _ hc.1 h
def tV (x : Value) : Ty := ⟨fun v _ => v = x, fun _ _ _ _ _ _ _ h => h⟩
def tN (b lim x : Nat) : Ty := ⟨fun v w => ∃ A n c, v = .agg #[.slice A n c] ∧ DAt b w A n c x ∧ n ≤ lim, fun _ _ _ _ _ _ g ⟨A, n, c, e, h, hn⟩ => ⟨A, n, c, e, dat_grow g h, hn⟩⟩
def AllT : List Ty → List Value → World → Prop
  | [], [], _ => True
  | T :: l, v :: m, w => T.p v w ∧ AllT l m w
  | _, _, _ => False
theorem AllT.l : ∀ {l : List Ty} {m : List Value} {t : Nat} {γ : Nat → Nat} {w : World} {γ' : Nat → Nat} {w' : World}, Grow t γ w γ' w' → AllT l m w → AllT l m w'
  | [], [], _, _, _, _, _, _, h => h
  | T :: l, v :: m, _, _, _, _, _, g, h => ⟨T.l _ _ _ _ _ _ g h.1, AllT.l g h.2⟩
  | [], _ :: _, _, _, _, _, _, _, h => h
  | _ :: _, [], _, _, _, _, _, _, h => h
theorem AllT.at_ : ∀ {l : List Ty} {m : List Value} {w : World} (j : Nat) {T : Ty}, AllT l m w → l[j]? = some T → ∃ v, m[j]? = some v ∧ T.p v w
  | [], _, _, _, _, _, h => by simp at h
  | T :: l, [], _, _, _, h, _ => h.elim
  | T :: l, v :: m, _, 0, _, h, e => by simp at e; subst e; exact ⟨v, rfl, h.1⟩
  | T :: l, v :: m, _, j + 1, _, h, e => by
    obtain ⟨u, h1, h2⟩ := AllT.at_ j h.2 (by simpa using e)
    exact ⟨u, by simpa using h1, h2⟩
def tT (l : List Ty) : Ty := ⟨fun v w => ∃ m : List Value, v = .tuple m.toArray ∧ AllT l m w, fun _ _ _ _ _ _ g ⟨m, e, h⟩ => ⟨m, e, AllT.l g h⟩⟩
def rT (T : Ty) : Rel := ⟨none, 0, 0, fun v _ w => T.p v w, fun t γ w γ' w' v _ g h => T.l t γ w γ' w' v g h⟩

def Cell (id : TypeId) (T : Ty) (p : Nat) (w : World) : Prop := ∃ v, Blk w p id v.cells ∧ T.p v w
theorem Cell.lt {id : TypeId} {T : Ty} {p : Nat} {w : World} (h : Cell id T p w) : p < w.heap.size := by obtain ⟨v, h, _⟩ := h; exact h.lt
theorem Cell.grow {id : TypeId} {T : Ty} {p t : Nat} {γ γ' : Nat → Nat} {w w' : World} (g : Grow t γ w γ' w') (h : Cell id T p w) (hp : t = 0 ∨ γ p ≠ t) : Cell id T p w' := by
  obtain ⟨v, h1, h2⟩ := h; exact ⟨v, g.blk hp h1, T.l _ _ _ _ _ _ g h2⟩
theorem Cell.below {id : TypeId} {T : Ty} {p : Nat} {w w' : World} (h : Cell id T p w) (hb : Below w.heap.size w w') : Cell id T p w' := h.grow (Grow.below (fun _ => 0) hb) (.inl rfl)
theorem Cell.drew {id : TypeId} {T : Ty} {p : Nat} {w : World} (h : Cell id T p w) : Cell id T p w.drew := h.below (Below.refl _ _).drew
theorem Cell.aft {id : TypeId} {T : Ty} {p : Nat} {M : List Nat} {W w : World} {γ : Nat → Nat} (h : Cell id T p W) (hc : RelC M W γ w) (hp : tagOf M 1000 p = 0) : Cell id T p w := h.grow hc.1 (.inr (by unfold mt; rw [if_pos hp]; omega))
theorem Cell.new {id : TypeId} {T : Ty} {w : World} {v : Value} (h : T.p v w) : Cell id T w.heap.size (w.alloc (.cells v.cells id)) := ⟨v, Blk.new _ _ _, T.al h _⟩
def rB (j : Nat) (id : TypeId) (T : Ty) (s : Option Nat) (eff : Nat) : Rel :=
  ⟨s, eff, j + 1, fun v γ w => ∃ p, v = .pointer (some ⟨p, 0, none⟩) ∧ γ p = j + 1 ∧ Cell id T p w,
    fun t γ w γ' w' v ht g ⟨p, e, hγ, h⟩ => ⟨p, e, by rw [g.tag p h.lt]; exact hγ, h.grow g (by omega)⟩⟩
def rVar (j : Nat) (id : TypeId) (k : Nat) : Rel :=
  ⟨none, 0, 0, fun v γ w => ∃ p, v = .pointer (some ⟨p, 0, none⟩) ∧ γ p = j + 1 ∧ VarBlk w p id k,
    fun t γ w γ' w' v ht g ⟨p, e, hγ, h⟩ => ⟨p, e, by rw [g.tag p h.lt]; exact hγ, g.var p id k h⟩⟩
def rE (k : Nat) (id : TypeId) (T : Ty) (p : Nat) : Rel :=
  ⟨none, 1000 + k, 1000 + k, fun _ γ w => γ p = 1000 + k ∧ Cell id T p w,
    fun t γ w γ' w' v ht g ⟨hγ, h⟩ => ⟨by rw [g.tag p h.lt]; exact hγ, h.grow g (by omega)⟩⟩

/-! ### States, told slot by slot -/
def Sl (a : Act) (t : Nat) (v : Value) : Prop := a.tmps[t]? = some v
theorem Sl.ev {a : Act} {t : Nat} {v : Value} (h : Sl a t v) : a.eval (.tmp t) = v := by unfold Sl at h; simp [Act.eval, h]
theorem Sl.of {a : Act} {t n : Nat} (hz : a.tmps.size = n) (ht : decide (t < n) = true) : Sl a t (a.eval (.tmp t)) := by
  have : t < a.tmps.size := by rw [hz]; exact of_decide_eq_true ht
  unfold Sl; simp [Act.eval, this]

section

variable {P : Program} {ops : Array Oper} {Q : Exit → Act → World → Prop} {a0 : Act} {M : List Nat} {W : World} {rels : List Rel} {i : Nat} {o : Oper} {T : Ty} {N : Nat}

structure Up (ops : Array Oper) (a0 : Act) (M : List Nat) (W : World) (rels : List Rel) (i : Nat) (o : Oper) (a : Act) (γ : Nat → Nat) (w : World) : Prop where
  c : RelC M W γ w
  ag : Agree ops a0 a
  early : Early ops a0 a i
  dep : ∀ j, waitsD o j = true ∨ dependsT ops rels i o j = true → Holds ops rels j a γ w
  kp : ∀ b, b < W.heap.size → (∀ j o', ops[j]? = some o' → j ≠ i → ahead ops j i = false → effOf rels j ≠ tagOf M 1000 b) → w.heap[b]? = W.heap[b]?

def Src (ops : Array Oper) (a0 : Act) (M : List Nat) (W : World) (rels : List Rel) (i : Nat) (o : Oper) (x : Operand) (T : Ty) : Prop :=
  ∀ a γ w, Up ops a0 M W rels i o a γ w → T.p (a.eval x) w
theorem Src.dep {j t : Nat} (hj : (ops[j]?).bind (·.dst) = some t) (hw : waitsD o j = true) (hr : rels[j]? = some (rT T)) : Src ops a0 M W rels i o (.tmp t) T := by
  intro a γ w U
  have h := U.dep j (.inl hw)
  unfold Holds at h
  rw [hr] at h
  have e : valOf ops a j = a.eval (.tmp t) := by simp only [valOf, hj]; rfl
  rw [← e]; exact h
theorem Src.out {t : Nat} {v : Value} (hn : (ops.all fun o' => !(o'.dst == some t) || waitsFor o' i) = true) (hs : Sl a0 t v) (hp : T.p v W) : Src ops a0 M W rels i o (.tmp t) T := by
  intro a γ w U
  have h := U.early t (fun o ho e => by
    have := Array.all_eq_true_iff_forall_mem.1 hn o ho
    simp [e] at this
    exact this)
  have e : a.eval (.tmp t) = v := Sl.ev (h.trans hs)
  rw [e]; exact T.aft hp U.c
theorem Src.const (v : Value) : Src ops a0 M W rels i o (.const v) (tV v) := fun _ _ _ _ => rfl
theorem Src.at_ {x : Operand} {a : Act} {γ : Nat → Nat} {w : World} (s : Src ops a0 M W rels i o x T) (U : Up ops a0 M W rels i o a γ w) : T.p (a.eval x) w := s a γ w U

def Gd (ops : Array Oper) (a0 : Act) (M : List Nat) (W : World) (rels : List Rel) (i : Nat) (o : Oper) (b : Bool) : Prop :=
  ∀ a γ w, Up ops a0 M W rels i o a γ w → Region.wanted o (yielded ops a.tmps) = b
theorem Gd.none_ (hg : o.guard = none) : Gd ops a0 M W rels i o true := fun _ _ _ _ => by simp [Region.wanted, hg]
theorem Gd.at_ {g t : Nat} {want b : Bool} (hg : o.guard = some (g, want)) (ht : (ops[g]?).bind (·.dst) = some t) (s : Src ops a0 M W rels i o (.tmp t) (tV (.bool b))) : Gd ops a0 M W rels i o (b == want) := by
  intro a γ w U
  have h : a.eval (.tmp t) = .bool b := s a γ w U
  have h' : a.tmps[t]? = some (.bool b) := by
    simp only [Act.eval, Array.getD_eq_getD_getElem?] at h
    cases hx : a.tmps[t]? with
    | none => rw [hx] at h; cases h
    | some v => rw [hx] at h; simp at h; rw [h]
  simp only [Region.wanted, hg, yielded, ht, Option.bind_some, h']
  cases b <;> cases want <;> rfl

theorem Gd.yes {g t : Nat} {want b : Bool} (hg : o.guard = some (g, want)) (ht : (ops[g]?).bind (·.dst) = some t) (s : Src ops a0 M W rels i o (.tmp t) (tV (.bool b))) (hb : (b == want) = true) : Gd ops a0 M W rels i o true := hb ▸ Gd.at_ hg ht s
theorem Gd.no {g t : Nat} {want b : Bool} (hg : o.guard = some (g, want)) (ht : (ops[g]?).bind (·.dst) = some t) (s : Src ops a0 M W rels i o (.tmp t) (tV (.bool b))) (hb : (b == want) = false) : Gd ops a0 M W rels i o false := hb ▸ Gd.at_ hg ht s

theorem holds_put {r : Rel} {a : Act} {γ : Nat → Nat} {w : World} {v : Value} {d : Nat} (ho : ops[i]? = some o) (hr : rels[i]? = some r) (hs : r.sub = none) (hd : o.dst = some d) (hlt : d < a.tmps.size) (h : r.p v γ w) :
    Holds ops rels i (a.put o.dst v) γ w := by
  unfold Holds
  rw [hr]
  simp only [hs, Option.getD_none]
  have e : valOf ops (a.put o.dst v) i = v := by
    simp [valOf, ho, hd, Act.put, hlt]
  rw [e]; exact h
theorem lt_of {a : Act} {d : Nat} (hz : a0.tmps.size = N) (hlt : decide (d < N) = true) (hag : Agree ops a0 a) : d < a.tmps.size := by rw [hag.size, hz]; exact of_decide_eq_true hlt

theorem sOp {d : Nat} (ho : ops[i]? = some o) (hr : rels[i]? = some (rT T)) (hd : o.dst = some d) (hz : a0.tmps.size = N) (hlt : decide (d < N) = true) (g : Gd ops a0 M W rels i o true)
    (h : ∀ a γ w, Up ops a0 M W rels i o a γ w → ∃ v, (execOp a.eval o).run P w = .ok (.value v) w ∧ T.p v w) : StepOk P ops a0 M W Q rels i o := by
  intro a γ w K hc hag hearly hdep hkp hK
  have U : Up ops a0 M W rels i o a γ w := ⟨hc, hag, hearly, hdep, hkp⟩
  obtain ⟨v, hrun, hp⟩ := h a γ w U
  rw [if_pos (g a γ w U)]
  unfold Oper.wp
  rw [hrun]
  exact hK v γ w (by unfold effOf; rw [hr]; exact Grow.refl_ _ _) (holds_put ho hr rfl hd (lt_of hz hlt hag) hp)
section

variable {d : Nat} {x y c : Operand} (ho : ops[i]? = some o) (hr : rels[i]? = some (rT T)) (hd : o.dst = some d) (hz : a0.tmps.size = N) (hlt : decide (d < N) = true) (g : Gd ops a0 M W rels i o true)

include ho hr hd hz hlt g
theorem sMv (hop : o.op = .move x) (s : Src ops a0 M W rels i o x T) : StepOk P ops a0 M W Q rels i o :=
  sOp ho hr hd hz hlt g fun a γ w U => ⟨a.eval x, by unfold execOp; rw [hop]; simp only [Sem.run_pure], s a γ w U⟩
theorem sAs (hop : o.op = .assign x) (s : Src ops a0 M W rels i o x T) : StepOk P ops a0 M W Q rels i o :=
  sOp ho hr hd hz hlt g fun a γ w U => ⟨a.eval x, by unfold execOp; rw [hop]; simp only [Sem.run_pure], s a γ w U⟩
theorem sPickT (hop : o.op = .pick c x y) (sc : Src ops a0 M W rels i o c (tV (.bool true))) (s : Src ops a0 M W rels i o x T) : StepOk P ops a0 M W Q rels i o :=
  sOp ho hr hd hz hlt g fun a γ w U => ⟨a.eval x, by have h : a.eval c = .bool true := sc a γ w U; unfold execOp; rw [hop]; simp only [h]; simp [go_sem], s a γ w U⟩
theorem sPickF (hop : o.op = .pick c x y) (sc : Src ops a0 M W rels i o c (tV (.bool false))) (s : Src ops a0 M W rels i o y T) : StepOk P ops a0 M W Q rels i o :=
  sOp ho hr hd hz hlt g fun a γ w U => ⟨a.eval y, by have h : a.eval c = .bool false := sc a γ w U; unfold execOp; rw [hop]; simp only [h]; simp [go_sem], s a γ w U⟩
theorem sExt {l : List Ty} {j : Nat} (hop : o.op = .extract x j) (s : Src ops a0 M W rels i o x (tT l)) (hj : l[j]? = some T) : StepOk P ops a0 M W Q rels i o :=
  sOp ho hr hd hz hlt g fun a γ w U => by
    obtain ⟨m, e, h⟩ := s a γ w U
    obtain ⟨v, h1, h2⟩ := h.at_ j hj
    have h3 : m.toArray[j]? = some v := by simpa using h1
    refine ⟨v, ?_, h2⟩
    unfold execOp; rw [hop]; simp only [e]; simp [go_sem, h3]
theorem sLoad {id : TypeId} {p : Nat} (hop : o.op = .load id x) (s : Src ops a0 M W rels i o x (tV (.pointer (some ⟨p, 0, none⟩)))) (hc : Cell id T p W) (hp : tagOf M 1000 p = 0)
    (ld : ∀ v w, T.p v w → Blk w p id v.cells → (Instr.loadAt id (.pointer (some ⟨p, 0, none⟩))).run P w = .ok v w) : StepOk P ops a0 M W Q rels i o :=
  sOp ho hr hd hz hlt g fun a γ w U => by
    have e : a.eval x = .pointer (some ⟨p, 0, none⟩) := s a γ w U
    obtain ⟨v, h1, h2⟩ := hc.aft U.c hp
    refine ⟨v, ?_, h2⟩
    unfold execOp; rw [hop]; simp only [e, Sem.run_bind, ld v w h2 h1, Result.andThen, Sem.run_pure]
theorem sLoadM {id : TypeId} {p : Nat} (hop : o.op = .load id x) (s : Src ops a0 M W rels i o x (tV (.pointer (some ⟨p, 0, none⟩)))) (hc : Cell id T p W) {k : Nat} (hp : tagOf M 1000 p = 1000 + k)
    (huni : ((List.range ops.size).all fun j => j == i || ahead ops j i || !(effOf rels j == 1000 + k)) = true)
    (ld : ∀ v w, T.p v w → Blk w p id v.cells → (Instr.loadAt id (.pointer (some ⟨p, 0, none⟩))).run P w = .ok v w) : StepOk P ops a0 M W Q rels i o :=
  sOp ho hr hd hz hlt g fun a γ w U => by
    have e : a.eval x = .pointer (some ⟨p, 0, none⟩) := s a γ w U
    have hsame : w.heap[p]? = W.heap[p]? := U.kp p hc.lt fun j' o' ho' hj' hw' => by
      have hjs := (Array.getElem?_eq_some_iff.1 ho').1
      have := List.all_eq_true.1 huni j' (List.mem_range.2 hjs)
      rw [hp]
      simp only [hw', Bool.or_false, Bool.or_eq_true, beq_iff_eq, hj', false_or, Bool.not_eq_true', beq_eq_false_iff_ne] at this
      exact this
    obtain ⟨v, h1, h2⟩ := hc
    have h1' : Blk w p id v.cells := hsame.trans h1
    have h2' := T.aft h2 U.c
    refine ⟨v, ?_, h2'⟩
    unfold execOp; rw [hop]; simp only [e, Sem.run_bind, ld v w h2' h1', Result.andThen, Sem.run_pure]
theorem sBuild0 {id : TypeId} {z : Value} (hop : o.op = .build id #[]) (h : ∀ w, (Instr.build id #[]).run P w = .ok z w) (hT : ∀ w, T.p z w) : StepOk P ops a0 M W Q rels i o :=
  sOp ho hr hd hz hlt g fun a γ w U => by
    refine ⟨z, ?_, hT w⟩
    unfold execOp; rw [hop]; simp only [Sem.run_bind, Array.map_empty, h, Result.andThen, Sem.run_pure]
end

section

variable {d : Nat} {x y c : Operand} (ho : ops[i]? = some o)

include ho
theorem sNot {b : Bool} {id : TypeId} (hr : rels[i]? = some (rT (tV (.bool !b)))) (hd : o.dst = some d) (hz : a0.tmps.size = N) (hlt : decide (d < N) = true) (g : Gd ops a0 M W rels i o true)
    (hop : o.op = .unOp .not id x) (s : Src ops a0 M W rels i o x (tV (.bool b))) : StepOk P ops a0 M W Q rels i o :=
  sOp ho hr hd hz hlt g fun a γ w U => ⟨.bool !b, by have h : a.eval x = .bool b := s a γ w U; unfold execOp; rw [hop]; simp only [h]; simp [go_sem], rfl⟩
theorem sBin {op : BinOp} {id id' : TypeId} {u v z : Value} (hr : rels[i]? = some (rT (tV z))) (hd : o.dst = some d) (hz : a0.tmps.size = N) (hlt : decide (d < N) = true) (g : Gd ops a0 M W rels i o true)
    (hop : o.op = .binOp op id x y id') (s1 : Src ops a0 M W rels i o x (tV u)) (s2 : Src ops a0 M W rels i o y (tV v))
    (h : ∀ w, (do eqGuard op id x y u v; binOp op id u v : Sem Value).run P w = .ok z w) : StepOk P ops a0 M W Q rels i o :=
  sOp ho hr hd hz hlt g fun a γ w U => ⟨z, by
    have hx : a.eval x = u := s1 a γ w U
    have hy : a.eval y = v := s2 a γ w U
    have := h w
    unfold execOp; rw [hop]; simp only [hx, hy, Sem.run_bind, Sem.run_pure] at this ⊢
    rw [this]; rfl, rfl⟩
end
def Ret (T : Ty) (w : World) : Ending → World → Prop := fun e w' => ∃ v, e = .returned v ∧ T.p v w' ∧ Below w.heap.size w w'
theorem run_enter {f : FuncId} {fn : Func} {args : Array Value} {w : World} (hf : P.funcs[f]? = some fn) (hn : (fn.name == "runtime.NumGoroutine") = false) (hb : fn.body.isNone = false) : (callFunc f args).run P w = .ok (.enter f args) w := by
  have h1 : ¬ fn.name = "runtime.NumGoroutine" := by simpa using hn
  have h2 : ¬ fn.body = none := by intro e; rw [e] at hb; cases hb
  simp [callFunc, go_sem, hf, h1, h2]
theorem sCall {d : Nat} {f : FuncId} {fn : Func} {args : Array Operand} {ts : Array TypeId} (ho : ops[i]? = some o) (hr : rels[i]? = some (rT T)) (hd : o.dst = some d) (hz : a0.tmps.size = N) (hlt : decide (d < N) = true) (g : Gd ops a0 M W rels i o true)
    (hop : o.op = .call { callee := .value (.func f), args := args, argTypes := ts }) (hf : P.funcs[f]? = some fn) (hn : (fn.name == "runtime.NumGoroutine") = false) (hb : fn.body.isNone = false)
    (h : ∀ a γ w, Up ops a0 M W rels i o a γ w → Calls P f (args.toList.map a.eval).toArray w (Ret T w)) : StepOk P ops a0 M W Q rels i o := by
  intro a γ w K hc hag hearly hdep hkp hK
  have U : Up ops a0 M W rels i o a γ w := ⟨hc, hag, hearly, hdep, hkp⟩
  rw [if_pos (g a γ w U)]
  have hcall := h a γ w U
  have hmap : (args.toList.map a.eval).toArray = args.map a.eval := by rw [← Array.toList_map]
  rw [hmap] at hcall
  have hrun : (execOp a.eval o).run P w = .ok (.enter f (args.map a.eval)) w := by
    unfold execOp
    rw [hop]
    simp [go_sem, resolve, Deferred.ofValue, Act.eval, invoke, run_enter hf hn hb]
  unfold Oper.wp
  rw [hrun]
  refine Calls.mono hcall ?_
  rintro e w' ⟨v, rfl, hp, hbel⟩
  exact hK v _ w' (by unfold effOf; rw [hr]; exact Grow.below γ hbel) (holds_put ho hr rfl hd (lt_of hz hlt hag) hp)
theorem sBox {d : Nat} {id : TypeId} {x : Operand} (ho : ops[i]? = some o) (hr : rels[i]? = some (rB i id T none 0)) (hd : o.dst = some d) (hz : a0.tmps.size = N) (hlt : decide (d < N) = true) (hg : o.guard = none)
    (hop : o.op = .box id x) (s : Src ops a0 M W rels i o x T) (hrun : ∀ v w, T.p v w → (Instr.box id v).run P w = .ok (.pointer (some ⟨w.heap.size, 0, none⟩)) (w.alloc (.cells v.cells id))) : StepOk P ops a0 M W Q rels i o := by
  intro a γ w K hc hag hearly hdep hkp hK
  have U : Up ops a0 M W rels i o a γ w := ⟨hc, hag, hearly, hdep, hkp⟩
  rw [if_pos (by simp [Region.wanted, hg])]
  have hv := s a γ w U
  have hrun' : (execOp a.eval o).run P w = .ok (.value (.pointer (some ⟨w.heap.size, 0, none⟩))) (w.alloc (.cells (a.eval x).cells id)) := by
    unfold execOp
    rw [hop]
    simp only [Sem.run_bind, hrun _ w hv, Result.andThen, Sem.run_pure]
  unfold Oper.wp
  rw [hrun']
  exact hK _ (newTag γ w (i + 1)) _ (by unfold effOf; rw [hr]; exact Grow.alloc γ w _ _) (holds_put ho hr rfl hd (lt_of hz hlt hag) ⟨w.heap.size, rfl, by simp [newTag], Cell.new hv⟩)
theorem sNew {d : Nat} {id : TypeId} {z : Value} (ho : ops[i]? = some o) (hr : rels[i]? = some (rB i id T none 0)) (hd : o.dst = some d) (hz : a0.tmps.size = N) (hlt : decide (d < N) = true) (hg : o.guard = none)
    (hop : o.op = .alloc id) (hT : ∀ w, T.p z w) (hrun : ∀ w, (Instr.alloc id true (.tuple #[])).run P w = .ok (.pointer (some ⟨w.heap.size, 0, none⟩)) (w.alloc (.cells z.cells id))) : StepOk P ops a0 M W Q rels i o := by
  intro a γ w K hc hag hearly hdep hkp hK
  rw [if_pos (by simp [Region.wanted, hg])]
  have hrun' : (execOp a.eval o).run P w = .ok (.value (.pointer (some ⟨w.heap.size, 0, none⟩))) (w.alloc (.cells z.cells id)) := by
    unfold execOp
    rw [hop]
    simp only [Sem.run_bind, hrun, Result.andThen, Sem.run_pure]
  unfold Oper.wp
  rw [hrun']
  exact hK _ (newTag γ w (i + 1)) _ (by unfold effOf; rw [hr]; exact Grow.alloc γ w _ _) (holds_put ho hr rfl hd (lt_of hz hlt hag) ⟨w.heap.size, rfl, by simp [newTag], Cell.new (hT w)⟩)
theorem sAlloc {d k : Nat} {id : TypeId} {z : Value} (ho : ops[i]? = some o) (hr : rels[i]? = some (rVar i id k)) (hd : o.dst = some d) (hz : a0.tmps.size = N) (hlt : decide (d < N) = true) (hg : o.guard = none)
    (hop : o.op = .alloc id) (hk : z.cells.size = k) (hzn : ∀ u ∈ z.cells, notDig u)
    (hrun : ∀ w, (Instr.alloc id true (.tuple #[])).run P w = .ok (.pointer (some ⟨w.heap.size, 0, none⟩)) (w.alloc (.cells z.cells id))) : StepOk P ops a0 M W Q rels i o := by
  intro a γ w K hc hag hearly hdep hkp hK
  rw [if_pos (by simp [Region.wanted, hg])]
  have hrun' : (execOp a.eval o).run P w = .ok (.value (.pointer (some ⟨w.heap.size, 0, none⟩))) (w.alloc (.cells z.cells id)) := by
    unfold execOp
    rw [hop]
    simp only [Sem.run_bind, hrun, Result.andThen, Sem.run_pure]
  unfold Oper.wp
  rw [hrun']
  exact hK _ (newTag γ w (i + 1)) _ (by unfold effOf; rw [hr]; exact Grow.alloc γ w _ _) (holds_put ho hr rfl hd (lt_of hz hlt hag) ⟨w.heap.size, rfl, by simp [newTag], z.cells, hk, hzn, Blk.new w id z.cells⟩)
theorem holds_sub {r : Rel} {a : Act} {γ : Nat → Nat} {w : World} {v : Value} {j : Nat} (ho : ops[i]? = some o) (hr : rels[i]? = some r) (hs : r.sub = some j) (hd : o.dst = none) (h : r.p (valOf ops a j) γ w) :
    Holds ops rels i (a.put o.dst v) γ w := by
  unfold Holds
  rw [hr, hd]
  simp only [hs, Option.getD_some]
  exact h
def StoreOk (P : Program) (id : TypeId) (T : Ty) (k : Nat) : Prop := ∀ v w p us, T.p v w → us.size = k → Blk w p id us →
  ∃ w', (Instr.storeAt id (.pointer (some ⟨p, 0, none⟩)) v).run P w = .ok () w' ∧ But p w w' ∧ Blk w' p id v.cells ∧ v.cells.size = k ∧ ∀ u ∈ v.cells, notDig u
theorem sStore {j k : Nat} {id : TypeId} {tp : Nat} {x : Operand} (ho : ops[i]? = some o) (hr : rels[i]? = some (rB j id T (some j) (j + 1))) (hd : o.dst = none) (hg : o.guard = none)
    (hop : o.op = .store id (.tmp tp) x) (hj : (ops[j]?).bind (·.dst) = some tp) (hwj : waitsD o j = true) (hrj : rels[j]? = some (rVar j id k))
    (s : Src ops a0 M W rels i o x T) (hst : StoreOk P id T k) : StepOk P ops a0 M W Q rels i o := by
  intro a γ w K hc hag hearly hdep hkp hK
  have h1 := hdep j (.inl hwj)
  unfold Holds at h1
  rw [hrj] at h1
  have e1 : valOf ops a j = a.eval (.tmp tp) := by simp only [valOf, hj]; rfl
  obtain ⟨p, e, hγ, us, hu1, hu2, hu3⟩ : (rVar j id k).p (valOf ops a j) γ w := h1
  have hv := s a γ w ⟨hc, hag, hearly, hdep, hkp⟩
  obtain ⟨w', hrun, hbut, hblk, hks, hnd⟩ := hst _ w p us hv hu1 hu3
  have hgr : Grow (j + 1) γ w γ w' := Grow.but γ (by omega) hγ hu2 hnd (hu1.trans hks.symm) hu3 hblk hbut
  rw [if_pos (by simp [Region.wanted, hg])]
  have hrun' : (execOp a.eval o).run P w = .ok .skip w' := by
    unfold execOp
    rw [hop]
    simp only
    rw [← e1, e]
    simp only [Sem.run_bind, hrun, Result.andThen, Sem.run_pure]
  unfold Oper.wp
  rw [hrun']
  refine hK undef γ _ (by unfold effOf; rw [hr]; exact hgr) (holds_sub ho hr rfl hd ?_)
  exact ⟨p, e, hγ, _, hblk, T.l _ _ _ _ _ _ hgr hv⟩
theorem sStoreE {k n p : Nat} {id : TypeId} {x y : Operand} (ho : ops[i]? = some o) (hr : rels[i]? = some (rE k id T p)) (hd : o.dst = none) (hg : o.guard = none)
    (hop : o.op = .store id y x) (sy : Src ops a0 M W rels i o y (tV (.pointer (some ⟨p, 0, none⟩)))) (hM : tagOf M 1000 p = 1000 + k) (hold : VarBlk W p id n)
    (s : Src ops a0 M W rels i o x T) (hst : StoreOk P id T n) : StepOk P ops a0 M W Q rels i o := by
  intro a γ w K hc hag hearly hdep hkp hK
  have U : Up ops a0 M W rels i o a γ w := ⟨hc, hag, hearly, hdep, hkp⟩
  have e : a.eval y = .pointer (some ⟨p, 0, none⟩) := sy a γ w U
  have hv := s a γ w U
  obtain ⟨us, hu1, hu2, hu3⟩ := hc.1.var p id n hold
  obtain ⟨w', hrun, hbut, hblk, hks, hnd⟩ := hst _ w p us hv hu1 hu3
  have hγ : γ p = 1000 + k := by rw [hc.2 p hold.lt]; exact hM
  have hgr : Grow (1000 + k) γ w γ w' := Grow.but γ (by omega) hγ hu2 hnd (hu1.trans hks.symm) hu3 hblk hbut
  rw [if_pos (by simp [Region.wanted, hg])]
  have hrun' : (execOp a.eval o).run P w = .ok .skip w' := by
    unfold execOp
    rw [hop]
    simp only
    rw [e]
    simp only [Sem.run_bind, hrun, Result.andThen, Sem.run_pure]
  unfold Oper.wp
  rw [hrun']
  refine hK undef γ _ (by unfold effOf; rw [hr]; exact hgr) ?_
  unfold Holds
  rw [hr]
  exact ⟨hγ, _, hblk, T.l _ _ _ _ _ _ hgr hv⟩

/-! ### A region, and what stands behind it -/
theorem region_drawn {id : Nat} {l : List Oper} (rels : List Rel) (hz : a0.tmps.size = N) (hdf : a0.defers = []) (hm : P.follows .mixedOrders = true) (hB : relB l.toArray N rels = true)
    (hstep : AllSteps (StepOk P l.toArray a0 M W Q rels) 0 l)
    (hend : ∀ a γ w', a.tmps.size = N → a.defers = [] → RelC M W γ w' → (∀ t v, (l.all fun o => !(o.dst == some t)) = true → Sl a0 t v → Sl a t v) → (∀ i, i < l.length → alive l.toArray rels i = true → Holds l.toArray rels i a γ w') → Q .normal a w') : (Code.region id l.toArray true).wp P Q a0 W :=
  wp_region_rel rels hm (by rw [hz]; exact hB) hstep fun a γ w' hc hag hh => hend a γ w' (hag.size.trans hz) (hag.defers.trans hdf) hc (fun t v ht hs => (hag.same t fun o ho e => by
    have := List.all_eq_true.1 ht o (by simpa using ho)
    simp [e] at this).trans hs) hh
theorem region_text {id : Nat} {l : List Oper} (rels : List Rel) (hz : a0.tmps.size = N) (hdf : a0.defers = []) (hB : relB l.toArray N rels = true)
    (hstep : AllSteps (StepOk P l.toArray a0 M W Q rels) 0 l)
    (hend : ∀ a γ w', a.tmps.size = N → a.defers = [] → RelC M W γ w' → (∀ t v, (l.all fun o => !(o.dst == some t)) = true → Sl a0 t v → Sl a t v) → (∀ i, i < l.length → alive l.toArray rels i = true → Holds l.toArray rels i a γ w') → Q .normal a w') : (Code.region id l.toArray false).wp P Q a0 W :=
  wp_region_rel_text rels (by rw [hz]; exact hB) hstep fun a γ w' hc hag hh => hend a γ w' (hag.size.trans hz) (hag.defers.trans hdf) hc (fun t v ht hs => (hag.same t fun o ho e => by
    have := List.all_eq_true.1 ht o (by simpa using ho)
    simp [e] at this).trans hs) hh
section

variable {a : Act} {γ : Nat → Nat} {w : World} {t : Nat} {l : List Oper}
theorem got {T : Ty} (hz : a.tmps.size = N) (i : Nat) (hh : ∀ i, i < l.length → alive l.toArray rels i = true → Holds l.toArray rels i a γ w) (hi : decide (i < l.length) = true) (hr : rels[i]? = some (rT T)) (hd : (l.toArray[i]?).bind (·.dst) = some t) (hlt : decide (t < N) = true) (hal : alive l.toArray rels i = true := by kernel_rfl) : ∃ v, Sl a t v ∧ T.p v w := by
  have h := hh i (of_decide_eq_true hi) hal
  unfold Holds at h
  rw [hr] at h
  have e : valOf l.toArray a i = a.eval (.tmp t) := by simp only [valOf, hd]; rfl
  exact ⟨_, Sl.of hz hlt, by rw [← e]; exact h⟩
theorem gotV {u : Value} (hz : a.tmps.size = N) (i : Nat) (hh : ∀ i, i < l.length → alive l.toArray rels i = true → Holds l.toArray rels i a γ w) (hi : decide (i < l.length) = true) (hr : rels[i]? = some (rT (tV u))) (hd : (l.toArray[i]?).bind (·.dst) = some t) (hlt : decide (t < N) = true) (hal : alive l.toArray rels i = true := by kernel_rfl) : Sl a t u := by
  obtain ⟨v, h1, h2⟩ := got (T := tV u) hz i hh hi hr hd hlt hal
  have h2 : v = u := h2
  subst h2; exact h1
theorem gotB {T : Ty} {id : TypeId} {j eff : Nat} {s : Option Nat} (hz : a.tmps.size = N) (i : Nat) (hc : RelC M W γ w) (hh : ∀ i, i < l.length → alive l.toArray rels i = true → Holds l.toArray rels i a γ w) (hi : decide (i < l.length) = true) (hr : rels[i]? = some (rB j id T s eff)) (hs : s.getD i = j) (hj : decide (j < 999) = true) (hd : (l.toArray[j]?).bind (·.dst) = some t) (hlt : decide (t < N) = true) (hal : alive l.toArray rels i = true := by kernel_rfl) :
    ∃ p, Sl a t (.pointer (some ⟨p, 0, none⟩)) ∧ Cell id T p w ∧ W.heap.size ≤ p ∧ γ p = j + 1 := by
  have h := hh i (of_decide_eq_true hi) hal
  unfold Holds at h
  rw [hr] at h
  have e : valOf l.toArray a j = a.eval (.tmp t) := by simp only [valOf, hd]; rfl
  obtain ⟨p, h1, h2, h3⟩ : (rB j id T s eff).p (valOf l.toArray a (s.getD i)) γ w := h
  rw [hs, e] at h1
  refine ⟨p, by rw [← h1]; exact Sl.of hz hlt, h3, ?_, h2⟩
  rcases Nat.lt_or_ge p W.heap.size with hp | hp
  · have h4 := hc.2 p hp
    rw [h2] at h4
    have hj := of_decide_eq_true hj
    have key : ∀ (M : List Nat) (k : Nat), tagOf M k p = 0 ∨ k ≤ tagOf M k p := by
      intro M
      induction M with
      | nil => exact fun _ => .inl rfl
      | cons m M ih =>
        intro k
        unfold tagOf
        split
        · exact .inr (Nat.le_refl _)
        · rcases ih (k + 1) with h | h
          · exact .inl h
          · exact .inr (by omega)
    rcases key M 1000 with h | h <;> omega
  · exact hp
theorem gotE {T : Ty} {id : TypeId} {k p : Nat} (i : Nat) (hh : ∀ i, i < l.length → alive l.toArray rels i = true → Holds l.toArray rels i a γ w) (hi : decide (i < l.length) = true) (hr : rels[i]? = some (rE k id T p)) (hal : alive l.toArray rels i = true := by kernel_rfl) : Cell id T p w := by
  have h := hh i (of_decide_eq_true hi) hal
  unfold Holds at h
  rw [hr] at h
  exact h.2
end

end

/-! ### In and out -/
theorem enter {P : Program} {f : FuncId} {fn : Func} {c : Code} {args : Array Value} {w : World} {R : Ending → World → Prop} {N : Nat} (hf : P.funcs[f]? = some fn) (hb : fn.body = some c) (hN : fn.ntmps = N) (hlt : args.size ≤ N)
    (h : ∀ a : Act, a.tmps.size = N → a.defers = [] → (∀ t v, args[t]? = some v → Sl a t v) → c.wp P (bodyPost P fn R) a w) : Calls P f args w R := by
  refine calls_of_wp hf hb (h _ ?_ rfl fun t v ht => ?_)
  · rw [Array.size_append, Array.size_replicate, hN]; omega
  · unfold Sl
    obtain ⟨h1, h2⟩ := Array.getElem?_eq_some_iff.1 ht
    rw [Array.getElem?_append_left h1]; exact ht
theorem ret1 {P : Program} {fn : Func} {R : Ending → World → Prop} {a : Act} {w : World} {t : Nat} {v : Value} (h : fn.results = #[.tmp t]) (hs : Sl a t v) (hdf : a.defers = []) (hR : R (.returned v) w) : bodyPost P fn R .ret a w := by
  refine bodyPost_ret (v := v) ?_ hdf hR
  unfold Sl at hs
  simp [results, h, go_sem, hs]
end Go.Proofs.YtfgnleoaibcegaaGreat.Rg

namespace Go.Proofs.YtfgnleoaibcegaaGreat.Rg

open Go.RowKit

def big : Nat := 1099511627776
theorem big_eq : big = 1099511627776 := rfl
section

variable {b lim x : Nat}
theorem tN_nil {w : World} : (tN b lim 0).p (.agg #[.slice none 0 0]) w := ⟨none, 0, 0, rfl, DAt.nil, Nat.zero_le _⟩
theorem tN_le {lim' : Nat} (h : lim ≤ lim') : ∀ v w, (tN b lim x).p v w → (tN b lim' x).p v w := fun v w ⟨A, n, c, e, hd, hn⟩ => ⟨A, n, c, e, hd, Nat.le_trans hn h⟩
end
theorem nd_slice : ∀ u ∈ (Value.agg #[.slice none 0 0]).cells, notDig u := by
  intro u hu
  simp [Value.cells] at hu
  subst hu
  intro k n _ h; cases h
theorem ld_n64 {b lim x p : Nat} : ∀ v w, (tN b lim x).p v w → Blk w p 26 v.cells → (Instr.loadAt 26 (.pointer (some ⟨p, 0, none⟩))).run Tryz.prog w = .ok v w := by
  rintro v w ⟨A, n, c, rfl, -, -⟩ hb
  have := hb.cell 0
  simp [go_sem, Value.cells] at this ⊢
  simp [this]
theorem box_n64 {b lim x : Nat} : ∀ v w, (tN b lim x).p v w → (Instr.box 26 v).run Tryz.prog w = .ok (.pointer (some ⟨w.heap.size, 0, none⟩)) (w.alloc (.cells v.cells 26)) := by
  rintro v w ⟨A, n, c, rfl, -, -⟩
  simp [go_sem, Value.cells]
theorem al_n64 : ∀ w : World, (Instr.alloc 26 true (.tuple #[])).run Tryz.prog w = .ok (.pointer (some ⟨w.heap.size, 0, none⟩)) (w.alloc (.cells (Value.agg #[.slice none 0 0]).cells 26)) := by
  intro w; simp [go_sem, Value.cells]
theorem st_n64 {b lim x : Nat} : StoreOk Tryz.prog 26 (tN b lim x) 1 := by
  rintro v w p us ⟨A, n, c, rfl, -, -⟩ hk hb
  obtain ⟨u, rfl⟩ : ∃ u, us = #[u] := by
    obtain ⟨l⟩ := us
    match l, hk with
    | [u], _ => exact ⟨u, rfl⟩
  have h1 := hb.cell 0
  have h2 := hb.frozen 0
  refine ⟨w.setCell ⟨p, 0, none⟩ (.slice A n c), ?_, But.set1 _ _ _ _, hb.set_ 0 _, rfl, ?_⟩
  · simp at h1
    simp [go_sem, h1, h2]
  · intro u hu
    simp [Value.cells] at hu
    subst hu
    intro k n _ h; cases h
theorem ld_n32 {b lim x p : Nat} : ∀ v w, (tN b lim x).p v w → Blk w p 30 v.cells → (Instr.loadAt 30 (.pointer (some ⟨p, 0, none⟩))).run Tryz.prog w = .ok v w := by
  rintro v w ⟨A, n, c, rfl, -, -⟩ hb
  have := hb.cell 0
  simp [go_sem, Value.cells] at this ⊢
  simp [this]
theorem box_n32 {b lim x : Nat} : ∀ v w, (tN b lim x).p v w → (Instr.box 30 v).run Tryz.prog w = .ok (.pointer (some ⟨w.heap.size, 0, none⟩)) (w.alloc (.cells v.cells 30)) := by
  rintro v w ⟨A, n, c, rfl, -, -⟩
  simp [go_sem, Value.cells]
theorem al_n32 : ∀ w : World, (Instr.alloc 30 true (.tuple #[])).run Tryz.prog w = .ok (.pointer (some ⟨w.heap.size, 0, none⟩)) (w.alloc (.cells (Value.agg #[.slice none 0 0]).cells 30)) := by
  intro w; simp [go_sem, Value.cells]
theorem st_n32 {b lim x : Nat} : StoreOk Tryz.prog 30 (tN b lim x) 1 := by
  rintro v w p us ⟨A, n, c, rfl, -, -⟩ hk hb
  obtain ⟨u, rfl⟩ : ∃ u, us = #[u] := by
    obtain ⟨l⟩ := us
    match l, hk with
    | [u], _ => exact ⟨u, rfl⟩
  have h1 := hb.cell 0
  have h2 := hb.frozen 0
  refine ⟨w.setCell ⟨p, 0, none⟩ (.slice A n c), ?_, But.set1 _ _ _ _, hb.set_ 0 _, rfl, ?_⟩
  · simp at h1
    simp [go_sem, h1, h2]
  · intro u hu
    simp [Value.cells] at hu
    subst hu
    intro k n _ h; cases h
theorem parseV_lt (l : List Nat) : ∃ k, k ≤ 400 ∧ parseV l < 10 ^ k := by
  by_cases h : parseOk l = true
  · unfold parseV
    rw [if_pos h]
    unfold parseOk at h
    simp only [Bool.and_eq_true, decide_eq_true_eq] at h
    exact ⟨l.length, h.1.2, readD_lt l (all_dig_le h.2)⟩
  · exact ⟨0, by omega, by unfold parseV; rw [if_neg h]; omega⟩
theorem parse_len {b : Nat} {w : World} {A : Option Addr} {n c : Nat} {l : List Nat} (hb : 2 ≤ b) (hb2 : 10 ≤ b) (h : DAt b w A n c (parseV l)) : n ≤ 400 := by
  obtain ⟨k, hk, hl⟩ := parseV_lt l
  exact Nat.le_trans (h.le hb (Nat.lt_of_lt_of_le hl (Nat.pow_le_pow_left hb2 k))) hk
theorem add_lim {b x y n n' l1 l2 : Nat} (hb : 2 ≤ b) (hx : x < b ^ n) (hn : n ≤ l1) (hy : y < b ^ n') (hn' : n' ≤ l2) : x + y < b ^ (max l1 l2 + 1) := by
  have h3 : b ^ n ≤ b ^ (max l1 l2) := Nat.pow_le_pow_right (by omega) (by omega)
  have h4 : b ^ n' ≤ b ^ (max l1 l2) := Nat.pow_le_pow_right (by omega) (by omega)
  have h6 : b ^ (max l1 l2) * 2 ≤ b ^ (max l1 l2) * b := Nat.mul_le_mul_left _ hb
  rw [Nat.pow_succ]; omega
theorem mul_lim {b x y n n' l1 l2 : Nat} (hb : 2 ≤ b) (hx : x < b ^ n) (hn : n ≤ l1) (hy : y < b ^ n') (hn' : n' ≤ l2) : x * y < b ^ (l1 + l2) := by
  rw [Nat.pow_add]
  exact Nat.mul_lt_mul'' (Nat.lt_of_lt_of_le hx (Nat.pow_le_pow_right (by omega) hn)) (Nat.lt_of_lt_of_le hy (Nat.pow_le_pow_right (by omega) hn'))
theorem le_lim {b x n l1 y : Nat} (hb : 2 ≤ b) (hx : x < b ^ n) (hn : n ≤ l1) (h : y ≤ x) : y < b ^ l1 := Nat.lt_of_le_of_lt h (Nat.lt_of_lt_of_le hx (Nat.pow_le_pow_right (by omega) hn))
theorem gcd_lim {b x y n n' l1 l2 : Nat} (hb : 2 ≤ b) (hx : x < b ^ n) (hn : n ≤ l1) (hy : y < b ^ n') (hn' : n' ≤ l2) : Nat.gcd x y < b ^ (max l1 l2) := by
  rcases Nat.eq_zero_or_pos x with h | h
  · subst h
    rw [Nat.gcd_zero_left]
    exact Nat.lt_of_lt_of_le hy (Nat.pow_le_pow_right (by omega) (by omega))
  · exact Nat.lt_of_le_of_lt (Nat.gcd_le_left y h) (Nat.lt_of_lt_of_le hx (Nat.pow_le_pow_right (by omega) (by omega)))

theorem c_add {l1 l2 x y : Nat} {v1 v2 : Value} {w : World} (h1 : (tN B64 l1 x).p v1 w) (h2 : (tN B64 l2 y).p v2 w) (b1 : l1 ≤ big) (b2 : l2 ≤ big) :
    Calls Tryz.prog 50 #[v1, v2] w (Ret (tN B64 (max l1 l2 + 1) (x + y)) w) := by
  obtain ⟨A, n, c, rfl, hx, hn⟩ := h1
  obtain ⟨A', n', c', rfl, hy, hn'⟩ := h2
  rw [big_eq] at b1 b2
  refine (Go.Proofs.YtfgnleoaibcegaaGreat.add_any A n c x A' n' c' y w hx hy (by omega) (by omega)).mono ?_
  rintro e w' ⟨A3, n3, c3, rfl, hd, hb⟩
  exact ⟨_, rfl, ⟨A3, n3, c3, rfl, hd, hd.le (by decide) (add_lim (by decide) (hx.lt (by decide)) hn (hy.lt (by decide)) hn')⟩, hb⟩

theorem c_mul {l1 l2 x y : Nat} {v1 v2 : Value} {w : World} (h1 : (tN B64 l1 x).p v1 w) (h2 : (tN B64 l2 y).p v2 w) (b1 : l1 ≤ big) (b2 : l2 ≤ big) :
    Calls Tryz.prog 43 #[v1, v2] w (Ret (tN B64 (l1 + l2) (x * y)) w) := by
  obtain ⟨A, n, c, rfl, hx, hn⟩ := h1
  obtain ⟨A', n', c', rfl, hy, hn'⟩ := h2
  rw [big_eq] at b1 b2
  refine (Go.Proofs.YtfgnleoaibcegaaGreat.mul_any A n c x A' n' c' y w hx hy (by omega) (by omega)).mono ?_
  rintro e w' ⟨A3, n3, c3, rfl, hd, hb⟩
  exact ⟨_, rfl, ⟨A3, n3, c3, rfl, hd, hd.le (by decide) (mul_lim (by decide) (hx.lt (by decide)) hn (hy.lt (by decide)) hn')⟩, hb⟩

theorem c_gcd {l1 l2 x y : Nat} {v1 v2 : Value} {w : World} (h1 : (tN B64 l1 x).p v1 w) (h2 : (tN B64 l2 y).p v2 w) (b1 : l1 ≤ big) (b2 : l2 ≤ big) :
    Calls Tryz.prog 105 #[v1, v2] w (Ret (tN B64 (max l1 l2) (Nat.gcd x y)) w) := by
  obtain ⟨A, n, c, rfl, hx, hn⟩ := h1
  obtain ⟨A', n', c', rfl, hy, hn'⟩ := h2
  rw [big_eq] at b1 b2
  refine (Go.Proofs.YtfgnleoaibcegaaGreat.gcd_any A n c x A' n' c' y w hx hy (by omega) (by omega)).mono ?_
  rintro e w' ⟨A3, n3, c3, rfl, hd, hb⟩
  exact ⟨_, rfl, ⟨A3, n3, c3, rfl, hd, hd.le (by decide) (gcd_lim (by decide) (hx.lt (by decide)) hn (hy.lt (by decide)) hn')⟩, hb⟩

theorem d_gcd {l1 l2 x y : Nat} {v1 v2 : Value} {w : World} (h1 : (tN B32 l1 x).p v1 w) (h2 : (tN B32 l2 y).p v2 w) (b1 : l1 ≤ big) (b2 : l2 ≤ big) :
    Calls Tryz.prog 103 #[v1, v2] w (Ret (tN B32 (max l1 l2) (Nat.gcd x y)) w) := by
  obtain ⟨A, n, c, rfl, hx, hn⟩ := h1
  obtain ⟨A', n', c', rfl, hy, hn'⟩ := h2
  rw [big_eq] at b1 b2
  refine (Go.Proofs.YtfgnleoaibcegaaGreat.Ref.gcd_any A n c x A' n' c' y w hx hy (by omega) (by omega)).mono ?_
  rintro e w' ⟨A3, n3, c3, rfl, hd, hb⟩
  exact ⟨_, rfl, ⟨A3, n3, c3, rfl, hd, hd.le (by decide) (gcd_lim (by decide) (hx.lt (by decide)) hn (hy.lt (by decide)) hn')⟩, hb⟩

theorem c_len {l1 x : Nat} {v1 : Value} {w : World} (h1 : (tN B64 l1 x).p v1 w) (b1 : l1 ≤ big) :
    Calls Tryz.prog 42 #[v1] w (Ret (tV (.int .i64 ((bl x : Nat) : Int))) w) := by
  obtain ⟨A, n, c, rfl, hx, hn⟩ := h1
  rw [big_eq] at b1
  refine (Go.Proofs.YtfgnleoaibcegaaGreat.len_any A n c x w hx (by omega)).mono ?_
  rintro e w' ⟨rfl, hb⟩
  exact ⟨_, rfl, rfl, hb⟩

theorem c_bit {l1 x : Nat} {v1 : Value} {w : World} (h1 : (tN B64 l1 x).p v1 w) (b1 : l1 ≤ big) {i : Int} (hi : i ≤ 9223372036854775807) :
    Calls Tryz.prog 49 #[v1, .int .i64 i] w (Ret (tV (.bool (bitOf x i))) w) := by
  obtain ⟨A, n, c, rfl, hx, hn⟩ := h1
  rw [big_eq] at b1
  refine (Go.Proofs.YtfgnleoaibcegaaGreat.bit_any A n c x i w hx hi).mono ?_
  rintro e w' ⟨rfl, hb⟩
  exact ⟨_, rfl, rfl, hb⟩

theorem c_uint {l1 x : Nat} {v1 : Value} {w : World} (h1 : (tN B64 l1 x).p v1 w) (b1 : l1 ≤ big) :
    Calls Tryz.prog 101 #[v1] w (Ret (tT [tV (.int .u64 ((uintOf x : Nat) : Int)), tV (.bool (fitsU x))]) w) := by
  obtain ⟨A, n, c, rfl, hx, hn⟩ := h1
  rw [big_eq] at b1
  refine (Go.Proofs.YtfgnleoaibcegaaGreat.uint_any A n c x w hx (by omega)).mono ?_
  rintro e w' ⟨rfl, hb⟩
  exact ⟨_, rfl, ⟨_, rfl, rfl, rfl, trivial⟩, hb⟩

theorem c_text {l1 x : Nat} {v1 : Value} {w : World} (h1 : (tN B64 l1 x).p v1 w) (b1 : l1 ≤ big) :
    Calls Tryz.prog 78 #[v1] w (Ret (tV (.string (strB (txt x)))) w) := by
  obtain ⟨A, n, c, rfl, hx, hn⟩ := h1
  rw [big_eq] at b1
  refine (Go.Proofs.YtfgnleoaibcegaaGreat.text_any A n c x w hx (by omega)).mono ?_
  rintro e w' ⟨rfl, hb⟩
  exact ⟨_, rfl, rfl, hb⟩

theorem c_cmp {l1 l2 x y : Nat} {v1 v2 : Value} {w : World} (h1 : (tN B64 l1 x).p v1 w) (h2 : (tN B64 l2 y).p v2 w) (b1 : l1 ≤ big) (b2 : l2 ≤ big) :
    Calls Tryz.prog 48 #[v1, v2] w (Ret (tV (.int .i64 (cmpI x y))) w) := by
  obtain ⟨A, n, c, rfl, hx, hn⟩ := h1
  obtain ⟨A', n', c', rfl, hy, hn'⟩ := h2
  rw [big_eq] at b1 b2
  refine (Go.Proofs.YtfgnleoaibcegaaGreat.cmp_any A n c x A' n' c' y w hx hy (by omega) (by omega)).mono ?_
  rintro e w' ⟨rfl, hb⟩
  exact ⟨_, rfl, rfl, hb⟩

theorem c_right {l1 x : Nat} {v1 : Value} {w : World} (h1 : (tN B64 l1 x).p v1 w) (b1 : l1 ≤ big) {i : Int} (hi : i ≤ 9223372036854775807) :
    Calls Tryz.prog 46 #[v1, .int .i64 i] w (Ret (tN B64 l1 (x / 2 ^ i.toNat)) w) := by
  obtain ⟨A, n, c, rfl, hx, hn⟩ := h1
  rw [big_eq] at b1
  refine (Go.Proofs.YtfgnleoaibcegaaGreat.right_any A n c x i w hx (by omega) hi).mono ?_
  rintro e w' ⟨A3, n3, c3, rfl, hd, hb⟩
  exact ⟨_, rfl, ⟨A3, n3, c3, rfl, hd, hd.le (by decide) (le_lim (by decide) (hx.lt (by decide)) hn (Nat.div_le_self _ _))⟩, hb⟩

theorem c_of {k : Nat} {w : World} (hk : k < B64) :
    Calls Tryz.prog 40 #[.int .u64 (k : Int)] w (Ret (tN B64 1 k) w) := by
  skip
  refine (Go.Proofs.YtfgnleoaibcegaaGreat.of_any k hk w).mono ?_
  rintro e w' ⟨A3, n3, c3, rfl, hd, hb⟩
  exact ⟨_, rfl, ⟨A3, n3, c3, rfl, hd, hd.le (by decide) (by rw [Nat.pow_one]; exact hk)⟩, hb⟩

theorem c_parse {s : ByteArray} {w : World} :
    Calls Tryz.prog 108 #[.string s] w (Ret (tT [tN B64 400 (parseV (bytesL s)), tV (.bool (parseOk (bytesL s)))]) w) := by
  skip
  refine (Go.Proofs.YtfgnleoaibcegaaGreat.parse_any s w).mono ?_
  rintro e w' ⟨A3, n3, c3, rfl, hd, hb⟩
  exact ⟨_, rfl, ⟨_, rfl, ⟨A3, n3, c3, rfl, hd, parse_len (by decide) (by decide) hd⟩, rfl, trivial⟩, hb⟩

theorem d_of {k : Nat} {w : World} (hk : k < B64) :
    Calls Tryz.prog 16 #[.int .u64 (k : Int)] w (Ret (tN B32 2 k) w) := by
  skip
  refine (Go.Proofs.YtfgnleoaibcegaaGreat.Ref.of_any k hk w).mono ?_
  rintro e w' ⟨A3, n3, c3, rfl, hd, hn, hb⟩
  exact ⟨_, rfl, ⟨A3, n3, c3, rfl, hd, hn⟩, hb⟩

theorem c_sub {l1 l2 x y : Nat} {v1 v2 : Value} {w : World} (h1 : (tN B64 l1 x).p v1 w) (h2 : (tN B64 l2 y).p v2 w) (b1 : l1 ≤ big) (b2 : l2 ≤ big) :
    Calls Tryz.prog 47 #[v1, v2] w (Ret (tT [tN B64 l1 (x - y), tV (.bool (decide (y ≤ x)))]) w) := by
  obtain ⟨A, n, c, rfl, hx, hn⟩ := h1
  obtain ⟨A', n', c', rfl, hy, hn'⟩ := h2
  rw [big_eq] at b1 b2
  refine (sub_any A n c x A' n' c' y w hx hy (by omega) (by omega)).mono ?_
  rintro e w' ⟨A3, n3, c3, rfl, hd, hb⟩
  exact ⟨_, rfl, ⟨_, rfl, ⟨A3, n3, c3, rfl, hd, hd.le (by decide) (le_lim (by decide) (hx.lt (by decide)) hn (Nat.sub_le _ _))⟩, rfl, trivial⟩, hb⟩
theorem c_divmod {l1 l2 x y : Nat} {v1 v2 : Value} {w : World} (h1 : (tN B64 l1 x).p v1 w) (h2 : (tN B64 l2 y).p v2 w) (b1 : l1 ≤ big) (b2 : l2 ≤ big) :
    Calls Tryz.prog 45 #[v1, v2] w (Ret (tT [tN B64 l1 (x / y), tN B64 l1 (modOf x y), tV (.bool (nz y))]) w) := by
  obtain ⟨A, n, c, rfl, hx, hn⟩ := h1
  obtain ⟨A', n', c', rfl, hy, hn'⟩ := h2
  rw [big_eq] at b1 b2
  refine (divmod_any A n c x A' n' c' y w hx hy (by omega) (by omega)).mono ?_
  rintro e w' ⟨A3, n3, c3, A4, n4, c4, rfl, hd, hd4, hb⟩
  exact ⟨_, rfl, ⟨_, rfl, ⟨A3, n3, c3, rfl, hd, hd.le (by decide) (le_lim (by decide) (hx.lt (by decide)) hn (Nat.div_le_self _ _))⟩, ⟨A4, n4, c4, rfl, hd4, hd4.le (by decide) (le_lim (by decide) (hx.lt (by decide)) hn (modOf_le _ _))⟩, rfl, trivial⟩, hb⟩
theorem d_divmod {l1 l2 x y : Nat} {v1 v2 : Value} {w : World} (h1 : (tN B32 l1 x).p v1 w) (h2 : (tN B32 l2 y).p v2 w) (b1 : l1 ≤ big) (b2 : l2 ≤ big) (hy0 : 0 < y) :
    Calls Tryz.prog 82 #[v1, v2] w (Ret (tT [tN B32 l1 (x / y), tN B32 l1 (x % y)]) w) := by
  obtain ⟨A, n, c, rfl, hx, hn⟩ := h1
  obtain ⟨A', n', c', rfl, hy, hn'⟩ := h2
  rw [big_eq] at b1 b2
  refine (Ref.divmod_any A n c x A' n' c' y w hx hy (by omega) (by omega) hy0).mono ?_
  rintro e w' ⟨A3, n3, c3, A4, n4, c4, rfl, hd, hd4, hb⟩
  exact ⟨_, rfl, ⟨_, rfl, ⟨A3, n3, c3, rfl, hd, hd.le (by decide) (le_lim (by decide) (hx.lt (by decide)) hn (Nat.div_le_self _ _))⟩, ⟨A4, n4, c4, rfl, hd4, hd4.le (by decide) (le_lim (by decide) (hx.lt (by decide)) hn (Nat.mod_le _ _))⟩, trivial⟩, hb⟩
theorem d_zero {l1 x : Nat} {v1 : Value} {w : World} (h1 : (tN B32 l1 x).p v1 w) :
    Calls Tryz.prog 64 #[v1] w (Ret (tV (.bool (decide (x = 0)))) w) := by
  obtain ⟨A, n, c, rfl, hx, hn⟩ := h1
  refine (Ref.zero_any A n c x w hx).mono ?_
  rintro e w' ⟨rfl, hb⟩
  exact ⟨_, rfl, rfl, hb⟩
end Go.Proofs.YtfgnleoaibcegaaGreat.Rg

namespace Go.Proofs.YtfgnleoaibcegaaGreat.Rg

open Go.RowKit

theorem bat_grow {t : Nat} {γ γ' : Nat → Nat} {w w' : World} {A : Option Addr} {n c : Nat} {l : List Nat} (g : Grow t γ w γ' w') (h : BAt w A n c l) : BAt w' A n c l := by
  refine ⟨⟨h.reads.1, fun hn => ?_⟩, h.byte⟩
  obtain ⟨ad, e, hb, hc⟩ := h.reads.2 hn
  refine ⟨ad, e, Nat.lt_of_lt_of_le hb g.size, fun j v hv => ?_⟩
  obtain ⟨d, _, rfl⟩ := List.mem_map.1 (List.mem_of_getElem? hv)
  exact g.num _ _ _ rfl (hc j _ hv)
def tBy (lim : Nat) (l : List Nat) : Ty := ⟨fun v w => ∃ A n c, v = .slice A n c ∧ BAt w A n c l ∧ n ≤ c ∧ n ≤ lim, fun _ _ _ _ _ _ g ⟨A, n, c, e, h, h1, h2⟩ => ⟨A, n, c, e, bat_grow g h, h1, h2⟩⟩
section

variable {P : Program} {ops : Array Oper} {Q : Exit → Act → World → Prop} {a0 : Act} {M : List Nat} {W : World} {rels : List Rel} {i : Nat} {o : Oper} {T : Ty} {N d : Nat} {x : Operand}
theorem sConv {T' : Ty} {src dst : TypeId} (ho : ops[i]? = some o) (hr : rels[i]? = some (rT T)) (hd : o.dst = some d) (hz : a0.tmps.size = N) (hlt : decide (d < N) = true) (g : Gd ops a0 M W rels i o true)
    (hop : o.op = .convert src dst x) (s : Src ops a0 M W rels i o x T') (h : ∀ v w, T'.p v w → ∃ u, (convert src dst v).run P w = .ok u w ∧ T.p u w) : StepOk P ops a0 M W Q rels i o :=
  sOp ho hr hd hz hlt g fun a γ w U => by
    obtain ⟨u, h1, h2⟩ := h _ w (s a γ w U)
    refine ⟨u, ?_, h2⟩
    unfold execOp; rw [hop]; simp only [Sem.run_bind, h1, Result.andThen, Sem.run_pure]
end
theorem c_fb {lim : Nat} {l : List Nat} {v1 : Value} {w : World} (h1 : (tBy lim l).p v1 w) (b1 : lim ≤ big) :
    Calls Tryz.prog 21 #[v1] w (Ret (tN B64 lim (bev l)) w) := by
  obtain ⟨A, n, c, rfl, h, -, hn⟩ := h1
  rw [big_eq] at b1
  refine (frombytes_any A n c l w h (by omega)).mono ?_
  rintro e w' ⟨A3, n3, c3, rfl, hd, hb⟩
  refine ⟨_, rfl, ⟨A3, n3, c3, rfl, hd, hd.le (by decide) ?_⟩, hb⟩
  have h1 := bev_lt h.byte
  rw [h.len] at h1
  exact Nat.lt_of_lt_of_le h1 (Nat.le_trans (Nat.pow_le_pow_left (by decide) n) (Nat.pow_le_pow_right (by decide) hn))
theorem d_fb {lim : Nat} {l : List Nat} {v1 : Value} {w : World} (h1 : (tBy lim l).p v1 w) (b1 : lim ≤ big) :
    Calls Tryz.prog 39 #[v1] w (Ret (tN B32 lim (bev l)) w) := by
  obtain ⟨A, n, c, rfl, h, -, hn⟩ := h1
  rw [big_eq] at b1
  refine (Ref.frombytes_any A n c l w h (by omega)).mono ?_
  rintro e w' ⟨A3, n3, c3, rfl, hd, hb⟩
  refine ⟨_, rfl, ⟨A3, n3, c3, rfl, hd, hd.le (by decide) ?_⟩, hb⟩
  have h1 := bev_lt h.byte
  rw [h.len] at h1
  exact Nat.lt_of_lt_of_le h1 (Nat.le_trans (Nat.pow_le_pow_left (by decide) n) (Nat.pow_le_pow_right (by decide) hn))
set_option maxHeartbeats 400000 in
theorem left_low (A : Option Addr) (n c x : Nat) (k : Int) (w : World) (h : DAt B64 w A n c x) (hn : n ≤ 1099511627776) (hx0 : 0 < x) (hlow : k < -(bl x : Nat)) :
    Calls Tryz.prog 87 #[.agg #[.slice A n c], .int .i64 k] w fun e w' => ∃ A n c, e = .returned (.tuple #[.agg #[.slice A n c], .bool (leftOk x k)]) ∧ DAt B64 w' A n c (leftV x k) ∧ Below w.heap.size w w' := by
  have hz : ((n : Int) == 0) = false := by
    have := (h.zero_len two_le_B64)
    simp; omega
  have hk0 : k < 0 := by omega
  rw [leftOk_near (by omega), leftV_neg hk0]
  have h1 := h.below (((Below.refl _ _).alloc (Nat.le_refl _) (.cells #[.slice A n c] 26)).alloc (by simp) (.cells #[.slice none 0 0] 26))
  have hbx : bl x ≤ 70368744177664 := Nat.le_trans (bl_le (by have := h.lt two_le_B64; rwa [B64_pow_two] at this)) (by omega)
  have hzz : x / 2 ^ (-k).toNat = 0 := Nat.div_eq_of_lt (Nat.lt_of_lt_of_le bl_lt (Nat.pow_le_pow_right (by omega) (by omega)))
  rw [hzz]
  clear hzz h
  go_enter Tryz.func87, Tryz.ntmps87
  go_wp2_with fail
  refine (len_any A n c x _ h1 hn).mono ?_
  rintro e w1 ⟨rfl, hb1⟩
  have hb2 : Below (w.heap.size + 1 + 1) ((w.alloc (.cells #[.slice A n c] 26)).alloc (.cells #[.slice none 0 0] 26)) w1 := hb1.mono (by simp)
  have r1 : w1.cell? ⟨w.heap.size + 1, 0, none⟩ = some (.slice none 0 0) := by have := res_cell (w := w.alloc (.cells #[.slice A n c] 26)) hb2 (by simp); simpa using this
  have r2 : w1.frozen? ⟨w.heap.size + 1, 0, none⟩ = false := by have := res_free (w := w.alloc (.cells #[.slice A n c] 26)) hb2 (by simp); simpa using this
  clear h1
  go_wp2
  refine bodyPost_ret (v := .tuple #[.agg #[.slice none 0 0], .bool true]) (by simp [results, Tryz.results87, go_sem, r1]) rfl ⟨_, _, _, rfl, DAt.nil, ?_⟩
  exact ((((Below.refl _ _).alloc (Nat.le_refl _) _).alloc (by simp) _).trans (hb2.mono (by omega))).setCell (by simp) _
theorem left_all (A : Option Addr) (n c x : Nat) (k : Int) (w : World) (h : DAt B64 w A n c x) (hn : n ≤ 1099511627776) (hk : k ≤ 9223372036854775807) (hk2 : -9223372036854775808 ≤ k) :
    Calls Tryz.prog 87 #[.agg #[.slice A n c], .int .i64 k] w fun e w' => ∃ A n c, e = .returned (.tuple #[.agg #[.slice A n c], .bool (leftOk x k)]) ∧ DAt B64 w' A n c (leftV x k) ∧ Below w.heap.size w w' := by
  rcases Nat.eq_zero_or_pos x with hx0 | hx0
  · subst hx0
    have hn0 : n = 0 := (h.zero_len two_le_B64).2 rfl
    subst hn0
    rw [leftOk_zero, leftV_zero]
    clear h
    go_enter Tryz.func87, Tryz.ntmps87
    go_wp2
    exact bodyPost_ret (v := .tuple #[.agg #[.slice none 0 0], .bool true]) (by simp [results, Tryz.results87, go_sem]) rfl ⟨_, _, _, rfl, DAt.nil, ((Below.refl _ _).alloc (Nat.le_refl _) _).alloc (by simp) _⟩
  · by_cases hlow : k < -(bl x : Nat)
    · exact left_low A n c x k w h hn hx0 hlow
    · have hbx : bl x ≤ 70368744177664 := Nat.le_trans (bl_le (by have := h.lt two_le_B64; rwa [B64_pow_two] at this)) (by omega)
      exact left_any A n c x k w h hn hk (by omega)
theorem leftV_lt {b lim x m : Nat} {k : Int} (hb : 2 ≤ b) (hx : x < b ^ lim) (hm : m = 16777216) : leftV x k < b ^ (lim + m) := by
  unfold leftV
  have h0 : b ^ lim ≤ b ^ (lim + m) := Nat.pow_le_pow_right (by omega) (by omega)
  split
  · exact Nat.lt_of_le_of_lt (Nat.div_le_self _ _) (Nat.lt_of_lt_of_le hx h0)
  · split
    · rename_i h1 h2
      by_cases hx0 : x = 0
      · subst hx0; rw [Nat.zero_mul]; exact Nat.pow_pos (by omega)
      · have : k ≤ 16777216 := by unfold leftOk at h2; simp [hx0] at h2; exact h2
        have h3 : 2 ^ k.toNat ≤ b ^ m := Nat.le_trans (Nat.pow_le_pow_right (by omega) (by omega)) (Nat.pow_le_pow_left hb _)
        rw [Nat.pow_add]
        exact Nat.mul_lt_mul_of_lt_of_le hx h3 (Nat.pow_pos (by omega))
    · exact Nat.pow_pos (by omega)
theorem c_left {l1 x : Nat} {v1 : Value} {w : World} {k : Int} (h1 : (tN B64 l1 x).p v1 w) (b1 : l1 ≤ big) (hk : k ≤ 9223372036854775807) (hk2 : -9223372036854775808 ≤ k) :
    Calls Tryz.prog 87 #[v1, .int .i64 k] w (Ret (tT [tN B64 (l1 + 16777216) (leftV x k), tV (.bool (leftOk x k))]) w) := by
  obtain ⟨A, n, c, rfl, hx, hn⟩ := h1
  rw [big_eq] at b1
  refine (left_all A n c x k w hx (by omega) hk hk2).mono ?_
  rintro e w' ⟨A3, n3, c3, rfl, hd, hb⟩
  exact ⟨_, rfl, ⟨_, rfl, ⟨A3, n3, c3, rfl, hd, hd.le (by decide) (leftV_lt (by decide) (le_lim (by decide) (hx.lt (by decide)) hn (Nat.le_refl _)) rfl)⟩, rfl, trivial⟩, hb⟩
end Go.Proofs.YtfgnleoaibcegaaGreat.Rg

namespace Go.Proofs.YtfgnleoaibcegaaGreat.Rg

open Go.RowKit

theorem RelC.aftM {M : List Nat} {w W w' : World} {γ : Nat → Nat} (h : Below w.heap.size w W) (hc : RelC M W γ w') (hM : ∀ m ∈ M, w.heap.size ≤ m) : Below w.heap.size w w' := by
  refine h.trans ⟨hc.1.os, hc.1.tape, hc.1.output, hc.1.size, fun b hb => hc.1.block b (Nat.lt_of_lt_of_le hb h.size) (.inr ?_)⟩
  have key : ∀ (M : List Nat) (k : Nat), (∀ m ∈ M, w.heap.size ≤ m) → tagOf M k b = 0 := by
    intro M
    induction M with
    | nil => intro k _; rfl
    | cons m M ih =>
      intro k hm
      unfold tagOf
      have := hm m List.mem_cons_self
      rw [if_neg (by omega)]
      exact ih _ fun x hx => hm x (List.mem_cons_of_mem _ hx)
  unfold mt
  rw [if_pos (key M 1000 hM)]; omega
def Rw (b : Nat) (id : TypeId) (lim g : Nat) (xs : List Nat) (w : World) : Prop := ∃ cs : Array Value, Blk w g id cs ∧ ∀ i, i < xs.length → ∃ A n c, cs[i]? = some (.slice A n c) ∧ DAt b w A n c (xs.getD i 0) ∧ n ≤ lim
theorem Rw.lt {b : Nat} {id : TypeId} {lim g : Nat} {xs : List Nat} {w : World} (h : Rw b id lim g xs w) : g < w.heap.size := by obtain ⟨cs, h, _⟩ := h; exact h.lt
theorem Rw.aft {b : Nat} {id : TypeId} {lim g : Nat} {xs : List Nat} {M : List Nat} {W w : World} {γ : Nat → Nat} (h : Rw b id lim g xs W) (hc : RelC M W γ w) (hp : tagOf M 1000 g = 0) : Rw b id lim g xs w := by
  obtain ⟨cs, h1, h2⟩ := h
  refine ⟨cs, hc.1.blk (.inr (by unfold mt; rw [if_pos hp]; omega)) h1, fun i hi => ?_⟩
  obtain ⟨A, n, c, e, hd, hn⟩ := h2 i hi
  exact ⟨A, n, c, e, dat_grow hc.1 hd, hn⟩
section

variable {P : Program} {ops : Array Oper} {Q : Exit → Act → World → Prop} {a0 : Act} {M : List Nat} {W : World} {rels : List Rel} {i : Nat} {o : Oper} {T : Ty} {N d : Nat} {x y : Operand}
theorem sFA {s : TypeId} {f p off : Nat} (ho : ops[i]? = some o) (hr : rels[i]? = some (rT (tV (.pointer (some ⟨p, off, none⟩))))) (hd : o.dst = some d) (hz : a0.tmps.size = N) (hlt : decide (d < N) = true) (g : Gd ops a0 M W rels i o true)
    (hop : o.op = .fieldAddr s x f) (sx : Src ops a0 M W rels i o x (tV (.pointer (some ⟨p, 0, none⟩)))) (h : ∀ w, (Instr.fieldAt s (.pointer (some ⟨p, 0, none⟩)) f).run P w = .ok (.pointer (some ⟨p, off, none⟩)) w) : StepOk P ops a0 M W Q rels i o :=
  sOp ho hr hd hz hlt g fun a γ w U => by
    have e : a.eval x = .pointer (some ⟨p, 0, none⟩) := sx a γ w U
    refine ⟨_, ?_, rfl⟩
    unfold execOp; rw [hop]; simp only [e, Sem.run_bind, h, Result.andThen, Sem.run_pure]
end
theorem Cell.var {id : TypeId} {T : Ty} {p n : Nat} {w : World} (h : Cell id T p w) (hT : ∀ v w, T.p v w → v.cells.size = n ∧ ∀ u ∈ v.cells, notDig u) : VarBlk w p id n := by
  obtain ⟨v, h1, h2⟩ := h
  obtain ⟨h3, h4⟩ := hT v w h2
  exact ⟨v.cells, h3, h4, h1⟩
theorem tN_nd {b lim x : Nat} : ∀ v w, (tN b lim x).p v w → v.cells.size = 1 ∧ ∀ u ∈ v.cells, notDig u := by
  rintro v w ⟨A, n, c, rfl, -, -⟩
  refine ⟨rfl, fun u hu => ?_⟩
  simp [Value.cells] at hu
  subst hu
  intro k n _ h; cases h
end Go.Proofs.YtfgnleoaibcegaaGreat.Rg

namespace Go.Proofs.YtfgnleoaibcegaaGreat.Rg

open Go.RowKit

theorem aB {w W w' : World} {γ : Nat → Nat} (h : Below w.heap.size w W) (hC : RelC [] W γ w') : Below w.heap.size w w' := aft_call h hC.below_nil
theorem aM {w W w' : World} {γ : Nat → Nat} {p : Nat} (h : Below w.heap.size w W) (hC : RelC [p] W γ w') (hp : w.heap.size ≤ p := by assumption) : Below w.heap.size w w' :=
  RelC.aftM h hC fun m hm => by simp at hm; rw [hm]; exact hp
theorem gV {rels : List Rel} {N : Nat} {a : Act} {γ : Nat → Nat} {w : World} {t : Nat} {l : List Oper} {u : Value} (hz : a.tmps.size = N) (i : Nat) (hh : ∀ i, i < l.length → alive l.toArray rels i = true → Holds l.toArray rels i a γ w) (hi : decide (i < l.length) = true := by exact rfl) (hr : rels[i]? = some (rT (tV u)) := by exact rfl) (hd : (l.toArray[i]?).bind (·.dst) = some t := by exact rfl) (hlt : decide (t < N) = true := by exact rfl) (hal : alive l.toArray rels i = true := by kernel_rfl) : Sl a t u :=
  gotV hz i hh hi hr hd hlt hal
abbrev rV (x : Value) : Rel := rT (tV x)
theorem rt {P : Program} {Q : Exit → Act → World → Prop} {a0 : Act} {W : World} {N : Nat} {id : Nat} {l : List Oper} (rels : List Rel) (hz : a0.tmps.size = N) (hdf : a0.defers = [])
    (hstep : AllSteps (StepOk P l.toArray a0 [] W Q rels) 0 l)
    (hend : ∀ a γ w', a.tmps.size = N → a.defers = [] → RelC [] W γ w' → (∀ t v, (l.all fun o => !(o.dst == some t)) = true → Sl a0 t v → Sl a t v) → (∀ i, i < l.length → alive l.toArray rels i = true → Holds l.toArray rels i a γ w') → Q .normal a w')
    (hB : relB l.toArray N rels = true := by kernel_rfl) : (Code.region id l.toArray false).wp P Q a0 W :=
  region_text (M := []) rels hz hdf hB hstep hend


def tR (b l1 l2 p q : Nat) : Ty := ⟨fun v w => ∃ A n c A' n' c', v = .agg #[.slice A n c, .slice A' n' c'] ∧ DAt b w A n c p ∧ n ≤ l1 ∧ DAt b w A' n' c' q ∧ n' ≤ l2,
  fun _ _ _ _ _ _ g ⟨A, n, c, A', n', c', e, h, hn, h', hn'⟩ => ⟨A, n, c, A', n', c', e, dat_grow g h, hn, dat_grow g h', hn'⟩⟩
theorem tR_nil {b l1 l2 : Nat} {w : World} : (tR b l1 l2 0 0).p (.agg #[.slice none 0 0, .slice none 0 0]) w := ⟨none, 0, 0, none, 0, 0, rfl, DAt.nil, Nat.zero_le _, DAt.nil, Nat.zero_le _⟩
section

variable {P : Program} {ops : Array Oper} {Q : Exit → Act → World → Prop} {a0 : Act} {M : List Nat} {W : World} {rels : List Rel} {i : Nat} {o : Oper} {T T' : Ty} {N d : Nat} {x y : Operand}
theorem sLoadP {id sid : TypeId} {p off : Nat} (ho : ops[i]? = some o) (hr : rels[i]? = some (rT T)) (hd : o.dst = some d) (hz : a0.tmps.size = N) (hlt : decide (d < N) = true) (g : Gd ops a0 M W rels i o true)
    (hop : o.op = .load id x) (sx : Src ops a0 M W rels i o x (tV (.pointer (some ⟨p, off, none⟩)))) (hc : Cell sid T' p W) (hp : tagOf M 1000 p = 0)
    (ld : ∀ v w, T'.p v w → Blk w p sid v.cells → ∃ u, (Instr.loadAt id (.pointer (some ⟨p, off, none⟩))).run P w = .ok u w ∧ T.p u w) : StepOk P ops a0 M W Q rels i o :=
  sOp ho hr hd hz hlt g fun a γ w U => by
    have e : a.eval x = .pointer (some ⟨p, off, none⟩) := sx a γ w U
    obtain ⟨v, h1, h2⟩ := hc.aft U.c hp
    obtain ⟨u, h3, h4⟩ := ld v w h2 h1
    refine ⟨u, ?_, h4⟩
    unfold execOp; rw [hop]; simp only [e, Sem.run_bind, h3, Result.andThen, Sem.run_pure]
theorem sBuild2 {id : TypeId} {T1 T2 : Ty} (ho : ops[i]? = some o) (hr : rels[i]? = some (rT T)) (hd : o.dst = some d) (hz : a0.tmps.size = N) (hlt : decide (d < N) = true) (g : Gd ops a0 M W rels i o true)
    (hop : o.op = .build id #[(0, x), (1, y)]) (s1 : Src ops a0 M W rels i o x T1) (s2 : Src ops a0 M W rels i o y T2) (h : ∀ u v w, T1.p u w → T2.p v w → ∃ z, (Instr.build id #[(0, u), (1, v)]).run P w = .ok z w ∧ T.p z w) : StepOk P ops a0 M W Q rels i o :=
  sOp ho hr hd hz hlt g fun a γ w U => by
    obtain ⟨z, h1, h2⟩ := h _ _ w (s1 a γ w U) (s2 a γ w U)
    refine ⟨z, ?_, h2⟩
    unfold execOp; rw [hop]; simp only [List.map_toArray, List.map_cons, List.map_nil, Sem.run_bind, h1, Result.andThen, Sem.run_pure]
end
/-! ### The program's fractions and the document's -/
theorem ld_r64 {b l1 l2 x y p : Nat} : ∀ v w, (tR b l1 l2 x y).p v w → Blk w p 28 v.cells → (Instr.loadAt 28 (.pointer (some ⟨p, 0, none⟩))).run Tryz.prog w = .ok v w := by
  rintro v w ⟨A, n, c, A', n', c', rfl, -, -, -, -⟩ hb
  have h0 := hb.cell 0
  have h1 := hb.cell 1
  simp [Value.cells] at h0 h1
  simp [go_sem, h0, h1]
theorem ldp_r64 {b l1 l2 x y p : Nat} : ∀ v w, (tR b l1 l2 x y).p v w → Blk w p 28 v.cells → ∃ u, (Instr.loadAt 26 (.pointer (some ⟨p, 0, none⟩))).run Tryz.prog w = .ok u w ∧ (tN b l1 x).p u w := by
  rintro v w ⟨A, n, c, A', n', c', rfl, hd, hn, -, -⟩ hb
  have h0 := hb.cell 0
  simp [Value.cells] at h0
  exact ⟨.agg #[.slice A n c], by simp [go_sem, h0], A, n, c, rfl, hd, hn⟩
theorem ldq_r64 {b l1 l2 x y p : Nat} : ∀ v w, (tR b l1 l2 x y).p v w → Blk w p 28 v.cells → ∃ u, (Instr.loadAt 26 (.pointer (some ⟨p, 1, none⟩))).run Tryz.prog w = .ok u w ∧ (tN b l2 y).p u w := by
  rintro v w ⟨A, n, c, A', n', c', rfl, -, -, hd, hn⟩ hb
  have h0 := hb.cell 1
  simp [Value.cells] at h0
  exact ⟨.agg #[.slice A' n' c'], by simp [go_sem, h0], A', n', c', rfl, hd, hn⟩
theorem box_r64 {b l1 l2 x y : Nat} : ∀ v w, (tR b l1 l2 x y).p v w → (Instr.box 28 v).run Tryz.prog w = .ok (.pointer (some ⟨w.heap.size, 0, none⟩)) (w.alloc (.cells v.cells 28)) := by
  rintro v w ⟨A, n, c, A', n', c', rfl, -, -, -, -⟩
  simp [go_sem, Value.cells]
theorem al_r64 : ∀ w : World, (Instr.alloc 28 true (.tuple #[])).run Tryz.prog w = .ok (.pointer (some ⟨w.heap.size, 0, none⟩)) (w.alloc (.cells (Value.agg #[.slice none 0 0, .slice none 0 0]).cells 28)) := by
  intro w; simp [go_sem, Value.cells]
theorem mk_r64 {b l1 l2 x y : Nat} : ∀ u v w, (tN b l1 x).p u w → (tN b l2 y).p v w → ∃ z, (Instr.build 28 #[(0, u), (1, v)]).run Tryz.prog w = .ok z w ∧ (tR b l1 l2 x y).p z w := by
  rintro u v w ⟨A, n, c, rfl, hd, hn⟩ ⟨A', n', c', rfl, hd', hn'⟩
  exact ⟨.agg #[.slice A n c, .slice A' n' c'], by simp [go_sem], A, n, c, A', n', c', rfl, hd, hn, hd', hn'⟩
theorem bd_r64 : ∀ w : World, (Instr.build 28 #[]).run Tryz.prog w = .ok (.agg #[.slice none 0 0, .slice none 0 0]) w := by
  intro w; simp [go_sem]
theorem st_r64 {b l1 l2 x y : Nat} : StoreOk Tryz.prog 28 (tR b l1 l2 x y) 2 := by
  rintro v w p us ⟨A, n, c, A', n', c', rfl, -, -, -, -⟩ hk hb
  obtain ⟨u, u', rfl⟩ : ∃ u u', us = #[u, u'] := by
    obtain ⟨l⟩ := us
    match l, hk with
    | [u, u'], _ => exact ⟨u, u', rfl⟩
  have h1 := hb.cell 0
  have h1' := hb.cell 1
  have h2 := hb.frozen 0
  have h2' := hb.frozen 1
  have hb3 := hb.set_ 0 (.slice A n c)
  have h3 := hb3.cell 1
  have h3' := hb3.frozen 1
  refine ⟨(w.setCell ⟨p, 0, none⟩ (.slice A n c)).setCell ⟨p, 1, none⟩ (.slice A' n' c'), ?_, (But.set1 _ _ _ _).trans (But.set1 _ _ _ _), (hb.set_ 0 _).set_ 1 _, rfl, ?_⟩
  · simp at h1 h1' h3
    simp [go_sem, h1, h1', h2, h2', h3, h3']
  · intro u hu
    simp [Value.cells] at hu
    rcases hu with rfl | rfl <;> (intro k n _ h; cases h)

theorem ld_r32 {b l1 l2 x y p : Nat} : ∀ v w, (tR b l1 l2 x y).p v w → Blk w p 32 v.cells → (Instr.loadAt 32 (.pointer (some ⟨p, 0, none⟩))).run Tryz.prog w = .ok v w := by
  rintro v w ⟨A, n, c, A', n', c', rfl, -, -, -, -⟩ hb
  have h0 := hb.cell 0
  have h1 := hb.cell 1
  simp [Value.cells] at h0 h1
  simp [go_sem, h0, h1]
theorem al_r32 : ∀ w : World, (Instr.alloc 32 true (.tuple #[])).run Tryz.prog w = .ok (.pointer (some ⟨w.heap.size, 0, none⟩)) (w.alloc (.cells (Value.agg #[.slice none 0 0, .slice none 0 0]).cells 32)) := by
  intro w; simp [go_sem, Value.cells]
theorem mk_r32 {b l1 l2 x y : Nat} : ∀ u v w, (tN b l1 x).p u w → (tN b l2 y).p v w → ∃ z, (Instr.build 32 #[(0, u), (1, v)]).run Tryz.prog w = .ok z w ∧ (tR b l1 l2 x y).p z w := by
  rintro u v w ⟨A, n, c, rfl, hd, hn⟩ ⟨A', n', c', rfl, hd', hn'⟩
  exact ⟨.agg #[.slice A n c, .slice A' n' c'], by simp [go_sem], A, n, c, A', n', c', rfl, hd, hn, hd', hn'⟩
theorem st_r32 {b l1 l2 x y : Nat} : StoreOk Tryz.prog 32 (tR b l1 l2 x y) 2 := by
  rintro v w p us ⟨A, n, c, A', n', c', rfl, -, -, -, -⟩ hk hb
  obtain ⟨u, u', rfl⟩ : ∃ u u', us = #[u, u'] := by
    obtain ⟨l⟩ := us
    match l, hk with
    | [u, u'], _ => exact ⟨u, u', rfl⟩
  have h1 := hb.cell 0
  have h1' := hb.cell 1
  have h2 := hb.frozen 0
  have h2' := hb.frozen 1
  have hb3 := hb.set_ 0 (.slice A n c)
  have h3 := hb3.cell 1
  have h3' := hb3.frozen 1
  refine ⟨(w.setCell ⟨p, 0, none⟩ (.slice A n c)).setCell ⟨p, 1, none⟩ (.slice A' n' c'), ?_, (But.set1 _ _ _ _).trans (But.set1 _ _ _ _), (hb.set_ 0 _).set_ 1 _, rfl, ?_⟩
  · simp at h1 h1' h3
    simp [go_sem, h1, h1', h2, h2', h3, h3']
  · intro u hu
    simp [Value.cells] at hu
    rcases hu with rfl | rfl <;> (intro k n _ h; cases h)
theorem tR_nd {b l1 l2 x y : Nat} : ∀ v w, (tR b l1 l2 x y).p v w → v.cells.size = 2 ∧ ∀ u ∈ v.cells, notDig u := by
  rintro v w ⟨A, n, c, A', n', c', rfl, -, -, -, -⟩
  refine ⟨rfl, fun u hu => ?_⟩
  simp [Value.cells] at hu
  rcases hu with rfl | rfl <;> (intro k n _ h; cases h)
theorem ret1_n64 {fn : Func} {w0 : World} {a : Act} {w : World} {b t1 p1 l1 x1 : Nat} (h : fn.results = #[.cell t1 26]) (s1 : Sl a t1 (.pointer (some ⟨p1, 0, none⟩))) (hdf : a.defers = []) (c1 : Cell 26 (tN b l1 x1) p1 w) (hb : Below w0.heap.size w0 w) : bodyPost Tryz.prog fn (Ret (tN b l1 x1) w0) .ret a w := by
  obtain ⟨v1, b1, h1⟩ := c1
  refine bodyPost_ret (v := v1) ?_ hdf ⟨_, rfl, h1, hb⟩
  obtain ⟨A, n, c, rfl, -, -⟩ := h1
  have e1 := b1.cell 0
  unfold Sl at s1
  simp [Value.cells] at e1
  simp [results, h, go_sem, s1, e1]

theorem ret1_r64 {fn : Func} {w0 : World} {a : Act} {w : World} {b t1 p1 l1 l2 x1 y1 : Nat} (h : fn.results = #[.cell t1 28]) (s1 : Sl a t1 (.pointer (some ⟨p1, 0, none⟩))) (hdf : a.defers = []) (c1 : Cell 28 (tR b l1 l2 x1 y1) p1 w) (hb : Below w0.heap.size w0 w) : bodyPost Tryz.prog fn (Ret (tR b l1 l2 x1 y1) w0) .ret a w := by
  obtain ⟨v1, b1, h1⟩ := c1
  refine bodyPost_ret (v := v1) ?_ hdf ⟨_, rfl, h1, hb⟩
  obtain ⟨A, n, c, A', n', c', rfl, -, -, -, -⟩ := h1
  have e1 := b1.cell 0
  have e2 := b1.cell 1
  unfold Sl at s1
  simp [Value.cells] at e1 e2
  simp [results, h, go_sem, s1, e1, e2]

theorem ret1_r32 {fn : Func} {w0 : World} {a : Act} {w : World} {b t1 p1 l1 l2 x1 y1 : Nat} (h : fn.results = #[.cell t1 32]) (s1 : Sl a t1 (.pointer (some ⟨p1, 0, none⟩))) (hdf : a.defers = []) (c1 : Cell 32 (tR b l1 l2 x1 y1) p1 w) (hb : Below w0.heap.size w0 w) : bodyPost Tryz.prog fn (Ret (tR b l1 l2 x1 y1) w0) .ret a w := by
  obtain ⟨v1, b1, h1⟩ := c1
  refine bodyPost_ret (v := v1) ?_ hdf ⟨_, rfl, h1, hb⟩
  obtain ⟨A, n, c, A', n', c', rfl, -, -, -, -⟩ := h1
  have e1 := b1.cell 0
  have e2 := b1.cell 1
  unfold Sl at s1
  simp [Value.cells] at e1 e2
  simp [results, h, go_sem, s1, e1, e2]

theorem ret2_n64 {fn : Func} {w0 : World} {a : Act} {w : World} {b t1 t2 p1 p2 l1 l2 x1 x2 : Nat} (h : fn.results = #[.cell t1 26, .cell t2 26]) (s1 : Sl a t1 (.pointer (some ⟨p1, 0, none⟩))) (s2 : Sl a t2 (.pointer (some ⟨p2, 0, none⟩))) (hdf : a.defers = [])
    (c1 : Cell 26 (tN b l1 x1) p1 w) (c2 : Cell 26 (tN b l2 x2) p2 w) (hb : Below w0.heap.size w0 w) : bodyPost Tryz.prog fn (Ret (tT [tN b l1 x1, tN b l2 x2]) w0) .ret a w := by
  obtain ⟨v1, b1, h1⟩ := c1
  obtain ⟨v2, b2, h2⟩ := c2
  refine bodyPost_ret (v := .tuple #[v1, v2]) ?_ hdf ⟨_, rfl, ⟨[v1, v2], rfl, h1, h2, trivial⟩, hb⟩
  obtain ⟨A, n, c, rfl, -, -⟩ := h1
  obtain ⟨A', n', c', rfl, -, -⟩ := h2
  have e1 := b1.cell 0
  have e2 := b2.cell 0
  unfold Sl at s1 s2
  simp [Value.cells] at e1 e2
  simp [results, h, go_sem, s1, s2, e1, e2]
theorem retct_r64 {fn : Func} {w0 : World} {a : Act} {w : World} {b t1 t2 p1 l1 l2 x1 y1 : Nat} {v2 : Value} (h : fn.results = #[.cell t1 28, .tmp t2]) (s1 : Sl a t1 (.pointer (some ⟨p1, 0, none⟩))) (s2 : Sl a t2 v2) (hdf : a.defers = []) (c1 : Cell 28 (tR b l1 l2 x1 y1) p1 w) (hb : Below w0.heap.size w0 w) : bodyPost Tryz.prog fn (Ret (tT [tR b l1 l2 x1 y1, tV v2]) w0) .ret a w := by
  obtain ⟨v1, b1, h1⟩ := c1
  refine bodyPost_ret (v := .tuple #[v1, v2]) ?_ hdf ⟨_, rfl, ⟨[v1, v2], rfl, h1, rfl, trivial⟩, hb⟩
  obtain ⟨A, n, c, A', n', c', rfl, -, -, -, -⟩ := h1
  have e1 := b1.cell 0
  have e2 := b1.cell 1
  unfold Sl at s1 s2
  simp [Value.cells] at e1 e2
  simp [results, h, go_sem, s1, s2, e1, e2]
theorem retct_r32 {fn : Func} {w0 : World} {a : Act} {w : World} {b t1 t2 p1 l1 l2 x1 y1 : Nat} {v2 : Value} (h : fn.results = #[.cell t1 32, .tmp t2]) (s1 : Sl a t1 (.pointer (some ⟨p1, 0, none⟩))) (s2 : Sl a t2 v2) (hdf : a.defers = []) (c1 : Cell 32 (tR b l1 l2 x1 y1) p1 w) (hb : Below w0.heap.size w0 w) : bodyPost Tryz.prog fn (Ret (tT [tR b l1 l2 x1 y1, tV v2]) w0) .ret a w := by
  obtain ⟨v1, b1, h1⟩ := c1
  refine bodyPost_ret (v := .tuple #[v1, v2]) ?_ hdf ⟨_, rfl, ⟨[v1, v2], rfl, h1, rfl, trivial⟩, hb⟩
  obtain ⟨A, n, c, A', n', c', rfl, -, -, -, -⟩ := h1
  have e1 := b1.cell 0
  have e2 := b1.cell 1
  unfold Sl at s1 s2
  simp [Value.cells] at e1 e2
  simp [results, h, go_sem, s1, s2, e1, e2]
theorem nd_rat : ∀ u ∈ (Value.agg #[.slice none 0 0, .slice none 0 0]).cells, notDig u := by
  intro u hu
  simp [Value.cells] at hu
  subst hu
  intro k n _ h; cases h
def und (q : Nat) : Nat := if q = 0 then 1 else q
end Go.Proofs.YtfgnleoaibcegaaGreat.Rg

namespace Go.Proofs.YtfgnleoaibcegaaGreat.Rg

open Go.RowKit

def cmpQ (x y : Rat) : Int := if x < y then -1 else if y < x then 1 else 0
theorem und_pos (q : Nat) : 0 < und q := by unfold und; split <;> omega
theorem und_ne (q : Nat) : und q ≠ 0 := by have := und_pos q; omega
theorem und_of {q : Nat} (h : q ≠ 0) : und q = q := by unfold und; rw [if_neg h]
theorem low_num (X Y : Nat) (hY : Y ≠ 0) : (mkRat X Y).num = ((X / Nat.gcd X Y : Nat) : Int) := by
  rw [Rat.num_mkRat, if_neg hY, Int.natAbs_natCast, Nat.gcd_comm, Int.natCast_ediv]
theorem low_den (X Y : Nat) (hY : Y ≠ 0) : (mkRat X Y).den = Y / Nat.gcd X Y := by
  rw [Rat.den_mkRat, if_neg hY, Int.natAbs_natCast, Nat.gcd_comm]
theorem low_ne (X Y : Nat) (hY : Y ≠ 0) : Y / Nat.gcd X Y ≠ 0 := by
  have h := Nat.div_pos (Nat.le_of_dvd (by omega) (Nat.gcd_dvd_right X Y)) (Nat.gcd_pos_of_pos_right X (by omega))
  omega
section

variable {x y : Rat} {p q p' q' : Nat}
theorem q_eq (h1 : x.num = (p : Int)) (h2 : x.den = q) : x = mkRat p q := by rw [← h1, ← h2, Rat.mkRat_self]
theorem q_le (h1 : x.num = (p : Int)) (h2 : x.den = q) (h3 : y.num = (p' : Int)) (h4 : y.den = q') : y ≤ x ↔ p' * q ≤ p * q' := by
  rw [Rat.le_iff, h1, h2, h3, h4]; norm_cast
theorem q_lt (h1 : x.num = (p : Int)) (h2 : x.den = q) (h3 : y.num = (p' : Int)) (h4 : y.den = q') : y < x ↔ p' * q < p * q' := by
  rw [Rat.lt_iff, h1, h2, h3, h4]; norm_cast
theorem q_cmp (h1 : x.num = (p : Int)) (h2 : x.den = q) (h3 : y.num = (p' : Int)) (h4 : y.den = q') : cmpI (p * q') (p' * q) = cmpQ x y := by
  unfold cmpI cmpQ
  simp only [q_lt h3 h4 h1 h2, q_lt h1 h2 h3 h4]
theorem q_sub (h1 : x.num = (p : Int)) (h2 : x.den = q) (h3 : y.num = (p' : Int)) (h4 : y.den = q') (h : p' * q ≤ p * q') : x - y = mkRat ((p * q' - p' * q : Nat) : Int) (q * q') := by
  rw [Rat.sub_def', h1, h2, h3, h4, Int.ofNat_sub h]; simp
theorem q_div (h1 : x.num = (p : Int)) (h2 : x.den = q) (h3 : y.num = (p' : Int)) (h4 : y.den = q') : x / y = mkRat ((p * q' : Nat) : Int) (q * p') := by
  have hx := q_eq h1 h2
  have hq : q ≠ 0 := by rw [← h2]; exact x.den_nz
  have hq' : q' ≠ 0 := by rw [← h4]; exact y.den_nz
  have hi : y⁻¹ = mkRat q' p' := by
    rw [Rat.inv_def, h3, h4]; simp
  rw [Rat.div_def, hi, hx, Rat.mkRat_mul_mkRat]; simp
theorem q_zero (h1 : x.num = (p : Int)) : p = 0 ↔ x = 0 := by
  rw [← Rat.num_eq_zero, h1]; omega
end

def tQ (b l : Nat) (x : Rat) : Ty := ⟨fun v w => ∃ p q, (tR b l l p q).p v w ∧ x.num = (p : Int) ∧ x.den = und q ∧ (b = B32 → q ≠ 0) ∧ p < 2 ^ l ∧ und q < 2 ^ l,
  fun t γ w γ' w' v g ⟨p, q, h, r⟩ => ⟨p, q, (tR b l l p q).l t γ w γ' w' v g h, r⟩⟩
section

variable {b l l1 l2 m p q : Nat} {x y : Rat} {v : Value} {w : World}
theorem bits_digs (hb : 2 ≤ b) {A : Option Addr} {n c z : Nat} (h : DAt b w A n c z) (hz : z < 2 ^ l) : n ≤ l := h.le hb (Nat.lt_of_lt_of_le hz (Nat.pow_le_pow_left hb l))
theorem le_und (q : Nat) : q ≤ und q := by unfold und; split <;> omega
theorem tQ_mk (hb : 2 ≤ b) (h : (tR b l1 l2 p q).p v w) (h1 : x.num = (p : Int)) (h2 : x.den = und q) (h3 : b = B32 → q ≠ 0) (h4 : p < 2 ^ l) (h5 : und q < 2 ^ l) : (tQ b l x).p v w := by
  obtain ⟨A, n, c, A', n', c', rfl, hd, hn, hd', hn'⟩ := h
  exact ⟨p, q, ⟨A, n, c, A', n', c', rfl, hd, bits_digs hb hd h4, hd', bits_digs hb hd' (Nat.lt_of_le_of_lt (le_und q) h5)⟩, h1, h2, h3, h4, h5⟩
theorem tQ_le (hb : 2 ≤ b) (hl : l ≤ m) : ∀ v w, (tQ b l x).p v w → (tQ b m x).p v w := by
  rintro v w ⟨p, q, h, e1, e2, h3, h4, h5⟩
  have := Nat.pow_le_pow_right (n := 2) (by omega) hl
  exact tQ_mk hb h e1 e2 h3 (by omega) (by omega)
theorem tQ_eq (e : x = y) : ∀ v w, (tQ b l x).p v w → (tQ b l y).p v w := fun v w h => e ▸ h
theorem tQ_low (hb : 2 ≤ b) {X Y : Nat} (h : (tR b l1 l2 (X / Nat.gcd X Y) (Y / Nat.gcd X Y)).p v w) (hY : Y ≠ 0) (hx : x = mkRat X Y) (h1 : X < 2 ^ l) (h2 : Y < 2 ^ l) : (tQ b l x).p v w := by
  have hn := low_ne X Y hY
  refine tQ_mk hb h (by rw [hx]; exact low_num X Y hY) (by rw [hx, und_of hn]; exact low_den X Y hY) (fun _ => hn) (Nat.lt_of_le_of_lt (Nat.div_le_self _ _) h1) ?_
  rw [und_of hn]; exact Nat.lt_of_le_of_lt (Nat.div_le_self _ _) h2
theorem tQ_0 : (tR B64 0 0 0 0).p v w → (tQ B64 1 0).p v w := fun h => tQ_mk (by decide) h rfl rfl (fun h => by revert h; decide) (by decide) (by decide)
theorem bits_mul {X Y : Nat} (h1 : X < 2 ^ l1) (h2 : Y < 2 ^ l2) : X * Y < 2 ^ (l1 + l2) := by
  rw [Nat.pow_add]; exact Nat.mul_lt_mul'' h1 h2
theorem bits_le {X : Nat} (h1 : X < 2 ^ l1) (h : l1 ≤ l2) : X < 2 ^ l2 := Nat.lt_of_lt_of_le h1 (Nat.pow_le_pow_right (by omega) h)
end

end Go.Proofs.YtfgnleoaibcegaaGreat.Rg

namespace Go.Proofs.YtfgnleoaibcegaaGreat.Rg

open Go.RowKit

section

variable {P : Program} {ops : Array Oper} {Q : Exit → Act → World → Prop} {a0 : Act} {M : List Nat} {W : World} {rels : List Rel} {i : Nat} {o : Oper} {T T' : Ty} {N d : Nat} {x y c c2 : Operand}
theorem kc {v : Value} : Src ops a0 M W rels i o (.const v) (tV v) := Src.const v
theorem sd (j : Nat) {t : Nat} (hr : rels[j]? = some (rT T)) (hj : (ops[j]?).bind (·.dst) = some t := by rfl) (hw : waitsD o j = true := by rfl) : Src ops a0 M W rels i o (.tmp t) T := Src.dep hj hw hr
theorem sv {t : Nat} {v : Value} (hs : Sl a0 t v) (hn : (ops.all fun o' => !(o'.dst == some t) || waitsFor o' i) = true := by kernel_rfl) : Src ops a0 M W rels i o (.tmp t) (tV v) := Src.out hn hs rfl
theorem so {t : Nat} {v : Value} (hs : Sl a0 t v) (hp : T.p v W) (hn : (ops.all fun o' => !(o'.dst == some t) || waitsFor o' i) = true := by kernel_rfl) : Src ops a0 M W rels i o (.tmp t) T := Src.out hn hs hp
theorem gT (g : Nat) {t : Nat} {want b : Bool} (hr : rels[g]? = some (rT (tV (.bool b)))) (hg : o.guard = some (g, want) := by rfl) (ht : (ops[g]?).bind (·.dst) = some t := by rfl) (hw : waitsD o g = true := by rfl) (hb : (b == want) = true := by rfl) : Gd ops a0 M W rels i o true := Gd.yes hg ht (Src.dep ht hw hr) hb
theorem gU (g : Nat) {t : Nat} {want : Bool} (hr : rels[g]? = some (rT (tV undef))) (hg : o.guard = some (g, want) := by rfl) (ht : (ops[g]?).bind (·.dst) = some t := by rfl) (hw : waitsD o g = true := by rfl) : Gd ops a0 M W rels i o false := by
  intro a γ w U
  have h : a.eval (.tmp t) = undef := Src.dep ht hw hr a γ w U
  have h2 : yielded ops a.tmps g = none := by
    simp only [yielded, ht, Option.bind_some]
    simp only [Act.eval, Array.getD_eq_getD_getElem?] at h
    cases hx : a.tmps[t]? with
    | none => simp
    | some v => rw [hx] at h; simp at h; rw [h]; simp [undef]
  simp only [Region.wanted, hg, h2]
  cases want <;> rfl
theorem gN (g : Nat) {t : Nat} {want b : Bool} (hr : rels[g]? = some (rT (tV (.bool b)))) (hg : o.guard = some (g, want) := by rfl) (ht : (ops[g]?).bind (·.dst) = some t := by rfl) (hw : waitsD o g = true := by rfl) (hb : (b == want) = false := by rfl) : Gd ops a0 M W rels i o false := Gd.no hg ht (Src.dep ht hw hr) hb
theorem zMv  (hz : a0.tmps.size = N) (s : Src ops a0 M W rels i o x (T)) (g : Gd ops a0 M W rels i o true := by exact Gd.none_ rfl) (hop : o.op = .move x := by rfl) (ho : ops[i]? = some o := by rfl) (hr : rels[i]? = some (rT T) := by rfl) (hd : o.dst = some d := by rfl) (hlt : decide (d < N) = true := by rfl) : StepOk P ops a0 M W Q rels i o :=
  sMv ho hr hd hz hlt g hop s
theorem zAs  (hz : a0.tmps.size = N) (s : Src ops a0 M W rels i o x (T)) (g : Gd ops a0 M W rels i o true := by exact Gd.none_ rfl) (hop : o.op = .assign x := by rfl) (ho : ops[i]? = some o := by rfl) (hr : rels[i]? = some (rT T) := by rfl) (hd : o.dst = some d := by rfl) (hlt : decide (d < N) = true := by rfl) : StepOk P ops a0 M W Q rels i o :=
  sAs ho hr hd hz hlt g hop s
theorem zPT  (hz : a0.tmps.size = N) (sc : Src ops a0 M W rels i o c (tV (.bool true))) (s : Src ops a0 M W rels i o x (T)) (g : Gd ops a0 M W rels i o true := by exact Gd.none_ rfl) (hop : o.op = .pick c x y := by rfl) (ho : ops[i]? = some o := by rfl) (hr : rels[i]? = some (rT T) := by rfl) (hd : o.dst = some d := by rfl) (hlt : decide (d < N) = true := by rfl) : StepOk P ops a0 M W Q rels i o :=
  sPickT ho hr hd hz hlt g hop sc s
theorem zPF  (hz : a0.tmps.size = N) (sc : Src ops a0 M W rels i o c (tV (.bool false))) (s : Src ops a0 M W rels i o y (T)) (g : Gd ops a0 M W rels i o true := by exact Gd.none_ rfl) (hop : o.op = .pick c x y := by rfl) (ho : ops[i]? = some o := by rfl) (hr : rels[i]? = some (rT T) := by rfl) (hd : o.dst = some d := by rfl) (hlt : decide (d < N) = true := by rfl) : StepOk P ops a0 M W Q rels i o :=
  sPickF ho hr hd hz hlt g hop sc s
theorem zNot {b : Bool} {id : TypeId} (hz : a0.tmps.size = N) (s : Src ops a0 M W rels i o x (tV (.bool b))) (g : Gd ops a0 M W rels i o true := by exact Gd.none_ rfl) (hop : o.op = .unOp .not id x := by rfl) (ho : ops[i]? = some o := by rfl) (hr : rels[i]? = some (rT (tV (.bool !b))) := by rfl) (hd : o.dst = some d := by rfl) (hlt : decide (d < N) = true := by rfl) : StepOk P ops a0 M W Q rels i o :=
  sNot ho hr hd hz hlt g hop s
theorem zExt {l : List Ty} {j : Nat} (hz : a0.tmps.size = N) (s : Src ops a0 M W rels i o x (tT l)) (g : Gd ops a0 M W rels i o true := by exact Gd.none_ rfl) (hop : o.op = .extract x j := by rfl) (ho : ops[i]? = some o := by rfl) (hr : rels[i]? = some (rT T) := by rfl) (hd : o.dst = some d := by rfl) (hlt : decide (d < N) = true := by rfl) (hj : l[j]? = some T := by rfl) : StepOk P ops a0 M W Q rels i o :=
  sExt ho hr hd hz hlt g hop s hj
theorem zLd {id : TypeId} {p : Nat} (hz : a0.tmps.size = N) (s : Src ops a0 M W rels i o x (tV (.pointer (some ⟨p, 0, none⟩)))) (hc : Cell id T p W) (ld : ∀ v w, T.p v w → Blk w p id v.cells → (Instr.loadAt id (.pointer (some ⟨p, 0, none⟩))).run P w = .ok v w) (hp : tagOf M 1000 p = 0 := by rfl) (g : Gd ops a0 M W rels i o true := by exact Gd.none_ rfl) (hop : o.op = .load id x := by rfl) (ho : ops[i]? = some o := by rfl) (hr : rels[i]? = some (rT T) := by rfl) (hd : o.dst = some d := by rfl) (hlt : decide (d < N) = true := by rfl) : StepOk P ops a0 M W Q rels i o :=
  sLoad ho hr hd hz hlt g hop s hc hp ld
theorem zLdP {id sid : TypeId} {p off : Nat} (hz : a0.tmps.size = N) (s : Src ops a0 M W rels i o x (tV (.pointer (some ⟨p, off, none⟩)))) (hc : Cell sid T' p W) (ld : ∀ v w, T'.p v w → Blk w p sid v.cells → ∃ u, (Instr.loadAt id (.pointer (some ⟨p, off, none⟩))).run P w = .ok u w ∧ T.p u w) (hp : tagOf M 1000 p = 0 := by rfl) (g : Gd ops a0 M W rels i o true := by exact Gd.none_ rfl) (hop : o.op = .load id x := by rfl) (ho : ops[i]? = some o := by rfl) (hr : rels[i]? = some (rT T) := by rfl) (hd : o.dst = some d := by rfl) (hlt : decide (d < N) = true := by rfl) : StepOk P ops a0 M W Q rels i o :=
  sLoadP ho hr hd hz hlt g hop s hc hp ld
theorem zB2 {id : TypeId} {T1 T2 : Ty} (hz : a0.tmps.size = N) (s1 : Src ops a0 M W rels i o x (T1)) (s2 : Src ops a0 M W rels i o y (T2)) (h : ∀ u v w, T1.p u w → T2.p v w → ∃ z, (Instr.build id #[(0, u), (1, v)]).run P w = .ok z w ∧ T.p z w) (g : Gd ops a0 M W rels i o true := by exact Gd.none_ rfl) (hop : o.op = .build id #[(0, x), (1, y)] := by rfl) (ho : ops[i]? = some o := by rfl) (hr : rels[i]? = some (rT T) := by rfl) (hd : o.dst = some d := by rfl) (hlt : decide (d < N) = true := by rfl) : StepOk P ops a0 M W Q rels i o :=
  sBuild2 ho hr hd hz hlt g hop s1 s2 h
theorem zC0 {f : FuncId} {fn : Func} {ts : Array TypeId} (hz : a0.tmps.size = N) (hf : P.funcs[f]? = some fn)  (h : ∀ w, Calls P f #[] w (Ret T w)) (g : Gd ops a0 M W rels i o true := by exact Gd.none_ rfl) (hop : o.op = .call { callee := .value (.func f), args := #[], argTypes := ts } := by rfl) (ho : ops[i]? = some o := by rfl) (hr : rels[i]? = some (rT T) := by rfl) (hd : o.dst = some d := by rfl) (hlt : decide (d < N) = true := by rfl) (hn : (fn.name == "runtime.NumGoroutine") = false := by kernel_rfl) (hb : fn.body.isNone = false := by kernel_rfl) : StepOk P ops a0 M W Q rels i o :=
  sCall ho hr hd hz hlt g hop hf hn hb fun a γ w U => h w
theorem zC1 {f : FuncId} {fn : Func} {ts : Array TypeId} {T1 : Ty} (hz : a0.tmps.size = N) (hf : P.funcs[f]? = some fn) (s1 : Src ops a0 M W rels i o x (T1)) (h : ∀ u w, T1.p u w → Calls P f #[u] w (Ret T w)) (g : Gd ops a0 M W rels i o true := by exact Gd.none_ rfl) (hop : o.op = .call { callee := .value (.func f), args := #[x], argTypes := ts } := by rfl) (ho : ops[i]? = some o := by rfl) (hr : rels[i]? = some (rT T) := by rfl) (hd : o.dst = some d := by rfl) (hlt : decide (d < N) = true := by rfl) (hn : (fn.name == "runtime.NumGoroutine") = false := by kernel_rfl) (hb : fn.body.isNone = false := by kernel_rfl) : StepOk P ops a0 M W Q rels i o :=
  sCall ho hr hd hz hlt g hop hf hn hb fun a γ w U => h _ w (s1 a γ w U)
theorem zC2 {f : FuncId} {fn : Func} {ts : Array TypeId} {T1 : Ty} {T2 : Ty} (hz : a0.tmps.size = N) (hf : P.funcs[f]? = some fn) (s1 : Src ops a0 M W rels i o x (T1)) (s2 : Src ops a0 M W rels i o y (T2)) (h : ∀ u v w, T1.p u w → T2.p v w → Calls P f #[u, v] w (Ret T w)) (g : Gd ops a0 M W rels i o true := by exact Gd.none_ rfl) (hop : o.op = .call { callee := .value (.func f), args := #[x, y], argTypes := ts } := by rfl) (ho : ops[i]? = some o := by rfl) (hr : rels[i]? = some (rT T) := by rfl) (hd : o.dst = some d := by rfl) (hlt : decide (d < N) = true := by rfl) (hn : (fn.name == "runtime.NumGoroutine") = false := by kernel_rfl) (hb : fn.body.isNone = false := by kernel_rfl) : StepOk P ops a0 M W Q rels i o :=
  sCall ho hr hd hz hlt g hop hf hn hb fun a γ w U => h _ _ w (s1 a γ w U) (s2 a γ w U)
theorem zBox {id : TypeId} (hz : a0.tmps.size = N) (s : Src ops a0 M W rels i o x T) (hrun : ∀ v w, T.p v w → (Instr.box id v).run P w = .ok (.pointer (some ⟨w.heap.size, 0, none⟩)) (w.alloc (.cells v.cells id))) (ho : ops[i]? = some o := by rfl) (hr : rels[i]? = some (rB i id T none 0) := by rfl) (hd : o.dst = some d := by rfl) (hlt : decide (d < N) = true := by rfl) (hg : o.guard = none := by rfl) (hop : o.op = .box id x := by rfl) : StepOk P ops a0 M W Q rels i o :=
  sBox ho hr hd hz hlt hg hop s hrun
theorem zNew {id : TypeId} {z : Value} (hz : a0.tmps.size = N) (hT : ∀ w, T.p z w) (hrun : ∀ w, (Instr.alloc id true (.tuple #[])).run P w = .ok (.pointer (some ⟨w.heap.size, 0, none⟩)) (w.alloc (.cells z.cells id))) (ho : ops[i]? = some o := by rfl) (hr : rels[i]? = some (rB i id T none 0) := by rfl) (hd : o.dst = some d := by rfl) (hlt : decide (d < N) = true := by rfl) (hg : o.guard = none := by rfl) (hop : o.op = .alloc id := by rfl) : StepOk P ops a0 M W Q rels i o :=
  sNew ho hr hd hz hlt hg hop hT hrun
theorem zAl {k : Nat} {id : TypeId} {z : Value} (hz : a0.tmps.size = N) (hzn : ∀ u ∈ z.cells, notDig u) (hrun : ∀ w, (Instr.alloc id true (.tuple #[])).run P w = .ok (.pointer (some ⟨w.heap.size, 0, none⟩)) (w.alloc (.cells z.cells id))) (ho : ops[i]? = some o := by rfl) (hr : rels[i]? = some (rVar i id k) := by rfl) (hd : o.dst = some d := by rfl) (hlt : decide (d < N) = true := by rfl) (hg : o.guard = none := by rfl) (hop : o.op = .alloc id := by rfl) (hk : z.cells.size = k := by rfl) : StepOk P ops a0 M W Q rels i o :=
  sAlloc ho hr hd hz hlt hg hop hk hzn hrun
theorem zSt {j k : Nat} {id : TypeId} {tp : Nat} (s : Src ops a0 M W rels i o x T) (hst : StoreOk P id T k) (ho : ops[i]? = some o := by rfl) (hr : rels[i]? = some (rB j id T (some j) (j + 1)) := by rfl) (hd : o.dst = none := by rfl) (hg : o.guard = none := by rfl) (hop : o.op = .store id (.tmp tp) x := by rfl) (hj : (ops[j]?).bind (·.dst) = some tp := by rfl) (hwj : waitsD o j = true := by rfl) (hrj : rels[j]? = some (rVar j id k) := by rfl) : StepOk P ops a0 M W Q rels i o :=
  sStore ho hr hd hg hop hj hwj hrj s hst
theorem zSE {k n p : Nat} {id : TypeId} (hr : rels[i]? = some (rE k id T p)) (sy : Src ops a0 M W rels i o y (tV (.pointer (some ⟨p, 0, none⟩)))) (hM : tagOf M 1000 p = 1000 + k) (hold : VarBlk W p id n) (s : Src ops a0 M W rels i o x T) (hst : StoreOk P id T n) (ho : ops[i]? = some o := by rfl) (hd : o.dst = none := by rfl) (hg : o.guard = none := by rfl) (hop : o.op = .store id y x := by rfl) : StepOk P ops a0 M W Q rels i o :=
  sStoreE ho hr hd hg hop sy hM hold s hst
theorem zSkU (hz : a0.tmps.size = N) (g : Gd ops a0 M W rels i o false) (ho : ops[i]? = some o := by rfl) (hr : rels[i]? = some (rT (tV undef)) := by rfl) (hd : o.dst = some d := by rfl) (hlt : decide (d < N) = true := by rfl) : StepOk P ops a0 M W Q rels i o := by
  intro a γ w K hc hag hearly hdep hkp hK
  have U : Up ops a0 M W rels i o a γ w := ⟨hc, hag, hearly, hdep, hkp⟩
  rw [if_neg (by rw [g a γ w U]; exact Bool.false_ne_true)]
  exact hK undef γ w (by unfold effOf; rw [hr]; exact Grow.refl_ _ _) (holds_put ho hr rfl hd (lt_of hz hlt hag) rfl)
end
/-! Contracts at known values. -/
section

variable {P : Program} {f : FuncId} {T T1 T2 T3 : Ty} {a b c : Value}
theorem k1 (h : ∀ w, Calls P f #[a] w (Ret T w)) : ∀ u w, (tV a).p u w → Calls P f #[u] w (Ret T w) := fun _ w e => by have e := show _ = a from e; subst e; exact h w
theorem k01 (h : ∀ u w, T1.p u w → Calls P f #[u, b] w (Ret T w)) : ∀ u v w, T1.p u w → (tV b).p v w → Calls P f #[u, v] w (Ret T w) := fun _ _ w h1 e => by have e := show _ = b from e; subst e; exact h _ w h1
theorem k10 (h : ∀ u w, T1.p u w → Calls P f #[a, u] w (Ret T w)) : ∀ u v w, (tV a).p u w → T1.p v w → Calls P f #[u, v] w (Ret T w) := fun _ _ w e h1 => by have e := show _ = a from e; subst e; exact h _ w h1
theorem k11 (h : ∀ w, Calls P f #[a, b] w (Ret T w)) : ∀ u v w, (tV a).p u w → (tV b).p v w → Calls P f #[u, v] w (Ret T w) := fun _ _ w e e' => by have e := show _ = a from e; have e' := show _ = b from e'; subst e e'; exact h w
end

section

variable {a : Act} {γ : Nat → Nat} {w w0 W : World} {t p n : Nat} {v : Value} {id : TypeId} {T : Ty} {M : List Nat} {ops : List Oper} {a0 : Act}
theorem kp (hk : ∀ t v, (ops.all fun o => !(o.dst == some t)) = true → Sl a0 t v → Sl a t v) (h : Sl a0 t v) (hn : (ops.all fun o => !(o.dst == some t)) = true := by kernel_rfl) : Sl a t v := hk t v hn h
theorem kC (hC : RelC M W γ w) (h : Cell id T p W) (hp : tagOf M 1000 p = 0 := by rfl) : Cell id T p w := h.aft hC hp
end

end Go.Proofs.YtfgnleoaibcegaaGreat.Rg
