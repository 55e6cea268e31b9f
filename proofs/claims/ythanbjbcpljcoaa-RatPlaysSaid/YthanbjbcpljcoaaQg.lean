/-
  Walks and plain laws, put together: OA OB OE OY TI UE UD.
-/
import Derived.Test.YthanbjbcpljcoaaQp
import Derived.Test.YthanbjbcpljcoaaQf
import Derived.Test.YthanbjbcpljcoaaFr
import Derived.ChangeSlices
import Derived.Deep.SlicePairs
set_option linter.unusedVariables false
set_option linter.unusedSimpArgs false
namespace Go.Proofs.Ythanbjbcpljcoaa.Rg

open Go.RowKit

/-- The cells of values, one behind the other. -/
def cat (vs : List Value) : List Value := vs.flatMap fun v => v.cells.toList
theorem cells_agg (cs : Array Value) : (Value.agg cs).cells = cs := rfl
theorem cat_cons (v : Value) (vs : List Value) : cat (v :: vs) = v.cells.toList ++ cat vs := by simp [cat]
def offO (ks : List Nat) (i : Nat) : Nat := (ks.take i).sum
theorem offO_succ (k : Nat) (ks : List Nat) (i : Nat) : offO (k :: ks) (i + 1) = k + offO ks i := by simp [offO]
theorem cat_at : ∀ {vs : List Value} {ks : List Nat} (i : Nat) {u : Value} {j : Nat}, vs.map (fun v => v.cells.size) = ks → vs[i]? = some u → j < u.cells.size → (cat vs)[offO ks i + j]? = u.cells[j]?
  | [], _, i, u, j, _, h, _ => by simp at h
  | v :: vs, ks, 0, u, j, hk, h, hj => by
    simp at h; subst h
    rw [cat_cons, show offO ks 0 = 0 by simp [offO], Nat.zero_add, List.getElem?_append_left (by simpa using hj)]
    simp
  | v :: vs, ks, i + 1, u, j, hk, h, hj => by
    subst hk
    rw [cat_cons, List.map_cons, offO_succ, List.getElem?_append_right (by simp; omega)]
    have := cat_at (vs := vs) i rfl (by simpa using h) hj
    rw [← this]; congr 1; simp; omega
theorem cat_len : ∀ (vs : List Value), (cat vs).length = (vs.map fun v => v.cells.size).sum
  | [] => rfl
  | v :: vs => by rw [cat_cons, List.length_append, cat_len vs]; simp
theorem cat_set : ∀ {vs : List Value} {ks : List Nat} (i : Nat) {u v : Value} (j : Nat), vs.map (fun v => v.cells.size) = ks → vs[i]? = some u → v.cells.size = u.cells.size →
    (cat (vs.set i v))[j]? = if offO ks i ≤ j ∧ j < offO ks i + v.cells.size then v.cells[j - offO ks i]? else (cat vs)[j]?
  | [], _, i, u, v, j, _, h, _ => by simp at h
  | x :: vs, ks, 0, u, v, j, hk, h, hs => by
    simp at h; subst h
    rw [List.set_cons_zero, cat_cons, cat_cons, show offO ks 0 = 0 by simp [offO]]
    by_cases hj : j < v.cells.size
    · rw [if_pos ⟨Nat.zero_le _, by omega⟩, List.getElem?_append_left (by simpa using hj)]; simp
    · rw [if_neg (by omega), List.getElem?_append_right (by simp; omega), List.getElem?_append_right (by simp; omega)]; simp [hs]
  | x :: vs, ks, i + 1, u, v, j, hk, h, hs => by
    subst hk
    rw [List.set_cons_succ, cat_cons, cat_cons, List.map_cons, offO_succ]
    by_cases hj : j < x.cells.size
    · rw [if_neg (by omega), List.getElem?_append_left (by simpa using hj), List.getElem?_append_left (by simpa using hj)]
    · rw [List.getElem?_append_right (by simp; omega), List.getElem?_append_right (by simp; omega), cat_set i (j - x.cells.toList.length) rfl (by simpa using h) hs]
      simp only [Array.length_toList]
      by_cases hc : offO (List.map (fun v => v.cells.size) vs) i ≤ j - x.cells.size ∧ j - x.cells.size < offO (List.map (fun v => v.cells.size) vs) i + v.cells.size
      · rw [if_pos hc, if_pos (by omega)]; congr 1; omega
      · rw [if_neg hc, if_neg (by omega)]
theorem AllT.set : ∀ {Ts : List Ty} {vs : List Value} {w : World} (i : Nat) {T : Ty} {v : Value}, AllT Ts vs w → T.p v w → AllT (Ts.set i T) (vs.set i v) w
  | [], [], _, _, _, _, h, _ => h
  | _ :: _, _ :: _, _, 0, _, _, h, hv => ⟨hv, h.2⟩
  | _ :: _, _ :: _, _, i + 1, _, _, h, hv => ⟨h.1, AllT.set i h.2 hv⟩
  | [], _ :: _, _, _, _, _, h, _ => h.elim
  | _ :: _, [], _, _, _, _, h, _ => h.elim
/-- An object of parts. -/
def tO (Ts : List Ty) (ks : List Nat) : Ty := ⟨fun v w => ∃ vs : List Value, v = .agg (cat vs).toArray ∧ AllT Ts vs w ∧ vs.map (fun v => v.cells.size) = ks, fun _ _ _ _ _ _ g ⟨vs, e, h, h2⟩ => ⟨vs, e, AllT.l g h, h2⟩⟩
def ND (T : Ty) : Prop := ∀ v w, T.p v w → ∀ u ∈ v.cells, notDig u
theorem tO_nd {Ts : List Ty} {ks : List Nat} (h : ∀ T ∈ Ts, ND T) : ∀ v w, (tO Ts ks).p v w → v.cells.size = ks.sum ∧ ∀ u ∈ v.cells, notDig u := by
  rintro v w ⟨vs, rfl, ha, hk⟩
  refine ⟨by subst hk; simp [Value.cells, cat_len], fun u hu => ?_⟩
  simp only [Value.cells, List.mem_toArray] at hu
  have key : ∀ (Ts : List Ty) (vs : List Value), (∀ T ∈ Ts, ND T) → AllT Ts vs w → ∀ u ∈ cat vs, notDig u := by
    intro Ts
    induction Ts with
    | nil => intro vs _ ha u hu; cases vs with
      | nil => simp [cat] at hu
      | cons v vs => exact ha.elim
    | cons T Ts ih => intro vs h ha u hu; cases vs with
      | nil => exact ha.elim
      | cons v vs =>
        rw [cat_cons, List.mem_append] at hu
        rcases hu with hu | hu
        · exact h T List.mem_cons_self v w ha.1 u (by simpa using hu)
        · exact ih vs (fun T hT => h T (List.mem_cons_of_mem _ hT)) ha.2 u hu
  exact key Ts vs h ha u hu
theorem nd_int {n : Int} : ND (tV (.int .i64 n)) := by
  rintro v w rfl u hu
  simp [Value.cells] at hu
  subst hu
  intro k m hk h
  cases h; simp [digK] at hk
theorem nd_q {b l : Nat} {x : Rat} : ND (tQ b l x) := fun v w h => (tQ_nd v w h).2
/-- A load of such a value at a place inside a block. -/
def LdOk (P : Program) (id : TypeId) (T : Ty) : Prop := ∀ v w p off, T.p v w → (∀ j, j < v.cells.size → w.cell? ⟨p, off + j, none⟩ = v.cells[j]?) → (Instr.loadAt id (.pointer (some ⟨p, off, none⟩))).run P w = .ok v w
/-- A store of such a value at a place inside a block. -/
def StPart (P : Program) (id : TypeId) (T : Ty) (k : Nat) : Prop := ∀ v w p off sid us, T.p v w → Blk w p sid us → off + k ≤ us.size →
  ∃ w', (Instr.storeAt id (.pointer (some ⟨p, off, none⟩)) v).run P w = .ok () w' ∧ But p w w' ∧ (∃ us', Blk w' p sid us' ∧ us'.size = us.size ∧ ∀ j, us'[j]? = if off ≤ j ∧ j < off + k then v.cells[j - off]? else us[j]?) ∧ v.cells.size = k ∧ ∀ u ∈ v.cells, notDig u
section

variable {P : Program} {ops : Array Oper} {Q : Exit → Act → World → Prop} {a0 : Act} {M : List Nat} {W : World} {rels : List Rel} {i : Nat} {o : Oper} {T T' : Ty} {N d : Nat} {x y c c2 : Operand}
/-- Where an object's content is known from, when number i comes up. -/
def CL (ops : Array Oper) (a0 : Act) (M : List Nat) (W : World) (rels : List Rel) (i : Nat) (o : Oper) (p : Nat) (sid : TypeId) (T : Ty) : Prop := ∀ a γ w, Up ops a0 M W rels i o a γ w → Cell sid T p w
theorem cl0 {p : Nat} {sid : TypeId} (hc : Cell sid T p W) (hp : tagOf M 1000 p = 0 := by rfl) : CL ops a0 M W rels i o p sid T := fun a γ w U => hc.aft U.c hp
theorem clM {p k : Nat} {sid : TypeId} (hc : Cell sid T p W) (hp : tagOf M 1000 p = 1000 + k) (huni : ((List.range ops.size).all fun j => j == i || ahead ops j i || !(effOf rels j == 1000 + k)) = true := by kernel_rfl) : CL ops a0 M W rels i o p sid T := fun a γ w U => by
  have hsame : w.heap[p]? = W.heap[p]? := U.kp p hc.lt fun j' o' ho' hj' hw' => by
    have hjs := (Array.getElem?_eq_some_iff.1 ho').1
    have := List.all_eq_true.1 huni j' (List.mem_range.2 hjs)
    rw [hp]
    simp only [hw', Bool.or_false, Bool.or_eq_true, beq_iff_eq, hj', false_or, Bool.not_eq_true', beq_eq_false_iff_ne] at this
    exact this
  obtain ⟨v, h1, h2⟩ := hc
  exact ⟨v, hsame.trans h1, T.aft h2 U.c⟩
theorem zLdO {id sid : TypeId} {p off : Nat} {Ts : List Ty} {ks : List Nat} (f : Nat) (hz : a0.tmps.size = N) (s : Src ops a0 M W rels i o x (tV (.pointer (some ⟨p, off, none⟩)))) (hc : CL ops a0 M W rels i o p sid (tO Ts ks)) (ld : LdOk P id T) (hT : Ts[f]? = some T := by rfl) (hoff : off = offO ks f := by rfl)
    (g : Gd ops a0 M W rels i o true := by exact Gd.none_ rfl) (hop : o.op = .load id x := by rfl) (ho : ops[i]? = some o := by rfl) (hr : rels[i]? = some (rT T) := by rfl) (hd : o.dst = some d := by rfl) (hlt : decide (d < N) = true := by rfl) : StepOk P ops a0 M W Q rels i o :=
  sOp ho hr hd hz hlt g fun a γ w U => by
    have e : a.eval x = .pointer (some ⟨p, off, none⟩) := s a γ w U
    obtain ⟨v, hb, vs, rfl, hall, hks⟩ := hc a γ w U
    obtain ⟨u, hu, hp⟩ := hall.at_ f hT
    refine ⟨u, ?_, hp⟩
    have := ld u w p off hp fun j hj => by
      rw [hb.cell, hoff, cells_agg, List.getElem?_toArray]
      exact cat_at f hks hu hj
    unfold execOp; rw [hop]; simp only [e, Sem.run_bind, this, Result.andThen, Sem.run_pure]
theorem zFAo {s : TypeId} {f p off off' : Nat} (hz : a0.tmps.size = N) (hop : o.op = .fieldAddr s x f) (hr : rels[i]? = some (rT (tV (.pointer (some ⟨p, off', none⟩))))) (sx : Src ops a0 M W rels i o x (tV (.pointer (some ⟨p, off, none⟩)))) (h : ∀ w, (Instr.fieldAt s (.pointer (some ⟨p, off, none⟩)) f).run P w = .ok (.pointer (some ⟨p, off', none⟩)) w)
    (g : Gd ops a0 M W rels i o true := by exact Gd.none_ rfl) (ho : ops[i]? = some o := by rfl) (hd : o.dst = some d := by rfl) (hlt : decide (d < N) = true := by rfl) : StepOk P ops a0 M W Q rels i o :=
  sOp ho hr hd hz hlt g fun a γ w U => by
    have e : a.eval x = .pointer (some ⟨p, off, none⟩) := sx a γ w U
    refine ⟨_, ?_, rfl⟩
    unfold execOp; rw [hop]; simp only [e, Sem.run_bind, h, Result.andThen, Sem.run_pure]
theorem zStO {id sid : TypeId} {p off k n : Nat} {Ts : List Ty} {ks : List Nat} {T0 : Ty} (f : Nat) (hr : rels[i]? = some (rE k sid (tO (Ts.set f T) ks) p)) (sy : Src ops a0 M W rels i o y (tV (.pointer (some ⟨p, off, none⟩)))) (hM : tagOf M 1000 p = 1000 + k) (hc : CL ops a0 M W rels i o p sid (tO Ts ks)) (hlt0 : p < W.heap.size)
    (s : Src ops a0 M W rels i o x T) (st : StPart P id T n) (hnd : ∀ T ∈ Ts, ND T) (hT : Ts[f]? = some T0 := by rfl) (hn : ks[f]? = some n := by rfl) (hoff : off = offO ks f := by rfl) (ho : ops[i]? = some o := by rfl) (hd : o.dst = none := by rfl) (hg : o.guard = none := by rfl) (hop : o.op = .store id y x := by rfl) : StepOk P ops a0 M W Q rels i o := by
  intro a γ w K hcc hag hearly hdep hkp hK
  have U : Up ops a0 M W rels i o a γ w := ⟨hcc, hag, hearly, hdep, hkp⟩
  have e : a.eval y = .pointer (some ⟨p, off, none⟩) := sy a γ w U
  have hv := s a γ w U
  have hcell := hc a γ w U
  have hnd0 := tO_nd (ks := ks) hnd
  obtain ⟨v0, hb, hv0⟩ := hcell
  obtain ⟨hsz0, hnd1⟩ := hnd0 v0 w hv0
  obtain ⟨vs, rfl, hall, hks⟩ := hv0
  obtain ⟨u, hu, hp⟩ := hall.at_ f hT
  have hun : u.cells.size = n := by
    have h1 : (vs.map fun v => v.cells.size)[f]? = some u.cells.size := by rw [List.getElem?_map, hu]; rfl
    rw [hks, hn] at h1; injection h1 with h1; exact h1.symm
  have hroom : off + n ≤ (Value.agg (cat vs).toArray).cells.size := by
    rw [cells_agg, List.size_toArray, cat_len, hks, hoff]; unfold offO
    have h1 : ks.take f ++ ks.drop f = ks := List.take_append_drop f ks
    have h2 : (ks.drop f).sum ≥ n := by
      have hlt : f < ks.length := (List.getElem?_eq_some_iff.1 hn).1
      rw [List.drop_eq_getElem_cons hlt]
      have : ks[f] = n := (List.getElem?_eq_some_iff.1 hn).2
      simp [this]
    have h3 : (ks.take f).sum + (ks.drop f).sum = ks.sum := by rw [← List.sum_append_nat, h1]
    omega
  obtain ⟨w', hrun, hbut, ⟨us', hblk, hsz, hget⟩, hks2, hnd2⟩ := st _ w p off sid _ hv hb hroom
  have hus : us' = (cat (vs.set f (a.eval x))).toArray := by
    apply Array.ext_getElem?
    intro j
    rw [hget j]
    have := cat_set f (v := a.eval x) j hks hu (by rw [hks2, hun])
    have e3 : (cat (vs.set f (a.eval x))).toArray[j]? = (cat (vs.set f (a.eval x)))[j]? := List.getElem?_toArray
    have e4 : (cat vs).toArray[j]? = (cat vs)[j]? := List.getElem?_toArray
    rw [e3, this, hoff, hks2, cells_agg, e4]
  have hγ : γ p = 1000 + k := by rw [hcc.2 p hlt0]; exact hM
  have hndn : ∀ z ∈ us', notDig z := by
    intro z hz
    obtain ⟨j, hj⟩ := Array.getElem?_of_mem hz
    rw [hget j] at hj
    by_cases hc2 : off ≤ j ∧ j < off + n
    · rw [if_pos hc2] at hj; exact hnd2 z (Array.mem_of_getElem? hj)
    · rw [if_neg hc2] at hj; exact hnd1 z (Array.mem_of_getElem? hj)
  have hgr : Grow (1000 + k) γ w γ w' := Grow.but γ (by omega) hγ hnd1 hndn hsz.symm hb hblk hbut
  rw [if_pos (by simp [Region.wanted, hg])]
  have hrun' : (execOp a.eval o).run P w = .ok .skip w' := by
    unfold execOp
    rw [hop]
    simp only
    rw [e]
    simp only [Sem.run_bind, hrun, Result.andThen, Sem.run_pure]
  unfold Oper.wp
  rw [hrun']
  refine hK undef γ _ (by unfold effOf; rw [hr]; exact hgr) ?_
  unfold Holds
  rw [hr]
  refine ⟨hγ, .agg us', hblk, vs.set f (a.eval x), by rw [hus], AllT.l hgr (AllT.set f hall hv), ?_⟩
  rw [← hks, List.map_set]
  apply List.ext_getElem?
  intro j
  by_cases hjf : j = f
  · subst hjf
    have hl : j < vs.length := (List.getElem?_eq_some_iff.1 hu).1
    rw [List.getElem?_set_self (by simpa using hl), List.getElem?_map, hu, hks2]
    simp [hun]
  · rw [List.getElem?_set_ne (Ne.symm hjf)]
/-- All blocks but one stay, and there may be new ones. -/
structure ButB (p : Nat) (w w' : World) : Prop where
  os : w'.os = w.os
  tape : w'.tape = w.tape
  output : w'.output = w.output
  size : w.heap.size ≤ w'.heap.size
  block : ∀ b, b < w.heap.size → b ≠ p → w'.heap[b]? = w.heap[b]?
theorem ButB.refl (p : Nat) (w : World) : ButB p w w := ⟨rfl, rfl, rfl, Nat.le_refl _, fun _ _ _ => rfl⟩
theorem ButB.of (p : Nat) {w w' : World} (h : Below w.heap.size w w') : ButB p w w' := ⟨h.os, h.tape, h.output, h.size, fun b hb _ => h.block b hb⟩
theorem ButB.trans {p : Nat} {w w' w'' : World} (h : ButB p w w') (g : ButB p w' w'') : ButB p w w'' :=
  ⟨g.os.trans h.os, g.tape.trans h.tape, g.output.trans h.output, Nat.le_trans h.size g.size, fun b hb hp => (g.block b (Nat.lt_of_lt_of_le hb h.size) hp).trans (h.block b hb hp)⟩
theorem ButB.aft {p : Nat} {M : List Nat} {w W w' : World} {γ : Nat → Nat} (h : ButB p w W) (hc : RelC M W γ w') (hM : ∀ m ∈ M, w.heap.size ≤ m ∨ m = p) : ButB p w w' := by
  refine ⟨hc.1.os.trans h.os, hc.1.tape.trans h.tape, hc.1.output.trans h.output, Nat.le_trans h.size hc.1.size, fun b hb hp => (hc.1.block b (Nat.lt_of_lt_of_le hb h.size) (.inr ?_)).trans (h.block b hb hp)⟩
  have key : ∀ (M : List Nat) (k : Nat), (∀ m ∈ M, w.heap.size ≤ m ∨ m = p) → tagOf M k b = 0 := by
    intro M
    induction M with
    | nil => intro k _; rfl
    | cons m M ih =>
      intro k hm
      unfold tagOf
      have := hm m List.mem_cons_self
      rw [if_neg (by omega)]
      exact ih _ fun x hx => hm x (List.mem_cons_of_mem _ hx)
  unfold mt
  rw [if_pos (key M 1000 hM)]; omega
end
theorem nd_nil : ∀ T ∈ ([] : List Ty), ND T := fun T h => by simp at h
theorem nd_c {T : Ty} {Ts : List Ty} (h : ND T) (hs : ∀ T ∈ Ts, ND T) : ∀ T' ∈ T :: Ts, ND T' := fun T' h' => by
  rcases List.mem_cons.1 h' with rfl | h'
  · exact h
  · exact hs _ h'
end Go.Proofs.Ythanbjbcpljcoaa.Rg

namespace Go.Proofs.Ythanbjbcpljcoaa.Rg

open Go.RowKit

theorem blk_lt {w : World} {p : Nat} {sid : TypeId} {us : Array Value} (h : Blk w p sid us) (j : Nat) (hj : j < us.size) : ∃ u, w.cell? ⟨p, j, none⟩ = some u := ⟨us[j], by rw [h.cell]; exact Array.getElem?_eq_getElem hj⟩
theorem ldo_int {n : Int} : LdOk Try.prog 3 (tV (.int .i64 n)) := by
  rintro v w p off rfl h
  have := h 0 (by simp [Value.cells])
  simp [Value.cells] at this
  simp [go_sem, this]
theorem ldo_q64 {b l : Nat} {x : Rat} : LdOk Try.prog 29 (tQ b l x) := by
  rintro v w p off ⟨P, Q, ⟨A, n, c, A', n', c', rfl, -⟩, -⟩ h
  have h0 := h 0 (by simp [Value.cells])
  have h1 := h 1 (by simp [Value.cells])
  simp [Value.cells] at h0 h1
  simp [go_sem, h0, h1]
theorem sto_q64 {b l : Nat} {x : Rat} : StPart Try.prog 29 (tQ b l x) 2 := by
  intro v w p off sid us hv hb hroom
  have hnd := (tQ_nd v w hv).2
  obtain ⟨P, Q, ⟨A, n, c, A', n', c', rfl, -⟩, -⟩ := hv
  obtain ⟨u, hu⟩ := blk_lt hb off (by omega)
  obtain ⟨u', hu'⟩ := blk_lt hb (off + 1) (by omega)
  have hf := hb.frozen off
  have hf' := hb.frozen (off + 1)
  have hb3 := hb.set_ off (.slice A n c)
  obtain ⟨u3, h3⟩ := blk_lt hb3 (off + 1) (by simp; omega)
  have h3' := hb3.frozen (off + 1)
  refine ⟨(w.setCell ⟨p, off, none⟩ (.slice A n c)).setCell ⟨p, off + 1, none⟩ (.slice A' n' c'), ?_, (But.set1 _ _ _ _).trans (But.set1 _ _ _ _), ⟨_, hb3.set_ (off + 1) (.slice A' n' c'), by simp, fun j => ?_⟩, rfl, hnd⟩
  · simp [go_sem, hu, hu', hf, hf', h3, h3']
  · by_cases hj : off ≤ j ∧ j < off + 2
    · rw [if_pos hj]
      rcases (show j = off ∨ j = off + 1 by omega) with rfl | rfl
      · rw [Array.getElem?_setIfInBounds_ne (by omega)]; simp [Value.cells, show j < us.size by omega]
      · simp [Value.cells, show off + 1 < us.size by omega]
    · rw [if_neg hj, Array.getElem?_setIfInBounds_ne (by omega), Array.getElem?_setIfInBounds_ne (by omega)]
theorem ldo_q32 {b l : Nat} {x : Rat} : LdOk Try.prog 33 (tQ b l x) := by
  rintro v w p off ⟨P, Q, ⟨A, n, c, A', n', c', rfl, -⟩, -⟩ h
  have h0 := h 0 (by simp [Value.cells])
  have h1 := h 1 (by simp [Value.cells])
  simp [Value.cells] at h0 h1
  simp [go_sem, h0, h1]
theorem sto_q32 {b l : Nat} {x : Rat} : StPart Try.prog 33 (tQ b l x) 2 := by
  intro v w p off sid us hv hb hroom
  have hnd := (tQ_nd v w hv).2
  obtain ⟨P, Q, ⟨A, n, c, A', n', c', rfl, -⟩, -⟩ := hv
  obtain ⟨u, hu⟩ := blk_lt hb off (by omega)
  obtain ⟨u', hu'⟩ := blk_lt hb (off + 1) (by omega)
  have hf := hb.frozen off
  have hf' := hb.frozen (off + 1)
  have hb3 := hb.set_ off (.slice A n c)
  obtain ⟨u3, h3⟩ := blk_lt hb3 (off + 1) (by simp; omega)
  have h3' := hb3.frozen (off + 1)
  refine ⟨(w.setCell ⟨p, off, none⟩ (.slice A n c)).setCell ⟨p, off + 1, none⟩ (.slice A' n' c'), ?_, (But.set1 _ _ _ _).trans (But.set1 _ _ _ _), ⟨_, hb3.set_ (off + 1) (.slice A' n' c'), by simp, fun j => ?_⟩, rfl, hnd⟩
  · simp [go_sem, hu, hu', hf, hf', h3, h3']
  · by_cases hj : off ≤ j ∧ j < off + 2
    · rw [if_pos hj]
      rcases (show j = off ∨ j = off + 1 by omega) with rfl | rfl
      · rw [Array.getElem?_setIfInBounds_ne (by omega)]; simp [Value.cells, show j < us.size by omega]
      · simp [Value.cells, show off + 1 < us.size by omega]
    · rw [if_neg hj, Array.getElem?_setIfInBounds_ne (by omega), Array.getElem?_setIfInBounds_ne (by omega)]
section

variable {B l m : Nat} {a : Rat} {v : Value} {w : World}
end

end Go.Proofs.Ythanbjbcpljcoaa.Rg

namespace Go.Proofs.Ythanbjbcpljcoaa.Rg

open Go.RowKit

theorem ld_of {P : Program} {id : TypeId} {T : Ty} (h : LdOk P id T) {p : Nat} : ∀ v w, T.p v w → Blk w p id v.cells → (Instr.loadAt id (.pointer (some ⟨p, 0, none⟩))).run P w = .ok v w := fun v w hv hb => h v w p 0 hv fun j hj => by rw [hb.cell]; simp
theorem allT3 {T1 T2 T3 : Ty} {vs : List Value} {w : World} (h : AllT [T1, T2, T3] vs w) : ∃ v1 v2 v3, vs = [v1, v2, v3] ∧ T1.p v1 w ∧ T2.p v2 w ∧ T3.p v3 w := by
  match vs, h with
  | [v1, v2, v3], h => exact ⟨v1, v2, v3, rfl, h.1, h.2.1, h.2.2.1⟩
theorem allT4 {T1 T2 T3 T4 : Ty} {vs : List Value} {w : World} (h : AllT [T1, T2, T3, T4] vs w) : ∃ v1 v2 v3 v4, vs = [v1, v2, v3, v4] ∧ T1.p v1 w ∧ T2.p v2 w ∧ T3.p v3 w ∧ T4.p v4 w := by
  match vs, h with
  | [v1, v2, v3, v4], h => exact ⟨v1, v2, v3, v4, rfl, h.1, h.2.1, h.2.2.1, h.2.2.2.1⟩
theorem tQ_v {b l : Nat} {x : Rat} {v : Value} {w : World} (h : (tQ b l x).p v w) : ∃ A n c A' n' c', v = .agg #[.slice A n c, .slice A' n' c'] := by
  obtain ⟨P, Q, ⟨A, n, c, A', n', c', rfl, -⟩, -⟩ := h
  exact ⟨A, n, c, A', n', c', rfl⟩
section

variable {P : Program} {ops : Array Oper} {Q : Exit → Act → World → Prop} {a0 : Act} {M : List Nat} {W : World} {rels : List Rel} {i : Nat} {o : Oper} {T T' : Ty} {N d : Nat} {x y z : Operand}
def rN (j : Nat) (id : TypeId) (T : Ty) (u : Value) : Rel :=
  ⟨none, 0, j + 1, fun v γ w => ∃ p, v = .tuple #[.pointer (some ⟨p, 0, none⟩), u] ∧ γ p = j + 1 ∧ Cell id T p w,
    fun t γ w γ' w' v ht g ⟨p, e, hγ, h⟩ => ⟨p, e, by rw [g.tag p h.lt]; exact hγ, h.grow g (by omega)⟩⟩
end
end Go.Proofs.Ythanbjbcpljcoaa.Rg

namespace Go.Proofs.Ythanbjbcpljcoaa.Rg

open Go.RowKit Go.ChangeShapes Go.WideShapes Go.ChangeAt Go.Deep

theorem tagO_base {M : List Nat} {B g k : Nat} (hg : g < B) (hM : ∀ m ∈ M, B ≤ m) : tagOf M k g = 0 := by
  induction M generalizing k with
  | nil => rfl
  | cons m M ih =>
    unfold tagOf
    have := hM m List.mem_cons_self
    rw [if_neg (by omega)]
    exact ih fun x hx => hM x (List.mem_cons_of_mem _ hx)
theorem cell_oaft {M : List Nat} {B g o : Nat} {W w : World} {γ : Nat → Nat} {u : Value} (h : W.cell? ⟨g, o, none⟩ = some u) (hc : RelC M W γ w) (hg : g < B) (hM : ∀ m ∈ M, B ≤ m) : w.cell? ⟨g, o, none⟩ = some u := by
  rw [World.cell?_of_block (hc.1.block g (World.block_lt_of_cell? _ _ h) (.inr (by unfold mt; rw [if_pos (tagO_base hg hM)]; omega)))]; exact h
/-- Rows of k ints each. -/
def RI (k : Nat) (A : Option Addr) (n : Nat) (F : Nat → Int) (B : Nat) (w : World) : Prop :=
  ∀ i, i < n → ∃ g o, A = some ⟨g, o, none⟩ ∧ g < B ∧ ∀ f, f < k → w.cell? ⟨g, o + (i * k + f), none⟩ = some (.int .i64 (F (i * k + f)))
theorem RI.aft {k : Nat} {A : Option Addr} {n B : Nat} {F : Nat → Int} {M : List Nat} {W w : World} {γ : Nat → Nat} (h : RI k A n F B W) (hc : RelC M W γ w) (hM : ∀ m ∈ M, B ≤ m) : RI k A n F B w := by
  intro i hi
  obtain ⟨g, o, e, hg, h1⟩ := h i hi
  exact ⟨g, o, e, hg, fun f hf => cell_oaft (h1 f hf) hc hg hM⟩
theorem ri_in {k bytes : Nat} (hk : 0 < k) {w : World} {A : Option Addr} {n c : Nat} {l : List Int} (h : InI .i64 bytes k w A n c l) : RI k A n (fun j => l.getD j 0) w.heap.size w := by
  intro i hi
  obtain ⟨g, off, rfl, hg, hc⟩ := h.reads.flat (by omega) hk
  have hl := h.reads.1
  rw [List.length_map] at hl
  refine ⟨g, off, rfl, hg, fun f hf => hc _ _ ?_⟩
  have : i * k + f < l.length := by
    have : (i + 1) * k ≤ n * k := Nat.mul_le_mul_right k hi
    rw [Nat.add_mul, Nat.one_mul] at this
    omega
  rw [List.getElem?_map, List.getElem?_eq_getElem this]
  show _ = some (Value.int IntKind.i64 (l.getD (i * k + f) 0))
  rw [List.getD_eq_getElem?_getD, List.getElem?_eq_getElem this]; rfl
section

variable {P : Program} {ops : Array Oper} {Q : Exit → Act → World → Prop} {a0 : Act} {M : List Nat} {W : World} {rels : List Rel} {i : Nat} {o : Oper} {T : Ty} {N d : Nat} {x y : Operand}
/-- An element's address, a load: known ahead. -/
theorem zIxV {id : TypeId} {u v z : Value} (hz : a0.tmps.size = N) (hop : o.op = .indexAddr id x y) (sx : Src ops a0 M W rels i o x (tV u)) (sy : Src ops a0 M W rels i o y (tV v)) (h : ∀ w, (Instr.indexAt id u v).run P w = .ok z w)
    (g : Gd ops a0 M W rels i o true := by exact Gd.none_ rfl) (ho : ops[i]? = some o := by rfl) (hr : rels[i]? = some (rT (tV z)) := by rfl) (hd : o.dst = some d := by rfl) (hlt : decide (d < N) = true := by rfl) : StepOk P ops a0 M W Q rels i o :=
  sOp ho hr hd hz hlt g fun a γ w U => by
    have e : a.eval x = u := sx a γ w U
    have e2 : a.eval y = v := sy a γ w U
    refine ⟨_, ?_, rfl⟩
    unfold execOp; rw [hop]; simp only [e, e2, Sem.run_bind, h, Result.andThen, Sem.run_pure]
theorem zLdV {id : TypeId} {p : Value} (hz : a0.tmps.size = N) (hop : o.op = .load id x) (sx : Src ops a0 M W rels i o x (tV p)) (h : ∀ γ w, RelC M W γ w → ∃ v, (Instr.loadAt id p).run P w = .ok v w ∧ T.p v w)
    (g : Gd ops a0 M W rels i o true := by exact Gd.none_ rfl) (ho : ops[i]? = some o := by rfl) (hr : rels[i]? = some (rT T) := by rfl) (hd : o.dst = some d := by rfl) (hlt : decide (d < N) = true := by rfl) : StepOk P ops a0 M W Q rels i o :=
  sOp ho hr hd hz hlt g fun a γ w U => by
    have e : a.eval x = p := sx a γ w U
    obtain ⟨v, h1, h2⟩ := h γ w U.c
    refine ⟨v, ?_, h2⟩
    unfold execOp; rw [hop]; simp only [e, Sem.run_bind, h1, Result.andThen, Sem.run_pure]
end
theorem in_rangeY {k bytes : Nat} {w : World} {A : Option Addr} {n c : Nat} {l : List Int} (h : InI .i64 bytes k w A n c l) (j : Nat) : -9223372036854775808 ≤ l.getD j 0 ∧ l.getD j 0 < 9223372036854775808 := by
  rw [List.getD_eq_getElem?_getD]
  cases hj : l[j]? with
  | none => simp
  | some x =>
    have h := h.wf x (List.mem_of_getElem? hj)
    simp only [Lit.wf, decide_eq_true_eq, Bool.and_eq_true] at h
    have e1 : IntKind.i64.min = -9223372036854775808 := by decide
    have e2 : IntKind.i64.max = 9223372036854775807 := by decide
    rw [e1, e2] at h
    show -9223372036854775808 ≤ x ∧ x < 9223372036854775808
    omega
end Go.Proofs.Ythanbjbcpljcoaa.Rg

namespace Go.Proofs.Ythanbjbcpljcoaa.Rg

open Go.RowKit Go.ChangeShapes Go.WideShapes Go.ChangeAt Go.Deep

theorem u8_bv {l : List Int} (h : ∀ x ∈ l, (Lit.int .u8 x).wf = true) : bv (l.map Int.toNat) = l.map (.int .u8) ∧ ∀ d ∈ l.map Int.toNat, d < 256 := by
  have hx : ∀ x ∈ l, 0 ≤ x ∧ x ≤ 255 := fun x hx => by
    have := h x hx
    simp only [Lit.wf, decide_eq_true_eq, Bool.and_eq_true] at this
    have e1 : IntKind.u8.min = 0 := by decide
    have e2 : IntKind.u8.max = 255 := by decide
    rw [e1, e2] at this
    exact this
  refine ⟨?_, fun d hd => ?_⟩
  · unfold bv
    rw [List.map_map]
    refine List.map_congr_left fun x hm => ?_
    have := hx x hm
    simp
    omega
  · obtain ⟨x, hm, rfl⟩ := List.mem_map.1 hd
    have := hx x hm
    omega
theorem ret_out {P : Program} {f : FuncId} {args : Array Value} {w : World} {v : Value} (h : Calls P f args w (Ret (tV v) w)) : Calls P f args w fun e w' => e = .returned v ∧ Below w.heap.size w w' := by
  refine h.mono ?_
  rintro e w' ⟨u, rfl, rfl, hb⟩
  exact ⟨rfl, hb⟩
section

variable {H : Type} {enc : TypeId × Value → H} {P : Program} {w : World}
theorem bytes_in {t e : TypeId} {fuel : Nat} {cs : List Value} {x : DataW H × List MemPlace} (ht : P.underlying t = some (.slice e)) (he : P.underlying e = some (.int .u8)) (hc : P.cellsOf e = 1)
    (h : DataW.trod enc P w 0 (fun _ => true) true fuel t cs = some x) : ∃ A n c l, cs = [.slice A n c] ∧ BAt w A n c l ∧ n ≤ c ∧ n ≤ 9223372036854775807 := by
  rcases open_ints ht he hc h with ⟨hcs, _⟩ | ⟨a, len, cap, zs, hcs, _, hl, hm, hz, hx, hcell, hwz⟩
  · exact ⟨none, 0, 0, [], hcs, ⟨⟨by simp [bv], fun h => absurd h (by omega)⟩, by simp⟩, Nat.le_refl _, by omega⟩
  · simp only [if_true] at hz
    obtain ⟨e1, e2⟩ := u8_bv (l := zs.take len) (fun x hx => hwz x (List.mem_of_mem_take hx))
    refine ⟨some a, len, cap, (zs.take len).map Int.toNat, hcs, ⟨?_, e2⟩, hl, by unfold maxLen at hm; omega⟩
    rw [e1]
    refine ⟨by rw [List.length_map, List.length_take, hz]; omega, fun hn => ⟨a, rfl, ?_, fun j u hu => ?_⟩⟩
    · have := World.block_lt_of_cell? w _ (hcell 0 (by omega)); rwa [block_of_add] at this
    · have hj : j < len := by
        have := (List.getElem?_eq_some_iff.1 hu).1
        simp at this; omega
      rw [hcell j (by omega), ← hu]
      simp [List.getElem?_take, hj]
      rw [List.getElem?_eq_getElem (by omega)]; rfl
end
end Go.Proofs.Ythanbjbcpljcoaa.Rg

namespace Go.Proofs.Ythanbjbcpljcoaa.Rg

open Go.RowKit

/-- Four things of two cells each. -/
def tA (g : Nat → Ty) : Ty := tO [g 0, g 1, g 2, g 3] [2, 2, 2, 2]
def updT (g : Nat → Ty) (i : Nat) (T : Ty) : Nat → Ty := fun j => if j = i then T else g j
theorem tA_at {g : Nat → Ty} {i : Nat} (h : i < 4) : [g 0, g 1, g 2, g 3][i]? = some (g i) := by
  match i, h with
  | 0, _ => rfl
  | 1, _ => rfl
  | 2, _ => rfl
  | 3, _ => rfl
theorem tA_off {i : Nat} (h : i < 4) : i * 2 = offO [2, 2, 2, 2] i := by
  match i, h with
  | 0, _ => rfl
  | 1, _ => rfl
  | 2, _ => rfl
  | 3, _ => rfl
theorem tA_k {i : Nat} (h : i < 4) : [2, 2, 2, 2][i]? = some 2 := by
  match i, h with
  | 0, _ => rfl
  | 1, _ => rfl
  | 2, _ => rfl
  | 3, _ => rfl
theorem tA_set {g : Nat → Ty} {i : Nat} {T : Ty} (h : i < 4) : tO (List.set [g 0, g 1, g 2, g 3] i T) [2, 2, 2, 2] = tA (updT g i T) := by
  match i, h with
  | 0, _ => rfl
  | 1, _ => rfl
  | 2, _ => rfl
  | 3, _ => rfl
theorem tA_to {g g' : Nat → Ty} (h : ∀ j, j < 4 → ∀ v w, (g j).p v w → (g' j).p v w) : ∀ v w, (tA g).p v w → (tA g').p v w := by
  rintro v w ⟨vs, e, ha, hk⟩
  obtain ⟨v1, v2, v3, v4, rfl, h1, h2, h3, h4⟩ := allT4 ha
  exact ⟨_, e, ⟨h 0 (by decide) _ _ h1, h 1 (by decide) _ _ h2, h 2 (by decide) _ _ h3, h 3 (by decide) _ _ h4, trivial⟩, hk⟩
def ND4 (g : Nat → Ty) : Prop := ∀ T ∈ [g 0, g 1, g 2, g 3], ND T
theorem nd4_of {g : Nat → Ty} (h : ∀ j, ND (g j)) : ND4 g := by
  intro T hT
  simp at hT
  rcases hT with rfl | rfl | rfl | rfl <;> exact h _
theorem nd4_q {b l : Nat} {f : Nat → Rat} : ND4 fun j => tQ b l (f j) := nd4_of fun j => nd_q
/-- One behind the other, so many of them fractions, the rest as they were made. -/
def mixT (b l i : Nat) (Z : Ty) (f : Nat → Rat) : Nat → Ty := fun j => if j < i then tQ b l (f j) else Z
theorem nd_mix {b l i : Nat} {Z : Ty} {f : Nat → Rat} (hZ : ND Z) : ND4 (mixT b l i Z f) := nd4_of fun j => by
  unfold mixT; split
  · exact nd_q
  · exact hZ
theorem allQ2 {g : Nat → Ty} {v : Value} {w : World} (hq : ∀ j, j < 4 → ∃ b l x, ∀ v w, (g j).p v w → (tQ b l x).p v w) (h : (tA g).p v w) : ∃ A1 n1 c1 B1 m1 d1 A2 n2 c2 B2 m2 d2 A3 n3 c3 B3 m3 d3 A4 n4 c4 B4 m4 d4, v = .agg #[.slice A1 n1 c1, .slice B1 m1 d1, .slice A2 n2 c2, .slice B2 m2 d2, .slice A3 n3 c3, .slice B3 m3 d3, .slice A4 n4 c4, .slice B4 m4 d4] := by
  obtain ⟨vs, e, ha, hk⟩ := h
  obtain ⟨v1, v2, v3, v4, rfl, h1, h2, h3, h4⟩ := allT4 ha
  obtain ⟨_, _, _, q1⟩ := hq 0 (by decide)
  obtain ⟨_, _, _, q2⟩ := hq 1 (by decide)
  obtain ⟨_, _, _, q3⟩ := hq 2 (by decide)
  obtain ⟨_, _, _, q4⟩ := hq 3 (by decide)
  obtain ⟨A1, n1, c1, B1, m1, d1, rfl⟩ := tQ_v (q1 _ _ h1)
  obtain ⟨A2, n2, c2, B2, m2, d2, rfl⟩ := tQ_v (q2 _ _ h2)
  obtain ⟨A3, n3, c3, B3, m3, d3, rfl⟩ := tQ_v (q3 _ _ h3)
  obtain ⟨A4, n4, c4, B4, m4, d4, rfl⟩ := tQ_v (q4 _ _ h4)
  exact ⟨A1, n1, c1, B1, m1, d1, A2, n2, c2, B2, m2, d2, A3, n3, c3, B3, m3, d3, A4, n4, c4, B4, m4, d4, e⟩
section

variable {b l : Nat} {f : Nat → Rat}
theorem isq : ∀ j, j < 4 → ∃ b' l' x, ∀ v w, ((fun j => tQ b l (f j)) j : Ty).p v w → (tQ b' l' x).p v w := fun j _ => ⟨b, l, f j, fun _ _ h => h⟩
theorem ldo_a64 : LdOk Try.prog 76 (tA fun j => tQ b l (f j)) := by
  intro v w p off hv hc
  obtain ⟨A1, n1, c1, B1, m1, d1, A2, n2, c2, B2, m2, d2, A3, n3, c3, B3, m3, d3, A4, n4, c4, B4, m4, d4, rfl⟩ := allQ2 isq hv
  have h0 := hc 0 (by simp [Value.cells])
  have h1 := hc 1 (by simp [Value.cells])
  have h2 := hc 2 (by simp [Value.cells])
  have h3 := hc 3 (by simp [Value.cells])
  have h4 := hc 4 (by simp [Value.cells])
  have h5 := hc 5 (by simp [Value.cells])
  have h6 := hc 6 (by simp [Value.cells])
  have h7 := hc 7 (by simp [Value.cells])
  simp [Value.cells] at h0 h1 h2 h3 h4 h5 h6 h7
  simp [go_sem, h0, h1, h2, h3, h4, h5, h6, h7]
theorem ldo_a32 : LdOk Try.prog 77 (tA fun j => tQ b l (f j)) := by
  intro v w p off hv hc
  obtain ⟨A1, n1, c1, B1, m1, d1, A2, n2, c2, B2, m2, d2, A3, n3, c3, B3, m3, d3, A4, n4, c4, B4, m4, d4, rfl⟩ := allQ2 isq hv
  have h0 := hc 0 (by simp [Value.cells])
  have h1 := hc 1 (by simp [Value.cells])
  have h2 := hc 2 (by simp [Value.cells])
  have h3 := hc 3 (by simp [Value.cells])
  have h4 := hc 4 (by simp [Value.cells])
  have h5 := hc 5 (by simp [Value.cells])
  have h6 := hc 6 (by simp [Value.cells])
  have h7 := hc 7 (by simp [Value.cells])
  simp [Value.cells] at h0 h1 h2 h3 h4 h5 h6 h7
  simp [go_sem, h0, h1, h2, h3, h4, h5, h6, h7]
theorem box_a64 : ∀ v w, (tA fun j => tQ b l (f j)).p v w → (Instr.box 76 v).run Try.prog w = .ok (.pointer (some ⟨w.heap.size, 0, none⟩)) (w.alloc (.cells v.cells 76)) := by
  intro v w hv
  obtain ⟨A1, n1, c1, B1, m1, d1, A2, n2, c2, B2, m2, d2, A3, n3, c3, B3, m3, d3, A4, n4, c4, B4, m4, d4, rfl⟩ := allQ2 isq hv
  simp [go_sem, Value.cells]
theorem box_a32 : ∀ v w, (tA fun j => tQ b l (f j)).p v w → (Instr.box 77 v).run Try.prog w = .ok (.pointer (some ⟨w.heap.size, 0, none⟩)) (w.alloc (.cells v.cells 77)) := by
  intro v w hv
  obtain ⟨A1, n1, c1, B1, m1, d1, A2, n2, c2, B2, m2, d2, A3, n3, c3, B3, m3, d3, A4, n4, c4, B4, m4, d4, rfl⟩ := allQ2 isq hv
  simp [go_sem, Value.cells]
end
def zero8 : Value := .agg #[.slice none 0 0, .slice none 0 0, .slice none 0 0, .slice none 0 0, .slice none 0 0, .slice none 0 0, .slice none 0 0, .slice none 0 0]
theorem al_a64 : ∀ w : World, (Instr.alloc 76 true (.tuple #[])).run Try.prog w = .ok (.pointer (some ⟨w.heap.size, 0, none⟩)) (w.alloc (.cells zero8.cells 76)) := by
  intro w; simp [go_sem, Value.cells, zero8]
theorem al_a32 : ∀ w : World, (Instr.alloc 77 true (.tuple #[])).run Try.prog w = .ok (.pointer (some ⟨w.heap.size, 0, none⟩)) (w.alloc (.cells zero8.cells 77)) := by
  intro w; simp [go_sem, Value.cells, zero8]
def tZ2 : Ty := tV (.agg #[.slice none 0 0, .slice none 0 0])
theorem nd_z2 : ND tZ2 := by
  rintro v w rfl u hu
  simp [Value.cells] at hu; subst hu
  intro k m hk h; cases h
theorem z_a : ∀ w, (tA fun _ => tZ2).p zero8 w := fun w => ⟨[.agg #[.slice none 0 0, .slice none 0 0], .agg #[.slice none 0 0, .slice none 0 0], .agg #[.slice none 0 0, .slice none 0 0], .agg #[.slice none 0 0, .slice none 0 0]], rfl, ⟨rfl, rfl, rfl, rfl, trivial⟩, rfl⟩
theorem z_mix {b l : Nat} {f : Nat → Rat} : ∀ w, (tA (mixT b l 0 tZ2 f)).p zero8 w := fun w => tA_to (g := fun _ => tZ2) (fun j _ v w h => by unfold mixT; rw [if_neg (by omega)]; exact h) _ _ (z_a w)
section

variable {P : Program} {ops : Array Oper} {Q : Exit → Act → World → Prop} {a0 : Act} {M : List Nat} {W : World} {rels : List Rel} {i : Nat} {o : Oper} {T : Ty} {N d : Nat} {x y z : Operand}
theorem ix_a64 {p j : Nat} (hj : j < 4) : ∀ w : World, (Instr.indexAt 76 (.pointer (some ⟨p, 0, none⟩)) (.int .i64 (j : Int))).run Try.prog w = .ok (.pointer (some ⟨p, j * 2, none⟩)) w := by
  intro w; simp [go_sem, hj]; intro h; omega
theorem ix_a32 {p j : Nat} (hj : j < 4) : ∀ w : World, (Instr.indexAt 77 (.pointer (some ⟨p, 0, none⟩)) (.int .i64 (j : Int))).run Try.prog w = .ok (.pointer (some ⟨p, j * 2, none⟩)) w := by
  intro w; simp [go_sem, hj]; intro h; omega
/-- An element's address. -/
theorem zIxA {t : TypeId} {p j : Nat} (hz : a0.tmps.size = N) (sx : Src ops a0 M W rels i o x (tV (.pointer (some ⟨p, 0, none⟩)))) (sy : Src ops a0 M W rels i o y (tV (.int .i64 (j : Int)))) (h : ∀ w, (Instr.indexAt t (.pointer (some ⟨p, 0, none⟩)) (.int .i64 (j : Int))).run P w = .ok (.pointer (some ⟨p, j * 2, none⟩)) w)
    (g : Gd ops a0 M W rels i o true := by exact Gd.none_ rfl) (hop : o.op = .indexAddr t x y := by rfl) (hr : rels[i]? = some (rT (tV (.pointer (some ⟨p, j * 2, none⟩)))) := by rfl) (ho : ops[i]? = some o := by rfl) (hd : o.dst = some d := by rfl) (hlt : decide (d < N) = true := by rfl) : StepOk P ops a0 M W Q rels i o :=
  sOp ho hr hd hz hlt g fun a γ w U => by
    have e : a.eval x = .pointer (some ⟨p, 0, none⟩) := sx a γ w U
    have e2 : a.eval y = .int .i64 (j : Int) := sy a γ w U
    refine ⟨_, ?_, rfl⟩
    unfold execOp; rw [hop]; simp only [e, e2, Sem.run_bind, h, Result.andThen, Sem.run_pure]
/-- An element, loaded. -/
theorem zLdA {id sid : TypeId} {p j : Nat} {g' : Nat → Ty} (hz : a0.tmps.size = N) (s : Src ops a0 M W rels i o x (tV (.pointer (some ⟨p, j * 2, none⟩)))) (hc : CL ops a0 M W rels i o p sid (tA g')) (ld : LdOk P id (g' j)) (hj : j < 4)
    (g : Gd ops a0 M W rels i o true := by exact Gd.none_ rfl) (hop : o.op = .load id x := by rfl) (ho : ops[i]? = some o := by rfl) (hr : rels[i]? = some (rT (g' j)) := by rfl) (hd : o.dst = some d := by rfl) (hlt : decide (d < N) = true := by rfl) : StepOk P ops a0 M W Q rels i o :=
  zLdO (Ts := [g' 0, g' 1, g' 2, g' 3]) (ks := [2, 2, 2, 2]) j hz s hc ld (tA_at hj) (tA_off hj) g hop ho hr hd hlt
/-- An element, stored. -/
theorem zStA {id sid : TypeId} {p j k : Nat} {g' : Nat → Ty} (hr : rels[i]? = some (rE k sid (tA (updT g' j T)) p)) (sy : Src ops a0 M W rels i o y (tV (.pointer (some ⟨p, j * 2, none⟩)))) (hM : tagOf M 1000 p = 1000 + k) (hc : CL ops a0 M W rels i o p sid (tA g')) (hlt0 : p < W.heap.size)
    (s : Src ops a0 M W rels i o x T) (st : StPart P id T 2) (hnd : ND4 g') (hj : j < 4) (ho : ops[i]? = some o := by rfl) (hd : o.dst = none := by rfl) (hg : o.guard = none := by rfl) (hop : o.op = .store id y x := by rfl) : StepOk P ops a0 M W Q rels i o :=
  zStO (Ts := [g' 0, g' 1, g' 2, g' 3]) (ks := [2, 2, 2, 2]) (T0 := g' j) j (by rw [tA_set hj]; exact hr) sy hM hc hlt0 s st hnd (tA_at hj) (tA_k hj) (tA_off hj) ho hd hg hop
end
theorem bs3_32 (u v t u' v' t' : Value) (w : World) : (Instr.buildSlice 110 3 #[(0, .agg #[u, u']), (1, .agg #[v, v']), (2, .agg #[t, t'])]).run Try.prog w = .ok (.slice (some ⟨w.heap.size, 0, none⟩) 3 3) (w.alloc (.cells #[u, u', v, v', t, t'] 33)) := by
  simp [go_sem, Instr.buildSlice, Instr.fill]
theorem bs3_64' (u v t u' v' t' : Value) (w : World) : (Instr.buildSlice 104 3 #[(0, .agg #[u, u']), (1, .agg #[v, v']), (2, .agg #[t, t'])]).run Try.prog w = .ok (.slice (some ⟨w.heap.size, 0, none⟩) 3 3) (w.alloc (.cells #[u, u', v, v', t, t'] 29)) := by
  simp [go_sem, Instr.buildSlice, Instr.fill]
/-- Two variables and a slot handed back. -/
theorem retcct_o {P : Program} {fn : Func} {w0 : World} {a : Act} {w : World} {t1 t2 t3 p1 p2 : Nat} {v3 : Value} {id1 id2 : TypeId} {T1 T2 : Ty} (ld1 : LdOk P id1 T1) (ld2 : LdOk P id2 T2) (h : fn.results = #[.cell t1 id1, .cell t2 id2, .tmp t3]) (s1 : Sl a t1 (.pointer (some ⟨p1, 0, none⟩))) (s2 : Sl a t2 (.pointer (some ⟨p2, 0, none⟩))) (s3 : Sl a t3 v3) (hdf : a.defers = [])
    (c1 : Cell id1 T1 p1 w) (c2 : Cell id2 T2 p2 w) (hb : Below w0.heap.size w0 w) : bodyPost P fn (Ret (tT [T1, T2, tV v3]) w0) .ret a w := by
  obtain ⟨v1, b1, h1⟩ := c1
  obtain ⟨v2, b2, h2⟩ := c2
  refine bodyPost_ret (v := .tuple #[v1, v2, v3]) ?_ hdf ⟨_, rfl, ⟨[v1, v2, v3], rfl, h1, h2, rfl, trivial⟩, hb⟩
  have e1 : (loadVar id1 ⟨p1, 0, none⟩).run P w = .ok v1 w := by
    have := ld_of ld1 v1 w h1 b1
    simpa only [Instr.loadAt, Instr.sureAddr, Sem.run_bind, Sem.run_pure, Result.andThen] using this
  have e2 : (loadVar id2 ⟨p2, 0, none⟩).run P w = .ok v2 w := by
    have := ld_of ld2 v2 w h2 b2
    simpa only [Instr.loadAt, Instr.sureAddr, Sem.run_bind, Sem.run_pure, Result.andThen] using this
  unfold Sl at s1 s2 s3
  unfold results; rw [h]; generalize @loadVar = L at e1 e2 ⊢
  simp [go_sem, s1, s2, s3, e1, e2]
end Go.Proofs.Ythanbjbcpljcoaa.Rg

namespace Go.Proofs.Ythanbjbcpljcoaa.Rg

open Go.RowKit Go.ChangeShapes Go.WideShapes Go.ChangeAt Go.Deep

/-- Rows of two rows of bytes each. -/
def RF (A : Option Addr) (n : Nat) (ls ms : Nat → List Nat) (B : Nat) (w : World) : Prop :=
  ∀ i, i < n → ∃ g o u v, A = some ⟨g, o, none⟩ ∧ g < B ∧ w.cell? ⟨g, o + i * 2, none⟩ = some u ∧ w.cell? ⟨g, o + i * 2 + 1, none⟩ = some v ∧ (tF (ls i) (ms i)).p (.agg #[u, v]) w
theorem RF.aft {A : Option Addr} {n B : Nat} {ls ms : Nat → List Nat} {M : List Nat} {W w : World} {γ : Nat → Nat} (h : RF A n ls ms B W) (hc : RelC M W γ w) (hM : ∀ m ∈ M, B ≤ m) : RF A n ls ms B w := by
  intro i hi
  obtain ⟨g, o, u, v, e, hg, h1, h2, h3⟩ := h i hi
  exact ⟨g, o, u, v, e, hg, cell_oaft h1 hc hg hM, cell_oaft h2 hc hg hM, Ty.aft _ h3 hc⟩
set_option maxRecDepth 100000 in
theorem in_frows {H : Type} {enc : TypeId × Value → H} {w : World} {a : Option Addr} {len cap : Nat} {d : DataW H} {p : List MemPlace}
    (h : DataW.Trod enc Try.prog w 0 (fun _ => true) true 74 (.slice a len cap) d p) : ∃ ls ms, RF a len ls ms w.heap.size w := by
  obtain ⟨fuel, hf⟩ := h
  rcases open_slice_pairs Try.underlying74 Try.underlying24 (by kernel_rfl) rfl rfl (by kernel_rfl) (by kernel_rfl) hf with ⟨hcs, _⟩ | ⟨x, l, c, m, n, V0, V1, D0, D1, P0, P1, hcs, _, hl, _, hm, hx, hcell⟩
  · simp [Value.cells] at hcs
    obtain ⟨rfl, rfl, rfl⟩ := hcs
    exact ⟨fun _ => [], fun _ => [], fun i hi => absurd hi (by omega)⟩
  · simp [Value.cells] at hcs
    obtain ⟨rfl, rfl, rfl⟩ := hcs
    have key : ∀ i, i < len → ∃ y : List Nat × List Nat, (tF y.1 y.2).p (.agg #[V0 i, V1 i]) w := by
      intro i hi
      obtain ⟨-, -, f0, f1⟩ := hcell i (by rw [hm]; simp; omega)
      obtain ⟨A, m, c, l0, e0, hB, h3, h4⟩ := bytes_in Try.underlying22 Try.underlying5 (by kernel_rfl) f0
      obtain ⟨A', m', c', l1, e1, hB', h3', h4'⟩ := bytes_in Try.underlying22 Try.underlying5 (by kernel_rfl) f1
      simp at e0 e1
      exact ⟨(l0, l1), A, m, c, A', m', c', by rw [e0, e1], hB, h3, h4, hB', h3', h4'⟩
    obtain ⟨Y, hY⟩ := choose_lt key
    refine ⟨fun i => (Y i).1, fun i => (Y i).2, fun i hi => ?_⟩
    obtain ⟨h0, h1, -, -⟩ := hcell i (by rw [hm]; simp; omega)
    have hz := (hcell 0 (by rw [hm]; simp; omega)).1
    obtain ⟨g, off, s⟩ := x
    have hsn : s = none := by
      have := spot_none hz
      unfold Addr.add at this
      simpa using this
    subst hsn
    rw [Addr.add_lit] at h0 h1
    exact ⟨g, off, V0 i, V1 i, rfl, World.block_lt_of_cell? _ _ h0, h0, by rw [Nat.add_assoc]; exact h1, hY i hi⟩
theorem ix_fr {A : Option Addr} {g o n c i : Nat} (hA : A = some ⟨g, o, none⟩) (hi : i < n) : ∀ w : World, (Instr.indexAt 74 (.slice A n c) (.int .i64 (i : Int))).run Try.prog w = .ok (.pointer (some ⟨g, o + i * 2, none⟩)) w := by
  intro w; subst hA; simp [go_sem, hi]
theorem ld_fr {g o i : Nat} {u v : Value} {l k : List Nat} {w : World} (h1 : w.cell? ⟨g, o + i * 2, none⟩ = some u) (h2 : w.cell? ⟨g, o + i * 2 + 1, none⟩ = some v) (h3 : (tF l k).p (.agg #[u, v]) w) : ∃ z, (Instr.loadAt 24 (.pointer (some ⟨g, o + i * 2, none⟩))).run Try.prog w = .ok z w ∧ (tF l k).p z w :=
  ⟨_, by simp [go_sem, h1, h2], h3⟩
def S5 (a b c d e : Int) : Ty := tO [tV (.int .i64 a), tV (.int .i64 b), tV (.int .i64 c), tV (.int .i64 d), tV (.int .i64 e)] [1, 1, 1, 1, 1]
theorem ix_s5 {A : Option Addr} {g o n c i : Nat} (hA : A = some ⟨g, o, none⟩) (hi : i < n) : ∀ w : World, (Instr.indexAt 75 (.slice A n c) (.int .i64 (i : Int))).run Try.prog w = .ok (.pointer (some ⟨g, o + i * 5, none⟩)) w := by
  intro w; subst hA; simp [go_sem, hi]
section

variable {g o n c i : Nat} {A : Option Addr} {F : Nat → Int} {w : World}
theorem ld_s5 (h : ∀ f, f < 5 → w.cell? ⟨g, o + (i * 5 + f), none⟩ = some (.int .i64 (F (i * 5 + f)))) : ∃ v, (Instr.loadAt 80 (.pointer (some ⟨g, o + i * 5, none⟩))).run Try.prog w = .ok v w ∧ (tO [tV (.int .i64 (F (i * 5))), tV (.int .i64 (F (i * 5 + 1))), tV (.int .i64 (F (i * 5 + 2))), tV (.int .i64 (F (i * 5 + 3))), tV (.int .i64 (F (i * 5 + 4)))] [1, 1, 1, 1, 1]).p v w := by
  have h0 : w.cell? ⟨g, o + i * 5, none⟩ = some (.int .i64 (F (i * 5))) := h 0 (by decide)
  have h1 := h 1 (by decide)
  have h2 := h 2 (by decide)
  have h3 := h 3 (by decide)
  have h4 := h 4 (by decide)
  simp only [← Nat.add_assoc] at h1 h2 h3 h4
  refine ⟨.agg #[.int .i64 (F (i * 5)), .int .i64 (F (i * 5 + 1)), .int .i64 (F (i * 5 + 2)), .int .i64 (F (i * 5 + 3)), .int .i64 (F (i * 5 + 4))], by simp [go_sem, h0, h1, h2, h3, h4], [.int .i64 (F (i * 5)), .int .i64 (F (i * 5 + 1)), .int .i64 (F (i * 5 + 2)), .int .i64 (F (i * 5 + 3)), .int .i64 (F (i * 5 + 4))], rfl, ⟨rfl, rfl, rfl, rfl, rfl, trivial⟩, rfl⟩
theorem al_s5 : ∀ w : World, (Instr.alloc 80 true (.tuple #[])).run Try.prog w = .ok (.pointer (some ⟨w.heap.size, 0, none⟩)) (w.alloc (.cells (Value.agg #[.int .i64 0, .int .i64 0, .int .i64 0, .int .i64 0, .int .i64 0]).cells 80)) := by
  intro w; simp [go_sem, Value.cells]
theorem nd_s5 : ∀ u ∈ (Value.agg #[.int .i64 0, .int .i64 0, .int .i64 0, .int .i64 0, .int .i64 0]).cells, notDig u := by
  intro u hu
  simp [cells_agg] at hu
  subst hu
  intro k m hk h
  cases h; simp [digK] at hk
variable {k t u x y : Int}
theorem S5_v {v : Value} (hv : (tO [tV (.int .i64 k), tV (.int .i64 t), tV (.int .i64 u), tV (.int .i64 x), tV (.int .i64 y)] [1, 1, 1, 1, 1]).p v w) : v = .agg #[.int .i64 k, .int .i64 t, .int .i64 u, .int .i64 x, .int .i64 y] := by
  obtain ⟨vs, rfl, ha, -⟩ := hv
  match vs, ha with
  | [v1, v2, v3, v4, v5], ⟨h1, h2, h3, h4, h5, _⟩ =>
    have h1 : v1 = _ := h1
    have h2 : v2 = _ := h2
    have h3 : v3 = _ := h3
    have h4 : v4 = _ := h4
    have h5 : v5 = _ := h5
    subst h1 h2 h3 h4 h5
    rfl
set_option maxHeartbeats 4000000 in
theorem sto_s5 : StoreOk Try.prog 80 (tO [tV (.int .i64 k), tV (.int .i64 t), tV (.int .i64 u), tV (.int .i64 x), tV (.int .i64 y)] [1, 1, 1, 1, 1]) 5 := by
  intro v w p us hv hs hb
  have hnd := (tO_nd (nd_c nd_int (nd_c nd_int (nd_c nd_int (nd_c nd_int (nd_c nd_int nd_nil))))) v w hv).2
  obtain rfl := S5_v hv
  have b1 := hb.set_ 0 (.int .i64 k)
  have b2 := b1.set_ 1 (.int .i64 t)
  have b3 := b2.set_ 2 (.int .i64 u)
  have b4 := b3.set_ 3 (.int .i64 x)
  have b5 := b4.set_ 4 (.int .i64 y)
  obtain ⟨u0, g0⟩ := blk_lt hb 0 (by omega)
  obtain ⟨u1, g1⟩ := blk_lt hb 1 (by omega)
  obtain ⟨u2, g2⟩ := blk_lt hb 2 (by omega)
  obtain ⟨u3, g3⟩ := blk_lt hb 3 (by omega)
  obtain ⟨u4, g4⟩ := blk_lt hb 4 (by omega)
  have f0 := hb.frozen 0
  have f1 := hb.frozen 1
  have f2 := hb.frozen 2
  have f3 := hb.frozen 3
  have f4 := hb.frozen 4
  obtain ⟨u1', k1⟩ := blk_lt b1 1 (by simp; omega)
  obtain ⟨u2', k2⟩ := blk_lt b2 2 (by simp; omega)
  obtain ⟨u3', k3⟩ := blk_lt b3 3 (by simp; omega)
  obtain ⟨u4', k4⟩ := blk_lt b4 4 (by simp; omega)
  have q1 := b1.frozen 1
  have q2 := b2.frozen 2
  have q3 := b3.frozen 3
  have q4 := b4.frozen 4
  refine ⟨((((w.setCell ⟨p, 0, none⟩ (.int .i64 k)).setCell ⟨p, 1, none⟩ (.int .i64 t)).setCell ⟨p, 2, none⟩ (.int .i64 u)).setCell ⟨p, 3, none⟩ (.int .i64 x)).setCell ⟨p, 4, none⟩ (.int .i64 y), ?_, ((((But.set1 _ _ _ _).trans (But.set1 _ _ _ _)).trans (But.set1 _ _ _ _)).trans (But.set1 _ _ _ _)).trans (But.set1 _ _ _ _), ?_, rfl, hnd⟩
  · simp [go_sem, g0, g1, g2, g3, g4, f0, f1, f2, f3, f4, k1, k2, k3, k4, q1, q2, q3, q4]
  · have e : ((((us.setIfInBounds 0 (.int .i64 k)).setIfInBounds 1 (.int .i64 t)).setIfInBounds 2 (.int .i64 u)).setIfInBounds 3 (.int .i64 x)).setIfInBounds 4 (.int .i64 y) = (Value.agg #[.int .i64 k, .int .i64 t, .int .i64 u, .int .i64 x, .int .i64 y]).cells := by
      obtain ⟨l⟩ := us
      match l, hs with
      | [a, b, c, d, e], _ => rfl
    rw [← e]; exact b5
end

end Go.Proofs.Ythanbjbcpljcoaa.Rg
