/-
  Walks and plain laws, put together: OA OB OE OF OC OX.
-/
import Derived.Test.YtojpiiboikomfaaQf
import Derived.ArgAppend
set_option linter.unusedVariables false
set_option linter.unusedSimpArgs false
namespace Go.Proofs.Ytojpiiboikomfaa.Rg

open Go.RowKit

/-- The cells of values, one behind the other. -/
def cat (vs : List Value) : List Value := vs.flatMap fun v => v.cells.toList
theorem cells_agg (cs : Array Value) : (Value.agg cs).cells = cs := rfl
theorem cat_cons (v : Value) (vs : List Value) : cat (v :: vs) = v.cells.toList ++ cat vs := by simp [cat]
def offO (ks : List Nat) (i : Nat) : Nat := (ks.take i).sum
theorem offO_succ (k : Nat) (ks : List Nat) (i : Nat) : offO (k :: ks) (i + 1) = k + offO ks i := by simp [offO]
theorem cat_at : ∀ {vs : List Value} {ks : List Nat} (i : Nat) {u : Value} {j : Nat}, vs.map (fun v => v.cells.size) = ks → vs[i]? = some u → j < u.cells.size → (cat vs)[offO ks i + j]? = u.cells[j]?
  | [], _, i, u, j, _, h, _ => by simp at h
  | v :: vs, ks, 0, u, j, hk, h, hj => by
    simp at h; subst h
    rw [cat_cons, show offO ks 0 = 0 by simp [offO], Nat.zero_add, List.getElem?_append_left (by simpa using hj)]
    simp
  | v :: vs, ks, i + 1, u, j, hk, h, hj => by
    subst hk
    rw [cat_cons, List.map_cons, offO_succ, List.getElem?_append_right (by simp; omega)]
    have := cat_at (vs := vs) i rfl (by simpa using h) hj
    rw [← this]; congr 1; simp; omega
theorem cat_len : ∀ (vs : List Value), (cat vs).length = (vs.map fun v => v.cells.size).sum
  | [] => rfl
  | v :: vs => by rw [cat_cons, List.length_append, cat_len vs]; simp
theorem cat_set : ∀ {vs : List Value} {ks : List Nat} (i : Nat) {u v : Value} (j : Nat), vs.map (fun v => v.cells.size) = ks → vs[i]? = some u → v.cells.size = u.cells.size →
    (cat (vs.set i v))[j]? = if offO ks i ≤ j ∧ j < offO ks i + v.cells.size then v.cells[j - offO ks i]? else (cat vs)[j]?
  | [], _, i, u, v, j, _, h, _ => by simp at h
  | x :: vs, ks, 0, u, v, j, hk, h, hs => by
    simp at h; subst h
    rw [List.set_cons_zero, cat_cons, cat_cons, show offO ks 0 = 0 by simp [offO]]
    by_cases hj : j < v.cells.size
    · rw [if_pos ⟨Nat.zero_le _, by omega⟩, List.getElem?_append_left (by simpa using hj)]; simp
    · rw [if_neg (by omega), List.getElem?_append_right (by simp; omega), List.getElem?_append_right (by simp; omega)]; simp [hs]
  | x :: vs, ks, i + 1, u, v, j, hk, h, hs => by
    subst hk
    rw [List.set_cons_succ, cat_cons, cat_cons, List.map_cons, offO_succ]
    by_cases hj : j < x.cells.size
    · rw [if_neg (by omega), List.getElem?_append_left (by simpa using hj), List.getElem?_append_left (by simpa using hj)]
    · rw [List.getElem?_append_right (by simp; omega), List.getElem?_append_right (by simp; omega), cat_set i (j - x.cells.toList.length) rfl (by simpa using h) hs]
      simp only [Array.length_toList]
      by_cases hc : offO (List.map (fun v => v.cells.size) vs) i ≤ j - x.cells.size ∧ j - x.cells.size < offO (List.map (fun v => v.cells.size) vs) i + v.cells.size
      · rw [if_pos hc, if_pos (by omega)]; congr 1; omega
      · rw [if_neg hc, if_neg (by omega)]
theorem AllT.set : ∀ {Ts : List Ty} {vs : List Value} {w : World} (i : Nat) {T : Ty} {v : Value}, AllT Ts vs w → T.p v w → AllT (Ts.set i T) (vs.set i v) w
  | [], [], _, _, _, _, h, _ => h
  | _ :: _, _ :: _, _, 0, _, _, h, hv => ⟨hv, h.2⟩
  | _ :: _, _ :: _, _, i + 1, _, _, h, hv => ⟨h.1, AllT.set i h.2 hv⟩
  | [], _ :: _, _, _, _, _, h, _ => h.elim
  | _ :: _, [], _, _, _, _, h, _ => h.elim
/-- An object of parts. -/
def tO (Ts : List Ty) (ks : List Nat) : Ty := ⟨fun v w => ∃ vs : List Value, v = .agg (cat vs).toArray ∧ AllT Ts vs w ∧ vs.map (fun v => v.cells.size) = ks, fun _ _ _ _ _ _ g ⟨vs, e, h, h2⟩ => ⟨vs, e, AllT.l g h, h2⟩⟩
def ND (T : Ty) : Prop := ∀ v w, T.p v w → ∀ u ∈ v.cells, notDig u
theorem tO_nd {Ts : List Ty} {ks : List Nat} (h : ∀ T ∈ Ts, ND T) : ∀ v w, (tO Ts ks).p v w → v.cells.size = ks.sum ∧ ∀ u ∈ v.cells, notDig u := by
  rintro v w ⟨vs, rfl, ha, hk⟩
  refine ⟨by subst hk; simp [Value.cells, cat_len], fun u hu => ?_⟩
  simp only [Value.cells, List.mem_toArray] at hu
  have key : ∀ (Ts : List Ty) (vs : List Value), (∀ T ∈ Ts, ND T) → AllT Ts vs w → ∀ u ∈ cat vs, notDig u := by
    intro Ts
    induction Ts with
    | nil => intro vs _ ha u hu; cases vs with
      | nil => simp [cat] at hu
      | cons v vs => exact ha.elim
    | cons T Ts ih => intro vs h ha u hu; cases vs with
      | nil => exact ha.elim
      | cons v vs =>
        rw [cat_cons, List.mem_append] at hu
        rcases hu with hu | hu
        · exact h T List.mem_cons_self v w ha.1 u (by simpa using hu)
        · exact ih vs (fun T hT => h T (List.mem_cons_of_mem _ hT)) ha.2 u hu
  exact key Ts vs h ha u hu
theorem nd_int {n : Int} : ND (tV (.int .i64 n)) := by
  rintro v w rfl u hu
  simp [Value.cells] at hu
  subst hu
  intro k m hk h
  cases h; simp [digK] at hk
theorem nd_q {b l : Nat} {x : Rat} : ND (tQ b l x) := fun v w h => (tQ_nd v w h).2
/-- A load of such a value at a place inside a block. -/
def LdOk (P : Program) (id : TypeId) (T : Ty) : Prop := ∀ v w p off, T.p v w → (∀ j, j < v.cells.size → w.cell? ⟨p, off + j, none⟩ = v.cells[j]?) → (Instr.loadAt id (.pointer (some ⟨p, off, none⟩))).run P w = .ok v w
/-- A store of such a value at a place inside a block. -/
def StPart (P : Program) (id : TypeId) (T : Ty) (k : Nat) : Prop := ∀ v w p off sid us, T.p v w → Blk w p sid us → off + k ≤ us.size →
  ∃ w', (Instr.storeAt id (.pointer (some ⟨p, off, none⟩)) v).run P w = .ok () w' ∧ But p w w' ∧ (∃ us', Blk w' p sid us' ∧ us'.size = us.size ∧ ∀ j, us'[j]? = if off ≤ j ∧ j < off + k then v.cells[j - off]? else us[j]?) ∧ v.cells.size = k ∧ ∀ u ∈ v.cells, notDig u
section

variable {P : Program} {ops : Array Oper} {Q : Exit → Act → World → Prop} {a0 : Act} {M : List Nat} {W : World} {rels : List Rel} {i : Nat} {o : Oper} {T T' : Ty} {N d : Nat} {x y c c2 : Operand}
/-- Where an object's content is known from, when number i comes up. -/
def CL (ops : Array Oper) (a0 : Act) (M : List Nat) (W : World) (rels : List Rel) (i : Nat) (o : Oper) (p : Nat) (sid : TypeId) (T : Ty) : Prop := ∀ a γ w, Up ops a0 M W rels i o a γ w → Cell sid T p w
theorem cl0 {p : Nat} {sid : TypeId} (hc : Cell sid T p W) (hp : tagOf M 1000 p = 0 := by rfl) : CL ops a0 M W rels i o p sid T := fun a γ w U => hc.aft U.c hp
theorem clM {p k : Nat} {sid : TypeId} (hc : Cell sid T p W) (hp : tagOf M 1000 p = 1000 + k) (huni : ((List.range ops.size).all fun j => j == i || ahead ops j i || !(effOf rels j == 1000 + k)) = true := by kernel_rfl) : CL ops a0 M W rels i o p sid T := fun a γ w U => by
  have hsame : w.heap[p]? = W.heap[p]? := U.kp p hc.lt fun j' o' ho' hj' hw' => by
    have hjs := (Array.getElem?_eq_some_iff.1 ho').1
    have := List.all_eq_true.1 huni j' (List.mem_range.2 hjs)
    rw [hp]
    simp only [hw', Bool.or_false, Bool.or_eq_true, beq_iff_eq, hj', false_or, Bool.not_eq_true', beq_eq_false_iff_ne] at this
    exact this
  obtain ⟨v, h1, h2⟩ := hc
  exact ⟨v, hsame.trans h1, T.aft h2 U.c⟩
/-- A call that changes an elder object: what it hands back, and the object behind it. -/
def rCM (k : Nat) (T0 : Ty) (sid : TypeId) (T : Ty) (p : Nat) : Rel :=
  ⟨none, 1000 + k, 1000 + k, fun v γ w => T0.p v w ∧ γ p = 1000 + k ∧ Cell sid T p w,
    fun t γ w γ' w' v ht g ⟨h0, hγ, h⟩ => ⟨T0.l _ _ _ _ _ _ g h0, by rw [g.tag p h.lt]; exact hγ, h.grow g (by omega)⟩⟩
theorem clCT (j : Nat) {T0 : Ty} {p k : Nat} {sid : TypeId} (hr : rels[j]? = some (rCM k T0 sid T p)) (hw : dependsT ops rels i o j = true := by kernel_rfl) : CL ops a0 M W rels i o p sid T := fun a γ w U => by
  have h := U.dep j (.inr hw)
  unfold Holds at h
  rw [hr] at h
  exact h.2.2
theorem sdM (j : Nat) {t k : Nat} {T' : Ty} {sid : TypeId} {p : Nat} (hr : rels[j]? = some (rCM k T sid T' p)) (hj : (ops[j]?).bind (·.dst) = some t := by rfl) (hw : waitsD o j = true := by rfl) : Src ops a0 M W rels i o (.tmp t) T := fun a γ w U => by
  have h := U.dep j (.inl hw)
  unfold Holds at h
  rw [hr] at h
  have e : valOf ops a j = a.eval (.tmp t) := by simp only [valOf, hj]; rfl
  rw [← e]; exact h.1
theorem zLdO {id sid : TypeId} {p off : Nat} {Ts : List Ty} {ks : List Nat} (f : Nat) (hz : a0.tmps.size = N) (s : Src ops a0 M W rels i o x (tV (.pointer (some ⟨p, off, none⟩)))) (hc : CL ops a0 M W rels i o p sid (tO Ts ks)) (ld : LdOk P id T) (hT : Ts[f]? = some T := by rfl) (hoff : off = offO ks f := by rfl)
    (g : Gd ops a0 M W rels i o true := by exact Gd.none_ rfl) (hop : o.op = .load id x := by rfl) (ho : ops[i]? = some o := by rfl) (hr : rels[i]? = some (rT T) := by rfl) (hd : o.dst = some d := by rfl) (hlt : decide (d < N) = true := by rfl) : StepOk P ops a0 M W Q rels i o :=
  sOp ho hr hd hz hlt g fun a γ w U => by
    have e : a.eval x = .pointer (some ⟨p, off, none⟩) := s a γ w U
    obtain ⟨v, hb, vs, rfl, hall, hks⟩ := hc a γ w U
    obtain ⟨u, hu, hp⟩ := hall.at_ f hT
    refine ⟨u, ?_, hp⟩
    have := ld u w p off hp fun j hj => by
      rw [hb.cell, hoff, cells_agg, List.getElem?_toArray]
      exact cat_at f hks hu hj
    unfold execOp; rw [hop]; simp only [e, Sem.run_bind, this, Result.andThen, Sem.run_pure]
theorem zFAo {s : TypeId} {f p off off' : Nat} (hz : a0.tmps.size = N) (hop : o.op = .fieldAddr s x f) (hr : rels[i]? = some (rT (tV (.pointer (some ⟨p, off', none⟩))))) (sx : Src ops a0 M W rels i o x (tV (.pointer (some ⟨p, off, none⟩)))) (h : ∀ w, (Instr.fieldAt s (.pointer (some ⟨p, off, none⟩)) f).run P w = .ok (.pointer (some ⟨p, off', none⟩)) w)
    (g : Gd ops a0 M W rels i o true := by exact Gd.none_ rfl) (ho : ops[i]? = some o := by rfl) (hd : o.dst = some d := by rfl) (hlt : decide (d < N) = true := by rfl) : StepOk P ops a0 M W Q rels i o :=
  sOp ho hr hd hz hlt g fun a γ w U => by
    have e : a.eval x = .pointer (some ⟨p, off, none⟩) := sx a γ w U
    refine ⟨_, ?_, rfl⟩
    unfold execOp; rw [hop]; simp only [e, Sem.run_bind, h, Result.andThen, Sem.run_pure]
theorem zStO {id sid : TypeId} {p off k n : Nat} {Ts : List Ty} {ks : List Nat} {T0 : Ty} (f : Nat) (hr : rels[i]? = some (rE k sid (tO (Ts.set f T) ks) p)) (sy : Src ops a0 M W rels i o y (tV (.pointer (some ⟨p, off, none⟩)))) (hM : tagOf M 1000 p = 1000 + k) (hc : CL ops a0 M W rels i o p sid (tO Ts ks)) (hlt0 : p < W.heap.size)
    (s : Src ops a0 M W rels i o x T) (st : StPart P id T n) (hnd : ∀ T ∈ Ts, ND T) (hT : Ts[f]? = some T0 := by rfl) (hn : ks[f]? = some n := by rfl) (hoff : off = offO ks f := by rfl) (ho : ops[i]? = some o := by rfl) (hd : o.dst = none := by rfl) (hg : o.guard = none := by rfl) (hop : o.op = .store id y x := by rfl) : StepOk P ops a0 M W Q rels i o := by
  intro a γ w K hcc hag hearly hdep hkp hK
  have U : Up ops a0 M W rels i o a γ w := ⟨hcc, hag, hearly, hdep, hkp⟩
  have e : a.eval y = .pointer (some ⟨p, off, none⟩) := sy a γ w U
  have hv := s a γ w U
  have hcell := hc a γ w U
  have hnd0 := tO_nd (ks := ks) hnd
  obtain ⟨v0, hb, hv0⟩ := hcell
  obtain ⟨hsz0, hnd1⟩ := hnd0 v0 w hv0
  obtain ⟨vs, rfl, hall, hks⟩ := hv0
  obtain ⟨u, hu, hp⟩ := hall.at_ f hT
  have hun : u.cells.size = n := by
    have h1 : (vs.map fun v => v.cells.size)[f]? = some u.cells.size := by rw [List.getElem?_map, hu]; rfl
    rw [hks, hn] at h1; injection h1 with h1; exact h1.symm
  have hroom : off + n ≤ (Value.agg (cat vs).toArray).cells.size := by
    rw [cells_agg, List.size_toArray, cat_len, hks, hoff]; unfold offO
    have h1 : ks.take f ++ ks.drop f = ks := List.take_append_drop f ks
    have h2 : (ks.drop f).sum ≥ n := by
      have hlt : f < ks.length := (List.getElem?_eq_some_iff.1 hn).1
      rw [List.drop_eq_getElem_cons hlt]
      have : ks[f] = n := (List.getElem?_eq_some_iff.1 hn).2
      simp [this]
    have h3 : (ks.take f).sum + (ks.drop f).sum = ks.sum := by rw [← List.sum_append_nat, h1]
    omega
  obtain ⟨w', hrun, hbut, ⟨us', hblk, hsz, hget⟩, hks2, hnd2⟩ := st _ w p off sid _ hv hb hroom
  have hus : us' = (cat (vs.set f (a.eval x))).toArray := by
    apply Array.ext_getElem?
    intro j
    rw [hget j]
    have := cat_set f (v := a.eval x) j hks hu (by rw [hks2, hun])
    have e3 : (cat (vs.set f (a.eval x))).toArray[j]? = (cat (vs.set f (a.eval x)))[j]? := List.getElem?_toArray
    have e4 : (cat vs).toArray[j]? = (cat vs)[j]? := List.getElem?_toArray
    rw [e3, this, hoff, hks2, cells_agg, e4]
  have hγ : γ p = 1000 + k := by rw [hcc.2 p hlt0]; exact hM
  have hndn : ∀ z ∈ us', notDig z := by
    intro z hz
    obtain ⟨j, hj⟩ := Array.getElem?_of_mem hz
    rw [hget j] at hj
    by_cases hc2 : off ≤ j ∧ j < off + n
    · rw [if_pos hc2] at hj; exact hnd2 z (Array.mem_of_getElem? hj)
    · rw [if_neg hc2] at hj; exact hnd1 z (Array.mem_of_getElem? hj)
  have hgr : Grow (1000 + k) γ w γ w' := Grow.but γ (by omega) hγ hnd1 hndn hsz.symm hb hblk hbut
  rw [if_pos (by simp [Region.wanted, hg])]
  have hrun' : (execOp a.eval o).run P w = .ok .skip w' := by
    unfold execOp
    rw [hop]
    simp only
    rw [e]
    simp only [Sem.run_bind, hrun, Result.andThen, Sem.run_pure]
  unfold Oper.wp
  rw [hrun']
  refine hK undef γ _ (by unfold effOf; rw [hr]; exact hgr) ?_
  unfold Holds
  rw [hr]
  refine ⟨hγ, .agg us', hblk, vs.set f (a.eval x), by rw [hus], AllT.l hgr (AllT.set f hall hv), ?_⟩
  rw [← hks, List.map_set]
  apply List.ext_getElem?
  intro j
  by_cases hjf : j = f
  · subst hjf
    have hl : j < vs.length := (List.getElem?_eq_some_iff.1 hu).1
    rw [List.getElem?_set_self (by simpa using hl), List.getElem?_map, hu, hks2]
    simp [hun]
  · rw [List.getElem?_set_ne (Ne.symm hjf)]
/-- All blocks but one stay, and there may be new ones. -/
structure ButB (p : Nat) (w w' : World) : Prop where
  os : w'.os = w.os
  tape : w'.tape = w.tape
  output : w'.output = w.output
  size : w.heap.size ≤ w'.heap.size
  block : ∀ b, b < w.heap.size → b ≠ p → w'.heap[b]? = w.heap[b]?
theorem ButB.refl (p : Nat) (w : World) : ButB p w w := ⟨rfl, rfl, rfl, Nat.le_refl _, fun _ _ _ => rfl⟩
theorem ButB.of (p : Nat) {w w' : World} (h : Below w.heap.size w w') : ButB p w w' := ⟨h.os, h.tape, h.output, h.size, fun b hb _ => h.block b hb⟩
theorem ButB.trans {p : Nat} {w w' w'' : World} (h : ButB p w w') (g : ButB p w' w'') : ButB p w w'' :=
  ⟨g.os.trans h.os, g.tape.trans h.tape, g.output.trans h.output, Nat.le_trans h.size g.size, fun b hb hp => (g.block b (Nat.lt_of_lt_of_le hb h.size) hp).trans (h.block b hb hp)⟩
theorem ButB.aft {p : Nat} {M : List Nat} {w W w' : World} {γ : Nat → Nat} (h : ButB p w W) (hc : RelC M W γ w') (hM : ∀ m ∈ M, w.heap.size ≤ m ∨ m = p) : ButB p w w' := by
  refine ⟨hc.1.os.trans h.os, hc.1.tape.trans h.tape, hc.1.output.trans h.output, Nat.le_trans h.size hc.1.size, fun b hb hp => (hc.1.block b (Nat.lt_of_lt_of_le hb h.size) (.inr ?_)).trans (h.block b hb hp)⟩
  have key : ∀ (M : List Nat) (k : Nat), (∀ m ∈ M, w.heap.size ≤ m ∨ m = p) → tagOf M k b = 0 := by
    intro M
    induction M with
    | nil => intro k _; rfl
    | cons m M ih =>
      intro k hm
      unfold tagOf
      have := hm m List.mem_cons_self
      rw [if_neg (by omega)]
      exact ih _ fun x hx => hm x (List.mem_cons_of_mem _ hx)
  unfold mt
  rw [if_pos (key M 1000 hM)]; omega
theorem Grow.callM {p t n : Nat} {sid : TypeId} {w w' : World} (γ : Nat → Nat) (ht0 : t ≠ 0) (hγ : γ p = t) (h1 : VarBlk w p sid n) (h2 : VarBlk w' p sid n) (hb : ButB p w w') : Grow t γ w (cutTag γ w) w' := by
  refine ⟨hb.os, hb.tape, hb.output, hb.size, fun b h => by simp [cutTag, h], fun b hlt ht => ?_, fun a k m hk ha => ?_, fun q T' m hq => ?_⟩
  · refine hb.block b hlt ?_
    rintro rfl
    exact ht.elim ht0 (fun h => h hγ)
  · obtain ⟨us, hsz, hu, hblk⟩ := h1
    by_cases hap : a.block = p
    · exfalso
      have h3 : w.heap[a.block]? = some (.cells us sid (0, 0)) := by rw [hap]; exact hblk
      have hmem : ∃ x ∈ us, x = .int k m := by
        obtain ⟨b, o, s⟩ := a
        simp only at hap
        subst hap
        cases s with
        | none =>
          have := Blk.cell (show Blk w b sid us from hblk) o
          rw [ha] at this
          exact ⟨_, Array.mem_of_getElem? this.symm, rfl⟩
        | some s => simp [World.cell?, h3] at ha
      obtain ⟨x, hx, e⟩ := hmem
      exact hu x hx k m hk e
    · rw [World.cell?_of_block (hb.block a.block (World.block_lt_of_cell? w a ha) hap)]; exact ha
  · by_cases hqp : q = p
    · subst hqp
      obtain ⟨us, hsz, hu, hblk⟩ := h1
      obtain ⟨us', hsz', hu', hblk'⟩ := h2
      obtain ⟨ds, h3, h4, h5⟩ := hq
      rw [hblk] at h5
      injection h5 with h5
      injection h5 with e1 e2 e3
      exact ⟨us', by rw [hsz', ← h3, ← e1, hsz], hu', by rw [← e2]; exact hblk'⟩
    · have hl := hq.lt
      obtain ⟨ds, h3, h4, h5⟩ := hq
      exact ⟨ds, h3, h4, (hb.block q hl hqp).trans h5⟩
/-- What a call hands back that changes one object. -/
def RetM (T0 : Ty) (p : Nat) (sid : TypeId) (T : Ty) (w : World) : Ending → World → Prop := fun e w' => ∃ v, e = .returned v ∧ T0.p v w' ∧ Cell sid T p w' ∧ ButB p w w'
theorem zCM {p k n : Nat} {sid : TypeId} {T0 T1 : Ty} {f : FuncId} {fn : Func} {args : Array Operand} {ts : Array TypeId} (hz : a0.tmps.size = N) (hop : o.op = .call { callee := .value (.func f), args := args, argTypes := ts }) (hf : P.funcs[f]? = some fn) (hM : tagOf M 1000 p = 1000 + k) (hlt0 : p < W.heap.size) (hc : CL ops a0 M W rels i o p sid T1)
    (h1 : ∀ v w, T1.p v w → v.cells.size = n ∧ ∀ u ∈ v.cells, notDig u) (h2 : ∀ v w, T.p v w → v.cells.size = n ∧ ∀ u ∈ v.cells, notDig u)
    (h : ∀ a γ w, Up ops a0 M W rels i o a γ w → Cell sid T1 p w → Calls P f (args.toList.map a.eval).toArray w (RetM T0 p sid T w)) (g : Gd ops a0 M W rels i o true := by exact Gd.none_ rfl)
    (ho : ops[i]? = some o := by rfl) (hr : rels[i]? = some (rCM k T0 sid T p) := by rfl) (hd : o.dst = some d := by rfl) (hlt : decide (d < N) = true := by rfl) (hn : (fn.name == "runtime.NumGoroutine") = false := by kernel_rfl) (hb : fn.body.isNone = false := by kernel_rfl) : StepOk P ops a0 M W Q rels i o := by
  intro a γ w K hcc hag hearly hdep hkp hK
  have U : Up ops a0 M W rels i o a γ w := ⟨hcc, hag, hearly, hdep, hkp⟩
  rw [if_pos (g a γ w U)]
  have hcell := hc a γ w U
  have hcall := h a γ w U hcell
  have hmap : (args.toList.map a.eval).toArray = args.map a.eval := by rw [← Array.toList_map]
  rw [hmap] at hcall
  have hrun : (execOp a.eval o).run P w = .ok (.enter f (args.map a.eval)) w := by
    unfold execOp
    rw [hop]
    simp [go_sem, resolve, Deferred.ofValue, Act.eval, invoke, run_enter hf hn hb]
  have hγ : γ p = 1000 + k := by rw [hcc.2 p hlt0]; exact hM
  unfold Oper.wp
  rw [hrun]
  refine Calls.mono hcall ?_
  rintro e w' ⟨v, rfl, hp, hcell', hbel⟩
  have hgr := Grow.callM γ (by omega) hγ (hcell.var h1) (hcell'.var h2) hbel
  refine hK v _ w' (by unfold effOf; rw [hr]; exact hgr) (holds_put ho hr rfl hd (lt_of hz hlt hag) ⟨hp, ?_, hcell'⟩)
  rw [hgr.tag p hcell.lt]; exact hγ
theorem gotM {a : Act} {γ : Nat → Nat} {w : World} {l : List Oper} {T0 : Ty} {sid : TypeId} {k p : Nat} (hz : a.tmps.size = N) (i : Nat) (hh : ∀ i, i < l.length → alive l.toArray rels i = true → Holds l.toArray rels i a γ w) (hi : decide (i < l.length) = true) (hr : rels[i]? = some (rCM k T0 sid T p)) (hal : alive l.toArray rels i = true := by kernel_rfl) : Cell sid T p w := by
  have h := hh i (of_decide_eq_true hi) hal
  unfold Holds at h
  rw [hr] at h
  exact h.2.2
end
theorem retM_to {P : Program} {fn : Func} {a : Act} {w w0 : World} {T T' U U' : Ty} {p : Nat} {sid : TypeId} (h : bodyPost P fn (Ret T w) .ret a w) (hc : Cell sid T' p w) (hb : ButB p w0 w) (h1 : ∀ v w, T.p v w → U.p v w) (h2 : ∀ v w, T'.p v w → U'.p v w) : bodyPost P fn (RetM U p sid U' w0) .ret a w := by
  obtain ⟨g1, v, g2, u, g3, g4, -⟩ := h
  obtain ⟨v', c1, c2⟩ := hc
  exact ⟨g1, v, g2, u, g3, h1 _ _ g4, ⟨v', c1, h2 _ _ c2⟩, hb⟩
theorem nd_nil : ∀ T ∈ ([] : List Ty), ND T := fun T h => by simp at h
theorem nd_c {T : Ty} {Ts : List Ty} (h : ND T) (hs : ∀ T ∈ Ts, ND T) : ∀ T' ∈ T :: Ts, ND T' := fun T' h' => by
  rcases List.mem_cons.1 h' with rfl | h'
  · exact h
  · exact hs _ h'
end Go.Proofs.Ytojpiiboikomfaa.Rg

namespace Go.Proofs.Ytojpiiboikomfaa.Rg

open Go.RowKit

theorem blk_lt {w : World} {p : Nat} {sid : TypeId} {us : Array Value} (h : Blk w p sid us) (j : Nat) (hj : j < us.size) : ∃ u, w.cell? ⟨p, j, none⟩ = some u := ⟨us[j], by rw [h.cell]; exact Array.getElem?_eq_getElem hj⟩
theorem ldo_int {n : Int} : LdOk Try.prog 3 (tV (.int .i64 n)) := by
  rintro v w p off rfl h
  have := h 0 (by simp [Value.cells])
  simp [Value.cells] at this
  simp [go_sem, this]
theorem sto_int {n : Int} : StPart Try.prog 3 (tV (.int .i64 n)) 1 := by
  rintro v w p off sid us rfl hb hroom
  obtain ⟨u, hu⟩ := blk_lt hb off (by omega)
  have hf := hb.frozen off
  refine ⟨w.setCell ⟨p, off, none⟩ (.int .i64 n), by simp [go_sem, hu, hf], But.set1 _ _ _ _, ⟨us.setIfInBounds off (.int .i64 n), hb.set_ off _, by simp, fun j => ?_⟩, rfl, ?_⟩
  · by_cases hj : off ≤ j ∧ j < off + 1
    · obtain rfl : j = off := by omega
      rw [if_pos hj]
      simp [Value.cells, show j < us.size by omega]
    · rw [if_neg hj, Array.getElem?_setIfInBounds_ne (by omega)]
  · exact nd_int _ w rfl
theorem ldo_q64 {b l : Nat} {x : Rat} : LdOk Try.prog 55 (tQ b l x) := by
  rintro v w p off ⟨P, Q, ⟨A, n, c, A', n', c', rfl, -⟩, -⟩ h
  have h0 := h 0 (by simp [Value.cells])
  have h1 := h 1 (by simp [Value.cells])
  simp [Value.cells] at h0 h1
  simp [go_sem, h0, h1]
theorem sto_q64 {b l : Nat} {x : Rat} : StPart Try.prog 55 (tQ b l x) 2 := by
  intro v w p off sid us hv hb hroom
  have hnd := (tQ_nd v w hv).2
  obtain ⟨P, Q, ⟨A, n, c, A', n', c', rfl, -⟩, -⟩ := hv
  obtain ⟨u, hu⟩ := blk_lt hb off (by omega)
  obtain ⟨u', hu'⟩ := blk_lt hb (off + 1) (by omega)
  have hf := hb.frozen off
  have hf' := hb.frozen (off + 1)
  have hb3 := hb.set_ off (.slice A n c)
  obtain ⟨u3, h3⟩ := blk_lt hb3 (off + 1) (by simp; omega)
  have h3' := hb3.frozen (off + 1)
  refine ⟨(w.setCell ⟨p, off, none⟩ (.slice A n c)).setCell ⟨p, off + 1, none⟩ (.slice A' n' c'), ?_, (But.set1 _ _ _ _).trans (But.set1 _ _ _ _), ⟨_, hb3.set_ (off + 1) (.slice A' n' c'), by simp, fun j => ?_⟩, rfl, hnd⟩
  · simp [go_sem, hu, hu', hf, hf', h3, h3']
  · by_cases hj : off ≤ j ∧ j < off + 2
    · rw [if_pos hj]
      rcases (show j = off ∨ j = off + 1 by omega) with rfl | rfl
      · rw [Array.getElem?_setIfInBounds_ne (by omega)]; simp [Value.cells, show j < us.size by omega]
      · simp [Value.cells, show off + 1 < us.size by omega]
    · rw [if_neg hj, Array.getElem?_setIfInBounds_ne (by omega), Array.getElem?_setIfInBounds_ne (by omega)]
section

variable {B l m : Nat} {a : Rat} {v : Value} {w : World}
theorem qO_fit (hb : 2 ≤ B) (h : (tQ B m a).p v w) (h1 : a.num.toNat < 2 ^ l) (h2 : a.den < 2 ^ l) : (tQ B l a).p v w := by
  obtain ⟨p, q, h, e1, e2, e3, -, -⟩ := h
  rw [e1] at h1; rw [e2] at h2
  exact tQ_mk hb h e1 e2 e3 h1 h2
end

end Go.Proofs.Ytojpiiboikomfaa.Rg

namespace Go.Proofs.Ytojpiiboikomfaa.Rg

open Go.RowKit
theorem allT2 {T1 T2 : Ty} {vs : List Value} {w : World} (h : AllT [T1, T2] vs w) : ∃ v1 v2, vs = [v1, v2] ∧ T1.p v1 w ∧ T2.p v2 w := by
  match vs, h with
  | [v1, v2], h => exact ⟨v1, v2, rfl, h.1, h.2.1⟩
theorem allT4 {T1 T2 T3 T4 : Ty} {vs : List Value} {w : World} (h : AllT [T1, T2, T3, T4] vs w) : ∃ v1 v2 v3 v4, vs = [v1, v2, v3, v4] ∧ T1.p v1 w ∧ T2.p v2 w ∧ T3.p v3 w ∧ T4.p v4 w := by
  match vs, h with
  | [v1, v2, v3, v4], h => exact ⟨v1, v2, v3, v4, rfl, h.1, h.2.1, h.2.2.1, h.2.2.2.1⟩
theorem tQ_v {b l : Nat} {x : Rat} {v : Value} {w : World} (h : (tQ b l x).p v w) : ∃ A n c A' n' c', v = .agg #[.slice A n c, .slice A' n' c'] := by
  obtain ⟨P, Q, ⟨A, n, c, A', n', c', rfl, -⟩, -⟩ := h
  exact ⟨A, n, c, A', n', c', rfl⟩
section

variable {P : Program} {ops : Array Oper} {Q : Exit → Act → World → Prop} {a0 : Act} {M : List Nat} {W : World} {rels : List Rel} {i : Nat} {o : Oper} {T T' : Ty} {N d : Nat} {x y z : Operand}
theorem zBd1 {id : TypeId} {T1 : Ty} (hz : a0.tmps.size = N) (s1 : Src ops a0 M W rels i o x T1) (h : ∀ u w, T1.p u w → ∃ z, (Instr.build id #[(0, u)]).run P w = .ok z w ∧ T.p z w) (g : Gd ops a0 M W rels i o true := by exact Gd.none_ rfl) (hop : o.op = .build id #[(0, x)] := by rfl)
    (ho : ops[i]? = some o := by rfl) (hr : rels[i]? = some (rT T) := by rfl) (hd : o.dst = some d := by rfl) (hlt : decide (d < N) = true := by rfl) : StepOk P ops a0 M W Q rels i o :=
  sOp ho hr hd hz hlt g fun a γ w U => by
    obtain ⟨z, h1, h2⟩ := h _ w (s1 a γ w U)
    refine ⟨z, ?_, h2⟩
    unfold execOp; rw [hop]; simp only [List.map_toArray, List.map_cons, List.map_nil, Sem.run_bind, h1, Result.andThen, Sem.run_pure]
theorem zBd3 {id : TypeId} {T1 T2 T3 : Ty} (hz : a0.tmps.size = N) (s1 : Src ops a0 M W rels i o x T1) (s2 : Src ops a0 M W rels i o y T2) (s3 : Src ops a0 M W rels i o z T3) (h : ∀ u v t w, T1.p u w → T2.p v w → T3.p t w → ∃ z, (Instr.build id #[(0, u), (1, v), (2, t)]).run P w = .ok z w ∧ T.p z w) (g : Gd ops a0 M W rels i o true := by exact Gd.none_ rfl) (hop : o.op = .build id #[(0, x), (1, y), (2, z)] := by rfl)
    (ho : ops[i]? = some o := by rfl) (hr : rels[i]? = some (rT T) := by rfl) (hd : o.dst = some d := by rfl) (hlt : decide (d < N) = true := by rfl) : StepOk P ops a0 M W Q rels i o :=
  sOp ho hr hd hz hlt g fun a γ w U => by
    obtain ⟨z, h1, h2⟩ := h _ _ _ w (s1 a γ w U) (s2 a γ w U) (s3 a γ w U)
    refine ⟨z, ?_, h2⟩
    unfold execOp; rw [hop]; simp only [List.map_toArray, List.map_cons, List.map_nil, Sem.run_bind, h1, Result.andThen, Sem.run_pure]
/-- A pointer to a new object (made by number j), in another slot. -/
theorem zPP {id : TypeId} (j k : Nat) (hrk : rels[k]? = some (rB j id T none 0)) (hr : rels[i]? = some (rB j id T none 0)) (hz : a0.tmps.size = N) (hop : o.op = .move x ∨ o.op = .assign x) (hx : ∃ t, x = .tmp t ∧ (ops[k]?).bind (·.dst) = some t) (hw : waitsD o k = true := by rfl)
    (g : Gd ops a0 M W rels i o true := by exact Gd.none_ rfl) (ho : ops[i]? = some o := by rfl) (hd : o.dst = some d := by rfl) (hlt : decide (d < N) = true := by rfl) : StepOk P ops a0 M W Q rels i o := by
  intro a γ w K hcc hag hearly hdep hkp hK
  have U : Up ops a0 M W rels i o a γ w := ⟨hcc, hag, hearly, hdep, hkp⟩
  rw [if_pos (g a γ w U)]
  have h := hdep k (.inl hw)
  unfold Holds at h
  rw [hrk] at h
  obtain ⟨t, rfl, ht⟩ := hx
  have e : valOf ops a k = a.eval (.tmp t) := by simp only [valOf, ht]; rfl
  have hp : (rB j id T none 0).p (a.eval (.tmp t)) γ w := by rw [← e]; exact h
  have hrun : (execOp a.eval o).run P w = .ok (.value (a.eval (.tmp t))) w := by
    unfold execOp
    rcases hop with hop | hop <;> rw [hop] <;> simp only [Sem.run_pure]
  unfold Oper.wp
  rw [hrun]
  exact hK _ γ w (by unfold effOf; rw [hr]; exact Grow.refl_ γ w) (holds_put ho hr rfl hd (lt_of hz hlt hag) hp)
/-- A call that hands back a new object and a value. -/
def RetN (sid : TypeId) (T : Ty) (u : Value) (w : World) : Ending → World → Prop := fun e w' => ∃ p, e = .returned (.tuple #[.pointer (some ⟨p, 0, none⟩), u]) ∧ w.heap.size ≤ p ∧ Cell sid T p w' ∧ Below w.heap.size w w'
def rN (j : Nat) (id : TypeId) (T : Ty) (u : Value) : Rel :=
  ⟨none, 0, j + 1, fun v γ w => ∃ p, v = .tuple #[.pointer (some ⟨p, 0, none⟩), u] ∧ γ p = j + 1 ∧ Cell id T p w,
    fun t γ w γ' w' v ht g ⟨p, e, hγ, h⟩ => ⟨p, e, by rw [g.tag p h.lt]; exact hγ, h.grow g (by omega)⟩⟩
def allTag (γ : Nat → Nat) (w : World) (t : Nat) : Nat → Nat := fun b => if b < w.heap.size then γ b else t
theorem zCN {sid : TypeId} {u : Value} {f : FuncId} {fn : Func} {args : Array Operand} {ts : Array TypeId} (hz : a0.tmps.size = N) (hop : o.op = .call { callee := .value (.func f), args := args, argTypes := ts }) (hf : P.funcs[f]? = some fn)
    (h : ∀ a γ w, Up ops a0 M W rels i o a γ w → Calls P f (args.toList.map a.eval).toArray w (RetN sid T u w)) (g : Gd ops a0 M W rels i o true := by exact Gd.none_ rfl)
    (ho : ops[i]? = some o := by rfl) (hr : rels[i]? = some (rN i sid T u) := by rfl) (hd : o.dst = some d := by rfl) (hlt : decide (d < N) = true := by rfl) (hn : (fn.name == "runtime.NumGoroutine") = false := by kernel_rfl) (hb : fn.body.isNone = false := by kernel_rfl) : StepOk P ops a0 M W Q rels i o := by
  intro a γ w K hcc hag hearly hdep hkp hK
  have U : Up ops a0 M W rels i o a γ w := ⟨hcc, hag, hearly, hdep, hkp⟩
  rw [if_pos (g a γ w U)]
  have hcall := h a γ w U
  have hmap : (args.toList.map a.eval).toArray = args.map a.eval := by rw [← Array.toList_map]
  rw [hmap] at hcall
  have hrun : (execOp a.eval o).run P w = .ok (.enter f (args.map a.eval)) w := by
    unfold execOp
    rw [hop]
    simp [go_sem, resolve, Deferred.ofValue, Act.eval, invoke, run_enter hf hn hb]
  unfold Oper.wp
  rw [hrun]
  refine Calls.mono hcall ?_
  rintro e w' ⟨p, rfl, hp, hcell, hbel⟩
  have hg0 := Grow.below γ hbel
  have hgr : Grow 0 γ w (allTag γ w (i + 1)) w' := ⟨hg0.os, hg0.tape, hg0.output, hg0.size, fun b hb => by simp [allTag, hb], hg0.block, hg0.num, hg0.var⟩
  refine hK _ _ w' (by unfold effOf; rw [hr]; exact hgr) (holds_put ho hr rfl hd (lt_of hz hlt hag) ⟨p, rfl, ?_, hcell⟩)
  unfold allTag; rw [if_neg (by omega)]
theorem zMvN {id : TypeId} {u : Value} (j k : Nat) (hrk : rels[k]? = some (rN j id T u)) (hr : rels[i]? = some (rN j id T u)) (hz : a0.tmps.size = N) (hop : o.op = .move x) (hx : ∃ t, x = .tmp t ∧ (ops[k]?).bind (·.dst) = some t) (hw : waitsD o k = true := by rfl)
    (g : Gd ops a0 M W rels i o true := by exact Gd.none_ rfl) (ho : ops[i]? = some o := by rfl) (hd : o.dst = some d := by rfl) (hlt : decide (d < N) = true := by rfl) : StepOk P ops a0 M W Q rels i o := by
  intro a γ w K hcc hag hearly hdep hkp hK
  have U : Up ops a0 M W rels i o a γ w := ⟨hcc, hag, hearly, hdep, hkp⟩
  rw [if_pos (g a γ w U)]
  have h := hdep k (.inl hw)
  unfold Holds at h
  rw [hrk] at h
  obtain ⟨t, rfl, ht⟩ := hx
  have e : valOf ops a k = a.eval (.tmp t) := by simp only [valOf, ht]; rfl
  have hp : (rN j id T u).p (a.eval (.tmp t)) γ w := by rw [← e]; exact h
  have hrun : (execOp a.eval o).run P w = .ok (.value (a.eval (.tmp t))) w := by
    unfold execOp
    rw [hop]; simp only [Sem.run_pure]
  unfold Oper.wp
  rw [hrun]
  exact hK _ γ w (by unfold effOf; rw [hr]; exact Grow.refl_ γ w) (holds_put ho hr rfl hd (lt_of hz hlt hag) hp)
theorem zExP {id : TypeId} {u : Value} (j k : Nat) (hrk : rels[k]? = some (rN j id T u)) (hr : rels[i]? = some (rB j id T none 0)) (hz : a0.tmps.size = N) (hop : o.op = .extract x 0) (hx : ∃ t, x = .tmp t ∧ (ops[k]?).bind (·.dst) = some t) (hw : waitsD o k = true := by rfl)
    (g : Gd ops a0 M W rels i o true := by exact Gd.none_ rfl) (ho : ops[i]? = some o := by rfl) (hd : o.dst = some d := by rfl) (hlt : decide (d < N) = true := by rfl) : StepOk P ops a0 M W Q rels i o := by
  intro a γ w K hcc hag hearly hdep hkp hK
  have U : Up ops a0 M W rels i o a γ w := ⟨hcc, hag, hearly, hdep, hkp⟩
  rw [if_pos (g a γ w U)]
  have h := hdep k (.inl hw)
  unfold Holds at h
  rw [hrk] at h
  obtain ⟨t, rfl, ht⟩ := hx
  have e : valOf ops a k = a.eval (.tmp t) := by simp only [valOf, ht]; rfl
  obtain ⟨p, h1, h2, h3⟩ : (rN j id T u).p (a.eval (.tmp t)) γ w := by rw [← e]; exact h
  have hrun : (execOp a.eval o).run P w = .ok (.value (.pointer (some ⟨p, 0, none⟩))) w := by
    unfold execOp
    rw [hop]; generalize a.eval = ρ at h1 ⊢; simp [go_sem, h1]
  unfold Oper.wp
  rw [hrun]
  exact hK _ γ w (by unfold effOf; rw [hr]; exact Grow.refl_ γ w) (holds_put ho hr rfl hd (lt_of hz hlt hag) ⟨p, rfl, h2, h3⟩)
theorem zExU {id : TypeId} {u : Value} (j k : Nat) (hrk : rels[k]? = some (rN j id T u)) (hz : a0.tmps.size = N) (hop : o.op = .extract x 1) (hx : ∃ t, x = .tmp t ∧ (ops[k]?).bind (·.dst) = some t) (hw : waitsD o k = true := by rfl)
    (g : Gd ops a0 M W rels i o true := by exact Gd.none_ rfl) (ho : ops[i]? = some o := by rfl) (hr : rels[i]? = some (rT (tV u)) := by rfl) (hd : o.dst = some d := by rfl) (hlt : decide (d < N) = true := by rfl) : StepOk P ops a0 M W Q rels i o :=
  sOp ho hr hd hz hlt g fun a γ w U => by
    have h := U.dep k (.inl hw)
    unfold Holds at h
    rw [hrk] at h
    obtain ⟨t, rfl, ht⟩ := hx
    have e : valOf ops a k = a.eval (.tmp t) := by simp only [valOf, ht]; rfl
    obtain ⟨p, h1, h2, h3⟩ : (rN j id T u).p (a.eval (.tmp t)) γ w := by rw [← e]; exact h
    refine ⟨u, ?_, rfl⟩
    unfold execOp; rw [hop]; generalize a.eval = ρ at h1 ⊢; simp [go_sem, h1]
theorem gotP {a : Act} {γ : Nat → Nat} {w : World} {t : Nat} {l : List Oper} {id : TypeId} {j eff : Nat} (hz : a.tmps.size = N) (i : Nat) (hc : RelC M W γ w) (hh : ∀ i, i < l.length → alive l.toArray rels i = true → Holds l.toArray rels i a γ w) (hi : decide (i < l.length) = true) (hr : rels[i]? = some (rB j id T none eff)) (hj : decide (j < 999) = true) (hd : (l.toArray[i]?).bind (·.dst) = some t) (hlt : decide (t < N) = true) (hal : alive l.toArray rels i = true := by kernel_rfl) :
    ∃ p, Sl a t (.pointer (some ⟨p, 0, none⟩)) ∧ Cell id T p w ∧ W.heap.size ≤ p ∧ γ p = j + 1 := by
  have h := hh i (of_decide_eq_true hi) hal
  unfold Holds at h
  rw [hr] at h
  have e : valOf l.toArray a i = a.eval (.tmp t) := by simp only [valOf, hd]; rfl
  obtain ⟨p, h1, h2, h3⟩ : (rB j id T none eff).p (valOf l.toArray a i) γ w := h
  rw [e] at h1
  refine ⟨p, by rw [← h1]; exact Sl.of hz hlt, h3, ?_, h2⟩
  rcases Nat.lt_or_ge p W.heap.size with hp | hp
  · have h4 := hc.2 p hp
    rw [h2] at h4
    have hj := of_decide_eq_true hj
    have key : ∀ (M : List Nat) (k : Nat), tagOf M k p = 0 ∨ k ≤ tagOf M k p := by
      intro M
      induction M with
      | nil => exact fun _ => .inl rfl
      | cons m M ih =>
        intro k
        unfold tagOf
        split
        · exact .inr (Nat.le_refl _)
        · rcases ih (k + 1) with h | h
          · exact .inl h
          · exact .inr (by omega)
    rcases key M 1000 with h | h <;> omega
  · exact hp
end
theorem retN {P : Program} {fn : Func} {w0 w : World} {a : Act} {t1 t2 p : Nat} {v2 : Value} {sid : TypeId} {T : Ty} (h : fn.results = #[.tmp t1, .tmp t2]) (s1 : Sl a t1 (.pointer (some ⟨p, 0, none⟩))) (s2 : Sl a t2 v2) (hdf : a.defers = []) (c : Cell sid T p w) (hp : w0.heap.size ≤ p) (hb : Below w0.heap.size w0 w) : bodyPost P fn (RetN sid T v2 w0) .ret a w := by
  refine bodyPost_ret (v := .tuple #[.pointer (some ⟨p, 0, none⟩), v2]) ?_ hdf ⟨p, rfl, hp, c, hb⟩
  unfold Sl at s1 s2
  simp [results, h, go_sem, s1, s2]
theorem retN_to {P : Program} {fn : Func} {w0 w : World} {a : Act} {v2 : Value} {sid : TypeId} {T U : Ty} (h : bodyPost P fn (RetN sid T v2 w0) .ret a w) (c : ∀ v w, T.p v w → U.p v w) : bodyPost P fn (RetN sid U v2 w0) .ret a w := by
  obtain ⟨g1, v, g2, p, g4, g5, ⟨v', c1, c2⟩, g6⟩ := h
  exact ⟨g1, v, g2, p, g4, g5, ⟨v', c1, c _ _ c2⟩, g6⟩
end Go.Proofs.Ytojpiiboikomfaa.Rg

namespace Go.Proofs.Ytojpiiboikomfaa.Rg

open Go.RowKit

/-- Of two slices. -/
def P2 (T : Ty) : Prop := ∀ v w, T.p v w → ∃ A n c A' n' c', v = .agg #[.slice A n c, .slice A' n' c']
theorem tR_nl {b : Nat} : ∀ w, (tR b 0 0 0 0).p (.agg #[.slice none 0 0, .slice none 0 0]) w := fun w => ⟨none, 0, 0, none, 0, 0, rfl, DAt.nil, by simp, DAt.nil, by simp⟩
section

variable {n t : Int} {R H : Ty}
end

section

variable {l l' l2 : Nat} {t : Int} {h r b : Rat}
theorem BK_v {v : Value} {w : World} (hv : (tO [tV (.int .i64 t), tQ B64 l h, tQ B64 l' b, tQ B64 l2 r] [1, 2, 2, 2]).p v w) : ∃ A n1 c A' n' c' D m1 e D' m' e' E k1 g E' k' g', v = .agg #[.int .i64 t, .slice A n1 c, .slice A' n' c', .slice D m1 e, .slice D' m' e', .slice E k1 g, .slice E' k' g'] := by
  obtain ⟨vs, rfl, ha, -⟩ := hv
  obtain ⟨v1, v2, v3, v4, rfl, rfl, h2, h3, h4⟩ := allT4 ha
  obtain ⟨A, n1, c, A', n', c', rfl⟩ := tQ_v h2
  obtain ⟨D, m1, e, D', m', e', rfl⟩ := tQ_v h3
  obtain ⟨E, k1, g, E', k', g', rfl⟩ := tQ_v h4
  exact ⟨A, n1, c, A', n', c', D, m1, e, D', m', e', E, k1, g, E', k', g', rfl⟩
theorem box_bk : ∀ v w, (tO [tV (.int .i64 t), tQ B64 l h, tQ B64 l' b, tQ B64 l2 r] [1, 2, 2, 2]).p v w → (Instr.box 80 v).run Try.prog w = .ok (.pointer (some ⟨w.heap.size, 0, none⟩)) (w.alloc (.cells v.cells 80)) := by
  intro v w hv
  obtain ⟨A, n1, c, A', n', c', D, m1, e, D', m', e', E, k1, g, E', k', g', rfl⟩ := BK_v hv
  simp [go_sem, Value.cells]
theorem mk_st : ∀ u w, (tV (.int .i64 t)).p u w → ∃ z, (Instr.build 78 #[(0, u)]).run Try.prog w = .ok z w ∧ (tO [tV (.int .i64 t), tQ B64 1 0] [1, 2]).p z w := by
  rintro u w rfl
  refine ⟨.agg #[.int .i64 t, .slice none 0 0, .slice none 0 0], by simp [go_sem], [.int .i64 t, .agg #[.slice none 0 0, .slice none 0 0]], rfl, ⟨rfl, tQ_nil, trivial⟩, rfl⟩
theorem mk_bk : ∀ u v x w, (tO [tV (.int .i64 t), tQ B64 l h] [1, 2]).p u w → (tQ B64 l' b).p v w → (tQ B64 l2 r).p x w → ∃ z, (Instr.build 80 #[(0, u), (1, v), (2, x)]).run Try.prog w = .ok z w ∧ (tO [tV (.int .i64 t), tQ B64 l h, tQ B64 l' b, tQ B64 l2 r] [1, 2, 2, 2]).p z w := by
  rintro u v x w ⟨vs, rfl, ha, -⟩ h3 h4
  obtain ⟨v1, v2, rfl, rfl, h2⟩ := allT2 ha
  obtain ⟨A, n1, c, A', n', c', rfl⟩ := tQ_v h2
  obtain ⟨D, m1, e, D', m', e', rfl⟩ := tQ_v h3
  obtain ⟨E, k1, g, E', k', g', rfl⟩ := tQ_v h4
  refine ⟨.agg #[.int .i64 t, .slice A n1 c, .slice A' n' c', .slice D m1 e, .slice D' m' e', .slice E k1 g, .slice E' k' g'], by simp [go_sem, cat, Value.cells], [.int .i64 t, .agg #[.slice A n1 c, .slice A' n' c'], .agg #[.slice D m1 e, .slice D' m' e'], .agg #[.slice E k1 g, .slice E' k' g']], rfl, ⟨rfl, h2, h3, h4, trivial⟩, rfl⟩
end

end Go.Proofs.Ytojpiiboikomfaa.Rg

namespace Go.Proofs.Ytojpiiboikomfaa.Rg

open Go.RowKit

def ex (u : Nat) : Nat := u / 4503599627370496 % 2048
def ma (u : Nat) : Nat := u % 4503599627370496
theorem ex_lt (u : Nat) : ex u < 2048 := Nat.mod_lt _ (by decide)
theorem ma_lt (u : Nat) : ma u < 4503599627370496 := Nat.mod_lt _ (by decide)
/-- Of such bits: a value that is told. -/
def FOk (u : Nat) : Prop := ¬ ((ex u : Nat) : Int) = 2047 ∧ ¬ 9223372036854775808 < u
instance (u : Nat) : Decidable (FOk u) := inferInstanceAs (Decidable (_ ∧ _))
/-- The value. -/
def fl (u : Nat) : Rat := if ((ex u : Nat) : Int) = 0 then mkRat (ma u) (2 ^ 1074) else if ((ex u : Nat) : Int) < 1075 then mkRat ((ma u + 4503599627370496 : Nat) : Int) (2 ^ (1075 - ex u)) else mkRat (((ma u + 4503599627370496) * 2 ^ (ex u - 1075) : Nat) : Int) 1
def flQ (u : Nat) : Rat := if FOk u then fl u else 0
section

variable {P : Program} {ops : Array Oper} {Q : Exit → Act → World → Prop} {a0 : Act} {M : List Nat} {W : World} {rels : List Rel} {i : Nat} {o : Oper} {N d : Nat} {x : Operand}
theorem zX {f : FuncId} {ts : Array TypeId} {u z : Value} (hz : a0.tmps.size = N) (hop : o.op = .call { callee := .value (.func f), args := #[x], argTypes := ts }) (s : Src ops a0 M W rels i o x (tV u)) (h : ∀ w, (callFunc f #[u]).run P w = .ok (.value z) w) (g : Gd ops a0 M W rels i o true := by exact Gd.none_ rfl)
    (ho : ops[i]? = some o := by rfl) (hr : rels[i]? = some (rT (tV z)) := by rfl) (hd : o.dst = some d := by rfl) (hlt : decide (d < N) = true := by rfl) : StepOk P ops a0 M W Q rels i o :=
  sOp ho hr hd hz hlt g fun a γ w U => by
    have e : a.eval x = u := s a γ w U
    refine ⟨z, ?_, rfl⟩
    have ef : a.eval (.func f) = .func (.func f) #[] #[] := rfl
    generalize a.eval = ρ at e ef ⊢
    unfold execOp; rw [hop]; simp [go_sem, resolve, Deferred.ofValue, invoke, e, ef, h]
end
theorem run_fb (u : Nat) (w : World) : (callFunc 52 #[.float .f64 u]).run Try.prog w = .ok (.value (.int .u64 (u : Int))) w := by
  rw [run_callFunc_extern Try.func52 (by kernel_rfl) (by kernel_rfl) (by kernel_rfl) (e := Extern.MathFloatBits.float64bits) (by kernel_rfl)]
  have h : Extern.MathFloatBits.float64bits #[.float .f64 u] = pure (.int .u64 (u : Int)) := rfl
  simp [go_sem, h]
theorem run_ff (u : Nat) (w : World) : (callFunc 34 #[.int .u64 (u : Int)]).run Try.prog w = .ok (.value (.float .f64 u)) w := by
  rw [run_callFunc_extern Try.func34 (by kernel_rfl) (by kernel_rfl) (by kernel_rfl) (e := Extern.MathFloatBits.float64frombits) (by kernel_rfl)]
  have h : Extern.MathFloatBits.float64frombits #[.int .u64 (u : Int)] = pure (.float .f64 u) := rfl
  simp [go_sem, h]
theorem and_u64 (u k : Nat) (hk : k ≤ 63) (hu : u < 18446744073709551616) : bits .and .u64 (u : Int) ((2 ^ k - 1 : Nat) : Int) = ((u % 2 ^ k : Nat) : Int) := by
  have hp : 2 ^ k ≤ 2 ^ 63 := Nat.pow_le_pow_right (by omega) hk
  have hp2 : (2 : Nat) ^ 63 = 9223372036854775808 := rfl
  have hp0 : 0 < 2 ^ k := Nat.two_pow_pos k
  have h1 : (BitVec.ofInt 64 (u : Int)).toNat = u := by rw [BitVec.ofInt_natCast, BitVec.toNat_ofNat]; exact Nat.mod_eq_of_lt hu
  have h2 : (BitVec.ofInt 64 ((2 ^ k - 1 : Nat) : Int)).toNat = 2 ^ k - 1 := by
    rw [BitVec.ofInt_natCast, BitVec.toNat_ofNat]; exact Nat.mod_eq_of_lt (by omega)
  show IntKind.u64.wrap ((BitVec.ofInt 64 (u : Int) &&& BitVec.ofInt 64 ((2 ^ k - 1 : Nat) : Int)).toNat : Int) = _
  rw [BitVec.toNat_and, h1, h2, Nat.and_two_pow_sub_one_eq_mod, IntKind.wrap_u64]
  have := Nat.mod_lt u hp0
  omega
theorem or_top (m : Nat) (hm : m < 4503599627370496) : bits .or .u64 (m : Int) 4503599627370496 = ((m + 4503599627370496 : Nat) : Int) := by
  have h1 : (BitVec.ofInt 64 (m : Int)).toNat = m := by rw [BitVec.ofInt_natCast, BitVec.toNat_ofNat]; exact Nat.mod_eq_of_lt (by omega)
  have h2 : (BitVec.ofInt 64 4503599627370496).toNat = 4503599627370496 := by decide
  show IntKind.u64.wrap ((BitVec.ofInt 64 (m : Int) ||| BitVec.ofInt 64 4503599627370496).toNat : Int) = _
  have h3 : m ||| 4503599627370496 = m + 4503599627370496 := by
    have := Nat.two_pow_add_eq_or_of_lt (i := 52) (b := m) (by simpa using hm) 1
    rw [Nat.or_comm, Nat.add_comm]; simpa using this.symm
  rw [BitVec.toNat_or, h1, h2, h3, IntKind.wrap_u64]
  omega
theorem signed_pos (m k : Nat) : compare (Ieee.signed false m k) 0 ≠ .lt := by
  have : (0 : Int) ≤ Ieee.signed false m k := Int.natCast_nonneg _
  intro h
  rw [Int.compare_eq_lt] at h; omega
theorem signed_neg {m : Nat} (hm : 0 < m) (k : Nat) : compare (Ieee.signed true m k) 0 = .lt := by
  have h0 : 0 < m <<< k := by rw [Nat.shiftLeft_eq]; exact Nat.mul_pos hm (Nat.two_pow_pos k)
  rw [Int.compare_eq_lt]
  show -((m <<< k : Nat) : Int) < 0
  have : (0 : Int) < ((m <<< k : Nat) : Int) := by exact_mod_cast h0
  omega
theorem ff_ord {u : Nat} (hu : u < 18446744073709551616) (h : ¬ ((ex u : Nat) : Int) = 2047) : (Ieee.double.order u 0 == some .lt) = decide (9223372036854775808 < u) := by
  have hr : ∃ m p, Ieee.double.read u = .number (u / 9223372036854775808 % 2 == 1) m p ∧ (m = 0 ↔ u % 9223372036854775808 = 0) := by
    have hx : u % 9223372036854775808 < 9218868437227405312 := by unfold ex at h; omega
    unfold Ieee.Format.read
    have e1 : Ieee.double.signWeight = 9223372036854775808 := rfl
    have e2 : Ieee.double.binade = 4503599627370496 := rfl
    have e3 : Ieee.double.infRung = 9218868437227405312 := rfl
    rw [e1, e2, e3]
    simp only
    by_cases h1 : u % 9223372036854775808 < 4503599627370496
    · rw [if_pos h1]; exact ⟨_, _, rfl, Iff.rfl⟩
    · rw [if_neg h1, if_pos hx]; exact ⟨_, _, rfl, by constructor <;> intro h <;> omega⟩
  obtain ⟨m, p, hr, hm⟩ := hr
  have h0 : Ieee.double.read 0 = .number false 0 Ieee.double.leastPlace := rfl
  unfold Ieee.Format.order
  rw [hr, h0]
  simp only [Ieee.Datum.order]
  have e0 : ∀ k, Ieee.signed false 0 k = 0 := fun k => by simp [Ieee.signed]
  rw [e0]
  by_cases hu2 : 9223372036854775808 < u
  · have hn : (u / 9223372036854775808 % 2 == 1) = true := by simp; omega
    rw [hn, signed_neg (by omega), decide_eq_true hu2]; rfl
  · rw [decide_eq_false hu2]
    by_cases hn : u / 9223372036854775808 % 2 = 1
    · have : m = 0 := by omega
      subst this
      have e : ∀ k, Ieee.signed (u / 9223372036854775808 % 2 == 1) 0 k = 0 := fun k => by simp [Ieee.signed]
      rw [e]; rfl
    · have e : (u / 9223372036854775808 % 2 == 1) = false := by simpa using hn
      rw [e]
      have := signed_pos m (p - min p Ieee.double.leastPlace).toNat
      cases hc : compare (Ieee.signed false m (p - min p Ieee.double.leastPlace).toNat) 0 with
      | lt => exact absurd hc this
      | eq => rfl
      | gt => rfl
section

variable {u : Nat} {ox oy : Operand} {id : TypeId}
theorem f_shr (w : World) : (do eqGuard .shr id ox oy (.int .u64 (u : Int)) (.int .u64 52); binOp .shr id (.int .u64 (u : Int)) (.int .u64 52) : Sem Value).run Try.prog w = .ok (.int .u64 ((u / 4503599627370496 : Nat) : Int)) w := by
  simp [go_sem]
theorem f_ex (hu : u < 18446744073709551616) (w : World) : (do eqGuard .and id ox oy (.int .u64 ((u / 4503599627370496 : Nat) : Int)) (.int .u64 2047); binOp .and id (.int .u64 ((u / 4503599627370496 : Nat) : Int)) (.int .u64 2047) : Sem Value).run Try.prog w = .ok (.int .u64 ((ex u : Nat) : Int)) w := by
  have := and_u64 (u / 4503599627370496) 11 (by omega) (by omega)
  have e : (((2 ^ 11 - 1 : Nat)) : Int) = 2047 := rfl
  rw [e] at this
  have e2 : u / 4503599627370496 % 2 ^ 11 = ex u := rfl
  rw [e2] at this
  rw [← this]
  simp only [eqGuard]; simp [go_sem]
theorem f_ma (hu : u < 18446744073709551616) (w : World) : (do eqGuard .and id ox oy (.int .u64 (u : Int)) (.int .u64 4503599627370495); binOp .and id (.int .u64 (u : Int)) (.int .u64 4503599627370495) : Sem Value).run Try.prog w = .ok (.int .u64 ((ma u : Nat) : Int)) w := by
  have := and_u64 u 52 (by omega) hu
  have e : (((2 ^ 52 - 1 : Nat)) : Int) = 4503599627370495 := rfl
  rw [e] at this
  have e2 : u % 2 ^ 52 = ma u := rfl
  rw [e2] at this
  rw [← this]
  simp [go_sem]
theorem f_or (w : World) : (do eqGuard .or id ox oy (.int .u64 ((ma u : Nat) : Int)) (.int .u64 4503599627370496); binOp .or id (.int .u64 ((ma u : Nat) : Int)) (.int .u64 4503599627370496) : Sem Value).run Try.prog w = .ok (.int .u64 ((ma u + 4503599627370496 : Nat) : Int)) w := by
  rw [← or_top (ma u) (ma_lt u)]
  simp [go_sem]
theorem f_lss (hu : u < 18446744073709551616) (h : ¬ ((ex u : Nat) : Int) = 2047) (w : World) : (do eqGuard .lss id ox oy (.float .f64 u) (.float .f64 0); binOp .lss id (.float .f64 u) (.float .f64 0) : Sem Value).run Try.prog w = .ok (.bool (decide (9223372036854775808 < u))) w := by
  have hs : (FloatKind.f64.format.order u 0 == some .lt) = decide (9223372036854775808 < u) := by
    exact ff_ord hu h
  rw [← hs]
  simp [go_sem]
end
/-- A whole number of D-ths. -/
def Ind (D : Nat) (x : Rat) : Prop := ∃ m : Int, x * (D : Rat) = (m : Rat)
section

variable {D : Nat} {x y : Rat}
theorem rat_den_mul (x : Rat) : x * (x.den : Rat) = (x.num : Rat) := by
  have h := Rat.num_divInt_den x
  have hd : ((x.den : Nat) : Rat) ≠ 0 := by
    have := x.den_nz
    intro e; exact this (Rat.natCast_eq_zero_iff.1 e)
  have h1 : x = (x.num : Rat) / ((x.den : Nat) : Rat) := by rw [Rat.divInt_eq_div] at h; exact h.symm
  have h2 := congrArg (fun y => y * ((x.den : Nat) : Rat)) h1
  rw [h2, Rat.div_mul_cancel hd]
theorem ind_add (hx : Ind D x) (hy : Ind D y) : Ind D (x + y) := by
  obtain ⟨m, hm⟩ := hx; obtain ⟨n, hn⟩ := hy
  exact ⟨m + n, by rw [Rat.intCast_add, ← hm, ← hn, Rat.add_mul]⟩
theorem ind_sub (hx : Ind D x) (hy : Ind D y) : Ind D (x - y) := by
  obtain ⟨m, hm⟩ := hx; obtain ⟨n, hn⟩ := hy
  exact ⟨m - n, by rw [Rat.intCast_sub, ← hm, ← hn]; grind⟩
theorem ind_int (n : Int) : Ind D (n : Rat) := ⟨n * D, by rw [Rat.intCast_mul]; rfl⟩
theorem ind_nat (n : Nat) : Ind D (n : Rat) := ind_int (n : Int)
theorem ind_rate (r : Rat) (n : Int) : Ind r.den (r * n) := ⟨r.num * n, by rw [Rat.intCast_mul, ← rat_den_mul r]; grind⟩
theorem ind_den (h : Ind D x) : x.den ∣ D := by
  obtain ⟨m, hm⟩ := h
  have h1 : (x.num : Rat) * (D : Rat) = (m : Rat) * (x.den : Rat) := by rw [← rat_den_mul x, ← hm]; grind
  have h2 : x.num * (D : Int) = m * (x.den : Int) := by
    have : ((x.num * (D : Int) : Int) : Rat) = ((m * (x.den : Int) : Int) : Rat) := by rw [Rat.intCast_mul, Rat.intCast_mul]; exact h1
    exact Rat.intCast_inj.1 this
  have h3 : x.den ∣ x.num.natAbs * D := by
    have := congrArg Int.natAbs h2
    rw [Int.natAbs_mul, Int.natAbs_mul, Int.natAbs_natCast, Int.natAbs_natCast] at this
    rw [this]; exact Nat.dvd_mul_left _ _
  exact Nat.Coprime.dvd_of_dvd_mul_left (Nat.Coprime.symm x.reduced) h3
theorem ind_bits {k d : Nat} (hD0 : 0 < D) (hD : D < 2 ^ d) (hx : x ≤ ((2 ^ k : Nat) : Rat)) (h : Ind D x) : x.num.toNat < 2 ^ (k + d) ∧ x.den < 2 ^ d := by
  have h1 := Nat.le_of_dvd hD0 (ind_den h)
  refine ⟨?_, by omega⟩
  have h2 : (x.num : Rat) ≤ ((2 ^ k * x.den : Nat) : Rat) := by
    rw [← rat_den_mul x, Rat.natCast_mul]
    exact Rat.mul_le_mul_of_nonneg_right hx Rat.natCast_nonneg
  have h3 : x.num ≤ ((2 ^ k * x.den : Nat) : Int) := Rat.intCast_le_intCast.1 h2
  have h4 : 2 ^ k * x.den < 2 ^ (k + d) := by rw [Nat.pow_add]; exact Nat.mul_lt_mul_of_pos_left (by omega) (Nat.two_pow_pos k)
  omega
end
/-- The tick that is reached. -/
def mnT (n : Int) : Int := if 4611686018427387904 < n then 4611686018427387904 else n
theorem mnT_le (n : Int) : mnT n ≤ 4611686018427387904 := by unfold mnT; split <;> omega
def TT (t t' : Int) : Int := if mnT t' > t then mnT t' else t
def minQ (x y : Rat) : Rat := if y < x then y else x
/-- What a bucket has at that tick. -/
def atH (t : Int) (h b r : Rat) (t' : Int) : Rat := minQ (h + r * ((TT t t' - t : Int) : Rat)) b
structure BInv (l : Nat) (t : Int) (h b r : Rat) : Prop where
  t0 : 0 ≤ t
  t1 : t ≤ 4611686018427387904
  h0 : 0 ≤ h
  hb : h ≤ b
  ind : Ind r.den h
  bn : ∃ n : Nat, b = (n : Rat) ∧ n ≤ 1099511627776
  r0 : 0 ≤ r
  rd : r.den < 2 ^ l
section

variable {l : Nat} {t t' : Int} {h b r : Rat}
theorem TT_le (t t' : Int) : t ≤ TT t t' := by unfold TT; split <;> omega
theorem TT_hi (h : t ≤ 4611686018427387904) : TT t t' ≤ 4611686018427387904 := by
  have := mnT_le t'
  unfold TT; split <;> omega
theorem minQ_le_r (x y : Rat) : minQ x y ≤ y := by unfold minQ; split <;> grind
theorem minQ_le_l (x y : Rat) : minQ x y ≤ x := by unfold minQ; split <;> grind
theorem cast_nonneg {n : Int} (hn : 0 ≤ n) : (0 : Rat) ≤ (n : Rat) := by
  have := Rat.intCast_le_intCast.2 hn; simpa using this
theorem BInv.at_ (I : BInv l t h b r) (t' : Int) : BInv l (TT t t') (atH t h b r t') b r := by
  have h1 := TT_le t t'
  have h2 := cast_nonneg (show 0 ≤ TT t t' - t by omega)
  have h3 := Rat.mul_nonneg I.r0 h2
  refine ⟨by have := I.t0; omega, TT_hi I.t1, ?_, minQ_le_r _ _, ?_, I.bn, I.r0, I.rd⟩
  · unfold atH minQ; split
    · exact Rat.le_trans I.h0 I.hb
    · have := I.h0; grind
  · unfold atH minQ; split
    · obtain ⟨n, hn, _⟩ := I.bn; rw [hn]; exact ind_nat n
    · exact ind_add I.ind (ind_rate r _)
theorem atH_full (I : BInv l t h b r) (hf : ¬ h < b) : atH t h b r t' = h := by
  have h1 := TT_le t t'
  have h3 := Rat.mul_nonneg I.r0 (cast_nonneg (show 0 ≤ TT t t' - t by omega))
  have := I.hb
  unfold atH minQ; split <;> grind
theorem atH_old (I : BInv l t h b r) (ht : TT t t' = t) : atH t h b r t' = h := by
  unfold atH; rw [ht, Int.sub_self]
  have := I.hb
  unfold minQ; split <;> simp at * <;> grind
theorem BInv.bits (I : BInv l t h b r) : h.num.toNat < 2 ^ (l + 41) ∧ h.den < 2 ^ (l + 41) := by
  obtain ⟨n, hn, hn2⟩ := I.bn
  have hb : h ≤ ((2 ^ 40 : Nat) : Rat) := by
    refine Rat.le_trans I.hb ?_
    rw [hn]; exact Rat.natCast_le_natCast.2 hn2
  obtain ⟨h1, h2⟩ := ind_bits r.den_pos I.rd hb I.ind
  have e : 2 ^ l ≤ 2 ^ (l + 41) := Nat.pow_le_pow_right (by omega) (by omega)
  have e2 : 2 ^ (40 + l) ≤ 2 ^ (l + 41) := Nat.pow_le_pow_right (by omega) (by omega)
  exact ⟨by omega, by omega⟩
theorem BInv.bbits (I : BInv l t h b r) : b.num.toNat < 2 ^ 42 ∧ b.den < 2 ^ 42 := by
  obtain ⟨n, hn, hn2⟩ := I.bn
  rw [hn]
  have : (2 : Nat) ^ 42 = 4398046511104 := rfl
  exact ⟨by rw [Rat.num_natCast, Int.toNat_natCast]; omega, by rw [Rat.den_natCast]; omega⟩
theorem atH_new (ht : mnT t' > t) (hc : ¬ b < h + r * ((mnT t' - t : Int) : Rat)) : atH t h b r t' = h + r * ((mnT t' - t : Int) : Rat) := by
  unfold atH minQ TT; rw [if_pos ht, if_neg hc]
theorem atH_cap (ht : mnT t' > t) (hc : b < h + r * ((mnT t' - t : Int) : Rat)) : atH t h b r t' = b := by
  unfold atH minQ TT; rw [if_pos ht, if_pos hc]
theorem TT_new (ht : mnT t' > t) : TT t t' = mnT t' := by unfold TT; rw [if_pos ht]
theorem TT_old (ht : ¬ mnT t' > t) : TT t t' = t := by unfold TT; rw [if_neg ht]
end
theorem pow_fit {n : Nat} (hn : n ≤ 2048) : ∀ v w, (tN B64 (1 + 16777216) (leftV 1 (n : Int))).p v w → (tN B64 33 (2 ^ n)).p v w := by
  rintro v w ⟨A, m, c, e, hd, hm⟩
  have h1 : leftV 1 (n : Int) = 2 ^ n := by
    unfold leftV
    rw [if_neg (by omega)]
    have : leftOk 1 (n : Int) = true := by unfold leftOk; simp; omega
    rw [if_pos this]; simp
  rw [h1] at hd
  refine ⟨A, m, c, e, hd, hd.le (by decide) ?_⟩
  have hb : B64 = 2 ^ 64 := rfl
  rw [hb, ← Nat.pow_mul]
  generalize hk : 64 * 33 = k
  exact Nat.pow_lt_pow_right (by decide) (by omega)
theorem f_sub1 {u : Nat} {ox oy : Operand} {id : TypeId} (h : ((ex u : Nat) : Int) < 1075) (w : World) : (do eqGuard .sub id ox oy (.int .i64 1075) (.int .i64 ((ex u : Nat) : Int)); binOp .sub id (.int .i64 1075) (.int .i64 ((ex u : Nat) : Int)) : Sem Value).run Try.prog w = .ok (.int .i64 ((1075 - ex u : Nat) : Int)) w := by
  have : IntKind.i64.wrap (1075 - ((ex u : Nat) : Int)) = ((1075 - ex u : Nat) : Int) := by rw [IntKind.wrap_i64]; omega
  simp [go_sem, this]
theorem f_sub2 {u : Nat} {ox oy : Operand} {id : TypeId} (h : ¬ ((ex u : Nat) : Int) < 1075) (w : World) : (do eqGuard .sub id ox oy (.int .i64 ((ex u : Nat) : Int)) (.int .i64 1075); binOp .sub id (.int .i64 ((ex u : Nat) : Int)) (.int .i64 1075) : Sem Value).run Try.prog w = .ok (.int .i64 ((ex u - 1075 : Nat) : Int)) w := by
  have hl := ex_lt u
  have : IntKind.i64.wrap (((ex u : Nat) : Int) - 1075) = ((ex u - 1075 : Nat) : Int) := by rw [IntKind.wrap_i64]; omega
  simp [go_sem, this]
theorem fb_1 {u l : Nat} (h : 60 ≤ l) : ma u < 2 ^ l := Nat.lt_of_lt_of_le (Nat.lt_of_lt_of_le (ma_lt u) (by decide : 4503599627370496 ≤ 2 ^ 60)) (Nat.pow_le_pow_right (by omega) h)
theorem fb_2 {u l : Nat} (h : 60 ≤ l) : ma u + 4503599627370496 < 2 ^ l := Nat.lt_of_lt_of_le (by have := ma_lt u; have : (2 : Nat) ^ 60 = 1152921504606846976 := rfl; omega : ma u + 4503599627370496 < 2 ^ 60) (Nat.pow_le_pow_right (by omega) h)
theorem fb_3 {u l : Nat} (h : 1100 ≤ l) : (ma u + 4503599627370496) * 2 ^ (ex u - 1075) < 2 ^ l := by
  have h1 := bits_mul (fb_2 (u := u) (l := 60) (Nat.le_refl _)) (Nat.pow_lt_pow_right (a := 2) (by decide) (show ex u - 1075 < 1000 by have := ex_lt u; omega))
  exact bits_le h1 (by omega)
theorem fb_p {n l : Nat} (h : n < l) : 2 ^ n < 2 ^ l := Nat.pow_lt_pow_right (by decide) h
theorem fb_one {l : Nat} (h : 1 ≤ l) : 1 < 2 ^ l := Nat.one_lt_two_pow (by omega)

set_option maxRecDepth 10000 in
set_option maxHeartbeats 2000000 in
theorem c_bits {u : Nat} {w : World}   :
    Calls Try.prog 25 #[.float .f64 u] w (Ret (tV (.int .u64 (u : Int))) w) := by
 refine enter Try.func25 rfl Try.ntmps25 (by simp) ?_
 intro a hz hd ha
 have S0 := ha 0 _ rfl
 clear ha
 have HB : Below w.heap.size w w := Below.refl _ _
 refine wp_seq ?_
 refine region_text (M := []) (
  rT (tV (.int .u64 0)) ::
  []) hz hd (by kernel_rfl) ?_ ?_
 refine ⟨?_, trivial⟩
 exact zAs hz kc
 intro a' γ' W' hz' hd' hC hk hh
 replace S0 := kp hk S0
 have S2 := gotV hz' 0 hh rfl rfl rfl rfl
 replace HB := aft_call HB (RelC.below_nil hC)
 clear hC hk hh; replace hz := hz'; replace hd := hd'; clear hz' hd'
 refine wp_seq ?_
 refine region_text (M := []) (
  rT (tV (.float .f64 u)) ::
  rT (tV (.int .u64 (u : Int))) ::
  rT (tV (.int .u64 (u : Int))) ::
  []) hz hd (by kernel_rfl) ?_ ?_
 refine ⟨?_, ?_, ?_, trivial⟩
 exact zMv hz (sv S0)
 exact zX hz rfl (sd 0 rfl) (fun w => run_fb u w)
 exact zAs hz (sd 1 rfl)
 intro a' γ' W' hz' hd' hC hk hh
 clear S0
 clear S2
 have S2 := gotV hz' 2 hh rfl rfl rfl rfl
 replace HB := aft_call HB (RelC.below_nil hC)
 clear hC hk hh; replace hz := hz'; replace hd := hd'; clear hz' hd'
 refine wp_ret ?_
 refine ret_to (T := tV (.int .u64 (u : Int))) (ret1 (by kernel_rfl) S2 hd ⟨_, rfl, rfl, HB⟩) ?_
 exact fun _ _ h => h

set_option maxRecDepth 10000 in
set_option maxHeartbeats 2000000 in
theorem c_float {u : Nat} {w : World}   :
    Calls Try.prog 10 #[.int .u64 (u : Int)] w (Ret (tV (.float .f64 u)) w) := by
 refine enter Try.func10 rfl Try.ntmps10 (by simp) ?_
 intro a hz hd ha
 have S0 := ha 0 _ rfl
 clear ha
 have HB : Below w.heap.size w w := Below.refl _ _
 refine wp_seq ?_
 refine region_text (M := []) (
  rT (tV (.float FloatKind.f64 0)) ::
  []) hz hd (by kernel_rfl) ?_ ?_
 refine ⟨?_, trivial⟩
 exact zAs hz kc
 intro a' γ' W' hz' hd' hC hk hh
 replace S0 := kp hk S0
 have S2 := gotV hz' 0 hh rfl rfl rfl rfl
 replace HB := aft_call HB (RelC.below_nil hC)
 clear hC hk hh; replace hz := hz'; replace hd := hd'; clear hz' hd'
 refine wp_seq ?_
 refine region_text (M := []) (
  rT (tV (.int .u64 (u : Int))) ::
  rT (tV (.float .f64 u)) ::
  rT (tV (.float .f64 u)) ::
  []) hz hd (by kernel_rfl) ?_ ?_
 refine ⟨?_, ?_, ?_, trivial⟩
 exact zMv hz (sv S0)
 exact zX hz rfl (sd 0 rfl) (fun w => run_ff u w)
 exact zAs hz (sd 1 rfl)
 intro a' γ' W' hz' hd' hC hk hh
 clear S0
 clear S2
 have S2 := gotV hz' 2 hh rfl rfl rfl rfl
 replace HB := aft_call HB (RelC.below_nil hC)
 clear hC hk hh; replace hz := hz'; replace hd := hd'; clear hz' hd'
 refine wp_ret ?_
 refine ret_to (T := tV (.float .f64 u)) (ret1 (by kernel_rfl) S2 hd ⟨_, rfl, rfl, HB⟩) ?_
 exact fun _ _ h => h

set_option maxRecDepth 10000 in
set_option maxHeartbeats 2000000 in
theorem c_num1  {w : World}   :
    Calls Try.prog 67 #[] w (Ret (tN B64 1 1) w) := by
 refine enter Try.func67 rfl Try.ntmps67 (by simp) ?_
 intro a hz hd ha
 clear ha
 have HB : Below w.heap.size w w := Below.refl _ _
 refine wp_seq ?_
 refine region_text (M := []) (
  rB 0 53 (tN B64 0 0) none 0 ::
  []) hz hd (by kernel_rfl) ?_ ?_
 refine ⟨?_, trivial⟩
 exact zNew hz (fun _ => tN_nil) al_n64
 intro a' γ' W' hz' hd' hC hk hh
 obtain ⟨p1, S0, Cp1, lp1, gp1⟩ := gotB hz' 0 hC hh rfl rfl rfl rfl rfl rfl
 have bp1 : w.heap.size ≤ p1 := Nat.le_trans HB.size lp1
 clear lp1 gp1
 replace HB := aft_call HB (RelC.below_nil hC)
 clear hC hk hh; replace hz := hz'; replace hd := hd'; clear hz' hd'
 refine wp_seq ?_
 refine region_text (M := [p1]) (
  rT (tN B64 1 1) ::
  rE 0 53 (tN B64 1 1) p1 ::
  []) hz hd (by kernel_rfl) ?_ ?_
 refine ⟨?_, ?_, trivial⟩
 exact zC1 hz Try.func64 (kc (v := .int .u64 1)) (k1 (fun _ => c_of (by decide)))
 exact zSE rfl (sv S0) (by simp [tagOf]) (Cp1.var tN_nd) (sd 0 rfl) st_n64
 intro a' γ' W' hz' hd' hC hk hh
 replace Cp1 := gotE (T := tN B64 1 1) (id := 53) (p := p1) 1 hh rfl rfl
 replace S0 := kp hk S0
 replace HB := RelC.aftM HB hC (by intro m hm; simp at hm; rcases hm with rfl <;> assumption)
 clear hC hk hh; replace hz := hz'; replace hd := hd'; clear hz' hd'
 refine wp_ret ?_
 refine ret_to (T := tN B64 1 1) (ret1_n64 (by kernel_rfl) S0 hd Cp1 HB) ?_
 exact fun _ _ h => h

set_option maxRecDepth 10000 in
set_option maxHeartbeats 2000000 in
theorem c_power {n : Nat} {w : World}  (hn : n ≤ 2048) :
    Calls Try.prog 65 #[.int .i64 (n : Int)] w (Ret (tN B64 33 (2 ^ n)) w) := by
 refine enter Try.func65 rfl Try.ntmps65 (by simp) ?_
 intro a hz hd ha
 have S0 := ha 0 _ rfl
 clear ha
 have HB : Below w.heap.size w w := Below.refl _ _
 refine wp_seq ?_
 refine region_text (M := []) (
  rB 0 53 (tN B64 0 0) none 0 ::
  []) hz hd (by kernel_rfl) ?_ ?_
 refine ⟨?_, trivial⟩
 exact zNew hz (fun _ => tN_nil) al_n64
 intro a' γ' W' hz' hd' hC hk hh
 replace S0 := kp hk S0
 obtain ⟨p1, S2, Cp1, lp1, gp1⟩ := gotB hz' 0 hC hh rfl rfl rfl rfl rfl rfl
 have bp1 : w.heap.size ≤ p1 := Nat.le_trans HB.size lp1
 clear lp1 gp1
 replace HB := aft_call HB (RelC.below_nil hC)
 clear hC hk hh; replace hz := hz'; replace hd := hd'; clear hz' hd'
 refine wp_seq ?_
 refine region_text (M := []) (
  rT (tN B64 1 1) ::
  rT (tV (.int .i64 (n : Int))) ::
  rT (tT [tN B64 16777217 (leftV 1 (n : Int)), tV (.bool (leftOk 1 (n : Int)))]) ::
  rT (tT [tN B64 16777217 (leftV 1 (n : Int)), tV (.bool (leftOk 1 (n : Int)))]) ::
  rT (tN B64 16777217 (leftV 1 (n : Int))) ::
  rT (tV (.bool (leftOk 1 (n : Int)))) ::
  rVar 6 53 1 ::
  rB 6 53 (tN B64 16777217 (leftV 1 (n : Int))) (some 6) 7 ::
  rT (tV (.bool (leftOk 1 (n : Int)))) ::
  []) hz hd (by kernel_rfl) ?_ ?_
 refine ⟨?_, ?_, ?_, ?_, ?_, ?_, ?_, ?_, ?_, trivial⟩
 exact zC0 hz Try.func67 (fun _ => c_num1)
 exact zMv hz (sv S0)
 exact zC2 hz Try.func91 (sd 0 rfl) (sd 1 rfl) (k01 (fun _ _ h0 => c_left (k := (n : Int)) h0 (by decide) (by omega) (by omega)))
 exact zMv hz (sd 2 rfl)
 exact zExt hz (sd 3 rfl)
 exact zExt hz (sd 3 rfl)
 exact zAl hz nd_slice al_n64
 exact zSt (sd 4 rfl) st_n64
 exact zAs hz (sd 5 rfl)
 intro a' γ' W' hz' hd' hC hk hh
 have ep1 := Cp1.lt
 have tp1 := Cp1.lt
 replace Cp1 := kC hC Cp1
 clear S0
 replace S2 := kp hk S2
 obtain ⟨p2, S3, Cp2, lp2, gp2⟩ := gotB hz' 7 hC hh rfl rfl rfl rfl rfl rfl
 have n_p2_p1 : p2 ≠ p1 := by omega
 have n_p1_p2 : p1 ≠ p2 := by have := ep1; omega
 have bp2 : w.heap.size ≤ p2 := Nat.le_trans HB.size lp2
 clear lp2 gp2
 clear tp1
 clear ep1
 replace HB := aft_call HB (RelC.below_nil hC)
 clear hC hk hh; replace hz := hz'; replace hd := hd'; clear hz' hd'
 refine wp_seq ?_
 refine region_text (M := [p1]) (
  rT (tN B64 16777217 (leftV 1 (n : Int))) ::
  rE 0 53 (tN B64 16777217 (leftV 1 (n : Int))) p1 ::
  []) hz hd (by kernel_rfl) ?_ ?_
 refine ⟨?_, ?_, trivial⟩
 exact zLd hz (sv S3) Cp2 ld_n64 (by simp [tagOf, n_p2_p1])
 exact zSE rfl (sv S2) (by simp [tagOf]) (Cp1.var tN_nd) (sd 0 rfl) st_n64
 intro a' γ' W' hz' hd' hC hk hh
 replace Cp1 := gotE (T := tN B64 16777217 (leftV 1 (n : Int))) (id := 53) (p := p1) 1 hh rfl rfl
 have tp2 := Cp2.lt
 clear Cp2
 replace S2 := kp hk S2
 clear S3
 clear tp2
 replace HB := RelC.aftM HB hC (by intro m hm; simp at hm; rcases hm with rfl <;> assumption)
 clear hC hk hh; replace hz := hz'; replace hd := hd'; clear hz' hd'
 refine wp_ret ?_
 refine ret_to (T := tN B64 16777217 (leftV 1 (n : Int))) (ret1_n64 (by kernel_rfl) S2 hd Cp1 HB) ?_
 exact pow_fit hn

set_option maxRecDepth 10000 in
set_option maxHeartbeats 2000000 in
theorem c_fraction {l l1 l2 p q : Nat} {v0 v1 : Value} {w : World} (h0 : (tN B64 l1 p).p v0 w) (h1 : (tN B64 l2 q).p v1 w) (b1 : l1 ≤ 100000000) (b2 : l2 ≤ 100000000) (hp : p < 2 ^ l) (hq : q < 2 ^ l) (hl : 1 ≤ l) :
    Calls Try.prog 63 #[v0, v1] w (Ret (tQ B64 l (mkRat p q)) w) := by
 refine enter Try.func63 rfl Try.ntmps63 (by simp) ?_
 intro a hz hd ha
 have S0 := ha 0 _ rfl
 have H0 := h0
 have S1 := ha 1 _ rfl
 have H1 := h1
 clear ha
 have HB : Below w.heap.size w w := Below.refl _ _
 refine wp_seq ?_
 refine region_text (M := []) (
  rB 0 53 (tN B64 l1 p) none 0 ::
  rB 1 53 (tN B64 l2 q) none 0 ::
  rB 2 55 (tQ B64 1 0) none 0 ::
  []) hz hd (by kernel_rfl) ?_ ?_
 refine ⟨?_, ?_, ?_, trivial⟩
 exact zBox hz (so S0 H0) box_n64
 exact zBox hz (so S1 H1) box_n64
 exact zNew hz (fun _ => tQ_nil) al_r64
 intro a' γ' W' hz' hd' hC hk hh
 clear S0 H0
 clear S1 H1
 obtain ⟨p1, S2, Cp1, lp1, gp1⟩ := gotB hz' 0 hC hh rfl rfl rfl rfl rfl rfl
 obtain ⟨p2, S3, Cp2, lp2, gp2⟩ := gotB hz' 1 hC hh rfl rfl rfl rfl rfl rfl
 obtain ⟨p3, S4, Cp3, lp3, gp3⟩ := gotB hz' 2 hC hh rfl rfl rfl rfl rfl rfl
 have n_p1_p3 : p1 ≠ p3 := by intro e; rw [e, gp3] at gp1; omega
 have n_p2_p3 : p2 ≠ p3 := by intro e; rw [e, gp3] at gp2; omega
 have bp3 : w.heap.size ≤ p3 := Nat.le_trans HB.size lp3
 clear lp1 gp1 lp2 gp2 lp3 gp3
 replace HB := aft_call HB (RelC.below_nil hC)
 clear hC hk hh; replace hz := hz'; replace hd := hd'; clear hz' hd'
 refine wp_seq ?_
 refine region_text (M := []) (
  rT (tN B64 l1 p) ::
  rT (tN B64 l2 q) ::
  rT (tT [tQ B64 l (mkRat p q), tV (.bool (decide (q ≠ 0)))]) ::
  rT (tT [tQ B64 l (mkRat p q), tV (.bool (decide (q ≠ 0)))]) ::
  rT (tQ B64 l (mkRat p q)) ::
  rT (tV (.bool (decide (q ≠ 0)))) ::
  rVar 6 55 2 ::
  rB 6 55 (tQ B64 l (mkRat p q)) (some 6) 7 ::
  rT (tV (.bool (decide (q ≠ 0)))) ::
  []) hz hd (by kernel_rfl) ?_ ?_
 refine ⟨?_, ?_, ?_, ?_, ?_, ?_, ?_, ?_, ?_, trivial⟩
 exact zLd hz (sv S2) Cp1 ld_n64
 exact zLd hz (sv S3) Cp2 ld_n64
 exact zC2 hz Try.func89 (sd 0 rfl) (sd 1 rfl) (fun _ _ _ h0 h1 => cq_from (l := l) h0 h1 (by omega) (by omega) hp hq hl)
 exact zMv hz (sd 2 rfl)
 exact zExt hz (sd 3 rfl)
 exact zExt hz (sd 3 rfl)
 exact zAl hz nd_rat al_r64
 exact zSt (sd 4 rfl) st_q64
 exact zAs hz (sd 5 rfl)
 intro a' γ' W' hz' hd' hC hk hh
 have ep1 := Cp1.lt
 have ep2 := Cp2.lt
 have ep3 := Cp3.lt
 clear Cp1
 clear Cp2
 have tp3 := Cp3.lt
 replace Cp3 := kC hC Cp3
 clear S2
 clear S3
 replace S4 := kp hk S4
 obtain ⟨p4, S5, Cp4, lp4, gp4⟩ := gotB hz' 7 hC hh rfl rfl rfl rfl rfl rfl
 have n_p4_p3 : p4 ≠ p3 := by omega
 have n_p3_p4 : p3 ≠ p4 := by have := ep3; omega
 have bp4 : w.heap.size ≤ p4 := Nat.le_trans HB.size lp4
 clear lp4 gp4
 clear tp3
 clear ep1 ep2 ep3
 replace HB := aft_call HB (RelC.below_nil hC)
 clear hC hk hh; replace hz := hz'; replace hd := hd'; clear hz' hd'
 refine wp_seq ?_
 refine region_text (M := [p3]) (
  rT (tQ B64 l (mkRat p q)) ::
  rE 0 55 (tQ B64 l (mkRat p q)) p3 ::
  []) hz hd (by kernel_rfl) ?_ ?_
 refine ⟨?_, ?_, trivial⟩
 exact zLd hz (sv S5) Cp4 ld_q64 (by simp [tagOf, n_p4_p3])
 exact zSE rfl (sv S4) (by simp [tagOf]) (Cp3.var tQ_nd) (sd 0 rfl) st_q64
 intro a' γ' W' hz' hd' hC hk hh
 replace Cp3 := gotE (T := tQ B64 l (mkRat p q)) (id := 55) (p := p3) 1 hh rfl rfl
 have tp4 := Cp4.lt
 clear Cp4
 replace S4 := kp hk S4
 clear S5
 clear tp4
 replace HB := RelC.aftM HB hC (by intro m hm; simp at hm; rcases hm with rfl <;> assumption)
 clear hC hk hh; replace hz := hz'; replace hd := hd'; clear hz' hd'
 refine wp_ret ?_
 refine ret_to (T := tQ B64 l (mkRat p q)) (ret1_q64 (by kernel_rfl) S4 hd Cp3 HB) ?_
 exact fun _ _ h => h

set_option maxRecDepth 10000 in
set_option maxHeartbeats 2000000 in
theorem c_fromfloat {l u : Nat} {w : World}  (hu : u < 18446744073709551616) (hl : 1100 ≤ l) :
    Calls Try.prog 31 #[.float .f64 u] w (Ret (tT [tQ B64 l (flQ u), tV (.bool (decide (FOk u)))]) w) := by
 refine enter Try.func31 rfl Try.ntmps31 (by simp) ?_
 intro a hz hd ha
 have S0 := ha 0 _ rfl
 clear ha
 have HB : Below w.heap.size w w := Below.refl _ _
 have hex := ex_lt u
 have hma := ma_lt u
 refine wp_seq ?_
 refine region_text (M := []) (
  rB 0 55 (tQ B64 1 0) none 0 ::
  rT (tV (.bool false)) ::
  []) hz hd (by kernel_rfl) ?_ ?_
 refine ⟨?_, ?_, trivial⟩
 exact zNew hz (fun _ => tQ_nil) al_r64
 exact zAs hz kc
 intro a' γ' W' hz' hd' hC hk hh
 replace S0 := kp hk S0
 obtain ⟨p1, S2, Cp1, lp1, gp1⟩ := gotB hz' 0 hC hh rfl rfl rfl rfl rfl rfl
 have S3 := gotV hz' 1 hh rfl rfl rfl rfl
 have bp1 : w.heap.size ≤ p1 := Nat.le_trans HB.size lp1
 clear lp1 gp1
 replace HB := aft_call HB (RelC.below_nil hC)
 clear hC hk hh; replace hz := hz'; replace hd := hd'; clear hz' hd'
 refine wp_seq ?_
 refine region_text (M := []) (
  rT (tV (.float .f64 u)) ::
  rT (tV (.int .u64 (u : Int))) ::
  rT (tV (.int .u64 (u : Int))) ::
  []) hz hd (by kernel_rfl) ?_ ?_
 refine ⟨?_, ?_, ?_, trivial⟩
 exact zMv hz (sv S0)
 exact zC1 hz Try.func25 (sd 0 rfl) (k1 (fun _ => c_bits))
 exact zAs hz (sd 1 rfl)
 intro a' γ' W' hz' hd' hC hk hh
 have tp1 := Cp1.lt
 replace Cp1 := kC hC Cp1
 replace S0 := kp hk S0
 replace S2 := kp hk S2
 replace S3 := kp hk S3
 have S4 := gotV hz' 2 hh rfl rfl rfl rfl
 clear tp1
 replace HB := aft_call HB (RelC.below_nil hC)
 clear hC hk hh; replace hz := hz'; replace hd := hd'; clear hz' hd'
 refine wp_seq ?_
 refine region_text (M := []) (
  rT (tV (.int .u64 (u : Int))) ::
  rT (tV (.int .u64 ((u / 4503599627370496 : Nat) : Int))) ::
  rT (tV (.int .u64 ((ex u : Nat) : Int))) ::
  rT (tV (.int .i64 ((ex u : Nat) : Int))) ::
  rT (tV (.int .u64 (u : Int))) ::
  rT (tV (.int .u64 ((ma u : Nat) : Int))) ::
  rT (tV (.int .i64 ((ex u : Nat) : Int))) ::
  rT (tV (.int .u64 ((ma u : Nat) : Int))) ::
  []) hz hd (by kernel_rfl) ?_ ?_
 refine ⟨?_, ?_, ?_, ?_, ?_, ?_, ?_, ?_, trivial⟩
 exact zMv hz (sv S4)
 exact sBin rfl rfl rfl hz rfl (Gd.none_ rfl) rfl (sd 0 rfl) kc (fun w => f_shr w)
 exact sBin rfl rfl rfl hz rfl (Gd.none_ rfl) rfl (sd 1 rfl) kc (fun w => f_ex hu w)
 exact sConv (T' := tV (.int .u64 ((ex u : Nat) : Int))) rfl rfl rfl hz rfl (Gd.none_ rfl) rfl (sd 2 rfl) (fun v_ w_ h_ => by have h_ : v_ = .int .u64 ((ex u : Nat) : Int) := h_; subst h_; exact ⟨_, by simp [go_sem, IntKind.wrap_i64]; omega, rfl⟩)
 exact zMv hz (sv S4)
 exact sBin rfl rfl rfl hz rfl (Gd.none_ rfl) rfl (sd 4 rfl) kc (fun w => f_ma hu w)
 exact zAs hz (sd 3 rfl)
 exact zAs hz (sd 5 rfl)
 intro a' γ' W' hz' hd' hC hk hh
 have tp1 := Cp1.lt
 replace Cp1 := kC hC Cp1
 replace S0 := kp hk S0
 replace S2 := kp hk S2
 replace S3 := kp hk S3
 clear S4
 have S5 := gotV hz' 6 hh rfl rfl rfl rfl
 have S6 := gotV hz' 7 hh rfl rfl rfl rfl
 clear tp1
 replace HB := aft_call HB (RelC.below_nil hC)
 clear hC hk hh; replace hz := hz'; replace hd := hd'; clear hz' hd'
 refine wp_seq ?_
 refine wp_block ?_
 refine wp_seq ?_
 by_cases hc2 : ((ex u : Nat) : Int) = 2047
 refine region_text (M := []) (
  rT (tV (.int .i64 ((ex u : Nat) : Int))) ::
  rT (tV (.bool true)) ::
  rT (tV (.bool true)) ::
  rT (tV undef) ::
  rT (tV undef) ::
  rT (tV (.bool true)) ::
  rT (tV (.bool true)) ::
  []) hz hd (by kernel_rfl) ?_ ?_
 refine ⟨?_, ?_, ?_, ?_, ?_, ?_, ?_, trivial⟩
 exact zMv hz (sv S5)
 exact sBin rfl rfl rfl hz rfl (Gd.none_ rfl) rfl (sd 0 rfl) kc (fun w => run_t (P := ((ex u : Nat) : Int) = 2047) ((fun w => run_eql) w) hc2)
 exact zMv hz (sd 1 rfl)
 exact zSkU hz (gN 2 rfl)
 exact zSkU hz (gN 2 rfl)
 exact zPT hz (sd 2 rfl) kc
 exact zAs hz (sd 5 rfl)
 intro a' γ' W' hz' hd' hC hk hh
 have tp1 := Cp1.lt
 replace Cp1 := kC hC Cp1
 clear S0
 replace S2 := kp hk S2
 replace S3 := kp hk S3
 replace S5 := kp hk S5
 replace S6 := kp hk S6
 have S17 := gotV hz' 6 hh rfl rfl rfl rfl
 clear tp1
 replace HB := aft_call HB (RelC.below_nil hC)
 clear hC hk hh; replace hz := hz'; replace hd := hd'; clear hz' hd'
 refine wp_cond_true S17.ev ?_
 refine wp_seq ?_
 refine region_text (M := [p1]) (
  rT (tQ B64 1 0) ::
  rE 0 55 (tQ B64 1 0) p1 ::
  rT (tV (.bool false)) ::
  []) hz hd (by kernel_rfl) ?_ ?_
 refine ⟨?_, ?_, ?_, trivial⟩
 exact sBuild0 rfl rfl rfl hz rfl (Gd.none_ rfl) rfl bd_r64 (fun _ => tQ_nil)
 exact zSE rfl (sv S2) (by simp [tagOf]) (Cp1.var tQ_nd) (sd 0 rfl) st_q64
 exact zAs hz kc
 intro a' γ' W' hz' hd' hC hk hh
 replace Cp1 := gotE (T := tQ B64 1 0) (id := 55) (p := p1) 1 hh rfl rfl
 replace S2 := kp hk S2
 clear S3
 replace S5 := kp hk S5
 replace S6 := kp hk S6
 clear S17
 have S3 := gotV hz' 2 hh rfl rfl rfl rfl
 replace HB := RelC.aftM HB hC (by intro m hm; simp at hm; rcases hm with rfl <;> assumption)
 clear hC hk hh; replace hz := hz'; replace hd := hd'; clear hz' hd'
 refine wp_ret ?_
 refine ret_to (T := tT [tQ B64 1 0, tV (.bool false)]) (retct_q64 (by kernel_rfl) S2 S3 hd Cp1 HB) ?_
 exact to2 (tQ_to (by decide) (by unfold flQ; rw [if_neg (fun h => h.1 hc2)]) (by omega)) (tV_to (by rw [decide_eq_false (fun h => h.1 hc2)]))
 refine region_text (M := []) (
  rT (tV (.int .i64 ((ex u : Nat) : Int))) ::
  rT (tV (.bool false)) ::
  rT (tV (.bool false)) ::
  rT (tV (.float .f64 u)) ::
  rT (tV (.bool (decide (9223372036854775808 < u)))) ::
  rT (tV (.bool (decide (9223372036854775808 < u)))) ::
  rT (tV (.bool (decide (9223372036854775808 < u)))) ::
  []) hz hd (by kernel_rfl) ?_ ?_
 refine ⟨?_, ?_, ?_, ?_, ?_, ?_, ?_, trivial⟩
 exact zMv hz (sv S5)
 exact sBin rfl rfl rfl hz rfl (Gd.none_ rfl) rfl (sd 0 rfl) kc (fun w => run_f (P := ((ex u : Nat) : Int) = 2047) ((fun w => run_eql) w) hc2)
 exact zMv hz (sd 1 rfl)
 exact zMv hz (sv S0) (g := gT 2 rfl)
 exact sBin rfl rfl rfl hz rfl (gT 2 rfl) rfl (sd 3 rfl) kc (fun w => f_lss hu hc2 w)
 exact zPF hz (sd 2 rfl) (sd 4 rfl)
 exact zAs hz (sd 5 rfl)
 intro a' γ' W' hz' hd' hC hk hh
 have tp1 := Cp1.lt
 replace Cp1 := kC hC Cp1
 clear S0
 replace S2 := kp hk S2
 replace S3 := kp hk S3
 replace S5 := kp hk S5
 replace S6 := kp hk S6
 have S17 := gotV hz' 6 hh rfl rfl rfl rfl
 clear tp1
 replace HB := aft_call HB (RelC.below_nil hC)
 clear hC hk hh; replace hz := hz'; replace hd := hd'; clear hz' hd'
 by_cases hc3 : 9223372036854775808 < u
 rw [decide_eq_true hc3] at S17
 refine wp_cond_true S17.ev ?_
 refine wp_seq ?_
 refine region_text (M := [p1]) (
  rT (tQ B64 1 0) ::
  rE 0 55 (tQ B64 1 0) p1 ::
  rT (tV (.bool false)) ::
  []) hz hd (by kernel_rfl) ?_ ?_
 refine ⟨?_, ?_, ?_, trivial⟩
 exact sBuild0 rfl rfl rfl hz rfl (Gd.none_ rfl) rfl bd_r64 (fun _ => tQ_nil)
 exact zSE rfl (sv S2) (by simp [tagOf]) (Cp1.var tQ_nd) (sd 0 rfl) st_q64
 exact zAs hz kc
 intro a' γ' W' hz' hd' hC hk hh
 replace Cp1 := gotE (T := tQ B64 1 0) (id := 55) (p := p1) 1 hh rfl rfl
 replace S2 := kp hk S2
 clear S3
 replace S5 := kp hk S5
 replace S6 := kp hk S6
 clear S17
 have S3 := gotV hz' 2 hh rfl rfl rfl rfl
 replace HB := RelC.aftM HB hC (by intro m hm; simp at hm; rcases hm with rfl <;> assumption)
 clear hC hk hh; replace hz := hz'; replace hd := hd'; clear hz' hd'
 refine wp_ret ?_
 refine ret_to (T := tT [tQ B64 1 0, tV (.bool false)]) (retct_q64 (by kernel_rfl) S2 S3 hd Cp1 HB) ?_
 exact to2 (tQ_to (by decide) (by unfold flQ; rw [if_neg (fun h => h.2 hc3)]) (by omega)) (tV_to (by rw [decide_eq_false (fun h => h.2 hc3)]))
 rw [decide_eq_false hc3] at S17
 refine wp_cond_false S17.ev ?_
 refine wp_seq ?_
 refine region_text (M := []) (
  rT (tV (.int .i64 ((ex u : Nat) : Int))) ::
  rT (tV (.bool (decide (((ex u : Nat) : Int) = 0)))) ::
  rT (tV (.bool (decide (((ex u : Nat) : Int) = 0)))) ::
  []) hz hd (by kernel_rfl) ?_ ?_
 refine ⟨?_, ?_, ?_, trivial⟩
 exact zMv hz (sv S5)
 exact sBin rfl rfl rfl hz rfl (Gd.none_ rfl) rfl (sd 0 rfl) kc (fun w => run_eql)
 exact zAs hz (sd 1 rfl)
 intro a' γ' W' hz' hd' hC hk hh
 have tp1 := Cp1.lt
 replace Cp1 := kC hC Cp1
 replace S2 := kp hk S2
 replace S3 := kp hk S3
 replace S5 := kp hk S5
 replace S6 := kp hk S6
 clear S17
 have S25 := gotV hz' 2 hh rfl rfl rfl rfl
 clear tp1
 replace HB := aft_call HB (RelC.below_nil hC)
 clear hC hk hh; replace hz := hz'; replace hd := hd'; clear hz' hd'
 by_cases hc4 : ((ex u : Nat) : Int) = 0
 rw [decide_eq_true hc4] at S25
 refine wp_cond_true S25.ev ?_
 refine region_text (M := []) (
  rT (tV (.int .i64 1)) ::
  []) hz hd (by kernel_rfl) ?_ ?_
 refine ⟨?_, trivial⟩
 exact zAs hz kc
 intro a' γ' W' hz' hd' hC hk hh
 have tp1 := Cp1.lt
 replace Cp1 := kC hC Cp1
 replace S2 := kp hk S2
 replace S3 := kp hk S3
 clear S5
 replace S6 := kp hk S6
 clear S25
 have S5 := gotV hz' 0 hh rfl rfl rfl rfl
 clear tp1
 replace HB := aft_call HB (RelC.below_nil hC)
 clear hC hk hh; replace hz := hz'; replace hd := hd'; clear hz' hd'
 refine wp_seq ?_
 refine wp_seq ?_
 refine region_text (M := []) (
  rT (tV (.int .i64 1)) ::
  rT (tV (.bool true)) ::
  []) hz hd (by kernel_rfl) ?_ ?_
 refine ⟨?_, ?_, trivial⟩
 exact zMv hz (sv S5)
 exact sBin rfl rfl rfl hz rfl (Gd.none_ rfl) rfl (sd 0 rfl) kc (fun w => by simp [go_sem])
 intro a' γ' W' hz' hd' hC hk hh
 have tp1 := Cp1.lt
 replace Cp1 := kC hC Cp1
 replace S2 := kp hk S2
 replace S3 := kp hk S3
 replace S6 := kp hk S6
 replace S5 := kp hk S5
 have S29 := gotV hz' 1 hh rfl rfl rfl rfl
 clear tp1
 replace HB := aft_call HB (RelC.below_nil hC)
 clear hC hk hh; replace hz := hz'; replace hd := hd'; clear hz' hd'
 refine wp_cond_true S29.ev ?_
 refine wp_seq ?_
 refine region_text (M := [p1]) (
  rT (tV (.int .u64 ((ma u : Nat) : Int))) ::
  rT (tN B64 1 (ma u)) ::
  rT (tV (.int .i64 1)) ::
  rT (tV (.int .i64 1074)) ::
  rT (tN B64 33 (2 ^ 1074)) ::
  rT (tQ B64 l (mkRat ((ma u : Nat) : Int) (2 ^ 1074))) ::
  rE 0 55 (tQ B64 l (mkRat ((ma u : Nat) : Int) (2 ^ 1074))) p1 ::
  rT (tV (.bool true)) ::
  []) hz hd (by kernel_rfl) ?_ ?_
 refine ⟨?_, ?_, ?_, ?_, ?_, ?_, ?_, ?_, trivial⟩
 exact zMv hz (sv S6)
 exact zC1 hz Try.func64 (sd 0 rfl) (k1 (fun _ => c_of (by unfold B64; omega)))
 exact zMv hz (sv S5)
 exact sBin rfl rfl rfl hz rfl (Gd.none_ rfl) rfl kc (sd 2 rfl) (fun w => by kernel_rfl)
 exact zC1 hz Try.func65 (sd 3 rfl) (k1 (fun _ => c_power (n := 1074) (by have := ex_lt u; omega)))
 exact zC2 hz Try.func63 (sd 1 rfl) (sd 4 rfl) (fun _ _ _ h0 h1 => c_fraction (l := l) h0 h1 (by decide) (by decide) (fb_1 (by omega)) (fb_p (n := 1074) (by omega)) (by omega))
 exact zSE rfl (sv S2) (by simp [tagOf]) (Cp1.var tQ_nd) (sd 5 rfl) st_q64
 exact zAs hz kc
 intro a' γ' W' hz' hd' hC hk hh
 replace Cp1 := gotE (T := tQ B64 l (mkRat ((ma u : Nat) : Int) (2 ^ 1074))) (id := 55) (p := p1) 6 hh rfl rfl
 replace S2 := kp hk S2
 clear S3
 replace S6 := kp hk S6
 replace S5 := kp hk S5
 clear S29
 have S3 := gotV hz' 7 hh rfl rfl rfl rfl
 replace HB := RelC.aftM HB hC (by intro m hm; simp at hm; rcases hm with rfl <;> assumption)
 clear hC hk hh; replace hz := hz'; replace hd := hd'; clear hz' hd'
 refine wp_ret ?_
 refine ret_to (T := tT [tQ B64 l (mkRat ((ma u : Nat) : Int) (2 ^ 1074)), tV (.bool true)]) (retct_q64 (by kernel_rfl) S2 S3 hd Cp1 HB) ?_
 exact to2 (tQ_to (by decide) (by unfold flQ fl; rw [if_pos ⟨hc2, hc3⟩, if_pos hc4]) (by omega)) (tV_to (by rw [decide_eq_true ⟨hc2, hc3⟩]))
 rw [decide_eq_false hc4] at S25
 refine wp_cond_false S25.ev ?_
 refine region_text (M := []) (
  rT (tV (.int .u64 ((ma u : Nat) : Int))) ::
  rT (tV (.int .u64 ((ma u + 4503599627370496 : Nat) : Int))) ::
  rT (tV (.int .u64 ((ma u + 4503599627370496 : Nat) : Int))) ::
  []) hz hd (by kernel_rfl) ?_ ?_
 refine ⟨?_, ?_, ?_, trivial⟩
 exact zMv hz (sv S6)
 exact sBin rfl rfl rfl hz rfl (Gd.none_ rfl) rfl (sd 0 rfl) kc (fun w => f_or w)
 exact zAs hz (sd 1 rfl)
 intro a' γ' W' hz' hd' hC hk hh
 have tp1 := Cp1.lt
 replace Cp1 := kC hC Cp1
 replace S2 := kp hk S2
 replace S3 := kp hk S3
 replace S5 := kp hk S5
 clear S6
 clear S25
 have S6 := gotV hz' 2 hh rfl rfl rfl rfl
 clear tp1
 replace HB := aft_call HB (RelC.below_nil hC)
 clear hC hk hh; replace hz := hz'; replace hd := hd'; clear hz' hd'
 refine wp_seq ?_
 refine wp_seq ?_
 refine region_text (M := []) (
  rT (tV (.int .i64 ((ex u : Nat) : Int))) ::
  rT (tV (.bool (decide (((ex u : Nat) : Int) < 1075)))) ::
  []) hz hd (by kernel_rfl) ?_ ?_
 refine ⟨?_, ?_, trivial⟩
 exact zMv hz (sv S5)
 exact sBin rfl rfl rfl hz rfl (Gd.none_ rfl) rfl (sd 0 rfl) kc (fun w => run_lss)
 intro a' γ' W' hz' hd' hC hk hh
 have tp1 := Cp1.lt
 replace Cp1 := kC hC Cp1
 replace S2 := kp hk S2
 replace S3 := kp hk S3
 replace S5 := kp hk S5
 replace S6 := kp hk S6
 have S29 := gotV hz' 1 hh rfl rfl rfl rfl
 clear tp1
 replace HB := aft_call HB (RelC.below_nil hC)
 clear hC hk hh; replace hz := hz'; replace hd := hd'; clear hz' hd'
 by_cases hc5 : ((ex u : Nat) : Int) < 1075
 rw [decide_eq_true hc5] at S29
 refine wp_cond_true S29.ev ?_
 refine wp_seq ?_
 refine region_text (M := [p1]) (
  rT (tV (.int .u64 ((ma u + 4503599627370496 : Nat) : Int))) ::
  rT (tN B64 1 (ma u + 4503599627370496)) ::
  rT (tV (.int .i64 ((ex u : Nat) : Int))) ::
  rT (tV (.int .i64 ((1075 - ex u : Nat) : Int))) ::
  rT (tN B64 33 (2 ^ (1075 - ex u))) ::
  rT (tQ B64 l (mkRat ((ma u + 4503599627370496 : Nat) : Int) (2 ^ (1075 - ex u)))) ::
  rE 0 55 (tQ B64 l (mkRat ((ma u + 4503599627370496 : Nat) : Int) (2 ^ (1075 - ex u)))) p1 ::
  rT (tV (.bool true)) ::
  []) hz hd (by kernel_rfl) ?_ ?_
 refine ⟨?_, ?_, ?_, ?_, ?_, ?_, ?_, ?_, trivial⟩
 exact zMv hz (sv S6)
 exact zC1 hz Try.func64 (sd 0 rfl) (k1 (fun _ => c_of (by unfold B64; omega)))
 exact zMv hz (sv S5)
 exact sBin rfl rfl rfl hz rfl (Gd.none_ rfl) rfl kc (sd 2 rfl) (fun w => f_sub1 hc5 w)
 exact zC1 hz Try.func65 (sd 3 rfl) (k1 (fun _ => c_power (n := 1075 - ex u) (by have := ex_lt u; omega)))
 exact zC2 hz Try.func63 (sd 1 rfl) (sd 4 rfl) (fun _ _ _ h0 h1 => c_fraction (l := l) h0 h1 (by decide) (by decide) (fb_2 (by omega)) (fb_p (n := 1075 - ex u) (by omega)) (by omega))
 exact zSE rfl (sv S2) (by simp [tagOf]) (Cp1.var tQ_nd) (sd 5 rfl) st_q64
 exact zAs hz kc
 intro a' γ' W' hz' hd' hC hk hh
 replace Cp1 := gotE (T := tQ B64 l (mkRat ((ma u + 4503599627370496 : Nat) : Int) (2 ^ (1075 - ex u)))) (id := 55) (p := p1) 6 hh rfl rfl
 replace S2 := kp hk S2
 clear S3
 replace S5 := kp hk S5
 replace S6 := kp hk S6
 clear S29
 have S3 := gotV hz' 7 hh rfl rfl rfl rfl
 replace HB := RelC.aftM HB hC (by intro m hm; simp at hm; rcases hm with rfl <;> assumption)
 clear hC hk hh; replace hz := hz'; replace hd := hd'; clear hz' hd'
 refine wp_ret ?_
 refine ret_to (T := tT [tQ B64 l (mkRat ((ma u + 4503599627370496 : Nat) : Int) (2 ^ (1075 - ex u))), tV (.bool true)]) (retct_q64 (by kernel_rfl) S2 S3 hd Cp1 HB) ?_
 exact to2 (tQ_to (by decide) (by unfold flQ fl; rw [if_pos ⟨hc2, hc3⟩, if_neg hc4, if_pos hc5]) (by omega)) (tV_to (by rw [decide_eq_true ⟨hc2, hc3⟩]))
 rw [decide_eq_false hc5] at S29
 refine wp_cond_false S29.ev ?_
 refine wp_skip ?_
 refine wp_seq ?_
 refine region_text (M := [p1]) (
  rT (tV (.int .u64 ((ma u + 4503599627370496 : Nat) : Int))) ::
  rT (tN B64 1 (ma u + 4503599627370496)) ::
  rT (tV (.int .i64 ((ex u : Nat) : Int))) ::
  rT (tV (.int .i64 ((ex u - 1075 : Nat) : Int))) ::
  rT (tN B64 33 (2 ^ (ex u - 1075))) ::
  rT (tN B64 34 ((ma u + 4503599627370496) * (2 ^ (ex u - 1075)))) ::
  rT (tN B64 1 1) ::
  rT (tQ B64 l (mkRat (((ma u + 4503599627370496) * (2 ^ (ex u - 1075)) : Nat) : Int) 1)) ::
  rE 0 55 (tQ B64 l (mkRat (((ma u + 4503599627370496) * (2 ^ (ex u - 1075)) : Nat) : Int) 1)) p1 ::
  rT (tV (.bool true)) ::
  []) hz hd (by kernel_rfl) ?_ ?_
 refine ⟨?_, ?_, ?_, ?_, ?_, ?_, ?_, ?_, ?_, ?_, trivial⟩
 exact zMv hz (sv S6)
 exact zC1 hz Try.func64 (sd 0 rfl) (k1 (fun _ => c_of (by unfold B64; omega)))
 exact zMv hz (sv S5)
 exact sBin rfl rfl rfl hz rfl (Gd.none_ rfl) rfl (sd 2 rfl) kc (fun w => f_sub2 hc5 w)
 exact zC1 hz Try.func65 (sd 3 rfl) (k1 (fun _ => c_power (n := ex u - 1075) (by have := ex_lt u; omega)))
 exact zC2 hz Try.func66 (sd 1 rfl) (sd 4 rfl) (fun _ _ _ h0 h1 => c_mul h0 h1 (by decide) (by decide))
 exact zC0 hz Try.func67 (fun _ => c_num1)
 exact zC2 hz Try.func63 (sd 5 rfl) (sd 6 rfl) (fun _ _ _ h0 h1 => c_fraction (l := l) h0 h1 (by decide) (by decide) (fb_3 (by omega)) (fb_one (by omega)) (by omega))
 exact zSE rfl (sv S2) (by simp [tagOf]) (Cp1.var tQ_nd) (sd 7 rfl) st_q64
 exact zAs hz kc
 intro a' γ' W' hz' hd' hC hk hh
 replace Cp1 := gotE (T := tQ B64 l (mkRat (((ma u + 4503599627370496) * (2 ^ (ex u - 1075)) : Nat) : Int) 1)) (id := 55) (p := p1) 8 hh rfl rfl
 replace S2 := kp hk S2
 clear S3
 clear S5
 clear S6
 clear S29
 have S3 := gotV hz' 9 hh rfl rfl rfl rfl
 replace HB := RelC.aftM HB hC (by intro m hm; simp at hm; rcases hm with rfl <;> assumption)
 clear hC hk hh; replace hz := hz'; replace hd := hd'; clear hz' hd'
 refine wp_ret ?_
 refine ret_to (T := tT [tQ B64 l (mkRat (((ma u + 4503599627370496) * (2 ^ (ex u - 1075)) : Nat) : Int) 1), tV (.bool true)]) (retct_q64 (by kernel_rfl) S2 S3 hd Cp1 HB) ?_
 exact to2 (tQ_to (by decide) (by unfold flQ fl; rw [if_pos ⟨hc2, hc3⟩, if_neg hc4, if_neg hc5]) (by omega)) (tV_to (by rw [decide_eq_true ⟨hc2, hc3⟩]))

end Go.Proofs.Ytojpiiboikomfaa.Rg

namespace Go.Proofs.Ytojpiiboikomfaa.Rg

open Go.RowKit

theorem AllT.len : ∀ {Ts : List Ty} {vs : List Value} {w : World}, AllT Ts vs w → vs.length = Ts.length
  | [], [], _, _ => rfl
  | _ :: _, _ :: _, _, h => by rw [List.length_cons, List.length_cons, AllT.len h.2]
  | [], _ :: _, _, h => h.elim
  | _ :: _, [], _, h => h.elim
theorem AllT.app : ∀ {Ts : List Ty} {vs : List Value} {T : Ty} {v : Value} {w : World}, AllT Ts vs w → T.p v w → AllT (Ts ++ [T]) (vs ++ [v]) w
  | [], [], _, _, _, _, hv => ⟨hv, trivial⟩
  | _ :: _, _ :: _, _, _, _, h, hv => ⟨h.1, AllT.app h.2 hv⟩
  | [], _ :: _, _, _, _, h, _ => h.elim
  | _ :: _, [], _, _, _, h, _ => h.elim
theorem cat_app (vs : List Value) (v : Value) : cat (vs ++ [v]) = cat vs ++ v.cells.toList := by simp [cat]
theorem cat_lenk {k : Nat} : ∀ {vs : List Value}, (∀ v ∈ vs, v.cells.size = k) → (cat vs).length = vs.length * k
  | [], _ => by simp [cat]
  | v :: vs, h => by
    rw [cat_cons, List.length_append, cat_lenk fun u hu => h u (List.mem_cons_of_mem _ hu), List.length_cons, Nat.add_mul, Nat.one_mul, Array.length_toList, h v List.mem_cons_self, Nat.add_comm]
theorem cat_atk {k : Nat} : ∀ {vs : List Value} {i j : Nat} {u : Value}, (∀ v ∈ vs, v.cells.size = k) → vs[i]? = some u → j < k → (cat vs)[i * k + j]? = u.cells[j]?
  | [], i, j, u, _, h, _ => by simp at h
  | v :: vs, 0, j, u, hk, h, hj => by
    simp at h; subst h
    rw [cat_cons, Nat.zero_mul, Nat.zero_add, List.getElem?_append_left (by rw [Array.length_toList, hk v List.mem_cons_self]; exact hj)]
    simp
  | v :: vs, i + 1, j, u, hk, h, hj => by
    rw [cat_cons, List.getElem?_append_right (by rw [Array.length_toList, hk v List.mem_cons_self, Nat.add_mul]; omega)]
    have := cat_atk (fun u hu => hk u (List.mem_cons_of_mem _ hu)) (by simpa using h : vs[i]? = some u) hj
    rw [← this]; congr 1; rw [Array.length_toList, hk v List.mem_cons_self, Nat.add_mul]; omega
/-- A list's block. -/
structure OwR (id : TypeId) (k g cap : Nat) (Ts : List Ty) (w : World) : Prop where
  ex : ∃ (cs : Array Value) (vs : List Value), Blk w g id cs ∧ cs.size = cap * k ∧ (∀ u ∈ cs, notDig u) ∧ AllT Ts vs w ∧ (∀ v ∈ vs, v.cells.size = k) ∧ cs.toList.take (Ts.length * k) = cat vs
  le : Ts.length ≤ cap
  max : cap ≤ maxLen
/-- A list of one's own: nothing, or a block from B on. -/
def OwT (id : TypeId) (k B : Nat) (Ts : List Ty) (A : Option Addr) (c : Nat) (w : World) : Prop :=
  (A = none ∧ Ts = [] ∧ c = 0) ∨ ∃ g, A = some ⟨g, 0, none⟩ ∧ B ≤ g ∧ OwR id k g c Ts w
/-- No block of the list's. -/
def apart (A : Option Addr) (p : Nat) : Prop := ∀ a, A = some a → a.block ≠ p
def blkM : Option Addr → List Nat
  | none => []
  | some a => [a.block]
theorem apart.tag {A : Option Addr} {p : Nat} (h : apart A p) : tagOf (blkM A) 1000 p = 0 := by
  cases A with
  | none => rfl
  | some a => simp only [blkM, tagOf]; rw [if_neg (Ne.symm (h a rfl))]
section

variable {id : TypeId} {k g cap B : Nat} {Ts : List Ty} {A : Option Addr} {c : Nat} {w w' : World}
theorem OwR.lt (h : OwR id k g cap Ts w) : g < w.heap.size := by obtain ⟨cs, vs, h1, _⟩ := h.ex; exact h1.lt
theorem OwR.same {t : Nat} {γ γ' : Nat → Nat} (h : OwR id k g cap Ts w) (gr : Grow t γ w γ' w') (e : w'.heap[g]? = w.heap[g]?) : OwR id k g cap Ts w' := by
  obtain ⟨cs, vs, h1, h2, h3, h4, h5, h6⟩ := h.ex
  exact ⟨⟨cs, vs, e.trans h1, h2, h3, AllT.l gr h4, h5, h6⟩, h.le, h.max⟩
theorem OwT.lt (h : OwT id k B Ts A c w) : ∀ a, A = some a → a.block < w.heap.size ∧ B ≤ a.block := by
  rintro a rfl
  rcases h with ⟨e, _⟩ | ⟨g, e, hB, h⟩
  · cases e
  · cases e; exact ⟨h.lt, hB⟩
theorem OwT.same {t : Nat} {γ γ' : Nat → Nat} (h : OwT id k B Ts A c w) (gr : Grow t γ w γ' w') (e : ∀ a, A = some a → w'.heap[a.block]? = w.heap[a.block]?) : OwT id k B Ts A c w' := by
  rcases h with h | ⟨g, rfl, hB, h⟩
  · exact .inl h
  · exact .inr ⟨g, rfl, hB, h.same gr (e _ rfl)⟩
theorem OwT.grow {t : Nat} {γ γ' : Nat → Nat} (h : OwT id k B Ts A c w) (gr : Grow t γ w γ' w') (hp : ∀ a, A = some a → t = 0 ∨ γ a.block ≠ t) : OwT id k B Ts A c w' :=
  h.same gr fun a ha => gr.block _ (h.lt a ha).1 (hp a ha)
theorem OwT.aft {M : List Nat} {W : World} {γ : Nat → Nat} (h : OwT id k B Ts A c W) (hc : RelC M W γ w) (hp : ∀ a, A = some a → tagOf M 1000 a.block = 0) : OwT id k B Ts A c w :=
  h.grow hc.1 fun a ha => .inr (by unfold mt; rw [if_pos (hp a ha)]; omega)
theorem OwT.nil (id : TypeId) (k B : Nat) (w : World) : OwT id k B [] none 0 w := .inl ⟨rfl, rfl, rfl⟩
theorem apart.new (h : OwT id k B Ts A c w) {p : Nat} (hp : w.heap.size ≤ p) : apart A p := fun a ha e => by have := (h.lt a ha).1; omega
theorem apart.base (h : OwT id k B Ts A c w) {p : Nat} (hp : p < B) : apart A p := fun a ha e => by have := (h.lt a ha).2; omega
theorem apart.none (p : Nat) : apart none p := fun a ha => by cases ha
theorem apart.oneM {p : Nat} (h : apart A p) : ∀ a, A = some a → tagOf [p] 1000 a.block = 0 := fun a ha => by simp only [tagOf]; rw [if_neg (h a ha)]
/-- Two lists. -/
def apart2 (A A' : Option Addr) : Prop := ∀ a, A' = some a → apart A a.block
theorem apart2.M {A' : Option Addr} (h : apart2 A A') : ∀ a, A' = some a → tagOf (blkM A) 1000 a.block = 0 := fun a ha => (h a ha).tag
theorem apart2.symm {A' : Option Addr} (h : apart2 A A') : apart2 A' A := fun a ha b hb e => h b hb a ha e.symm
/-- One thing of it. -/
theorem OwT.at_ {i : Nat} {T : Ty} (h : OwT id k B Ts A c w) (hi : Ts[i]? = some T) : ∃ g, A = some ⟨g, 0, none⟩ ∧ B ≤ g ∧ g < w.heap.size ∧ ∃ v, T.p v w ∧ v.cells.size = k ∧ ∀ j, j < k → w.cell? ⟨g, i * k + j, none⟩ = v.cells[j]? := by
  rcases h with ⟨_, rfl, _⟩ | ⟨g, rfl, hB, h⟩
  · simp at hi
  · obtain ⟨cs, vs, h1, h2, h3, h4, h5, h6⟩ := h.ex
    obtain ⟨v, hv, hp⟩ := h4.at_ i hi
    refine ⟨g, rfl, hB, h.lt, v, hp, h5 v (List.mem_of_getElem? hv), fun j hj => ?_⟩
    have hil : i < Ts.length := (List.getElem?_eq_some_iff.1 hi).1
    have hlt : i * k + j < Ts.length * k := by
      have := Nat.mul_le_mul_right k (show i + 1 ≤ Ts.length by omega)
      rw [Nat.add_mul] at this; omega
    rw [h1.cell, ← cat_atk h5 hv hj, ← h6, List.getElem?_take_of_lt hlt]; simp
theorem mem_zeroCells {z : Array Value} {n : Nat} {u : Value} (hz : 0 < z.size) (h : u ∈ Builtin.zeroCells z n) : u ∈ z := by
  simp only [Builtin.zeroCells, Array.mem_map, Array.mem_range] at h
  obtain ⟨i, hi, rfl⟩ := h
  have : i % z.size < z.size := Nat.mod_lt _ hz
  simp [this]
variable {P : Program}
theorem appT {tid ty : TypeId} {inf : TypeInfo} {z : Value} {bytes q : Nat} {T : Ty} (ht : P.underlying tid = some (.slice id)) (hi : P.info? id = some inf) (hz : inf.zero = some z) (hsize : inf.size = k) (hby : inf.bytes = bytes) (hzk : z.cells.size = k) (hzn : ∀ u ∈ z.cells, notDig u) (hk : 0 < k)
    (hT : ∀ v w, T.p v w → v.cells.size = k ∧ ∀ u ∈ v.cells, notDig u ∧ u.oneCell' = true)
    (h : OwT id k B Ts A c w) (hq : Cell id T q w) (h63 : Ts.length + 1 ≤ maxLen) (hbytes : (Ts.length + 1) * bytes ≤ 140737488355328) (hB : B ≤ w.heap.size) :
    ∃ A' c' w', (Builtin.append_ #[tid, tid] ty #[.slice A Ts.length c, .slice (some ⟨q, 0, none⟩) 1 1]).run P w = .ok (.slice A' (Ts ++ [T]).length c') w' ∧ OwT id k B (Ts ++ [T]) A' c' w' ∧
      ((∃ g, A = some ⟨g, 0, none⟩ ∧ A' = A ∧ ∀ t γ, t ≠ 0 → γ g = t → Grow t γ w γ w') ∨ (A' = some ⟨w.heap.size, 0, none⟩ ∧ Below w.heap.size w w')) := by
  obtain ⟨v, hqb, hv⟩ := hq
  obtain ⟨hvk, hvn⟩ := hT v w hv
  have hnl : v.cells.toList.length = k := by rw [Array.length_toList, hvk]
  have hnews : ∀ j u, v.cells.toList[j]? = some u → w.cell? ((⟨q, 0, none⟩ : Addr).add j) = some u := by
    intro j u hu
    rw [Addr.add_lit, Nat.zero_add, hqb.cell]
    simpa using hu
  have hl1 : v.cells.toList.length = 1 * inf.size := by rw [hnl, hsize, Nat.one_mul]
  have h1c : ∀ u ∈ v.cells.toList, u.oneCell' = true := fun u hu => (hvn u (by simpa using hu)).2
  have hvnd : ∀ u ∈ v.cells.toList, notDig u := fun u hu => (hvn u (by simpa using hu)).1
  have hlen1 : (Ts ++ [T]).length = Ts.length + 1 := by simp
  -- a new block
  have grown : ∀ (olds : List Value) (vs : List Value) (nc : Nat), Ts.length + 1 ≤ nc → nc ≤ maxLen → olds = cat vs → AllT Ts vs w → (∀ v ∈ vs, v.cells.size = k) → (∀ u ∈ olds, notDig u) →
      OwT id k B (Ts ++ [T]) (some ⟨w.heap.size, 0, none⟩) nc (w.drew.alloc (.cells (olds.toArray ++ v.cells.toList.toArray ++ Builtin.zeroCells z.cells (nc - (Ts.length + 1))) id)) ∧
      Below w.heap.size w (w.drew.alloc (.cells (olds.toArray ++ v.cells.toList.toArray ++ Builtin.zeroCells z.cells (nc - (Ts.length + 1))) id)) := by
    intro olds vs nc hge hcm ho hall hks hond
    generalize hcs' : olds.toArray ++ v.cells.toList.toArray ++ Builtin.zeroCells z.cells (nc - (Ts.length + 1)) = cs'
    have hbw : Below w.heap.size w (w.drew.alloc (.cells cs' id)) := (Below.refl _ _).drew.alloc (Nat.le_refl _) _
    have hb2 : Blk (w.drew.alloc (.cells cs' id)) w.heap.size id cs' := Blk.new w.drew id cs'
    have hgr := Grow.below (fun _ => 0) hbw
    have holen : olds.length = Ts.length * k := by rw [ho, cat_lenk hks, hall.len]
    refine ⟨.inr ⟨w.heap.size, rfl, hB, ⟨cs', vs ++ [v], hb2, ?_, ?_, AllT.l hgr (AllT.app hall hv), ?_, ?_⟩, by rw [hlen1]; exact hge, hcm⟩, hbw⟩
    · rw [← hcs']; simp only [Array.size_append, List.size_toArray, size_zeroCells, hzk, holen, hnl]
      rw [Nat.sub_mul, Nat.add_mul, Nat.one_mul]
      have := Nat.mul_le_mul_right k hge
      rw [Nat.add_mul, Nat.one_mul] at this
      omega
    · intro u hu
      rw [← hcs'] at hu
      rcases Array.mem_append.1 hu with hu | hu
      · rcases Array.mem_append.1 hu with hu | hu
        · exact hond u (by simpa using hu)
        · exact hvnd u (by simpa using hu)
      · exact hzn u (mem_zeroCells (by omega) hu)
    · intro u hu
      rcases List.mem_append.1 hu with hu | hu
      · exact hks u hu
      · simp at hu; subst hu; exact hvk
    · rw [hlen1, cat_app, ← ho, ← hcs', Array.toList_append, Array.toList_append, Nat.add_mul, Nat.one_mul]
      rw [show Ts.length * k + k = (olds ++ v.cells.toList).length by rw [List.length_append, holen, hnl]]
      exact List.take_left
  rcases h with ⟨rfl, rfl, rfl⟩ | ⟨g, rfl, hBg, h⟩
  · have hr := run_append_nil (P := P) w tid ty id inf z ht hi hz ⟨q, 0, none⟩ 1 1 v.cells.toList hl1 hnews (by decide) (by decide) (by rw [hby, Nat.one_mul]; simp at hbytes; omega)
    have hge := grownCap_ge w 1 0 id
    have hcm := grownCap_le_maxLen w 1 0 id (by decide)
    have hg := grown [] [] (grownCap w 1 0 id) hge hcm rfl trivial (fun _ h => by cases h) (fun _ h => by cases h)
    simp only [List.length_nil, Nat.zero_add, Array.empty_append] at hg
    exact ⟨_, _, _, hr, hg.1, .inr ⟨rfl, hg.2⟩⟩
  · obtain ⟨cs, vs, h1, h2, h3, h4, h5, h6⟩ := h.ex
    have hle := h.le
    have hcl : cs.toList.length = c * k := by rw [← h2]; exact cs.length_toList
    have hg : w.heap[g]? = some (.cells cs id (0, 0)) := h1
    have hvl := h4.len
    have hol : (cat vs).length = Ts.length * k := by rw [cat_lenk h5, hvl]
    by_cases hroom : Ts.length + 1 ≤ c
    · have hroomk : Ts.length * k + k ≤ c * k := by have := Nat.mul_le_mul_right k hroom; rwa [Nat.add_mul, Nat.one_mul] at this
      have hr := run_append_room (P := P) w tid ty id inf ht hi g Ts.length c cs hg ⟨q, 0, none⟩ 1 1 v.cells.toList hl1 hnews h1c hroom (by rw [hsize, hnl, h2]; exact hroomk)
      rw [hsize, hnl] at hr
      generalize hnew : cs.toList.take (Ts.length * k) ++ v.cells.toList ++ cs.toList.drop (Ts.length * k + k) = nl at hr
      have hnll : nl.length = c * k := by
        rw [← hnew, List.length_append, List.length_append, List.length_take, List.length_drop, hnl, hcl]; omega
      have hb2 : Blk (w.setRow g nl.toArray) g id nl.toArray := setRow_heap w g cs _ id (0, 0) hg
      have hbut : But g w (w.setRow g nl.toArray) := ⟨rfl, rfl, rfl, by simp [World.setRow], fun b hb => setRow_other w g b _ hb⟩
      have hnd : ∀ u ∈ nl.toArray, notDig u := by
        intro u hu
        have hu : u ∈ nl := by simpa using hu
        rw [← hnew, List.mem_append, List.mem_append] at hu
        rcases hu with (hu | hu) | hu
        · exact h3 u (by have := List.mem_of_mem_take hu; simpa using this)
        · exact hvnd u hu
        · exact h3 u (by have := List.mem_of_mem_drop hu; simpa using this)
      have hgr : ∀ t γ, t ≠ 0 → γ g = t → Grow t γ w γ (w.setRow g nl.toArray) := fun t γ ht0 hγ => Grow.but γ ht0 hγ h3 hnd (by rw [h2, List.size_toArray, hnll]) h1 hb2 hbut
      have hgr1 := hgr 1 (fun _ => 1) (by decide) rfl
      refine ⟨some ⟨g, 0, none⟩, c, _, by rw [hlen1]; exact hr, .inr ⟨g, rfl, hBg, ⟨_, vs ++ [v], hb2, by rw [List.size_toArray, hnll], hnd, AllT.l hgr1 (AllT.app h4 hv), ?_, ?_⟩, by rw [hlen1]; exact hroom, h.max⟩, .inl ⟨g, rfl, rfl, hgr⟩⟩
      · intro u hu
        rcases List.mem_append.1 hu with hu | hu
        · exact h5 u hu
        · simp at hu; subst hu; exact hvk
      · show nl.take _ = _
        rw [hlen1, cat_app, ← h6, Nat.add_mul, Nat.one_mul, ← hnew]
        rw [show Ts.length * k + k = (cs.toList.take (Ts.length * k) ++ v.cells.toList).length by rw [List.length_append, h6, hol, hnl]]
        exact List.take_left
    · have holds : ∀ j u, (cat vs)[j]? = some u → w.cell? ((⟨g, 0, none⟩ : Addr).add j) = some u := by
        intro j u hu
        rw [Addr.add_lit, Nat.zero_add, h1.cell]
        rw [← h6, List.getElem?_take] at hu
        split at hu
        · simpa using hu
        · cases hu
      have hr := run_append_grow (P := P) w tid ty id inf z ht hi hz ⟨g, 0, none⟩ Ts.length c (cat vs) (by rw [hsize, hol]) holds ⟨q, 0, none⟩ 1 1 v.cells.toList hl1 hnews (by omega) (by simp only [maxLen] at h63; omega) (growslice_fits (by omega) (by rw [hby]; exact hbytes))
      have hge := grownCap_ge w (Ts.length + 1) c id
      have hcm := grownCap_le_maxLen w (Ts.length + 1) c id h63
      have hgo := grown (cat vs) vs (grownCap w (Ts.length + 1) c id) hge hcm rfl h4 h5 (fun u hu => h3 u (by rw [← h6] at hu; have := List.mem_of_mem_take hu; simpa using this))
      exact ⟨_, _, _, by rw [hlen1]; exact hr, hgo.1, .inr ⟨rfl, hgo.2⟩⟩
end
/-- A literal of one thing (operation j). -/
def rL1 (j : Nat) (id : TypeId) (T : Ty) : Rel :=
  ⟨none, 0, j + 1, fun v γ w => ∃ p, v = .slice (some ⟨p, 0, none⟩) 1 1 ∧ γ p = j + 1 ∧ Cell id T p w,
    fun t γ w γ' w' v ht g ⟨p, e, hγ, h⟩ => ⟨p, e, by rw [g.tag p h.lt]; exact hγ, h.grow g (by omega)⟩⟩
/-- A list of one's own that is grown here (eff), told with its tag. -/
def rOw (kk : Nat) (id : TypeId) (k B : Nat) (Ts : List Ty) (eff : Nat) : Rel :=
  ⟨none, eff, 1000 + kk, fun v γ w => ∃ A c, v = .slice A Ts.length c ∧ (∀ a, A = some a → γ a.block = 1000 + kk) ∧ OwT id k B Ts A c w,
    fun t γ w γ' w' v ht gr ⟨A, c, e, hγ, h⟩ => ⟨A, c, e, fun a ha => by rw [gr.tag _ (h.lt a ha).1]; exact hγ a ha, h.grow gr fun a ha => by have := hγ a ha; omega⟩⟩
section

variable {P : Program} {ops : Array Oper} {Q : Exit → Act → World → Prop} {a0 : Act} {M : List Nat} {W : World} {rels : List Rel} {i : Nat} {o : Oper} {T : Ty} {N d : Nat} {x y : Operand}
theorem zLit {tid id : TypeId} (hz : a0.tmps.size = N) (s : Src ops a0 M W rels i o x T) (hrun : ∀ v w, T.p v w → (Instr.buildSlice tid 1 #[(0, v)]).run P w = .ok (.slice (some ⟨w.heap.size, 0, none⟩) 1 1) (w.alloc (.cells v.cells id)))
    (ho : ops[i]? = some o := by rfl) (hop : o.op = .buildSlice tid 1 #[(0, x)] := by rfl) (hr : rels[i]? = some (rL1 i id T) := by rfl) (hd : o.dst = some d := by rfl) (hlt : decide (d < N) = true := by rfl) (hg : o.guard = none := by rfl) : StepOk P ops a0 M W Q rels i o := by
  intro a γ w K hc hag hearly hdep hkp hK
  rw [if_pos (by simp [Region.wanted, hg])]
  have hv := s a γ w ⟨hc, hag, hearly, hdep, hkp⟩
  have hrun' : (execOp a.eval o).run P w = .ok (.value (.slice (some ⟨w.heap.size, 0, none⟩) 1 1)) (w.alloc (.cells (a.eval x).cells id)) := by
    unfold execOp
    rw [hop]
    have := hrun _ w hv
    simp only [List.map_toArray, List.map_cons, List.map_nil, Sem.run_bind, this, Result.andThen, Sem.run_pure]
  unfold Oper.wp
  rw [hrun']
  exact hK _ (newTag γ w (i + 1)) _ (by unfold effOf; rw [hr]; exact Grow.alloc γ w _ _) (holds_put ho hr rfl hd (lt_of hz hlt hag) ⟨w.heap.size, rfl, by simp [newTag], Cell.new hv⟩)
theorem tagNew_grow {γ : Nat → Nat} {w w' : World} (t t' : Nat) (hb : Below w.heap.size w w') : Grow t' γ w (fun b => if b < w.heap.size then γ b else if b = w.heap.size then t else 0) w' :=
  ⟨hb.os, hb.tape, hb.output, hb.size, fun b h => by simp [h], fun b h _ => hb.block b h, fun a k n _ => num_below hb a k n, var_below hb⟩
/-- One thing put behind a list of one's own. -/
theorem zApp {kk k B bytes j t c : Nat} {tid id : TypeId} {Ts : List Ty} {inf : TypeInfo} {z : Value} {A : Option Addr} (hz : a0.tmps.size = N)
    (hop : o.op = .call { callee := .builtin .append, args := #[x, .tmp t], argTypes := #[tid, tid] }) (hr : rels[i]? = some (rOw kk id k B (Ts ++ [T]) (1000 + kk))) (s : Src ops a0 M W rels i o x (tV (.slice A Ts.length c)))
    (hj : (ops[j]?).bind (·.dst) = some t) (hwj : waitsD o j = true) (hrj : rels[j]? = some (rL1 j id T))
    (hown : OwT id k B Ts A c W) (hM : ∀ a, A = some a → tagOf M 1000 a.block = 1000 + kk) (hBW : B ≤ W.heap.size) (huni : ((List.range ops.size).all fun j => j == i || !(effOf rels j == 1000 + kk)) = true)
    (ht : P.underlying tid = some (.slice id)) (hi : P.info? id = some inf) (hiz : inf.zero = some z) (hsize : inf.size = k) (hby : inf.bytes = bytes) (hzk : z.cells.size = k) (hzn : ∀ u ∈ z.cells, notDig u) (hk : decide (0 < k) = true)
    (hT : ∀ v w, T.p v w → v.cells.size = k ∧ ∀ u ∈ v.cells, notDig u ∧ u.oneCell' = true) (h63 : Ts.length + 1 ≤ maxLen) (hbytes : (Ts.length + 1) * bytes ≤ 140737488355328)
    (ho : ops[i]? = some o := by rfl) (hd : o.dst = some d := by rfl) (hlt : decide (d < N) = true := by rfl) (hg : o.guard = none := by rfl) : StepOk P ops a0 M W Q rels i o := by
  intro a γ w K hc hag hearly hdep hkp hK
  rw [if_pos (by simp [Region.wanted, hg])]
  have U : Up ops a0 M W rels i o a γ w := ⟨hc, hag, hearly, hdep, hkp⟩
  have e1 : a.eval x = .slice A Ts.length c := s a γ w U
  have hsame : ∀ b, A = some b → w.heap[b.block]? = W.heap[b.block]? := fun b hb => hkp b.block (hown.lt b hb).1 fun j' o' ho' hj' _ => by
    have := List.all_eq_true.1 huni j' (List.mem_range.2 (Array.getElem?_eq_some_iff.1 ho').1)
    rw [hM b hb]
    simp only [Bool.or_eq_true, beq_iff_eq, hj', false_or, Bool.not_eq_true', beq_eq_false_iff_ne] at this
    exact this
  have hw := hown.same hc.1 hsame
  have h1 := hdep j (.inl hwj)
  unfold Holds at h1
  rw [hrj] at h1
  have e2 : valOf ops a j = a.eval (.tmp t) := by simp only [valOf, hj]; rfl
  obtain ⟨q, e3, hγq, hq⟩ : (rL1 j id T).p (valOf ops a j) γ w := h1
  rw [e2] at e3
  obtain ⟨A', c', w', hrun, hown', hcase⟩ := appT (ty := o.type) ht hi hiz hsize hby hzk hzn (of_decide_eq_true hk) hT hw hq h63 hbytes (Nat.le_trans hBW hc.1.size)
  have hrun' : (execOp a.eval o).run P w = .ok (.value (.slice A' (Ts ++ [T]).length c')) w' := by
    unfold execOp
    simp only [hop, resolve, invoke, builtin, Sem.run_bind, Sem.run_pure, Result.andThen_ok, List.map_toArray, List.map_cons, List.map_nil, e1, e3, hrun]
  unfold Oper.wp
  rw [hrun']
  rcases hcase with ⟨g, rfl, rfl, hgr⟩ | ⟨rfl, hbel⟩
  · have hγg : γ g = 1000 + kk := by rw [hc.2 g (hown.lt _ rfl).1]; exact hM _ rfl
    exact hK _ γ w' (by unfold effOf; rw [hr]; exact hgr (1000 + kk) γ (by omega) hγg) (holds_put ho hr rfl hd (lt_of hz hlt hag) ⟨_, c', rfl, fun b hb => by cases hb; exact hγg, hown'⟩)
  · exact hK _ _ w' (by unfold effOf; rw [hr]; exact tagNew_grow (1000 + kk) _ hbel) (holds_put ho hr rfl hd (lt_of hz hlt hag) ⟨_, c', rfl, fun b hb => by cases hb; simp, hown'⟩)
/-- Handed on. -/
theorem zHandO {kk k B j t eff : Nat} {id : TypeId} {Ts : List Ty} (hz : a0.tmps.size = N) (hr : rels[i]? = some (rOw kk id k B Ts 0)) (hj : (ops[j]?).bind (·.dst) = some t) (hwj : waitsD o j = true) (hrj : rels[j]? = some (rOw kk id k B Ts eff))
    (hop : o.op = .assign (.tmp t) ∨ o.op = .move (.tmp t)) (g : Gd ops a0 M W rels i o true := by exact Gd.none_ rfl) (ho : ops[i]? = some o := by rfl) (hd : o.dst = some d := by rfl) (hlt : decide (d < N) = true := by rfl) : StepOk P ops a0 M W Q rels i o := by
  intro a γ w K hc hag hearly hdep hkp hK
  have U : Up ops a0 M W rels i o a γ w := ⟨hc, hag, hearly, hdep, hkp⟩
  rw [if_pos (g a γ w U)]
  have h1 := hdep j (.inl hwj)
  unfold Holds at h1
  rw [hrj] at h1
  have e2 : valOf ops a j = a.eval (.tmp t) := by simp only [valOf, hj]; rfl
  have h2 : (rOw kk id k B Ts 0).p (a.eval (.tmp t)) γ w := by rw [← e2]; exact h1
  have hrun' : (execOp a.eval o).run P w = .ok (.value (a.eval (.tmp t))) w := by
    unfold execOp
    rcases hop with h | h <;> rw [h] <;> simp only [Sem.run_pure]
  unfold Oper.wp
  rw [hrun']
  exact hK _ γ w (by unfold effOf; rw [hr]; exact Grow.refl_ _ _) (holds_put ho hr rfl hd (lt_of hz hlt hag) h2)
end

section

variable {N : Nat} {rels : List Rel} {a : Act} {γ : Nat → Nat} {w : World} {t : Nat} {l : List Oper} {M : List Nat} {W : World}
theorem gotO {kk k B eff : Nat} {id : TypeId} {Ts : List Ty} (hz : a.tmps.size = N) (i : Nat) (hc : RelC M W γ w) (hh : ∀ i, i < l.length → alive l.toArray rels i = true → Holds l.toArray rels i a γ w) (hi : decide (i < l.length) = true) (hr : rels[i]? = some (rOw kk id k B Ts eff)) (hd : (l.toArray[i]?).bind (·.dst) = some t) (hlt : decide (t < N) = true) (hal : alive l.toArray rels i = true := by kernel_rfl) :
    ∃ A c, Sl a t (.slice A Ts.length c) ∧ OwT id k B Ts A c w ∧ ∀ p, p < W.heap.size → tagOf M 1000 p ≠ 1000 + kk → apart A p := by
  have h := hh i (of_decide_eq_true hi) hal
  unfold Holds at h
  rw [hr] at h
  have e : valOf l.toArray a i = a.eval (.tmp t) := by simp only [valOf, hd]; rfl
  obtain ⟨A, c, h1, h2, h3⟩ : (rOw kk id k B Ts eff).p (valOf l.toArray a i) γ w := h
  rw [e] at h1
  refine ⟨A, c, by rw [← h1]; exact Sl.of hz hlt, h3, fun p hp hM b hb e => ?_⟩
  have := h2 b hb
  rw [e, hc.2 p hp] at this
  exact hM this
end
theorem blkM_tag {A : Option Addr} : ∀ a, A = some a → tagOf (blkM A) 1000 a.block = 1000 := by
  rintro a rfl; simp [blkM, tagOf]
theorem blkM_base {id : TypeId} {k B c : Nat} {Ts : List Ty} {A : Option Addr} {w : World} (h : OwT id k B Ts A c w) : ∀ m ∈ blkM A, B ≤ m := by
  intro m hm
  cases A with
  | none => cases hm
  | some a => simp [blkM] at hm; subst hm; exact (h.lt a rfl).2
/-- Whole numbers. -/
def tI (x : Int) : Ty := tV (.int .i64 x)
theorem tI_cells {x : Int} : ∀ v w, (tI x).p v w → v.cells.size = 1 ∧ ∀ u ∈ v.cells, notDig u ∧ u.oneCell' = true := by
  rintro v w rfl
  refine ⟨rfl, fun u hu => ⟨nd_int _ w rfl u hu, ?_⟩⟩
  simp [Value.cells] at hu; subst hu; rfl
def LI (xs : List Int) : List Ty := xs.map tI
theorem LI_len (xs : List Int) : (LI xs).length = xs.length := List.length_map _
theorem LI_app (xs : List Int) (x : Int) : LI xs ++ [tI x] = LI (xs ++ [x]) := by simp [LI]
theorem LI_at {xs : List Int} {i : Nat} (h : i < xs.length) : (LI xs)[i]? = some (tI (xs.getD i 0)) := by
  rw [LI, List.getElem?_map, List.getElem?_eq_getElem h, List.getD_eq_getElem?_getD, List.getElem?_eq_getElem h]; rfl
/-- Its numbers, as they lie. -/
theorem OwT.ints {id : TypeId} {B c : Nat} {xs : List Int} {A : Option Addr} {w : World} (h : OwT id 1 B (LI xs) A c w) (hx : 0 < xs.length) : ∃ g, A = some ⟨g, 0, none⟩ ∧ ∀ j, j < xs.length → w.cell? ⟨g, j, none⟩ = some (.int .i64 (xs.getD j 0)) := by
  obtain ⟨g, rfl, _, _, _⟩ := h.at_ (LI_at hx)
  refine ⟨g, rfl, fun j hj => ?_⟩
  obtain ⟨g', e, _, _, v, hv, _, hc⟩ := h.at_ (LI_at hj)
  cases e
  have hv : v = .int .i64 (xs.getD j 0) := hv
  subst hv
  have := hc 0 (by decide)
  rw [Nat.mul_one, Nat.add_zero] at this
  exact this
theorem cell_nil {W w : World} {γ : Nat → Nat} {a : Addr} {u : Value} (h : W.cell? a = some u) (hc : RelC [] W γ w) : w.cell? a = some u :=
  (World.cell?_of_block (hc.1.block _ (World.block_lt_of_cell? _ _ h) (.inr (by unfold mt tagOf; simp)))).trans h
theorem nd_z1 : ∀ u ∈ (Value.int .i64 0).cells, notDig u := by
  intro u hu
  simp [Value.cells] at hu; subst hu
  intro k m hk h
  cases h; simp [digK] at hk
theorem parts_ofO {P : Program} {id : TypeId} {z : Option Value} {a b : Nat} (h : (P.info? id).map (fun i => (i.zero, i.size, i.bytes)) = some (z, a, b)) : ∃ i0, P.info? id = some i0 ∧ i0.zero = z ∧ i0.size = a ∧ i0.bytes = b := by
  cases hq : P.info? id with
  | none => rw [hq] at h; cases h
  | some i =>
    rw [hq] at h
    simp at h
    exact ⟨i, rfl, h.1, h.2.1, h.2.2⟩
theorem info_int : (Try.prog.info? 3).map (fun i => (i.zero, i.size, i.bytes)) = some (some (.int .i64 0), 1, 8) := by kernel_rfl
theorem bl_int {x : Int} : ∀ v w, (tI x).p v w → (Instr.buildSlice 40 1 #[(0, v)]).run Try.prog w = .ok (.slice (some ⟨w.heap.size, 0, none⟩) 1 1) (w.alloc (.cells v.cells 3)) := by
  rintro v w rfl
  simp [go_sem, Value.cells]
theorem ix_o {g n c j : Nat} {A : Option Addr} (hA : A = some ⟨g, 0, none⟩) (hj : j < n) : ∀ w : World, (Instr.indexAt 40 (.slice A n c) (.int .i64 (j : Int))).run Try.prog w = .ok (.pointer (some ⟨g, j, none⟩)) w := by
  intro w; subst hA; simp [go_sem, hj]
theorem ld_o {g j n : Nat} {F : Nat → Int} {W w : World} {γ : Nat → Nat} (h : ∀ j, j < n → W.cell? ⟨g, j, none⟩ = some (.int .i64 (F j))) (hj : j < n) (hc : RelC [] W γ w) : ∃ v, (Instr.loadAt 3 (.pointer (some ⟨g, j, none⟩))).run Try.prog w = .ok v w ∧ (tV (.int .i64 (F j))).p v w :=
  ⟨_, by simp [go_sem, cell_nil (h j hj) hc], rfl⟩
end Go.Proofs.Ytojpiiboikomfaa.Rg
