/-
  Walks and plain laws, put together: SK SL SM SN.
-/
import Derived.Test.YtijbhbjenddiaaaPh
import Derived.Test.YtijbhbjenddiaaaFr
import Derived.Deep.Matrix
set_option linter.unusedVariables false
set_option linter.unusedSimpArgs false
namespace Go.Proofs.Ytijbhbjenddiaaa.Rg
open Go.RowKit

theorem Grow.weak {t : Nat} {γ γ' : Nat → Nat} {w w' : World} (h : Grow 0 γ w γ' w') : Grow t γ w γ' w' := ⟨h.os, h.tape, h.output, h.size, h.tag, fun b hb _ => h.block b hb (.inl rfl), h.num, h.var⟩
def tagNew (γ : Nat → Nat) (w : World) (t : Nat) : Nat → Nat := fun b => if b < w.heap.size then γ b else if b = w.heap.size then t else 0
theorem Grow.newT {γ : Nat → Nat} {w w' : World} (t : Nat) (hb : Below w.heap.size w w') : Grow 0 γ w (tagNew γ w t) w' :=
  ⟨hb.os, hb.tape, hb.output, hb.size, fun b h => by simp [tagNew, h], fun b h _ => hb.block b h, fun a k n _ => num_below hb a k n, var_below hb⟩

/-- A row of one's own that holds numbers. -/
structure OwN (b : Nat) (id : TypeId) (lim g cap : Nat) (xs : List Nat) (w : World) : Prop where
  ex : ∃ cs : Array Value, Blk w g id cs ∧ cs.size = cap ∧ (∀ u ∈ cs, notDig u) ∧ ∀ i, i < xs.length → ∃ A n c, cs[i]? = some (.slice A n c) ∧ DAt b w A n c (xs.getD i 0) ∧ n ≤ lim
  le : xs.length ≤ cap
  max : cap ≤ maxLen
section
variable {b : Nat} {id : TypeId} {lim g cap : Nat} {xs : List Nat} {w w' : World}
theorem OwN.lt (h : OwN b id lim g cap xs w) : g < w.heap.size := by obtain ⟨cs, h1, _⟩ := h.ex; exact h1.lt
theorem OwN.same {t : Nat} {γ γ' : Nat → Nat} (h : OwN b id lim g cap xs w) (gr : Grow t γ w γ' w') (e : w'.heap[g]? = w.heap[g]?) : OwN b id lim g cap xs w' := by
  obtain ⟨cs, h1, h2, h3, h4⟩ := h.ex
  refine ⟨⟨cs, e.trans h1, h2, h3, fun i hi => ?_⟩, h.le, h.max⟩
  obtain ⟨A, n, c, e1, hd, hn⟩ := h4 i hi
  exact ⟨A, n, c, e1, dat_grow gr hd, hn⟩
theorem OwN.grow {t : Nat} {γ γ' : Nat → Nat} (h : OwN b id lim g cap xs w) (gr : Grow t γ w γ' w') (hp : t = 0 ∨ γ g ≠ t) : OwN b id lim g cap xs w' := h.same gr (gr.block g h.lt hp)
theorem OwN.aft {M : List Nat} {γ : Nat → Nat} (h : OwN b id lim g cap xs w) (hc : RelC M w γ w') (hp : tagOf M 1000 g = 0) : OwN b id lim g cap xs w' := h.grow hc.1 (.inr (by unfold mt; rw [if_pos hp]; omega))
theorem OwN.rw_ (h : OwN b id lim g cap xs w) : Rw b id lim g xs w := by
  obtain ⟨cs, h1, h2, h3, h4⟩ := h.ex
  exact ⟨cs, h1, h4⟩
theorem getD_app {xs : List Nat} {x i : Nat} : (xs ++ [x]).getD i 0 = if i = xs.length then x else xs.getD i 0 := by
  simp only [List.getD_eq_getElem?_getD]
  rcases Nat.lt_trichotomy i xs.length with h | h | h
  · rw [if_neg (by omega), List.getElem?_append_left h]
  · subst h; rw [if_pos rfl, List.getElem?_append_right (Nat.le_refl _)]; simp
  · rw [if_neg (by omega), List.getElem?_append_right (by omega), List.getElem?_eq_none (by simp; omega), List.getElem?_eq_none (by omega)]
variable {P : Program}
theorem app_run {tid ty : TypeId} {inf : TypeInfo} {z : Value} {zc : Value} {bytes q x n c : Nat} {A : Option Addr} (ht : P.underlying tid = some (.slice id)) (hi : P.info? id = some inf) (hz : inf.zero = some z) (hsize : inf.size = 1) (hby : inf.bytes = bytes) (hzc : z.cells = #[zc]) (hzn : notDig zc)
    (h : OwN b id lim g cap xs w) (hq : Blk w q id #[.slice A n c]) (hd : DAt b w A n c x) (hn : n ≤ lim) (h63 : xs.length + 1 ≤ maxLen) (hbytes : (xs.length + 1) * bytes ≤ 140737488355328) :
    ∃ g' cap' w', (Builtin.append_ #[tid, tid] ty #[.slice (some ⟨g, 0, none⟩) xs.length cap, .slice (some ⟨q, 0, none⟩) 1 1]).run P w = .ok (.slice (some ⟨g', 0, none⟩) (xs ++ [x]).length cap') w' ∧ OwN b id lim g' cap' (xs ++ [x]) w' ∧
      ((g' = g ∧ ∀ t γ, t ≠ 0 → γ g = t → Grow t γ w γ w') ∨ (g' = w.heap.size ∧ Below w.heap.size w w')) := by
  obtain ⟨cs, h1, h2, h3, h4⟩ := h.ex
  have hle := h.le
  have hcl : cs.toList.length = cap := by rw [← h2]; exact cs.length_toList
  have hg : w.heap[g]? = some (.cells cs id (0, 0)) := h1
  have hnews : ∀ j u, ([.slice A n c] : List Value)[j]? = some u → w.cell? ((⟨q, 0, none⟩ : Addr).add j) = some u := by
    intro j u hu
    rcases j with _ | j
    · simp at hu; subst hu; rw [Addr.add_lit]; exact hq.cell 0
    · simp at hu
  have hsl : notDig (.slice A n c) := fun k m _ e => by cases e
  by_cases hroom : xs.length + 1 ≤ cap
  · have hr := run_append_room (P := P) w tid ty id inf ht hi g xs.length cap cs hg ⟨q, 0, none⟩ 1 1 [.slice A n c] (by rw [hsize]; rfl) hnews (by simp [Value.oneCell']) hroom (by rw [hsize]; simp; omega)
    rw [hsize, Nat.mul_one] at hr
    have hset : cs.toList.take xs.length ++ [.slice A n c] ++ cs.toList.drop (xs.length + [Value.slice A n c].length) = cs.toList.set xs.length (.slice A n c) := by
      rw [List.set_eq_take_append_cons_drop, if_pos (by omega)]; simp
    rw [hset] at hr
    have hb2 : Blk (w.setRow g (cs.toList.set xs.length (.slice A n c)).toArray) g id (cs.toList.set xs.length (.slice A n c)).toArray := setRow_heap w g cs _ id (0, 0) hg
    have hbut : But g w (w.setRow g (cs.toList.set xs.length (.slice A n c)).toArray) := ⟨rfl, rfl, rfl, by simp [World.setRow], fun b hb => setRow_other w g b _ hb⟩
    have hnd : ∀ u ∈ (cs.toList.set xs.length (.slice A n c)).toArray, notDig u := by
      intro u hu
      rcases List.mem_or_eq_of_mem_set (by simpa using hu) with h' | h'
      · exact h3 u (by simpa using h')
      · rw [h']; exact hsl
    have hgr : ∀ t γ, t ≠ 0 → γ g = t → Grow t γ w γ (w.setRow g (cs.toList.set xs.length (.slice A n c)).toArray) := fun t γ ht0 hγ => Grow.but γ ht0 hγ h3 hnd (by simp) h1 hb2 hbut
    have hgr1 := hgr 1 (fun _ => 1) (by decide) rfl
    refine ⟨g, cap, _, by rw [List.length_append]; exact hr, ⟨⟨_, hb2, by simpa using h2, hnd, fun i hi => ?_⟩, by rw [List.length_append]; exact hroom, h.max⟩, .inl ⟨rfl, hgr⟩⟩
    rw [List.length_append, List.length_singleton] at hi
    rw [getD_app]
    by_cases hix : i = xs.length
    · subst hix
      rw [if_pos rfl]
      exact ⟨A, n, c, by rw [List.getElem?_toArray, List.getElem?_set_self (by omega)], dat_grow hgr1 hd, hn⟩
    · rw [if_neg hix]
      obtain ⟨A', n', c', e1, hd', hn'⟩ := h4 i (by omega)
      refine ⟨A', n', c', ?_, dat_grow hgr1 hd', hn'⟩
      rw [List.getElem?_toArray, List.getElem?_set_ne (Ne.symm hix)]
      simpa using e1
  · have holds : ∀ j u, ((cs.toList.take xs.length : List Value))[j]? = some u → w.cell? ((⟨g, 0, none⟩ : Addr).add j) = some u := by
      intro j u hu
      rw [Addr.add_lit, Nat.zero_add, h1.cell]
      rw [List.getElem?_take] at hu
      split at hu
      · simpa using hu
      · cases hu
    have hl0 : (cs.toList.take xs.length).length = xs.length := by rw [List.length_take, hcl]; omega
    have hr := run_append_grow (P := P) w tid ty id inf z ht hi hz ⟨g, 0, none⟩ xs.length cap (cs.toList.take xs.length) (by rw [hsize, hl0, Nat.mul_one]) holds ⟨q, 0, none⟩ 1 1 [.slice A n c] (by rw [hsize]; rfl) hnews (by omega) (by simp only [maxLen] at h63; omega) (growslice_fits (by omega) (by rw [hby]; exact hbytes))
    have hge := grownCap_ge w (xs.length + 1) cap id
    have hcm : grownCap w (xs.length + 1) cap id ≤ maxLen := grownCap_le_maxLen w (xs.length + 1) cap id h63
    generalize grownCap w (xs.length + 1) cap id = nc at hr hge hcm
    have hzs : (Builtin.zeroCells z.cells (nc - (xs.length + 1))).size = nc - (xs.length + 1) := by rw [size_zeroCells, hzc]; simp
    have hzm : ∀ u ∈ Builtin.zeroCells z.cells (nc - (xs.length + 1)), notDig u := by
      intro u hu
      rw [hzc] at hu
      simp [Builtin.zeroCells] at hu
      obtain ⟨k, hk, e⟩ := hu
      rw [Nat.mod_one] at e
      simp at e
      rw [← e]; exact hzn
    generalize hcs' : (cs.toList.take xs.length).toArray ++ [Value.slice A n c].toArray ++ Builtin.zeroCells z.cells (nc - (xs.length + 1)) = cs' at hr
    have hbw : Below w.heap.size w (w.drew.alloc (.cells cs' id)) := (Below.refl _ _).drew.alloc (Nat.le_refl _) _
    have hb2 : Blk (w.drew.alloc (.cells cs' id)) w.heap.size id cs' := Blk.new w.drew id cs'
    have hgr0 := Grow.below (fun _ => 0) hbw
    refine ⟨w.heap.size, nc, _, by rw [List.length_append]; exact hr, ⟨⟨cs', hb2, ?_, ?_, fun i hi => ?_⟩, by rw [List.length_append]; exact hge, hcm⟩, .inr ⟨rfl, hbw⟩⟩
    · rw [← hcs']; simp only [Array.size_append, List.size_toArray, hzs, hl0, List.length_singleton]; omega
    · intro u hu
      rw [← hcs'] at hu
      rcases Array.mem_append.1 hu with hu | hu
      · rcases Array.mem_append.1 hu with hu | hu
        · exact h3 u (by have := List.mem_of_mem_take (by simpa using hu : u ∈ cs.toList.take xs.length); simpa using this)
        · simp at hu; subst hu; exact hsl
      · exact hzm u hu
    · rw [List.length_append, List.length_singleton] at hi
      rw [getD_app]
      have hcell : ∀ j, j < xs.length + 1 → cs'[j]? = (cs.toList.take xs.length ++ [.slice A n c])[j]? := by
        intro j hj
        rw [← hcs', Array.getElem?_append_left (by simp only [Array.size_append, List.size_toArray, hl0, List.length_singleton]; omega)]
        simp
      by_cases hix : i = xs.length
      · subst hix
        rw [if_pos rfl]
        refine ⟨A, n, c, ?_, dat_grow hgr0 hd, hn⟩
        rw [hcell _ (by omega), List.getElem?_append_right (by rw [hl0]; exact Nat.le_refl _), hl0]; simp
      · rw [if_neg hix]
        obtain ⟨A', n', c', e1, hd', hn'⟩ := h4 i (by omega)
        refine ⟨A', n', c', ?_, dat_grow hgr0 hd', hn'⟩
        rw [hcell _ (by omega), List.getElem?_append_left (by rw [hl0]; omega), List.getElem?_take_of_lt (by omega)]
        simpa using e1
end
/-- A literal of one element (operation j). -/
def rL (j : Nat) (id : TypeId) (T : Ty) : Rel :=
  ⟨none, 0, j + 1, fun v γ w => ∃ p, v = .slice (some ⟨p, 0, none⟩) 1 1 ∧ γ p = j + 1 ∧ Cell id T p w,
    fun t γ w γ' w' v ht g ⟨p, e, hγ, h⟩ => ⟨p, e, by rw [g.tag p h.lt]; exact hγ, h.grow g (by omega)⟩⟩
/-- A row of one's own, told with its tag (the list's number k); eff: it is made or grown here. -/
def rA (k : Nat) (b : Nat) (id : TypeId) (lim B : Nat) (xs : List Nat) (eff : Nat) : Rel :=
  ⟨none, eff, 1000 + k, fun v γ w => ∃ g c, v = .slice (some ⟨g, 0, none⟩) xs.length c ∧ γ g = 1000 + k ∧ B ≤ g ∧ OwN b id lim g c xs w,
    fun t γ w γ' w' v ht gr ⟨g, c, e, hγ, hB, h⟩ => ⟨g, c, e, by rw [gr.tag g h.lt]; exact hγ, hB, h.grow gr (by omega)⟩⟩
section
variable {P : Program} {ops : Array Oper} {Q : Exit → Act → World → Prop} {a0 : Act} {M : List Nat} {W : World} {rels : List Rel} {i : Nat} {o : Oper} {T : Ty} {N d : Nat} {x y : Operand}
/-- A literal of one element. -/
theorem sLit {tid id : TypeId} (ho : ops[i]? = some o) (hr : rels[i]? = some (rL i id T)) (hd : o.dst = some d) (hz : a0.tmps.size = N) (hlt : decide (d < N) = true) (hg : o.guard = none)
    (hop : o.op = .buildSlice tid 1 #[(0, x)]) (s : Src ops a0 M W rels i o x T) (hrun : ∀ v w, T.p v w → (Instr.buildSlice tid 1 #[(0, v)]).run P w = .ok (.slice (some ⟨w.heap.size, 0, none⟩) 1 1) (w.alloc (.cells v.cells id))) : StepOk P ops a0 M W Q rels i o := by
  intro a γ w K hc hag hearly hdep hkp hK
  rw [if_pos (by simp [Region.wanted, hg])]
  have hv := s a γ w ⟨hc, hag, hearly, hdep, hkp⟩
  have hrun' : (execOp a.eval o).run P w = .ok (.value (.slice (some ⟨w.heap.size, 0, none⟩) 1 1)) (w.alloc (.cells (a.eval x).cells id)) := by
    unfold execOp
    rw [hop]
    have := hrun _ w hv
    simp only [List.map_toArray, List.map_cons, List.map_nil, Sem.run_bind, this, Result.andThen, Sem.run_pure]
  unfold Oper.wp
  rw [hrun']
  exact hK _ (newTag γ w (i + 1)) _ (by unfold effOf; rw [hr]; exact Grow.alloc γ w _ _) (holds_put ho hr rfl hd (lt_of hz hlt hag) ⟨w.heap.size, rfl, by simp [newTag], Cell.new hv⟩)
/-- A number put behind a row of one's own. -/
theorem sApp {k b lim g cap B bytes j t v : Nat} {tid id : TypeId} {xs : List Nat} {inf : TypeInfo} {z zc : Value} (ho : ops[i]? = some o) (hr : rels[i]? = some (rA k b id lim B (xs ++ [v]) (1000 + k))) (hd : o.dst = some d) (hz : a0.tmps.size = N) (hlt : decide (d < N) = true) (hg : o.guard = none)
    (hop : o.op = .call { callee := .builtin .append, args := #[x, .tmp t], argTypes := #[tid, tid] }) (s : Src ops a0 M W rels i o x (tV (.slice (some ⟨g, 0, none⟩) xs.length cap)))
    (hj : (ops[j]?).bind (·.dst) = some t) (hwj : waitsFor o j = true) (hrj : rels[j]? = some (rL j id (tN b lim v)))
    (hown : OwN b id lim g cap xs W) (hM : tagOf M 1000 g = 1000 + k) (hB : B ≤ g) (hBW : B ≤ W.heap.size) (huni : ((List.range ops.size).all fun j => j == i || !(effOf rels j == 1000 + k)) = true)
    (ht : P.underlying tid = some (.slice id)) (hi : P.info? id = some inf) (hiz : inf.zero = some z) (hsize : inf.size = 1) (hby : inf.bytes = bytes) (hzc : z.cells = #[zc]) (hzn : notDig zc) (h63 : xs.length + 1 ≤ maxLen) (hbytes : (xs.length + 1) * bytes ≤ 140737488355328) : StepOk P ops a0 M W Q rels i o := by
  intro a γ w K hc hag hearly hdep hkp hK
  rw [if_pos (by simp [Region.wanted, hg])]
  have U : Up ops a0 M W rels i o a γ w := ⟨hc, hag, hearly, hdep, hkp⟩
  have e1 : a.eval x = .slice (some ⟨g, 0, none⟩) xs.length cap := s a γ w U
  have hsame : w.heap[g]? = W.heap[g]? := hkp g hown.lt fun j' hj' hlt' => by
    have := List.all_eq_true.1 huni j' (List.mem_range.2 hlt')
    rw [hM]
    simp only [Bool.or_eq_true, beq_iff_eq, hj', false_or, Bool.not_eq_true', beq_eq_false_iff_ne] at this
    exact this
  have hw := hown.same hc.1 hsame
  have h1 := hdep j hwj
  unfold Holds at h1
  rw [hrj] at h1
  have e2 : valOf ops a j = a.eval (.tmp t) := by simp only [valOf, hj]; rfl
  obtain ⟨q, e3, hγq, u, hq, hu⟩ : (rL j id (tN b lim v)).p (valOf ops a j) γ w := h1
  obtain ⟨A, n, c, rfl, hdat, hn⟩ := hu
  rw [e2] at e3
  obtain ⟨g', cap', w', hrun, hown', hcase⟩ := app_run (ty := o.type) ht hi hiz hsize hby hzc hzn hw hq hdat hn h63 hbytes
  have hrun' : (execOp a.eval o).run P w = .ok (.value (.slice (some ⟨g', 0, none⟩) (xs ++ [v]).length cap')) w' := by
    unfold execOp
    simp only [hop, resolve, invoke, builtin, Sem.run_bind, Sem.run_pure, Result.andThen_ok, List.map_toArray, List.map_cons, List.map_nil, e1, e3, hrun]
  unfold Oper.wp
  rw [hrun']
  have hγg : γ g = 1000 + k := by rw [hc.2 g hown.lt]; exact hM
  rcases hcase with ⟨rfl, hgr⟩ | ⟨rfl, hbel⟩
  · exact hK _ γ w' (by unfold effOf; rw [hr]; exact hgr (1000 + k) γ (by omega) hγg) (holds_put ho hr rfl hd (lt_of hz hlt hag) ⟨g', cap', rfl, hγg, hB, hown'⟩)
  · exact hK _ (tagNew γ w (1000 + k)) w' (by unfold effOf; rw [hr]; exact (Grow.newT _ hbel).weak) (holds_put ho hr rfl hd (lt_of hz hlt hag) ⟨w.heap.size, cap', rfl, by simp [tagNew], Nat.le_trans hBW hc.1.size, hown'⟩)
/-- Handed on, whatever it is. -/
theorem sHandR {j t : Nat} {r r' : Rel} (ho : ops[i]? = some o) (hr : rels[i]? = some r') (hd : o.dst = some d) (hz : a0.tmps.size = N) (hlt : decide (d < N) = true) (g : Gd ops a0 M W rels i o true)
    (hop : o.op = .assign (.tmp t) ∨ o.op = .move (.tmp t)) (hj : (ops[j]?).bind (·.dst) = some t) (hwj : waitsFor o j = true) (hrj : rels[j]? = some r) (hs : r.sub = none) (hs' : r'.sub = none) (he : r'.eff = 0) (hp : ∀ v γ w, r.p v γ w → r'.p v γ w) : StepOk P ops a0 M W Q rels i o := by
  intro a γ w K hc hag hearly hdep hkp hK
  have U : Up ops a0 M W rels i o a γ w := ⟨hc, hag, hearly, hdep, hkp⟩
  rw [if_pos (g a γ w U)]
  have h1 := hdep j hwj
  unfold Holds at h1
  rw [hrj] at h1
  have e2 : valOf ops a j = a.eval (.tmp t) := by simp only [valOf, hj]; rfl
  have h2 : r.p (a.eval (.tmp t)) γ w := by
    rw [← e2]
    have h1' : r.p (valOf ops a (r.sub.getD j)) γ w := h1
    rw [hs] at h1'; exact h1'
  have hrun' : (execOp a.eval o).run P w = .ok (.value (a.eval (.tmp t))) w := by
    unfold execOp
    rcases hop with h | h <;> rw [h] <;> simp only [Sem.run_pure]
  unfold Oper.wp
  rw [hrun']
  exact hK _ γ w (by unfold effOf; rw [hr]; simp only [he]; exact Grow.refl_ _ _) (holds_put ho hr hs' hd (lt_of hz hlt hag) (hp _ _ _ h2))
/-- Handed on. -/
theorem sHand {k b lim B j t eff : Nat} {id : TypeId} {xs : List Nat} (ho : ops[i]? = some o) (hr : rels[i]? = some (rA k b id lim B xs 0)) (hd : o.dst = some d) (hz : a0.tmps.size = N) (hlt : decide (d < N) = true) (g : Gd ops a0 M W rels i o true)
    (hop : o.op = .assign (.tmp t) ∨ o.op = .move (.tmp t)) (hj : (ops[j]?).bind (·.dst) = some t) (hwj : waitsFor o j = true) (hrj : rels[j]? = some (rA k b id lim B xs eff)) : StepOk P ops a0 M W Q rels i o := by
  intro a γ w K hc hag hearly hdep hkp hK
  have U : Up ops a0 M W rels i o a γ w := ⟨hc, hag, hearly, hdep, hkp⟩
  rw [if_pos (g a γ w U)]
  have h1 := hdep j hwj
  unfold Holds at h1
  rw [hrj] at h1
  have e2 : valOf ops a j = a.eval (.tmp t) := by simp only [valOf, hj]; rfl
  have h2 : (rA k b id lim B xs 0).p (a.eval (.tmp t)) γ w := by rw [← e2]; exact h1
  have hrun' : (execOp a.eval o).run P w = .ok (.value (a.eval (.tmp t))) w := by
    unfold execOp
    rcases hop with h | h <;> rw [h] <;> simp only [Sem.run_pure]
  unfold Oper.wp
  rw [hrun']
  exact hK _ γ w (by unfold effOf; rw [hr]; exact Grow.refl_ _ _) (holds_put ho hr rfl hd (lt_of hz hlt hag) h2)
end
section
variable {N : Nat} {rels : List Rel} {a : Act} {γ : Nat → Nat} {w : World} {t : Nat} {l : List Oper}
theorem gotA {k b lim B eff : Nat} {id : TypeId} {xs : List Nat} (hz : a.tmps.size = N) (i : Nat) (hh : ∀ i, i < l.length → Holds l.toArray rels i a γ w) (hi : decide (i < l.length) = true) (hr : rels[i]? = some (rA k b id lim B xs eff)) (hd : (l.toArray[i]?).bind (·.dst) = some t) (hlt : decide (t < N) = true) :
    ∃ g c, Sl a t (.slice (some ⟨g, 0, none⟩) xs.length c) ∧ OwN b id lim g c xs w ∧ B ≤ g := by
  have h := hh i (of_decide_eq_true hi)
  unfold Holds at h
  rw [hr] at h
  have e : valOf l.toArray a i = a.eval (.tmp t) := by simp only [valOf, hd]; rfl
  obtain ⟨g, c, h1, _, h2, h3⟩ : (rA k b id lim B xs eff).p (valOf l.toArray a i) γ w := h
  rw [e] at h1
  exact ⟨g, c, by rw [← h1]; exact Sl.of hz hlt, h3, h2⟩
/-- A literal of one number is such a row. -/
theorem gotL {b lim x j : Nat} {id : TypeId} {M : List Nat} {W : World} (hz : a.tmps.size = N) (i : Nat) (hc : RelC M W γ w) (hh : ∀ i, i < l.length → Holds l.toArray rels i a γ w) (hi : decide (i < l.length) = true) (hr : rels[i]? = some (rL j id (tN b lim x))) (hj : decide (j < 999) = true) (hd : (l.toArray[i]?).bind (·.dst) = some t) (hlt : decide (t < N) = true) :
    ∃ g, Sl a t (.slice (some ⟨g, 0, none⟩) 1 1) ∧ OwN b id lim g 1 [x] w ∧ W.heap.size ≤ g := by
  have h := hh i (of_decide_eq_true hi)
  unfold Holds at h
  rw [hr] at h
  have e : valOf l.toArray a i = a.eval (.tmp t) := by simp only [valOf, hd]; rfl
  obtain ⟨p, h1, h2, v, h3, h4⟩ : (rL j id (tN b lim x)).p (valOf l.toArray a i) γ w := h
  rw [e] at h1
  obtain ⟨A, n, c, rfl, hdat, hn⟩ := h4
  refine ⟨p, by rw [← h1]; exact Sl.of hz hlt, ⟨⟨_, h3, rfl, fun u hu => ?_, fun j' hj' => ?_⟩, Nat.le_refl _, by decide⟩, ?_⟩
  · simp [Value.cells] at hu; subst hu; intro k m _ e; cases e
  · have : j' = 0 := by simp at hj'; omega
    subst this
    exact ⟨A, n, c, rfl, hdat, hn⟩
  · rcases Nat.lt_or_ge p W.heap.size with hp | hp
    · have h5 := hc.2 p hp
      rw [h2] at h5
      have hj := of_decide_eq_true hj
      have key : ∀ (M : List Nat) (k : Nat), tagOf M k p = 0 ∨ k ≤ tagOf M k p := by
        intro M
        induction M with
        | nil => exact fun _ => .inl rfl
        | cons m M ih =>
          intro k
          unfold tagOf
          split
          · exact .inr (Nat.le_refl _)
          · rcases ih (k + 1) with h | h
            · exact .inl h
            · exact .inr (by omega)
      rcases key M 1000 with h | h <;> omega
    · exact hp
end
end Go.Proofs.Ytijbhbjenddiaaa.Rg

namespace Go.Proofs.Ytijbhbjenddiaaa.Rg
open Go.RowKit

theorem tag_base {M : List Nat} {B g k : Nat} (hg : g < B) (hM : ∀ m ∈ M, B ≤ m) : tagOf M k g = 0 := by
  induction M generalizing k with
  | nil => rfl
  | cons m M ih =>
    unfold tagOf
    have := hM m List.mem_cons_self
    rw [if_neg (by omega)]
    exact ih fun x hx => hM x (List.mem_cons_of_mem _ hx)
theorem cell_aft {M : List Nat} {B g o : Nat} {W w : World} {γ : Nat → Nat} {u : Value} (h : W.cell? ⟨g, o, none⟩ = some u) (hc : RelC M W γ w) (hg : g < B) (hM : ∀ m ∈ M, B ≤ m) : w.cell? ⟨g, o, none⟩ = some u := by
  rw [World.cell?_of_block (hc.1.block g (World.block_lt_of_cell? _ _ h) (.inr (by unfold mt; rw [if_pos (tag_base hg hM)]; omega)))]; exact h
/-- Rows of bytes that were handed in. -/
def RB (A : Option Addr) (n : Nat) (ls : Nat → List Nat) (B : Nat) (w : World) : Prop :=
  ∀ i, i < n → ∃ g o A' n' c', A = some ⟨g, o, none⟩ ∧ g < B ∧ w.cell? ⟨g, o + i, none⟩ = some (.slice A' n' c') ∧ BAt w A' n' c' (ls i) ∧ n' ≤ c' ∧ n' ≤ maxLen
theorem RB.aft {A : Option Addr} {n B : Nat} {ls : Nat → List Nat} {M : List Nat} {W w : World} {γ : Nat → Nat} (h : RB A n ls B W) (hc : RelC M W γ w) (hM : ∀ m ∈ M, B ≤ m) : RB A n ls B w := by
  intro i hi
  obtain ⟨g, o, A', n', c', e, hg, h1, h2, h3⟩ := h i hi
  exact ⟨g, o, A', n', c', e, hg, cell_aft h1 hc hg hM, bat_grow hc.1 h2, h3⟩
/-- Calls that were handed in: four ints each. -/
def RO (A : Option Addr) (n : Nat) (F : Nat → Int) (B : Nat) (w : World) : Prop :=
  ∀ i, i < n → ∃ g o, A = some ⟨g, o, none⟩ ∧ g < B ∧ ∀ f, f < 4 → w.cell? ⟨g, o + (i * 4 + f), none⟩ = some (.int .i64 (F (i * 4 + f)))
theorem RO.aft {A : Option Addr} {n B : Nat} {F : Nat → Int} {M : List Nat} {W w : World} {γ : Nat → Nat} (h : RO A n F B W) (hc : RelC M W γ w) (hM : ∀ m ∈ M, B ≤ m) : RO A n F B w := by
  intro i hi
  obtain ⟨g, o, e, hg, h1⟩ := h i hi
  exact ⟨g, o, e, hg, fun f hf => cell_aft (h1 f hf) hc hg hM⟩
theorem OwN.ne {b b' lim lim' g g' cap cap' : Nat} {id id' : TypeId} {xs ys : List Nat} {w : World} (h : OwN b id lim g cap xs w) (h' : OwN b' id' lim' g' cap' ys w) (hid : id ≠ id') : g ≠ g' := by
  obtain ⟨cs, h1, _⟩ := h.ex
  obtain ⟨cs', h2, _⟩ := h'.ex
  exact Blk.ne_ h1 h2 hid
/-- A variable is no row. -/
theorem cellne {id : TypeId} {b lim g cap p l2 : Nat} {b2 x : Nat} {id2 : TypeId} {xs : List Nat} {w : World} (h : Cell id2 (tN b2 l2 x) p w) (o : OwN b id lim g cap xs w) (hne : id2 ≠ id) : p ≠ g := by
  obtain ⟨v, h1, _⟩ := h
  obtain ⟨cs, h2, _⟩ := o.ex
  exact Blk.ne_ h1 h2 hne
theorem tN_bl {b lim x k : Nat} (hb : b = 2 ^ k) (hb2 : 2 ≤ b) (hk : 1 ≤ k) (hx : bl x < 16000) : ∀ v w, (tN b lim x).p v w → (tN b 1000000 x).p v w := by
  rintro v w ⟨A, n, c, rfl, hd, hn⟩
  refine ⟨A, n, c, rfl, hd, ?_⟩
  have h1 : x < b ^ bl x := Nat.lt_of_lt_of_le bl_lt (by rw [hb, ← Nat.pow_mul]; exact Nat.pow_le_pow_right (by omega) (Nat.le_mul_of_pos_left _ hk))
  have := hd.le hb2 h1
  omega
section
variable {P : Program} {ops : Array Oper} {Q : Exit → Act → World → Prop} {a0 : Act} {M : List Nat} {W : World} {rels : List Rel} {i : Nat} {o : Oper} {T : Ty} {N d : Nat} {x y : Operand}
/-- An element's address, a load: known ahead. -/
theorem sIdxV {id : TypeId} {u v z : Value} (ho : ops[i]? = some o) (hr : rels[i]? = some (rT (tV z))) (hd : o.dst = some d) (hz : a0.tmps.size = N) (hlt : decide (d < N) = true) (g : Gd ops a0 M W rels i o true)
    (hop : o.op = .indexAddr id x y) (sx : Src ops a0 M W rels i o x (tV u)) (sy : Src ops a0 M W rels i o y (tV v)) (h : ∀ w, (Instr.indexAt id u v).run P w = .ok z w) : StepOk P ops a0 M W Q rels i o :=
  sOp ho hr hd hz hlt g fun a γ w U => by
    have e : a.eval x = u := sx a γ w U
    have e2 : a.eval y = v := sy a γ w U
    refine ⟨_, ?_, rfl⟩
    unfold execOp; rw [hop]; simp only [e, e2, Sem.run_bind, h, Result.andThen, Sem.run_pure]
theorem sLoadV {id : TypeId} {p : Value} (ho : ops[i]? = some o) (hr : rels[i]? = some (rT T)) (hd : o.dst = some d) (hz : a0.tmps.size = N) (hlt : decide (d < N) = true) (g : Gd ops a0 M W rels i o true)
    (hop : o.op = .load id x) (sx : Src ops a0 M W rels i o x (tV p)) (h : ∀ γ w, RelC M W γ w → ∃ v, (Instr.loadAt id p).run P w = .ok v w ∧ T.p v w) : StepOk P ops a0 M W Q rels i o :=
  sOp ho hr hd hz hlt g fun a γ w U => by
    have e : a.eval x = p := sx a γ w U
    obtain ⟨v, h1, h2⟩ := h γ w U.c
    refine ⟨v, ?_, h2⟩
    unfold execOp; rw [hop]; simp only [e, Sem.run_bind, h1, Result.andThen, Sem.run_pure]
end
theorem bl_n64 {b lim x : Nat} : ∀ v w, (tN b lim x).p v w → (Instr.buildSlice 69 1 #[(0, v)]).run Try.prog w = .ok (.slice (some ⟨w.heap.size, 0, none⟩) 1 1) (w.alloc (.cells v.cells 25)) := by
  rintro v w ⟨A, n, c, rfl, -, -⟩
  simp [go_sem, Value.cells]
theorem bl_n32 {b lim x : Nat} : ∀ v w, (tN b lim x).p v w → (Instr.buildSlice 70 1 #[(0, v)]).run Try.prog w = .ok (.slice (some ⟨w.heap.size, 0, none⟩) 1 1) (w.alloc (.cells v.cells 44)) := by
  rintro v w ⟨A, n, c, rfl, -, -⟩
  simp [go_sem, Value.cells]
theorem info_n64 : (Try.prog.info? 25).map (fun i => (i.zero, i.size, i.bytes)) = some (some (.agg #[.slice none 0 0]), 1, 24) := by kernel_rfl
theorem info_n32 : (Try.prog.info? 44).map (fun i => (i.zero, i.size, i.bytes)) = some (some (.agg #[.slice none 0 0]), 1, 24) := by kernel_rfl
theorem parts_of {P : Program} {id : TypeId} {z : Option Value} {a b : Nat} (h : (P.info? id).map (fun i => (i.zero, i.size, i.bytes)) = some (z, a, b)) : ∃ i0, P.info? id = some i0 ∧ i0.zero = z ∧ i0.size = a ∧ i0.bytes = b := by
  cases hq : P.info? id with
  | none => rw [hq] at h; cases h
  | some i =>
    rw [hq] at h
    simp at h
    exact ⟨i, rfl, h.1, h.2.1, h.2.2⟩
theorem nd_sl {A : Option Addr} {n c : Nat} : notDig (.slice A n c) := fun _ _ _ e => by cases e
theorem and_fits (I : Int) (k m : Nat) (hk : k ≤ 62) (hm : 2 ^ k - 1 = m) : ∃ r : Nat, r < 2 ^ k ∧ bits .and .i64 I (m : Int) = (r : Int) := by
  obtain ⟨r, h1, h2⟩ := and_i64 I k hk
  exact ⟨r, h1, by rw [← hm]; exact h2⟩
theorem ret_le {f : FuncId} {args : Array Value} {w : World} {a b L z : Nat} (ha : a ≤ L) (hb : b ≤ L) (h : Calls Try.prog f args w (Ret (tT [tN B64 a z, tN B32 b z]) w)) : Calls Try.prog f args w (Ret (tT [tN B64 L z, tN B32 L z]) w) := by
  refine h.mono ?_
  rintro e w' ⟨v, rfl, ⟨m, rfl, hm⟩, hbl⟩
  refine ⟨_, rfl, ⟨m, rfl, ?_⟩, hbl⟩
  match m, hm with
  | [u, v], hm => exact ⟨tN_le ha _ _ hm.1, tN_le hb _ _ hm.2.1, trivial⟩
/-- One call on what came so far: the same number both ways. -/
theorem l_after (xs : List Nat) (hxs : 0 < xs.length) (hlen : xs.length ≤ 1000) (ok oi oj os : Int) : ∃ z : Nat, ∀ gl gm cl cm w, Rw B64 25 1000000 gl xs w → Rw B32 44 1000000 gm xs w →
    Calls Try.prog 44 #[.slice (some ⟨gl, 0, none⟩) xs.length cl, .slice (some ⟨gm, 0, none⟩) xs.length cm, .agg #[.int .i64 ok, .int .i64 oi, .int .i64 oj, .int .i64 os]] w (Ret (tT [tN B64 20000000 z, tN B32 20000000 z]) w) := by
  obtain ⟨ia, -, ei⟩ := and_fits oi 8 255 (by decide) rfl
  obtain ⟨ja, -, ej⟩ := and_fits oj 8 255 (by decide) rfl
  obtain ⟨sn, hsn, es⟩ := and_fits os 7 127 (by decide) rfl
  obtain ⟨k, hk, ek⟩ := and_fits ok 3 7 (by decide) rfl
  have hn0 : ¬ xs.length = 0 := by omega
  have hi : ia % xs.length < xs.length := Nat.mod_lt _ hxs
  have hj : ja % xs.length < xs.length := Nat.mod_lt _ hxs
  have ri : (ia : Int).tmod (xs.length : Int) = ((ia % xs.length : Nat) : Int) := by rw [Int.tmod_eq_emod_of_nonneg (by omega)]; simp
  have rj : (ja : Int).tmod (xs.length : Int) = ((ja % xs.length : Nat) : Int) := by rw [Int.tmod_eq_emod_of_nonneg (by omega)]; simp
  generalize ia % xs.length = i at *
  generalize ja % xs.length = j at *
  have hs0 : -9223372036854775808 ≤ (sn : Int) := by omega
  have hs1 : (sn : Int) ≤ 9223372036854775807 := by have : (2 : Nat) ^ 7 = 128 := rfl; omega
  have hk8 : k < 8 := hk
  clear hk
  by_cases hlt : xs.getD i 0 < xs.getD j 0
  all_goals by_cases hz : xs.getD j 0 = 0
  · omega
  all_goals
    have hc : decide (cmpI (xs.getD i 0) (xs.getD j 0) < 0) = decide (xs.getD i 0 < xs.getD j 0) := by
      unfold cmpI
      by_cases h : xs.getD i 0 < xs.getD j 0
      · rw [if_pos h, decide_eq_true h]; rfl
      · rw [if_neg h, decide_eq_false h]; split <;> rfl
    first | rw [decide_eq_true hlt] at hc | rw [decide_eq_false hlt] at hc
    match k, hk8, ek with
    | 0, _, ek => exact ⟨_, fun gl gm cl cm w HL HM => ret_le (by decide) (by decide) (after0 HL HM hn0 hi hj hi hj ei ej es ri rj ek)⟩
    | 1, _, ek => first
      | exact ⟨_, fun gl gm cl cm w HL HM => ret_le (by decide) (by decide) (after1l HL HM hn0 hi hj hi hj ei ej es ri rj ek (by omega) hc)⟩
      | exact ⟨_, fun gl gm cl cm w HL HM => ret_le (by decide) (by decide) (after1g HL HM hn0 hi hj hi hj ei ej es ri rj ek hc (by omega))⟩
    | 2, _, ek => exact ⟨_, fun gl gm cl cm w HL HM => ret_le (by decide) (by decide) (after2 HL HM hn0 hi hj hi hj ei ej es ri rj ek)⟩
    | 3, _, ek => first
      | exact ⟨_, fun gl gm cl cm w HL HM => ret_le (by decide) (by decide) (after3z HL HM hn0 hi hj hi hj ei ej es ri rj ek (by rw [hz]; rfl) (decide_eq_true hz) (by rw [hz]; exact Nat.div_zero _))⟩
      | exact ⟨_, fun gl gm cl cm w HL HM => ret_le (by decide) (by decide) (after3p HL HM hn0 hi hj hi hj ei ej es ri rj ek (modOf_pos (by omega)) (decide_eq_false hz) (by omega))⟩
    | 4, _, ek => first
      | exact ⟨_, fun gl gm cl cm w HL HM => ret_le (by decide) (by decide) (after4z HL HM hn0 hi hj hi hj ei ej es ri rj ek (by rw [hz]; rfl) (decide_eq_true hz) (by rw [hz]; exact Nat.div_zero _))⟩
      | exact ⟨_, fun gl gm cl cm w HL HM => ret_le (by decide) (by decide) (after4p HL HM hn0 hi hj hi hj ei ej es ri rj ek (modOf_pos (by omega)) (decide_eq_false hz) (by omega))⟩
    | 5, _, ek => exact ⟨_, fun gl gm cl cm w HL HM => ret_le (by decide) (by decide) (after5 HL HM hn0 hi hj hi hj ei ej es ri rj ek)⟩
    | 6, _, ek => exact ⟨_, fun gl gm cl cm w HL HM => ret_le (by decide) (by decide) (after6 HL HM hn0 hi hj hi hj ei ej es ri rj ek hs0 hs1)⟩
    | 7, _, ek => exact ⟨_, fun gl gm cl cm w HL HM => ret_le (by decide) (by decide) (after7 HL HM hn0 hi hj hi hj ei ej es ri rj ek hs0 hs1)⟩
end Go.Proofs.Ytijbhbjenddiaaa.Rg

namespace Go.Proofs.Ytijbhbjenddiaaa.Rg
open Go.RowKit

theorem three (i n m : Nat) : (i < n ∧ i < m) ∨ (i < n ∧ ¬ i < m) ∨ ¬ i < n := by omega
theorem ld_by {g o n c : Nat} {A : Option Addr} {w : World} (h : w.cell? ⟨g, o, none⟩ = some (.slice A n c)) : (Instr.loadAt 22 (.pointer (some ⟨g, o, none⟩))).run Try.prog w = .ok (.slice A n c) w := by
  simp [go_sem, h]
theorem ld_op {g o : Nat} {F : Nat → Int} {i : Nat} {w : World} (h : ∀ f, f < 4 → w.cell? ⟨g, o + (i * 4 + f), none⟩ = some (.int .i64 (F (i * 4 + f)))) : (Instr.loadAt 74 (.pointer (some ⟨g, o + i * 4, none⟩))).run Try.prog w = .ok (.agg #[.int .i64 (F (i * 4 + 0)), .int .i64 (F (i * 4 + 1)), .int .i64 (F (i * 4 + 2)), .int .i64 (F (i * 4 + 3))]) w := by
  have h0 : w.cell? ⟨g, o + i * 4, none⟩ = some (.int .i64 (F (i * 4))) := h 0 (by decide)
  have h1 := h 1 (by decide)
  have h2 := h 2 (by decide)
  have h3 := h 3 (by decide)
  simp only [← Nat.add_assoc] at h1 h2 h3
  simp [go_sem, h0, h1, h2, h3]
theorem ix_by {g o n c i : Nat} {A : Option Addr} (hA : A = some ⟨g, o, none⟩) (hi : i < n) : ∀ w : World, (Instr.indexAt 67 (.slice A n c) (.int .i64 (i : Int))).run Try.prog w = .ok (.pointer (some ⟨g, o + i, none⟩)) w := by
  intro w; subst hA; simp [go_sem, hi]
theorem ix_op {g o n c i : Nat} {A : Option Addr} (hA : A = some ⟨g, o, none⟩) (hi : i < n) : ∀ w : World, (Instr.indexAt 68 (.slice A n c) (.int .i64 (i : Int))).run Try.prog w = .ok (.pointer (some ⟨g, o + i * 4, none⟩)) w := by
  intro w; subst hA; simp [go_sem, hi]
theorem len_t {n : Nat} : (∀ (w : World) A c, (Builtin.len_ #[67] 3 #[.slice A n c]).run Try.prog w = .ok (.int .i64 n) w) ∧ (∀ (w : World) A c, (Builtin.len_ #[68] 3 #[.slice A n c]).run Try.prog w = .ok (.int .i64 n) w) := by
  constructor <;> (intro w A c; simp [go_sem])

set_option maxRecDepth 10000 in
set_option maxHeartbeats 4000000 in
theorem natPlays_ret {Ab As : Option Addr} {nb cb ns cs : Nat} {ls : Nat → List Nat} {F : Nat → Int} {w : World} (HBy : RB Ab nb ls w.heap.size w) (HSc : RO As ns F w.heap.size w) :
    Calls Try.prog 12 #[.slice Ab nb cb, .slice As ns cs] w (Ret (tV (.bool true)) w) := by
  obtain ⟨j5, i5⟩ := parts_of info_n64
  obtain ⟨j6, i6⟩ := parts_of info_n32
  refine enter Try.func12 rfl Try.ntmps12 (by simp) ?_
  intro a hz hd ha
  have S0 := ha 0 _ rfl
  have S1 := ha 1 _ rfl
  clear ha
  have HB : Below w.heap.size w w := Below.refl _ _
  refine wp_seq ?_
  refine region_text (M := []) (
      rT (tV (.bool false)) ::
      []) hz hd (by kernel_rfl) ?_ ?_
  · refine ⟨?_, trivial⟩
    · exact sAs rfl rfl rfl hz rfl (Gd.none_ rfl) rfl (Src.const (.bool false))
  intro a' γ' W' hz' hd' hC hk hh
  replace S0 := hk 0 _ (by kernel_rfl) S0
  replace S1 := hk 1 _ (by kernel_rfl) S1
  replace HBy := RB.aft HBy hC (by intro m hm; simp at hm)
  replace HSc := RO.aft HSc hC (by intro m hm; simp at hm)
  have S4 := gotV hz' 0 hh rfl rfl rfl rfl
  replace HB := aft_call HB (RelC.below_nil hC)
  clear hC hk hh; replace hz := hz'; replace hd := hd'; clear hz' hd'
  refine wp_seq ?_
  refine region_text (M := []) (
      rT (tN B64 0 0) ::
      rL 1 25 (tN B64 1000000 0) ::
      rL 1 25 (tN B64 1000000 0) ::
      []) hz hd (by kernel_rfl) ?_ ?_
  · refine ⟨?_, ?_, ?_, trivial⟩
    · exact sBuild0 rfl rfl rfl hz rfl (Gd.none_ rfl) rfl bd_n64 (fun _ => tN_nil)
    · exact sLit rfl rfl rfl hz rfl rfl rfl (Src.to (Src.dep (j := 0) (t := 12) (by kernel_rfl) (by kernel_rfl) rfl) (tN_le (by decide))) bl_n64
    · exact sHandR (j := 1) rfl rfl rfl hz rfl (Gd.none_ rfl) (.inl rfl) (by kernel_rfl) (by kernel_rfl) rfl rfl rfl rfl (fun _ _ _ h => h)
  intro a' γ' W' hz' hd' hC hk hh
  replace S0 := hk 0 _ (by kernel_rfl) S0
  replace S1 := hk 1 _ (by kernel_rfl) S1
  replace S4 := hk 4 _ (by kernel_rfl) S4
  replace HBy := RB.aft HBy hC (by intro m hm; simp at hm)
  replace HSc := RO.aft HSc hC (by intro m hm; simp at hm)
  obtain ⟨g5, S5, O5, l5⟩ := gotL hz' 2 hC hh rfl rfl rfl rfl rfl
  have b5 := Nat.le_trans HB.size l5
  clear l5
  replace HB := aft_call HB (RelC.below_nil hC)
  clear hC hk hh; replace hz := hz'; replace hd := hd'; clear hz' hd'
  refine wp_seq ?_
  refine region_text (M := []) (
      rT (tN B32 0 0) ::
      rL 1 44 (tN B32 1000000 0) ::
      rL 1 44 (tN B32 1000000 0) ::
      []) hz hd (by kernel_rfl) ?_ ?_
  · refine ⟨?_, ?_, ?_, trivial⟩
    · exact sBuild0 rfl rfl rfl hz rfl (Gd.none_ rfl) rfl bd_n32 (fun _ => tN_nil)
    · exact sLit rfl rfl rfl hz rfl rfl rfl (Src.to (Src.dep (j := 0) (t := 14) (by kernel_rfl) (by kernel_rfl) rfl) (tN_le (by decide))) bl_n32
    · exact sHandR (j := 1) rfl rfl rfl hz rfl (Gd.none_ rfl) (.inl rfl) (by kernel_rfl) (by kernel_rfl) rfl rfl rfl rfl (fun _ _ _ h => h)
  intro a' γ' W' hz' hd' hC hk hh
  replace S0 := hk 0 _ (by kernel_rfl) S0
  replace S1 := hk 1 _ (by kernel_rfl) S1
  replace S4 := hk 4 _ (by kernel_rfl) S4
  replace S5 := hk 5 _ (by kernel_rfl) S5
  replace HBy := RB.aft HBy hC (by intro m hm; simp at hm)
  replace HSc := RO.aft HSc hC (by intro m hm; simp at hm)
  replace O5 := OwN.aft O5 hC rfl
  obtain ⟨g6, S6, O6, l6⟩ := gotL hz' 2 hC hh rfl rfl rfl rfl rfl
  have b6 := Nat.le_trans HB.size l6
  clear l6
  replace HB := aft_call HB (RelC.below_nil hC)
  clear hC hk hh; replace hz := hz'; replace hd := hd'; clear hz' hd'
  refine wp_seq ?_
  refine wp_seq ?_
  refine region_text (M := []) (
      rT (tV (.int .i64 0)) ::
      []) hz hd (by kernel_rfl) ?_ ?_
  · refine ⟨?_, trivial⟩
    · exact sAs rfl rfl rfl hz rfl (Gd.none_ rfl) rfl (Src.const (.int .i64 0))
  intro a' γ' W' hz' hd' hC hk hh
  replace S0 := hk 0 _ (by kernel_rfl) S0
  replace S1 := hk 1 _ (by kernel_rfl) S1
  replace S4 := hk 4 _ (by kernel_rfl) S4
  replace S5 := hk 5 _ (by kernel_rfl) S5
  replace S6 := hk 6 _ (by kernel_rfl) S6
  replace HBy := RB.aft HBy hC (by intro m hm; simp at hm)
  replace HSc := RO.aft HSc hC (by intro m hm; simp at hm)
  replace O5 := OwN.aft O5 hC rfl
  replace O6 := OwN.aft O6 hC rfl
  have S7 := gotV hz' 0 hh rfl rfl rfl rfl
  replace HB := aft_call HB (RelC.below_nil hC)
  clear hC hk hh; replace hz := hz'; replace hd := hd'; clear hz' hd'
  refine wp_block ?_
  refine wp_loop_ghost (fun k a W => ∃ (i : Nat) (xs : List Nat) (g5 : Nat) (c5 : Nat) (g6 : Nat) (c6 : Nat), k = 6 - i ∧ a.tmps.size = 109 ∧ a.defers = [] ∧ Below w.heap.size w W ∧ Sl a 0 (.slice Ab nb cb) ∧ Sl a 1 (.slice As ns cs) ∧ Sl a 4 (.bool false) ∧ Sl a 5 (.slice (some ⟨g5, 0, none⟩) xs.length c5) ∧ Sl a 6 (.slice (some ⟨g6, 0, none⟩) xs.length c6) ∧ Sl a 7 (.int .i64 (i : Int)) ∧ RB Ab nb ls w.heap.size W ∧ RO As ns F w.heap.size W ∧ OwN B64 25 1000000 g5 c5 xs W ∧ OwN B32 44 1000000 g6 c6 xs W ∧ w.heap.size ≤ g5 ∧ w.heap.size ≤ g6 ∧ 0 < xs.length ∧ xs.length ≤ i + 1 ∧ i ≤ 6) _ ⟨0, [0], g5, 1, g6, 1, rfl, hz, hd, HB, S0, S1, S4, S5, S6, S7, HBy, HSc, O5, O6, b5, b6, (by decide), (by decide)⟩ ?_
  clear S0 S1 S4 S5 S6 S7 HBy HSc O5 O6 hz hd HB
  rintro k a W ⟨i, xs, g5, c5, g6, c6, rfl, hz, hd, HB, S0, S1, S4, S5, S6, S7, HBy, HSc, O5, O6, b5, b6, hx0, hx1⟩
  refine wp_seq ?_
  refine wp_seq ?_
  rcases three i nb 6 with ⟨c1, c2⟩ | ⟨c1, c2⟩ | c1
  · refine region_text (M := []) (
        rT (tV (.int .i64 (i : Int))) ::
        rT (tV (.slice Ab nb cb)) ::
        rT (tV (.int .i64 (nb : Int))) ::
        rT (tV (.bool true)) ::
        rT (tV (.bool true)) ::
        rT (tV (.int .i64 (i : Int))) ::
        rT (tV (.bool true)) ::
        rT (tV (.bool true)) ::
        []) hz hd (by kernel_rfl) ?_ ?_
    · refine ⟨?_, ?_, ?_, ?_, ?_, ?_, ?_, ?_, trivial⟩
      · exact sMv rfl rfl rfl hz rfl (Gd.none_ rfl) rfl (Src.out (t := 7) (by kernel_rfl) S7 rfl)
      · exact sMv rfl rfl rfl hz rfl (Gd.none_ rfl) rfl (Src.out (t := 0) (by kernel_rfl) S0 rfl)
      · exact sLen rfl rfl rfl hz rfl (Gd.none_ rfl) rfl (Src.dep (j := 1) (t := 17) (by kernel_rfl) (by kernel_rfl) rfl) (fun v w h => ⟨_, _, h⟩) len_t.1
      · exact sBin rfl rfl rfl hz rfl (Gd.none_ rfl) rfl (Src.dep (j := 0) (t := 16) (by kernel_rfl) (by kernel_rfl) rfl) (Src.dep (j := 2) (t := 18) (by kernel_rfl) (by kernel_rfl) rfl) (fun w => by first | (simp [go_sem, c1]; done) | (simp [go_sem]; omega))
      · exact sMv rfl rfl rfl hz rfl (Gd.none_ rfl) rfl (Src.dep (j := 3) (t := 19) (by kernel_rfl) (by kernel_rfl) rfl)
      · exact sMv rfl rfl rfl hz rfl (Gd.yes rfl rfl (Src.dep (j := 4) (t := 20) (by kernel_rfl) (by kernel_rfl) rfl) rfl) rfl (Src.out (t := 7) (by kernel_rfl) S7 rfl)
      · exact sBin rfl rfl rfl hz rfl (Gd.yes rfl rfl (Src.dep (j := 4) (t := 20) (by kernel_rfl) (by kernel_rfl) rfl) rfl) rfl (Src.dep (j := 5) (t := 21) (by kernel_rfl) (by kernel_rfl) rfl) (Src.const (.int .i64 6)) (fun w => by first | (simp [go_sem, c2]; done) | (simp [go_sem]; omega))
      · exact sPickT rfl rfl rfl hz rfl (Gd.none_ rfl) rfl (Src.dep (j := 4) (t := 20) (by kernel_rfl) (by kernel_rfl) rfl) (Src.dep (j := 6) (t := 22) (by kernel_rfl) (by kernel_rfl) rfl)
    intro a' γ' W' hz' hd' hC hk hh
    replace S0 := hk 0 _ (by kernel_rfl) S0
    replace S1 := hk 1 _ (by kernel_rfl) S1
    replace S4 := hk 4 _ (by kernel_rfl) S4
    replace S5 := hk 5 _ (by kernel_rfl) S5
    replace S6 := hk 6 _ (by kernel_rfl) S6
    replace S7 := hk 7 _ (by kernel_rfl) S7
    replace HBy := RB.aft HBy hC (by intro m hm; simp at hm)
    replace HSc := RO.aft HSc hC (by intro m hm; simp at hm)
    replace O5 := OwN.aft O5 hC rfl
    replace O6 := OwN.aft O6 hC rfl
    have S16 := gotV hz' 0 hh rfl rfl rfl rfl
    have S17 := gotV hz' 1 hh rfl rfl rfl rfl
    have S18 := gotV hz' 2 hh rfl rfl rfl rfl
    have S19 := gotV hz' 3 hh rfl rfl rfl rfl
    have S20 := gotV hz' 4 hh rfl rfl rfl rfl
    have S21 := gotV hz' 5 hh rfl rfl rfl rfl
    have S22 := gotV hz' 6 hh rfl rfl rfl rfl
    have S23 := gotV hz' 7 hh rfl rfl rfl rfl
    replace HB := aft_call HB (RelC.below_nil hC)
    clear hC hk hh; replace hz := hz'; replace hd := hd'; clear hz' hd'
    refine wp_cond_true S23.ev ?_
    refine wp_skip ?_
    refine wp_seq ?_
    refine wp_block ?_
    refine wp_seq ?_
    obtain ⟨gb, ob, Ai, ni, ci, hA, hgb, hcl, hbt, hnc, hnm⟩ := HBy i c1
    have n_g6_g5 : g6 ≠ g5 := OwN.ne O6 O5 (by decide)
    refine region_text (M := [g5]) (
        rT (tV (.slice (some ⟨g5, 0, none⟩) xs.length c5)) ::
        rT (tV (.slice Ab nb cb)) ::
        rT (tV (.int .i64 (i : Int))) ::
        rT (tV (.pointer (some ⟨gb, ob + i, none⟩))) ::
        rT (tBy maxLen (ls i)) ::
        rT (tBy 600 ((ls i).take 600)) ::
        rT (tN B64 600 (bev ((ls i).take 600))) ::
        rL 7 25 (tN B64 1000000 (bev ((ls i).take 600))) ::
        rA 0 B64 25 1000000 w.heap.size (xs ++ [bev ((ls i).take 600)]) 1000 ::
        rA 0 B64 25 1000000 w.heap.size (xs ++ [bev ((ls i).take 600)]) 0 ::
        []) hz hd (by kernel_rfl) ?_ ?_
    · refine ⟨?_, ?_, ?_, ?_, ?_, ?_, ?_, ?_, ?_, ?_, trivial⟩
      · exact sMv rfl rfl rfl hz rfl (Gd.none_ rfl) rfl (Src.out (t := 5) (by kernel_rfl) S5 rfl)
      · exact sMv rfl rfl rfl hz rfl (Gd.none_ rfl) rfl (Src.out (t := 0) (by kernel_rfl) S0 rfl)
      · exact sMv rfl rfl rfl hz rfl (Gd.none_ rfl) rfl (Src.out (t := 7) (by kernel_rfl) S7 rfl)
      · exact sIdxV rfl rfl rfl hz rfl (Gd.none_ rfl) rfl (Src.dep (j := 1) (t := 27) (by kernel_rfl) (by kernel_rfl) rfl) (Src.dep (j := 2) (t := 28) (by kernel_rfl) (by kernel_rfl) rfl) (ix_by hA c1)
      · exact sLoadV rfl rfl rfl hz rfl (Gd.none_ rfl) rfl (Src.dep (j := 3) (t := 29) (by kernel_rfl) (by kernel_rfl) rfl) (fun γ w hC => ⟨.slice Ai ni ci, ld_by (cell_aft hcl hC hgb (by intro m hm; simp at hm; subst hm; assumption)), Ai, ni, ci, rfl, bat_grow hC.1 hbt, hnc, hnm⟩)
      · exact sCall rfl rfl rfl hz rfl (Gd.none_ rfl) rfl Try.func14 (by kernel_rfl) (by kernel_rfl) fun a γ w U => (by show Calls _ _ #[a.eval (.tmp 30)] _ _; exact l_cut (Src.at_ (Src.dep (j := 4) (t := 30) (by kernel_rfl) (by kernel_rfl) rfl) U))
      · exact sCall rfl rfl rfl hz rfl (Gd.none_ rfl) rfl Try.func13 (by kernel_rfl) (by kernel_rfl) fun a γ w U => (by show Calls _ _ #[a.eval (.tmp 31)] _ _; exact c_fb (Src.at_ (Src.dep (j := 5) (t := 31) (by kernel_rfl) (by kernel_rfl) rfl) U) (by decide))
      · exact sLit rfl rfl rfl hz rfl rfl rfl (Src.to (Src.dep (j := 6) (t := 32) (by kernel_rfl) (by kernel_rfl) rfl) (tN_le (by decide))) bl_n64
      · exact sApp (j := 7) rfl rfl rfl hz rfl rfl rfl (Src.dep (j := 0) (t := 26) (by kernel_rfl) (by kernel_rfl) rfl) (by kernel_rfl) (by kernel_rfl) rfl O5 (by simp [tagOf]) b5 HB.size (by kernel_rfl) Try.underlying69 i5.1 i5.2.1 i5.2.2.1 i5.2.2.2 rfl nd_sl (by unfold maxLen; omega) (by omega)
      · exact sHand (j := 8) rfl rfl rfl hz rfl (Gd.none_ rfl) (.inl rfl) (by kernel_rfl) (by kernel_rfl) rfl
    intro a' γ' W' hz' hd' hC hk hh
    replace S0 := hk 0 _ (by kernel_rfl) S0
    replace S1 := hk 1 _ (by kernel_rfl) S1
    replace S4 := hk 4 _ (by kernel_rfl) S4
    clear S5
    replace S6 := hk 6 _ (by kernel_rfl) S6
    replace S7 := hk 7 _ (by kernel_rfl) S7
    replace S16 := hk 16 _ (by kernel_rfl) S16
    replace S17 := hk 17 _ (by kernel_rfl) S17
    replace S18 := hk 18 _ (by kernel_rfl) S18
    replace S19 := hk 19 _ (by kernel_rfl) S19
    replace S20 := hk 20 _ (by kernel_rfl) S20
    replace S21 := hk 21 _ (by kernel_rfl) S21
    replace S22 := hk 22 _ (by kernel_rfl) S22
    replace S23 := hk 23 _ (by kernel_rfl) S23
    replace HBy := RB.aft HBy hC (by intro m hm; simp at hm; subst hm; assumption)
    replace HSc := RO.aft HSc hC (by intro m hm; simp at hm; subst hm; assumption)
    replace O6 := OwN.aft O6 hC (by simp [tagOf, n_g6_g5])
    have S26 := gotV hz' 0 hh rfl rfl rfl rfl
    have S27 := gotV hz' 1 hh rfl rfl rfl rfl
    have S28 := gotV hz' 2 hh rfl rfl rfl rfl
    have S29 := gotV hz' 3 hh rfl rfl rfl rfl
    obtain ⟨v30, S30, H30⟩ := got hz' 4 hh rfl rfl rfl rfl
    obtain ⟨v31, S31, H31⟩ := got hz' 5 hh rfl rfl rfl rfl
    obtain ⟨v32, S32, H32⟩ := got hz' 6 hh rfl rfl rfl rfl
    obtain ⟨g5, c5, S5, O5, b5⟩ := gotA hz' 9 hh rfl rfl rfl rfl
    replace HB := RelC.aftM HB hC (by intro m hm; simp at hm; rcases hm with rfl <;> assumption)
    clear hC hk hh; replace hz := hz'; replace hd := hd'; clear hz' hd'
    obtain ⟨gb, ob, Ai, ni, ci, hA, hgb, hcl, hbt, hnc, hnm⟩ := HBy i c1
    have n_g5_g6 : g5 ≠ g6 := OwN.ne O5 O6 (by decide)
    refine region_text (M := [g6]) (
        rT (tV (.slice (some ⟨g6, 0, none⟩) xs.length c6)) ::
        rT (tV (.slice Ab nb cb)) ::
        rT (tV (.int .i64 (i : Int))) ::
        rT (tV (.pointer (some ⟨gb, ob + i, none⟩))) ::
        rT (tBy maxLen (ls i)) ::
        rT (tBy 600 ((ls i).take 600)) ::
        rT (tN B32 600 (bev ((ls i).take 600))) ::
        rL 7 44 (tN B32 1000000 (bev ((ls i).take 600))) ::
        rA 0 B32 44 1000000 w.heap.size (xs ++ [bev ((ls i).take 600)]) 1000 ::
        rA 0 B32 44 1000000 w.heap.size (xs ++ [bev ((ls i).take 600)]) 0 ::
        []) hz hd (by kernel_rfl) ?_ ?_
    · refine ⟨?_, ?_, ?_, ?_, ?_, ?_, ?_, ?_, ?_, ?_, trivial⟩
      · exact sMv rfl rfl rfl hz rfl (Gd.none_ rfl) rfl (Src.out (t := 6) (by kernel_rfl) S6 rfl)
      · exact sMv rfl rfl rfl hz rfl (Gd.none_ rfl) rfl (Src.out (t := 0) (by kernel_rfl) S0 rfl)
      · exact sMv rfl rfl rfl hz rfl (Gd.none_ rfl) rfl (Src.out (t := 7) (by kernel_rfl) S7 rfl)
      · exact sIdxV rfl rfl rfl hz rfl (Gd.none_ rfl) rfl (Src.dep (j := 1) (t := 36) (by kernel_rfl) (by kernel_rfl) rfl) (Src.dep (j := 2) (t := 37) (by kernel_rfl) (by kernel_rfl) rfl) (ix_by hA c1)
      · exact sLoadV rfl rfl rfl hz rfl (Gd.none_ rfl) rfl (Src.dep (j := 3) (t := 38) (by kernel_rfl) (by kernel_rfl) rfl) (fun γ w hC => ⟨.slice Ai ni ci, ld_by (cell_aft hcl hC hgb (by intro m hm; simp at hm; subst hm; assumption)), Ai, ni, ci, rfl, bat_grow hC.1 hbt, hnc, hnm⟩)
      · exact sCall rfl rfl rfl hz rfl (Gd.none_ rfl) rfl Try.func14 (by kernel_rfl) (by kernel_rfl) fun a γ w U => (by show Calls _ _ #[a.eval (.tmp 39)] _ _; exact l_cut (Src.at_ (Src.dep (j := 4) (t := 39) (by kernel_rfl) (by kernel_rfl) rfl) U))
      · exact sCall rfl rfl rfl hz rfl (Gd.none_ rfl) rfl Try.func30 (by kernel_rfl) (by kernel_rfl) fun a γ w U => (by show Calls _ _ #[a.eval (.tmp 40)] _ _; exact d_fb (Src.at_ (Src.dep (j := 5) (t := 40) (by kernel_rfl) (by kernel_rfl) rfl) U) (by decide))
      · exact sLit rfl rfl rfl hz rfl rfl rfl (Src.to (Src.dep (j := 6) (t := 41) (by kernel_rfl) (by kernel_rfl) rfl) (tN_le (by decide))) bl_n32
      · exact sApp (j := 7) rfl rfl rfl hz rfl rfl rfl (Src.dep (j := 0) (t := 35) (by kernel_rfl) (by kernel_rfl) rfl) (by kernel_rfl) (by kernel_rfl) rfl O6 (by simp [tagOf]) b6 HB.size (by kernel_rfl) Try.underlying70 i6.1 i6.2.1 i6.2.2.1 i6.2.2.2 rfl nd_sl (by unfold maxLen; omega) (by omega)
      · exact sHand (j := 8) rfl rfl rfl hz rfl (Gd.none_ rfl) (.inl rfl) (by kernel_rfl) (by kernel_rfl) rfl
    intro a' γ' W' hz' hd' hC hk hh
    replace S0 := hk 0 _ (by kernel_rfl) S0
    replace S1 := hk 1 _ (by kernel_rfl) S1
    replace S4 := hk 4 _ (by kernel_rfl) S4
    clear S6
    replace S7 := hk 7 _ (by kernel_rfl) S7
    replace S16 := hk 16 _ (by kernel_rfl) S16
    replace S17 := hk 17 _ (by kernel_rfl) S17
    replace S18 := hk 18 _ (by kernel_rfl) S18
    replace S19 := hk 19 _ (by kernel_rfl) S19
    replace S20 := hk 20 _ (by kernel_rfl) S20
    replace S21 := hk 21 _ (by kernel_rfl) S21
    replace S22 := hk 22 _ (by kernel_rfl) S22
    replace S23 := hk 23 _ (by kernel_rfl) S23
    replace S26 := hk 26 _ (by kernel_rfl) S26
    replace S27 := hk 27 _ (by kernel_rfl) S27
    replace S28 := hk 28 _ (by kernel_rfl) S28
    replace S29 := hk 29 _ (by kernel_rfl) S29
    replace S30 := hk 30 _ (by kernel_rfl) S30
    replace H30 := Ty.aft _ H30 hC
    replace S31 := hk 31 _ (by kernel_rfl) S31
    replace H31 := Ty.aft _ H31 hC
    replace S32 := hk 32 _ (by kernel_rfl) S32
    replace H32 := Ty.aft _ H32 hC
    replace S5 := hk 5 _ (by kernel_rfl) S5
    replace HBy := RB.aft HBy hC (by intro m hm; simp at hm; subst hm; assumption)
    replace HSc := RO.aft HSc hC (by intro m hm; simp at hm; subst hm; assumption)
    replace O5 := OwN.aft O5 hC (by simp [tagOf, n_g5_g6])
    have S35 := gotV hz' 0 hh rfl rfl rfl rfl
    have S36 := gotV hz' 1 hh rfl rfl rfl rfl
    have S37 := gotV hz' 2 hh rfl rfl rfl rfl
    have S38 := gotV hz' 3 hh rfl rfl rfl rfl
    obtain ⟨v39, S39, H39⟩ := got hz' 4 hh rfl rfl rfl rfl
    obtain ⟨v40, S40, H40⟩ := got hz' 5 hh rfl rfl rfl rfl
    obtain ⟨v41, S41, H41⟩ := got hz' 6 hh rfl rfl rfl rfl
    obtain ⟨g6, c6, S6, O6, b6⟩ := gotA hz' 9 hh rfl rfl rfl rfl
    replace HB := RelC.aftM HB hC (by intro m hm; simp at hm; rcases hm with rfl <;> assumption)
    clear hC hk hh; replace hz := hz'; replace hd := hd'; clear hz' hd'
    refine region_text (M := []) (
        rT (tV (.int .i64 (i : Int))) ::
        rT (tV (.int .i64 ((i + 1 : Nat) : Int))) ::
        rT (tV (.int .i64 ((i + 1 : Nat) : Int))) ::
        []) hz hd (by kernel_rfl) ?_ ?_
    · refine ⟨?_, ?_, ?_, trivial⟩
      · exact sMv rfl rfl rfl hz rfl (Gd.none_ rfl) rfl (Src.out (t := 7) (by kernel_rfl) S7 rfl)
      · exact sBin rfl rfl rfl hz rfl (Gd.none_ rfl) rfl (Src.dep (j := 0) (t := 24) (by kernel_rfl) (by kernel_rfl) rfl) (Src.const (.int .i64 1)) (fun w => by simp [go_sem, IntKind.wrap_i64]; omega)
      · exact sAs rfl rfl rfl hz rfl (Gd.none_ rfl) rfl (Src.dep (j := 1) (t := 25) (by kernel_rfl) (by kernel_rfl) rfl)
    intro a' γ' W' hz' hd' hC hk hh
    replace S0 := hk 0 _ (by kernel_rfl) S0
    replace S1 := hk 1 _ (by kernel_rfl) S1
    replace S4 := hk 4 _ (by kernel_rfl) S4
    clear S7
    replace S16 := hk 16 _ (by kernel_rfl) S16
    replace S17 := hk 17 _ (by kernel_rfl) S17
    replace S18 := hk 18 _ (by kernel_rfl) S18
    replace S19 := hk 19 _ (by kernel_rfl) S19
    replace S20 := hk 20 _ (by kernel_rfl) S20
    replace S21 := hk 21 _ (by kernel_rfl) S21
    replace S22 := hk 22 _ (by kernel_rfl) S22
    replace S23 := hk 23 _ (by kernel_rfl) S23
    replace S26 := hk 26 _ (by kernel_rfl) S26
    replace S27 := hk 27 _ (by kernel_rfl) S27
    replace S28 := hk 28 _ (by kernel_rfl) S28
    replace S29 := hk 29 _ (by kernel_rfl) S29
    replace S30 := hk 30 _ (by kernel_rfl) S30
    replace H30 := Ty.aft _ H30 hC
    replace S31 := hk 31 _ (by kernel_rfl) S31
    replace H31 := Ty.aft _ H31 hC
    replace S32 := hk 32 _ (by kernel_rfl) S32
    replace H32 := Ty.aft _ H32 hC
    replace S5 := hk 5 _ (by kernel_rfl) S5
    replace S35 := hk 35 _ (by kernel_rfl) S35
    replace S36 := hk 36 _ (by kernel_rfl) S36
    replace S37 := hk 37 _ (by kernel_rfl) S37
    replace S38 := hk 38 _ (by kernel_rfl) S38
    replace S39 := hk 39 _ (by kernel_rfl) S39
    replace H39 := Ty.aft _ H39 hC
    replace S40 := hk 40 _ (by kernel_rfl) S40
    replace H40 := Ty.aft _ H40 hC
    replace S41 := hk 41 _ (by kernel_rfl) S41
    replace H41 := Ty.aft _ H41 hC
    replace S6 := hk 6 _ (by kernel_rfl) S6
    replace HBy := RB.aft HBy hC (by intro m hm; simp at hm)
    replace HSc := RO.aft HSc hC (by intro m hm; simp at hm)
    replace O5 := OwN.aft O5 hC rfl
    replace O6 := OwN.aft O6 hC rfl
    have S24 := gotV hz' 0 hh rfl rfl rfl rfl
    have S25 := gotV hz' 1 hh rfl rfl rfl rfl
    have S7 := gotV hz' 2 hh rfl rfl rfl rfl
    replace HB := aft_call HB (RelC.below_nil hC)
    clear hC hk hh; replace hz := hz'; replace hd := hd'; clear hz' hd'
    show ∃ n', n' < _ ∧ _
    refine ⟨_, ?_, i + 1, xs ++ [bev ((ls i).take 600)], g5, c5, g6, c6, rfl, hz, hd, HB, S0, S1, S4, S5, S6, S7, HBy, HSc, O5, O6, b5, b6, (by simp only [List.length_append, List.length_singleton]; omega), (by simp only [List.length_append, List.length_singleton]; omega)⟩
    omega
  · refine region_text (M := []) (
        rT (tV (.int .i64 (i : Int))) ::
        rT (tV (.slice Ab nb cb)) ::
        rT (tV (.int .i64 (nb : Int))) ::
        rT (tV (.bool true)) ::
        rT (tV (.bool true)) ::
        rT (tV (.int .i64 (i : Int))) ::
        rT (tV (.bool false)) ::
        rT (tV (.bool false)) ::
        []) hz hd (by kernel_rfl) ?_ ?_
    · refine ⟨?_, ?_, ?_, ?_, ?_, ?_, ?_, ?_, trivial⟩
      · exact sMv rfl rfl rfl hz rfl (Gd.none_ rfl) rfl (Src.out (t := 7) (by kernel_rfl) S7 rfl)
      · exact sMv rfl rfl rfl hz rfl (Gd.none_ rfl) rfl (Src.out (t := 0) (by kernel_rfl) S0 rfl)
      · exact sLen rfl rfl rfl hz rfl (Gd.none_ rfl) rfl (Src.dep (j := 1) (t := 17) (by kernel_rfl) (by kernel_rfl) rfl) (fun v w h => ⟨_, _, h⟩) len_t.1
      · exact sBin rfl rfl rfl hz rfl (Gd.none_ rfl) rfl (Src.dep (j := 0) (t := 16) (by kernel_rfl) (by kernel_rfl) rfl) (Src.dep (j := 2) (t := 18) (by kernel_rfl) (by kernel_rfl) rfl) (fun w => by first | (simp [go_sem, c1]; done) | (simp [go_sem]; omega))
      · exact sMv rfl rfl rfl hz rfl (Gd.none_ rfl) rfl (Src.dep (j := 3) (t := 19) (by kernel_rfl) (by kernel_rfl) rfl)
      · exact sMv rfl rfl rfl hz rfl (Gd.yes rfl rfl (Src.dep (j := 4) (t := 20) (by kernel_rfl) (by kernel_rfl) rfl) rfl) rfl (Src.out (t := 7) (by kernel_rfl) S7 rfl)
      · exact sBin rfl rfl rfl hz rfl (Gd.yes rfl rfl (Src.dep (j := 4) (t := 20) (by kernel_rfl) (by kernel_rfl) rfl) rfl) rfl (Src.dep (j := 5) (t := 21) (by kernel_rfl) (by kernel_rfl) rfl) (Src.const (.int .i64 6)) (fun w => by first | (simp [go_sem, c2]; done) | (simp [go_sem]; omega))
      · exact sPickT rfl rfl rfl hz rfl (Gd.none_ rfl) rfl (Src.dep (j := 4) (t := 20) (by kernel_rfl) (by kernel_rfl) rfl) (Src.dep (j := 6) (t := 22) (by kernel_rfl) (by kernel_rfl) rfl)
    intro a' γ' W' hz' hd' hC hk hh
    replace S0 := hk 0 _ (by kernel_rfl) S0
    replace S1 := hk 1 _ (by kernel_rfl) S1
    replace S4 := hk 4 _ (by kernel_rfl) S4
    replace S5 := hk 5 _ (by kernel_rfl) S5
    replace S6 := hk 6 _ (by kernel_rfl) S6
    replace S7 := hk 7 _ (by kernel_rfl) S7
    replace HBy := RB.aft HBy hC (by intro m hm; simp at hm)
    replace HSc := RO.aft HSc hC (by intro m hm; simp at hm)
    replace O5 := OwN.aft O5 hC rfl
    replace O6 := OwN.aft O6 hC rfl
    have S16 := gotV hz' 0 hh rfl rfl rfl rfl
    have S17 := gotV hz' 1 hh rfl rfl rfl rfl
    have S18 := gotV hz' 2 hh rfl rfl rfl rfl
    have S19 := gotV hz' 3 hh rfl rfl rfl rfl
    have S20 := gotV hz' 4 hh rfl rfl rfl rfl
    have S21 := gotV hz' 5 hh rfl rfl rfl rfl
    have S22 := gotV hz' 6 hh rfl rfl rfl rfl
    have S23 := gotV hz' 7 hh rfl rfl rfl rfl
    replace HB := aft_call HB (RelC.below_nil hC)
    clear hC hk hh; replace hz := hz'; replace hd := hd'; clear hz' hd'
    refine wp_cond_false S23.ev ?_
    refine wp_exit ?_
    refine wp_seq ?_
    refine wp_seq ?_
    refine region_text (M := []) (
        rT (tV (.int .i64 0)) ::
        []) hz hd (by kernel_rfl) ?_ ?_
    · refine ⟨?_, trivial⟩
      · exact sAs rfl rfl rfl hz rfl (Gd.none_ rfl) rfl (Src.const (.int .i64 0))
    intro a' γ' W' hz' hd' hC hk hh
    clear S0
    replace S1 := hk 1 _ (by kernel_rfl) S1
    replace S4 := hk 4 _ (by kernel_rfl) S4
    replace S5 := hk 5 _ (by kernel_rfl) S5
    replace S6 := hk 6 _ (by kernel_rfl) S6
    clear S7
    clear S16
    clear S17
    clear S18
    clear S19
    clear S20
    clear S21
    clear S22
    clear S23
    replace HBy := RB.aft HBy hC (by intro m hm; simp at hm)
    replace HSc := RO.aft HSc hC (by intro m hm; simp at hm)
    replace O5 := OwN.aft O5 hC rfl
    replace O6 := OwN.aft O6 hC rfl
    have S8 := gotV hz' 0 hh rfl rfl rfl rfl
    replace HB := aft_call HB (RelC.below_nil hC)
    clear hC hk hh; replace hz := hz'; replace hd := hd'; clear hz' hd'
    refine wp_block ?_
    refine wp_loop_ghost (fun k a W => ∃ (i : Nat) (xs : List Nat) (g5 : Nat) (c5 : Nat) (g6 : Nat) (c6 : Nat), k = 18 - i ∧ a.tmps.size = 109 ∧ a.defers = [] ∧ Below w.heap.size w W ∧ Sl a 1 (.slice As ns cs) ∧ Sl a 4 (.bool false) ∧ Sl a 5 (.slice (some ⟨g5, 0, none⟩) xs.length c5) ∧ Sl a 6 (.slice (some ⟨g6, 0, none⟩) xs.length c6) ∧ Sl a 8 (.int .i64 (i : Int)) ∧ RB Ab nb ls w.heap.size W ∧ RO As ns F w.heap.size W ∧ OwN B64 25 1000000 g5 c5 xs W ∧ OwN B32 44 1000000 g6 c6 xs W ∧ w.heap.size ≤ g5 ∧ w.heap.size ≤ g6 ∧ 0 < xs.length ∧ xs.length ≤ i + 7 ∧ i ≤ 18) _ ⟨0, xs, g5, c5, g6, c6, rfl, hz, hd, HB, S1, S4, S5, S6, S8, HBy, HSc, O5, O6, b5, b6, hx0, (by omega)⟩ ?_
    clear S1 S4 S5 S6 S8 HBy HSc O5 O6 hz hd HB
    rintro k a W ⟨i, xs, g5, c5, g6, c6, rfl, hz, hd, HB, S1, S4, S5, S6, S8, HBy, HSc, O5, O6, b5, b6, hx0, hx1⟩
    refine wp_seq ?_
    refine wp_seq ?_
    rcases three i ns 18 with ⟨c1, c2⟩ | ⟨c1, c2⟩ | c1
    · refine region_text (M := []) (
          rT (tV (.int .i64 (i : Int))) ::
          rT (tV (.slice As ns cs)) ::
          rT (tV (.int .i64 (ns : Int))) ::
          rT (tV (.bool true)) ::
          rT (tV (.bool true)) ::
          rT (tV (.int .i64 (i : Int))) ::
          rT (tV (.bool true)) ::
          rT (tV (.bool true)) ::
          []) hz hd (by kernel_rfl) ?_ ?_
      · refine ⟨?_, ?_, ?_, ?_, ?_, ?_, ?_, ?_, trivial⟩
        · exact sMv rfl rfl rfl hz rfl (Gd.none_ rfl) rfl (Src.out (t := 8) (by kernel_rfl) S8 rfl)
        · exact sMv rfl rfl rfl hz rfl (Gd.none_ rfl) rfl (Src.out (t := 1) (by kernel_rfl) S1 rfl)
        · exact sLen rfl rfl rfl hz rfl (Gd.none_ rfl) rfl (Src.dep (j := 1) (t := 45) (by kernel_rfl) (by kernel_rfl) rfl) (fun v w h => ⟨_, _, h⟩) len_t.2
        · exact sBin rfl rfl rfl hz rfl (Gd.none_ rfl) rfl (Src.dep (j := 0) (t := 44) (by kernel_rfl) (by kernel_rfl) rfl) (Src.dep (j := 2) (t := 46) (by kernel_rfl) (by kernel_rfl) rfl) (fun w => by first | (simp [go_sem, c1]; done) | (simp [go_sem]; omega))
        · exact sMv rfl rfl rfl hz rfl (Gd.none_ rfl) rfl (Src.dep (j := 3) (t := 47) (by kernel_rfl) (by kernel_rfl) rfl)
        · exact sMv rfl rfl rfl hz rfl (Gd.yes rfl rfl (Src.dep (j := 4) (t := 48) (by kernel_rfl) (by kernel_rfl) rfl) rfl) rfl (Src.out (t := 8) (by kernel_rfl) S8 rfl)
        · exact sBin rfl rfl rfl hz rfl (Gd.yes rfl rfl (Src.dep (j := 4) (t := 48) (by kernel_rfl) (by kernel_rfl) rfl) rfl) rfl (Src.dep (j := 5) (t := 49) (by kernel_rfl) (by kernel_rfl) rfl) (Src.const (.int .i64 18)) (fun w => by first | (simp [go_sem, c2]; done) | (simp [go_sem]; omega))
        · exact sPickT rfl rfl rfl hz rfl (Gd.none_ rfl) rfl (Src.dep (j := 4) (t := 48) (by kernel_rfl) (by kernel_rfl) rfl) (Src.dep (j := 6) (t := 50) (by kernel_rfl) (by kernel_rfl) rfl)
      intro a' γ' W' hz' hd' hC hk hh
      replace S1 := hk 1 _ (by kernel_rfl) S1
      replace S4 := hk 4 _ (by kernel_rfl) S4
      replace S5 := hk 5 _ (by kernel_rfl) S5
      replace S6 := hk 6 _ (by kernel_rfl) S6
      replace S8 := hk 8 _ (by kernel_rfl) S8
      replace HBy := RB.aft HBy hC (by intro m hm; simp at hm)
      replace HSc := RO.aft HSc hC (by intro m hm; simp at hm)
      replace O5 := OwN.aft O5 hC rfl
      replace O6 := OwN.aft O6 hC rfl
      have S44 := gotV hz' 0 hh rfl rfl rfl rfl
      have S45 := gotV hz' 1 hh rfl rfl rfl rfl
      have S46 := gotV hz' 2 hh rfl rfl rfl rfl
      have S47 := gotV hz' 3 hh rfl rfl rfl rfl
      have S48 := gotV hz' 4 hh rfl rfl rfl rfl
      have S49 := gotV hz' 5 hh rfl rfl rfl rfl
      have S50 := gotV hz' 6 hh rfl rfl rfl rfl
      have S51 := gotV hz' 7 hh rfl rfl rfl rfl
      replace HB := aft_call HB (RelC.below_nil hC)
      clear hC hk hh; replace hz := hz'; replace hd := hd'; clear hz' hd'
      refine wp_cond_true S51.ev ?_
      refine wp_skip ?_
      refine wp_seq ?_
      refine wp_block ?_
      refine wp_seq ?_
      obtain ⟨gs, os, hA, hgs, hcs⟩ := HSc i c1
      obtain ⟨z, hz0⟩ := l_after xs hx0 (by omega) (F (i * 4 + 0)) (F (i * 4 + 1)) (F (i * 4 + 2)) (F (i * 4 + 3))
      refine region_text (M := []) (
          rT (tV (.slice (some ⟨g5, 0, none⟩) xs.length c5)) ::
          rT (tV (.slice (some ⟨g6, 0, none⟩) xs.length c6)) ::
          rT (tV (.slice As ns cs)) ::
          rT (tV (.int .i64 (i : Int))) ::
          rT (tV (.pointer (some ⟨gs, os + i * 4, none⟩))) ::
          rT (tV (.agg #[.int .i64 (F (i * 4 + 0)), .int .i64 (F (i * 4 + 1)), .int .i64 (F (i * 4 + 2)), .int .i64 (F (i * 4 + 3))])) ::
          rT (tT [tN B64 20000000 z, tN B32 20000000 z]) ::
          rT (tT [tN B64 20000000 z, tN B32 20000000 z]) ::
          rT (tN B64 20000000 z) ::
          rT (tN B32 20000000 z) ::
          rVar 10 25 1 ::
          rVar 11 44 1 ::
          rB 10 25 (tN B64 20000000 z) (some 10) 11 ::
          rB 11 44 (tN B32 20000000 z) (some 11) 12 ::
          []) hz hd (by kernel_rfl) ?_ ?_
      · refine ⟨?_, ?_, ?_, ?_, ?_, ?_, ?_, ?_, ?_, ?_, ?_, ?_, ?_, ?_, trivial⟩
        · exact sMv rfl rfl rfl hz rfl (Gd.none_ rfl) rfl (Src.out (t := 5) (by kernel_rfl) S5 rfl)
        · exact sMv rfl rfl rfl hz rfl (Gd.none_ rfl) rfl (Src.out (t := 6) (by kernel_rfl) S6 rfl)
        · exact sMv rfl rfl rfl hz rfl (Gd.none_ rfl) rfl (Src.out (t := 1) (by kernel_rfl) S1 rfl)
        · exact sMv rfl rfl rfl hz rfl (Gd.none_ rfl) rfl (Src.out (t := 8) (by kernel_rfl) S8 rfl)
        · exact sIdxV rfl rfl rfl hz rfl (Gd.none_ rfl) rfl (Src.dep (j := 2) (t := 57) (by kernel_rfl) (by kernel_rfl) rfl) (Src.dep (j := 3) (t := 58) (by kernel_rfl) (by kernel_rfl) rfl) (ix_op hA c1)
        · exact sLoadV rfl rfl rfl hz rfl (Gd.none_ rfl) rfl (Src.dep (j := 4) (t := 59) (by kernel_rfl) (by kernel_rfl) rfl) (fun γ w hC => ⟨_, ld_op (fun f hf => cell_aft (hcs f hf) hC hgs (by intro m hm; simp at hm)), rfl⟩)
        · exact sCall rfl rfl rfl hz rfl (Gd.none_ rfl) rfl Try.func44 (by kernel_rfl) (by kernel_rfl) fun a γ w U => (by show Calls _ _ #[a.eval (.tmp 55), a.eval (.tmp 56), a.eval (.tmp 60)] _ _; rw [show a.eval (.tmp 55) = .slice (some ⟨g5, 0, none⟩) xs.length c5 from Src.at_ (Src.dep (j := 0) (t := 55) (by kernel_rfl) (by kernel_rfl) rfl) U, show a.eval (.tmp 56) = .slice (some ⟨g6, 0, none⟩) xs.length c6 from Src.at_ (Src.dep (j := 1) (t := 56) (by kernel_rfl) (by kernel_rfl) rfl) U, show a.eval (.tmp 60) = .agg #[.int .i64 (F (i * 4 + 0)), .int .i64 (F (i * 4 + 1)), .int .i64 (F (i * 4 + 2)), .int .i64 (F (i * 4 + 3))] from Src.at_ (Src.dep (j := 5) (t := 60) (by kernel_rfl) (by kernel_rfl) rfl) U]; exact hz0 _ _ _ _ _ (Rw.aft (OwN.rw_ O5) U.c rfl) (Rw.aft (OwN.rw_ O6) U.c rfl))
        · exact sMv rfl rfl rfl hz rfl (Gd.none_ rfl) rfl (Src.dep (j := 6) (t := 61) (by kernel_rfl) (by kernel_rfl) rfl)
        · exact sExt rfl rfl rfl hz rfl (Gd.none_ rfl) rfl (Src.dep (j := 7) (t := 54) (by kernel_rfl) (by kernel_rfl) rfl) rfl
        · exact sExt rfl rfl rfl hz rfl (Gd.none_ rfl) rfl (Src.dep (j := 7) (t := 54) (by kernel_rfl) (by kernel_rfl) rfl) rfl
        · exact sAlloc rfl rfl rfl hz rfl rfl rfl rfl nd_slice al_n64
        · exact sAlloc rfl rfl rfl hz rfl rfl rfl rfl nd_slice al_n32
        · exact sStore rfl rfl rfl rfl rfl (by kernel_rfl) (by kernel_rfl) rfl (Src.dep (j := 8) (t := 62) (by kernel_rfl) (by kernel_rfl) rfl) st_n64
        · exact sStore rfl rfl rfl rfl rfl (by kernel_rfl) (by kernel_rfl) rfl (Src.dep (j := 9) (t := 63) (by kernel_rfl) (by kernel_rfl) rfl) st_n32
      intro a' γ' W' hz' hd' hC hk hh
      have tg5 := O5.lt
      have tg6 := O6.lt
      replace S1 := hk 1 _ (by kernel_rfl) S1
      replace S4 := hk 4 _ (by kernel_rfl) S4
      replace S5 := hk 5 _ (by kernel_rfl) S5
      replace S6 := hk 6 _ (by kernel_rfl) S6
      replace S8 := hk 8 _ (by kernel_rfl) S8
      replace S44 := hk 44 _ (by kernel_rfl) S44
      replace S45 := hk 45 _ (by kernel_rfl) S45
      replace S46 := hk 46 _ (by kernel_rfl) S46
      replace S47 := hk 47 _ (by kernel_rfl) S47
      replace S48 := hk 48 _ (by kernel_rfl) S48
      replace S49 := hk 49 _ (by kernel_rfl) S49
      replace S50 := hk 50 _ (by kernel_rfl) S50
      replace S51 := hk 51 _ (by kernel_rfl) S51
      replace HBy := RB.aft HBy hC (by intro m hm; simp at hm)
      replace HSc := RO.aft HSc hC (by intro m hm; simp at hm)
      replace O5 := OwN.aft O5 hC rfl
      replace O6 := OwN.aft O6 hC rfl
      have S55 := gotV hz' 0 hh rfl rfl rfl rfl
      have S56 := gotV hz' 1 hh rfl rfl rfl rfl
      have S57 := gotV hz' 2 hh rfl rfl rfl rfl
      have S58 := gotV hz' 3 hh rfl rfl rfl rfl
      have S59 := gotV hz' 4 hh rfl rfl rfl rfl
      have S60 := gotV hz' 5 hh rfl rfl rfl rfl
      obtain ⟨v61, S61, H61⟩ := got hz' 6 hh rfl rfl rfl rfl
      obtain ⟨v54, S54, H54⟩ := got hz' 7 hh rfl rfl rfl rfl
      obtain ⟨v62, S62, H62⟩ := got hz' 8 hh rfl rfl rfl rfl
      obtain ⟨v63, S63, H63⟩ := got hz' 9 hh rfl rfl rfl rfl
      obtain ⟨p1, S9, Cp1, lp1, gp1⟩ := gotB hz' 12 hC hh rfl rfl rfl rfl rfl rfl
      obtain ⟨p2, S10, Cp2, lp2, gp2⟩ := gotB hz' 13 hC hh rfl rfl rfl rfl rfl rfl
      have n_p1_g5 : p1 ≠ g5 := by omega
      have n_p1_g6 : p1 ≠ g6 := by omega
      have n_p2_g5 : p2 ≠ g5 := by omega
      have n_p2_g6 : p2 ≠ g6 := by omega
      clear tg5 tg6
      clear lp1 gp1 lp2 gp2
      replace HB := aft_call HB (RelC.below_nil hC)
      clear hC hk hh; replace hz := hz'; replace hd := hd'; clear hz' hd'
      refine wp_seq ?_
      refine wp_seq ?_
      refine region_text (M := []) (
          rT (tN B64 20000000 z) ::
          rT (tN B32 20000000 z) ::
          rT (tV (.bool true)) ::
          rT (tV (.bool false)) ::
          []) hz hd (by kernel_rfl) ?_ ?_
      · refine ⟨?_, ?_, ?_, ?_, trivial⟩
        · exact sLoad rfl rfl rfl hz rfl (Gd.none_ rfl) rfl (Src.out (t := 9) (by kernel_rfl) S9 rfl) Cp1 rfl ld_n64
        · exact sLoad rfl rfl rfl hz rfl (Gd.none_ rfl) rfl (Src.out (t := 10) (by kernel_rfl) S10 rfl) Cp2 rfl ld_n32
        · exact sCall rfl rfl rfl hz rfl (Gd.none_ rfl) rfl Try.func43 (by kernel_rfl) (by kernel_rfl) fun a γ w U => (by show Calls _ _ #[a.eval (.tmp 64), a.eval (.tmp 65)] _ _; exact l_same (Src.at_ (Src.dep (j := 0) (t := 64) (by kernel_rfl) (by kernel_rfl) rfl) U) (Src.at_ (Src.dep (j := 1) (t := 65) (by kernel_rfl) (by kernel_rfl) rfl) U) (by decide) (by decide))
        · exact sNot (b := true) rfl rfl rfl hz rfl (Gd.none_ rfl) rfl (Src.dep (j := 2) (t := 66) (by kernel_rfl) (by kernel_rfl) rfl)
      intro a' γ' W' hz' hd' hC hk hh
      replace Cp1 := Cell.aft Cp1 hC rfl
      replace Cp2 := Cell.aft Cp2 hC rfl
      replace S1 := hk 1 _ (by kernel_rfl) S1
      replace S4 := hk 4 _ (by kernel_rfl) S4
      replace S5 := hk 5 _ (by kernel_rfl) S5
      replace S6 := hk 6 _ (by kernel_rfl) S6
      replace S8 := hk 8 _ (by kernel_rfl) S8
      replace S44 := hk 44 _ (by kernel_rfl) S44
      replace S45 := hk 45 _ (by kernel_rfl) S45
      replace S46 := hk 46 _ (by kernel_rfl) S46
      replace S47 := hk 47 _ (by kernel_rfl) S47
      replace S48 := hk 48 _ (by kernel_rfl) S48
      replace S49 := hk 49 _ (by kernel_rfl) S49
      replace S50 := hk 50 _ (by kernel_rfl) S50
      replace S51 := hk 51 _ (by kernel_rfl) S51
      replace S55 := hk 55 _ (by kernel_rfl) S55
      replace S56 := hk 56 _ (by kernel_rfl) S56
      replace S57 := hk 57 _ (by kernel_rfl) S57
      replace S58 := hk 58 _ (by kernel_rfl) S58
      replace S59 := hk 59 _ (by kernel_rfl) S59
      replace S60 := hk 60 _ (by kernel_rfl) S60
      replace S61 := hk 61 _ (by kernel_rfl) S61
      replace H61 := Ty.aft _ H61 hC
      replace S54 := hk 54 _ (by kernel_rfl) S54
      replace H54 := Ty.aft _ H54 hC
      replace S62 := hk 62 _ (by kernel_rfl) S62
      replace H62 := Ty.aft _ H62 hC
      replace S63 := hk 63 _ (by kernel_rfl) S63
      replace H63 := Ty.aft _ H63 hC
      replace S9 := hk 9 _ (by kernel_rfl) S9
      replace S10 := hk 10 _ (by kernel_rfl) S10
      replace HBy := RB.aft HBy hC (by intro m hm; simp at hm)
      replace HSc := RO.aft HSc hC (by intro m hm; simp at hm)
      replace O5 := OwN.aft O5 hC rfl
      replace O6 := OwN.aft O6 hC rfl
      obtain ⟨v64, S64, H64⟩ := got hz' 0 hh rfl rfl rfl rfl
      obtain ⟨v65, S65, H65⟩ := got hz' 1 hh rfl rfl rfl rfl
      have S66 := gotV hz' 2 hh rfl rfl rfl rfl
      have S67 := gotV hz' 3 hh rfl rfl rfl rfl
      replace HB := aft_call HB (RelC.below_nil hC)
      clear hC hk hh; replace hz := hz'; replace hd := hd'; clear hz' hd'
      refine wp_cond_false S67.ev ?_
      refine wp_skip ?_
      refine wp_seq ?_
      refine region_text (M := []) (
          rT (tN B32 20000000 z) ::
          rT (tV (.int .i64 ((bl z : Nat) : Int))) ::
          rT (tV (.bool (decide (bl z < 16000)))) ::
          []) hz hd (by kernel_rfl) ?_ ?_
      · refine ⟨?_, ?_, ?_, trivial⟩
        · exact sLoad rfl rfl rfl hz rfl (Gd.none_ rfl) rfl (Src.out (t := 10) (by kernel_rfl) S10 rfl) Cp2 rfl ld_n32
        · exact sCall rfl rfl rfl hz rfl (Gd.none_ rfl) rfl Try.func45 (by kernel_rfl) (by kernel_rfl) fun a γ w U => (by show Calls _ _ #[a.eval (.tmp 68)] _ _; exact d_len (Src.at_ (Src.dep (j := 0) (t := 68) (by kernel_rfl) (by kernel_rfl) rfl) U) (by decide))
        · exact sBin rfl rfl rfl hz rfl (Gd.none_ rfl) rfl (Src.dep (j := 1) (t := 69) (by kernel_rfl) (by kernel_rfl) rfl) (Src.const (.int .i64 16000)) (fun w => by simp [go_sem]; omega)
      intro a' γ' W' hz' hd' hC hk hh
      replace Cp1 := Cell.aft Cp1 hC rfl
      replace Cp2 := Cell.aft Cp2 hC rfl
      replace S1 := hk 1 _ (by kernel_rfl) S1
      replace S4 := hk 4 _ (by kernel_rfl) S4
      replace S5 := hk 5 _ (by kernel_rfl) S5
      replace S6 := hk 6 _ (by kernel_rfl) S6
      replace S8 := hk 8 _ (by kernel_rfl) S8
      replace S44 := hk 44 _ (by kernel_rfl) S44
      replace S45 := hk 45 _ (by kernel_rfl) S45
      replace S46 := hk 46 _ (by kernel_rfl) S46
      replace S47 := hk 47 _ (by kernel_rfl) S47
      replace S48 := hk 48 _ (by kernel_rfl) S48
      replace S49 := hk 49 _ (by kernel_rfl) S49
      replace S50 := hk 50 _ (by kernel_rfl) S50
      replace S51 := hk 51 _ (by kernel_rfl) S51
      replace S55 := hk 55 _ (by kernel_rfl) S55
      replace S56 := hk 56 _ (by kernel_rfl) S56
      replace S57 := hk 57 _ (by kernel_rfl) S57
      replace S58 := hk 58 _ (by kernel_rfl) S58
      replace S59 := hk 59 _ (by kernel_rfl) S59
      replace S60 := hk 60 _ (by kernel_rfl) S60
      replace S61 := hk 61 _ (by kernel_rfl) S61
      replace H61 := Ty.aft _ H61 hC
      replace S54 := hk 54 _ (by kernel_rfl) S54
      replace H54 := Ty.aft _ H54 hC
      replace S62 := hk 62 _ (by kernel_rfl) S62
      replace H62 := Ty.aft _ H62 hC
      replace S63 := hk 63 _ (by kernel_rfl) S63
      replace H63 := Ty.aft _ H63 hC
      replace S9 := hk 9 _ (by kernel_rfl) S9
      replace S10 := hk 10 _ (by kernel_rfl) S10
      replace S64 := hk 64 _ (by kernel_rfl) S64
      replace H64 := Ty.aft _ H64 hC
      replace S65 := hk 65 _ (by kernel_rfl) S65
      replace H65 := Ty.aft _ H65 hC
      replace S66 := hk 66 _ (by kernel_rfl) S66
      replace S67 := hk 67 _ (by kernel_rfl) S67
      replace HBy := RB.aft HBy hC (by intro m hm; simp at hm)
      replace HSc := RO.aft HSc hC (by intro m hm; simp at hm)
      replace O5 := OwN.aft O5 hC rfl
      replace O6 := OwN.aft O6 hC rfl
      obtain ⟨v68, S68, H68⟩ := got hz' 0 hh rfl rfl rfl rfl
      have S69 := gotV hz' 1 hh rfl rfl rfl rfl
      have S70 := gotV hz' 2 hh rfl rfl rfl rfl
      replace HB := aft_call HB (RelC.below_nil hC)
      clear hC hk hh; replace hz := hz'; replace hd := hd'; clear hz' hd'
      by_cases hc3 : bl z < 16000
      · rw [decide_eq_true hc3] at S70
        refine wp_cond_true S70.ev ?_
        have hbl := hc3
        refine wp_seq ?_
        have n_g6_g5 : g6 ≠ g5 := OwN.ne O6 O5 (by decide)
        refine region_text (M := [g5]) (
            rT (tV (.slice (some ⟨g5, 0, none⟩) xs.length c5)) ::
            rT (tN B64 20000000 z) ::
            rL 2 25 (tN B64 1000000 z) ::
            rA 0 B64 25 1000000 w.heap.size (xs ++ [z]) 1000 ::
            rA 0 B64 25 1000000 w.heap.size (xs ++ [z]) 0 ::
            []) hz hd (by kernel_rfl) ?_ ?_
        · refine ⟨?_, ?_, ?_, ?_, ?_, trivial⟩
          · exact sMv rfl rfl rfl hz rfl (Gd.none_ rfl) rfl (Src.out (t := 5) (by kernel_rfl) S5 rfl)
          · exact sLoad rfl rfl rfl hz rfl (Gd.none_ rfl) rfl (Src.out (t := 9) (by kernel_rfl) S9 rfl) Cp1 (by simp [tagOf, n_p1_g5]) ld_n64
          · exact sLit rfl rfl rfl hz rfl rfl rfl (Src.to (Src.dep (j := 1) (t := 72) (by kernel_rfl) (by kernel_rfl) rfl) (tN_bl (k := 64) rfl (by decide) (by decide) hbl)) bl_n64
          · exact sApp (j := 2) rfl rfl rfl hz rfl rfl rfl (Src.dep (j := 0) (t := 71) (by kernel_rfl) (by kernel_rfl) rfl) (by kernel_rfl) (by kernel_rfl) rfl O5 (by simp [tagOf]) b5 HB.size (by kernel_rfl) Try.underlying69 i5.1 i5.2.1 i5.2.2.1 i5.2.2.2 rfl nd_sl (by unfold maxLen; omega) (by omega)
          · exact sHand (j := 3) rfl rfl rfl hz rfl (Gd.none_ rfl) (.inl rfl) (by kernel_rfl) (by kernel_rfl) rfl
        intro a' γ' W' hz' hd' hC hk hh
        replace Cp1 := Cell.aft Cp1 hC (by simp [tagOf, n_p1_g5])
        replace Cp2 := Cell.aft Cp2 hC (by simp [tagOf, n_p2_g5])
        replace S1 := hk 1 _ (by kernel_rfl) S1
        replace S4 := hk 4 _ (by kernel_rfl) S4
        clear S5
        replace S6 := hk 6 _ (by kernel_rfl) S6
        replace S8 := hk 8 _ (by kernel_rfl) S8
        replace S44 := hk 44 _ (by kernel_rfl) S44
        replace S45 := hk 45 _ (by kernel_rfl) S45
        replace S46 := hk 46 _ (by kernel_rfl) S46
        replace S47 := hk 47 _ (by kernel_rfl) S47
        replace S48 := hk 48 _ (by kernel_rfl) S48
        replace S49 := hk 49 _ (by kernel_rfl) S49
        replace S50 := hk 50 _ (by kernel_rfl) S50
        replace S51 := hk 51 _ (by kernel_rfl) S51
        replace S55 := hk 55 _ (by kernel_rfl) S55
        replace S56 := hk 56 _ (by kernel_rfl) S56
        replace S57 := hk 57 _ (by kernel_rfl) S57
        replace S58 := hk 58 _ (by kernel_rfl) S58
        replace S59 := hk 59 _ (by kernel_rfl) S59
        replace S60 := hk 60 _ (by kernel_rfl) S60
        replace S61 := hk 61 _ (by kernel_rfl) S61
        replace H61 := Ty.aft _ H61 hC
        replace S54 := hk 54 _ (by kernel_rfl) S54
        replace H54 := Ty.aft _ H54 hC
        replace S62 := hk 62 _ (by kernel_rfl) S62
        replace H62 := Ty.aft _ H62 hC
        replace S63 := hk 63 _ (by kernel_rfl) S63
        replace H63 := Ty.aft _ H63 hC
        replace S9 := hk 9 _ (by kernel_rfl) S9
        replace S10 := hk 10 _ (by kernel_rfl) S10
        replace S64 := hk 64 _ (by kernel_rfl) S64
        replace H64 := Ty.aft _ H64 hC
        replace S65 := hk 65 _ (by kernel_rfl) S65
        replace H65 := Ty.aft _ H65 hC
        replace S66 := hk 66 _ (by kernel_rfl) S66
        replace S67 := hk 67 _ (by kernel_rfl) S67
        replace S68 := hk 68 _ (by kernel_rfl) S68
        replace H68 := Ty.aft _ H68 hC
        replace S69 := hk 69 _ (by kernel_rfl) S69
        replace S70 := hk 70 _ (by kernel_rfl) S70
        replace HBy := RB.aft HBy hC (by intro m hm; simp at hm; subst hm; assumption)
        replace HSc := RO.aft HSc hC (by intro m hm; simp at hm; subst hm; assumption)
        replace O6 := OwN.aft O6 hC (by simp [tagOf, n_g6_g5])
        have S71 := gotV hz' 0 hh rfl rfl rfl rfl
        obtain ⟨v72, S72, H72⟩ := got hz' 1 hh rfl rfl rfl rfl
        obtain ⟨g5, c5, S5, O5, b5⟩ := gotA hz' 4 hh rfl rfl rfl rfl
        replace HB := RelC.aftM HB hC (by intro m hm; simp at hm; rcases hm with rfl <;> assumption)
        clear hC hk hh; replace hz := hz'; replace hd := hd'; clear hz' hd'
        have n_g5_g6 : g5 ≠ g6 := OwN.ne O5 O6 (by decide)
        refine region_text (M := [g6]) (
            rT (tV (.slice (some ⟨g6, 0, none⟩) xs.length c6)) ::
            rT (tN B32 20000000 z) ::
            rL 2 44 (tN B32 1000000 z) ::
            rA 0 B32 44 1000000 w.heap.size (xs ++ [z]) 1000 ::
            rA 0 B32 44 1000000 w.heap.size (xs ++ [z]) 0 ::
            []) hz hd (by kernel_rfl) ?_ ?_
        · refine ⟨?_, ?_, ?_, ?_, ?_, trivial⟩
          · exact sMv rfl rfl rfl hz rfl (Gd.none_ rfl) rfl (Src.out (t := 6) (by kernel_rfl) S6 rfl)
          · exact sLoad rfl rfl rfl hz rfl (Gd.none_ rfl) rfl (Src.out (t := 10) (by kernel_rfl) S10 rfl) Cp2 (by simp [tagOf, n_p2_g6]) ld_n32
          · exact sLit rfl rfl rfl hz rfl rfl rfl (Src.to (Src.dep (j := 1) (t := 76) (by kernel_rfl) (by kernel_rfl) rfl) (tN_bl (k := 32) rfl (by decide) (by decide) hbl)) bl_n32
          · exact sApp (j := 2) rfl rfl rfl hz rfl rfl rfl (Src.dep (j := 0) (t := 75) (by kernel_rfl) (by kernel_rfl) rfl) (by kernel_rfl) (by kernel_rfl) rfl O6 (by simp [tagOf]) b6 HB.size (by kernel_rfl) Try.underlying70 i6.1 i6.2.1 i6.2.2.1 i6.2.2.2 rfl nd_sl (by unfold maxLen; omega) (by omega)
          · exact sHand (j := 3) rfl rfl rfl hz rfl (Gd.none_ rfl) (.inl rfl) (by kernel_rfl) (by kernel_rfl) rfl
        intro a' γ' W' hz' hd' hC hk hh
        replace Cp1 := Cell.aft Cp1 hC (by simp [tagOf, n_p1_g6])
        replace Cp2 := Cell.aft Cp2 hC (by simp [tagOf, n_p2_g6])
        replace S1 := hk 1 _ (by kernel_rfl) S1
        replace S4 := hk 4 _ (by kernel_rfl) S4
        clear S6
        replace S8 := hk 8 _ (by kernel_rfl) S8
        replace S44 := hk 44 _ (by kernel_rfl) S44
        replace S45 := hk 45 _ (by kernel_rfl) S45
        replace S46 := hk 46 _ (by kernel_rfl) S46
        replace S47 := hk 47 _ (by kernel_rfl) S47
        replace S48 := hk 48 _ (by kernel_rfl) S48
        replace S49 := hk 49 _ (by kernel_rfl) S49
        replace S50 := hk 50 _ (by kernel_rfl) S50
        replace S51 := hk 51 _ (by kernel_rfl) S51
        replace S55 := hk 55 _ (by kernel_rfl) S55
        replace S56 := hk 56 _ (by kernel_rfl) S56
        replace S57 := hk 57 _ (by kernel_rfl) S57
        replace S58 := hk 58 _ (by kernel_rfl) S58
        replace S59 := hk 59 _ (by kernel_rfl) S59
        replace S60 := hk 60 _ (by kernel_rfl) S60
        replace S61 := hk 61 _ (by kernel_rfl) S61
        replace H61 := Ty.aft _ H61 hC
        replace S54 := hk 54 _ (by kernel_rfl) S54
        replace H54 := Ty.aft _ H54 hC
        replace S62 := hk 62 _ (by kernel_rfl) S62
        replace H62 := Ty.aft _ H62 hC
        replace S63 := hk 63 _ (by kernel_rfl) S63
        replace H63 := Ty.aft _ H63 hC
        replace S9 := hk 9 _ (by kernel_rfl) S9
        replace S10 := hk 10 _ (by kernel_rfl) S10
        replace S64 := hk 64 _ (by kernel_rfl) S64
        replace H64 := Ty.aft _ H64 hC
        replace S65 := hk 65 _ (by kernel_rfl) S65
        replace H65 := Ty.aft _ H65 hC
        replace S66 := hk 66 _ (by kernel_rfl) S66
        replace S67 := hk 67 _ (by kernel_rfl) S67
        replace S68 := hk 68 _ (by kernel_rfl) S68
        replace H68 := Ty.aft _ H68 hC
        replace S69 := hk 69 _ (by kernel_rfl) S69
        replace S70 := hk 70 _ (by kernel_rfl) S70
        replace S71 := hk 71 _ (by kernel_rfl) S71
        replace S72 := hk 72 _ (by kernel_rfl) S72
        replace H72 := Ty.aft _ H72 hC
        replace S5 := hk 5 _ (by kernel_rfl) S5
        replace HBy := RB.aft HBy hC (by intro m hm; simp at hm; subst hm; assumption)
        replace HSc := RO.aft HSc hC (by intro m hm; simp at hm; subst hm; assumption)
        replace O5 := OwN.aft O5 hC (by simp [tagOf, n_g5_g6])
        have S75 := gotV hz' 0 hh rfl rfl rfl rfl
        obtain ⟨v76, S76, H76⟩ := got hz' 1 hh rfl rfl rfl rfl
        obtain ⟨g6, c6, S6, O6, b6⟩ := gotA hz' 4 hh rfl rfl rfl rfl
        replace HB := RelC.aftM HB hC (by intro m hm; simp at hm; rcases hm with rfl <;> assumption)
        clear hC hk hh; replace hz := hz'; replace hd := hd'; clear hz' hd'
        refine region_text (M := []) (
            rT (tV (.int .i64 (i : Int))) ::
            rT (tV (.int .i64 ((i + 1 : Nat) : Int))) ::
            rT (tV (.int .i64 ((i + 1 : Nat) : Int))) ::
            []) hz hd (by kernel_rfl) ?_ ?_
        · refine ⟨?_, ?_, ?_, trivial⟩
          · exact sMv rfl rfl rfl hz rfl (Gd.none_ rfl) rfl (Src.out (t := 8) (by kernel_rfl) S8 rfl)
          · exact sBin rfl rfl rfl hz rfl (Gd.none_ rfl) rfl (Src.dep (j := 0) (t := 52) (by kernel_rfl) (by kernel_rfl) rfl) (Src.const (.int .i64 1)) (fun w => by simp [go_sem, IntKind.wrap_i64]; omega)
          · exact sAs rfl rfl rfl hz rfl (Gd.none_ rfl) rfl (Src.dep (j := 1) (t := 53) (by kernel_rfl) (by kernel_rfl) rfl)
        intro a' γ' W' hz' hd' hC hk hh
        replace Cp1 := Cell.aft Cp1 hC rfl
        replace Cp2 := Cell.aft Cp2 hC rfl
        replace S1 := hk 1 _ (by kernel_rfl) S1
        replace S4 := hk 4 _ (by kernel_rfl) S4
        clear S8
        replace S44 := hk 44 _ (by kernel_rfl) S44
        replace S45 := hk 45 _ (by kernel_rfl) S45
        replace S46 := hk 46 _ (by kernel_rfl) S46
        replace S47 := hk 47 _ (by kernel_rfl) S47
        replace S48 := hk 48 _ (by kernel_rfl) S48
        replace S49 := hk 49 _ (by kernel_rfl) S49
        replace S50 := hk 50 _ (by kernel_rfl) S50
        replace S51 := hk 51 _ (by kernel_rfl) S51
        replace S55 := hk 55 _ (by kernel_rfl) S55
        replace S56 := hk 56 _ (by kernel_rfl) S56
        replace S57 := hk 57 _ (by kernel_rfl) S57
        replace S58 := hk 58 _ (by kernel_rfl) S58
        replace S59 := hk 59 _ (by kernel_rfl) S59
        replace S60 := hk 60 _ (by kernel_rfl) S60
        replace S61 := hk 61 _ (by kernel_rfl) S61
        replace H61 := Ty.aft _ H61 hC
        replace S54 := hk 54 _ (by kernel_rfl) S54
        replace H54 := Ty.aft _ H54 hC
        replace S62 := hk 62 _ (by kernel_rfl) S62
        replace H62 := Ty.aft _ H62 hC
        replace S63 := hk 63 _ (by kernel_rfl) S63
        replace H63 := Ty.aft _ H63 hC
        replace S9 := hk 9 _ (by kernel_rfl) S9
        replace S10 := hk 10 _ (by kernel_rfl) S10
        replace S64 := hk 64 _ (by kernel_rfl) S64
        replace H64 := Ty.aft _ H64 hC
        replace S65 := hk 65 _ (by kernel_rfl) S65
        replace H65 := Ty.aft _ H65 hC
        replace S66 := hk 66 _ (by kernel_rfl) S66
        replace S67 := hk 67 _ (by kernel_rfl) S67
        replace S68 := hk 68 _ (by kernel_rfl) S68
        replace H68 := Ty.aft _ H68 hC
        replace S69 := hk 69 _ (by kernel_rfl) S69
        replace S70 := hk 70 _ (by kernel_rfl) S70
        replace S71 := hk 71 _ (by kernel_rfl) S71
        replace S72 := hk 72 _ (by kernel_rfl) S72
        replace H72 := Ty.aft _ H72 hC
        replace S5 := hk 5 _ (by kernel_rfl) S5
        replace S75 := hk 75 _ (by kernel_rfl) S75
        replace S76 := hk 76 _ (by kernel_rfl) S76
        replace H76 := Ty.aft _ H76 hC
        replace S6 := hk 6 _ (by kernel_rfl) S6
        replace HBy := RB.aft HBy hC (by intro m hm; simp at hm)
        replace HSc := RO.aft HSc hC (by intro m hm; simp at hm)
        replace O5 := OwN.aft O5 hC rfl
        replace O6 := OwN.aft O6 hC rfl
        have S52 := gotV hz' 0 hh rfl rfl rfl rfl
        have S53 := gotV hz' 1 hh rfl rfl rfl rfl
        have S8 := gotV hz' 2 hh rfl rfl rfl rfl
        replace HB := aft_call HB (RelC.below_nil hC)
        clear hC hk hh; replace hz := hz'; replace hd := hd'; clear hz' hd'
        show ∃ n', n' < _ ∧ _
        refine ⟨_, ?_, i + 1, xs ++ [z], g5, c5, g6, c6, rfl, hz, hd, HB, S1, S4, S5, S6, S8, HBy, HSc, O5, O6, b5, b6, (by simp only [List.length_append, List.length_singleton]; omega), (by simp only [List.length_append, List.length_singleton]; omega)⟩
        omega
      · rw [decide_eq_false hc3] at S70
        refine wp_cond_false S70.ev ?_
        refine wp_skip ?_
        refine region_text (M := []) (
            rT (tV (.int .i64 (i : Int))) ::
            rT (tV (.int .i64 ((i + 1 : Nat) : Int))) ::
            rT (tV (.int .i64 ((i + 1 : Nat) : Int))) ::
            []) hz hd (by kernel_rfl) ?_ ?_
        · refine ⟨?_, ?_, ?_, trivial⟩
          · exact sMv rfl rfl rfl hz rfl (Gd.none_ rfl) rfl (Src.out (t := 8) (by kernel_rfl) S8 rfl)
          · exact sBin rfl rfl rfl hz rfl (Gd.none_ rfl) rfl (Src.dep (j := 0) (t := 52) (by kernel_rfl) (by kernel_rfl) rfl) (Src.const (.int .i64 1)) (fun w => by simp [go_sem, IntKind.wrap_i64]; omega)
          · exact sAs rfl rfl rfl hz rfl (Gd.none_ rfl) rfl (Src.dep (j := 1) (t := 53) (by kernel_rfl) (by kernel_rfl) rfl)
        intro a' γ' W' hz' hd' hC hk hh
        replace Cp1 := Cell.aft Cp1 hC rfl
        replace Cp2 := Cell.aft Cp2 hC rfl
        replace S1 := hk 1 _ (by kernel_rfl) S1
        replace S4 := hk 4 _ (by kernel_rfl) S4
        replace S5 := hk 5 _ (by kernel_rfl) S5
        replace S6 := hk 6 _ (by kernel_rfl) S6
        clear S8
        replace S44 := hk 44 _ (by kernel_rfl) S44
        replace S45 := hk 45 _ (by kernel_rfl) S45
        replace S46 := hk 46 _ (by kernel_rfl) S46
        replace S47 := hk 47 _ (by kernel_rfl) S47
        replace S48 := hk 48 _ (by kernel_rfl) S48
        replace S49 := hk 49 _ (by kernel_rfl) S49
        replace S50 := hk 50 _ (by kernel_rfl) S50
        replace S51 := hk 51 _ (by kernel_rfl) S51
        replace S55 := hk 55 _ (by kernel_rfl) S55
        replace S56 := hk 56 _ (by kernel_rfl) S56
        replace S57 := hk 57 _ (by kernel_rfl) S57
        replace S58 := hk 58 _ (by kernel_rfl) S58
        replace S59 := hk 59 _ (by kernel_rfl) S59
        replace S60 := hk 60 _ (by kernel_rfl) S60
        replace S61 := hk 61 _ (by kernel_rfl) S61
        replace H61 := Ty.aft _ H61 hC
        replace S54 := hk 54 _ (by kernel_rfl) S54
        replace H54 := Ty.aft _ H54 hC
        replace S62 := hk 62 _ (by kernel_rfl) S62
        replace H62 := Ty.aft _ H62 hC
        replace S63 := hk 63 _ (by kernel_rfl) S63
        replace H63 := Ty.aft _ H63 hC
        replace S9 := hk 9 _ (by kernel_rfl) S9
        replace S10 := hk 10 _ (by kernel_rfl) S10
        replace S64 := hk 64 _ (by kernel_rfl) S64
        replace H64 := Ty.aft _ H64 hC
        replace S65 := hk 65 _ (by kernel_rfl) S65
        replace H65 := Ty.aft _ H65 hC
        replace S66 := hk 66 _ (by kernel_rfl) S66
        replace S67 := hk 67 _ (by kernel_rfl) S67
        replace S68 := hk 68 _ (by kernel_rfl) S68
        replace H68 := Ty.aft _ H68 hC
        replace S69 := hk 69 _ (by kernel_rfl) S69
        replace S70 := hk 70 _ (by kernel_rfl) S70
        replace HBy := RB.aft HBy hC (by intro m hm; simp at hm)
        replace HSc := RO.aft HSc hC (by intro m hm; simp at hm)
        replace O5 := OwN.aft O5 hC rfl
        replace O6 := OwN.aft O6 hC rfl
        have S52 := gotV hz' 0 hh rfl rfl rfl rfl
        have S53 := gotV hz' 1 hh rfl rfl rfl rfl
        have S8 := gotV hz' 2 hh rfl rfl rfl rfl
        replace HB := aft_call HB (RelC.below_nil hC)
        clear hC hk hh; replace hz := hz'; replace hd := hd'; clear hz' hd'
        show ∃ n', n' < _ ∧ _
        refine ⟨_, ?_, i + 1, xs, g5, c5, g6, c6, rfl, hz, hd, HB, S1, S4, S5, S6, S8, HBy, HSc, O5, O6, b5, b6, hx0, (by omega)⟩
        omega
    · refine region_text (M := []) (
          rT (tV (.int .i64 (i : Int))) ::
          rT (tV (.slice As ns cs)) ::
          rT (tV (.int .i64 (ns : Int))) ::
          rT (tV (.bool true)) ::
          rT (tV (.bool true)) ::
          rT (tV (.int .i64 (i : Int))) ::
          rT (tV (.bool false)) ::
          rT (tV (.bool false)) ::
          []) hz hd (by kernel_rfl) ?_ ?_
      · refine ⟨?_, ?_, ?_, ?_, ?_, ?_, ?_, ?_, trivial⟩
        · exact sMv rfl rfl rfl hz rfl (Gd.none_ rfl) rfl (Src.out (t := 8) (by kernel_rfl) S8 rfl)
        · exact sMv rfl rfl rfl hz rfl (Gd.none_ rfl) rfl (Src.out (t := 1) (by kernel_rfl) S1 rfl)
        · exact sLen rfl rfl rfl hz rfl (Gd.none_ rfl) rfl (Src.dep (j := 1) (t := 45) (by kernel_rfl) (by kernel_rfl) rfl) (fun v w h => ⟨_, _, h⟩) len_t.2
        · exact sBin rfl rfl rfl hz rfl (Gd.none_ rfl) rfl (Src.dep (j := 0) (t := 44) (by kernel_rfl) (by kernel_rfl) rfl) (Src.dep (j := 2) (t := 46) (by kernel_rfl) (by kernel_rfl) rfl) (fun w => by first | (simp [go_sem, c1]; done) | (simp [go_sem]; omega))
        · exact sMv rfl rfl rfl hz rfl (Gd.none_ rfl) rfl (Src.dep (j := 3) (t := 47) (by kernel_rfl) (by kernel_rfl) rfl)
        · exact sMv rfl rfl rfl hz rfl (Gd.yes rfl rfl (Src.dep (j := 4) (t := 48) (by kernel_rfl) (by kernel_rfl) rfl) rfl) rfl (Src.out (t := 8) (by kernel_rfl) S8 rfl)
        · exact sBin rfl rfl rfl hz rfl (Gd.yes rfl rfl (Src.dep (j := 4) (t := 48) (by kernel_rfl) (by kernel_rfl) rfl) rfl) rfl (Src.dep (j := 5) (t := 49) (by kernel_rfl) (by kernel_rfl) rfl) (Src.const (.int .i64 18)) (fun w => by first | (simp [go_sem, c2]; done) | (simp [go_sem]; omega))
        · exact sPickT rfl rfl rfl hz rfl (Gd.none_ rfl) rfl (Src.dep (j := 4) (t := 48) (by kernel_rfl) (by kernel_rfl) rfl) (Src.dep (j := 6) (t := 50) (by kernel_rfl) (by kernel_rfl) rfl)
      intro a' γ' W' hz' hd' hC hk hh
      replace S1 := hk 1 _ (by kernel_rfl) S1
      replace S4 := hk 4 _ (by kernel_rfl) S4
      replace S5 := hk 5 _ (by kernel_rfl) S5
      replace S6 := hk 6 _ (by kernel_rfl) S6
      replace S8 := hk 8 _ (by kernel_rfl) S8
      replace HBy := RB.aft HBy hC (by intro m hm; simp at hm)
      replace HSc := RO.aft HSc hC (by intro m hm; simp at hm)
      replace O5 := OwN.aft O5 hC rfl
      replace O6 := OwN.aft O6 hC rfl
      have S44 := gotV hz' 0 hh rfl rfl rfl rfl
      have S45 := gotV hz' 1 hh rfl rfl rfl rfl
      have S46 := gotV hz' 2 hh rfl rfl rfl rfl
      have S47 := gotV hz' 3 hh rfl rfl rfl rfl
      have S48 := gotV hz' 4 hh rfl rfl rfl rfl
      have S49 := gotV hz' 5 hh rfl rfl rfl rfl
      have S50 := gotV hz' 6 hh rfl rfl rfl rfl
      have S51 := gotV hz' 7 hh rfl rfl rfl rfl
      replace HB := aft_call HB (RelC.below_nil hC)
      clear hC hk hh; replace hz := hz'; replace hd := hd'; clear hz' hd'
      refine wp_cond_false S51.ev ?_
      refine wp_exit ?_
      refine wp_seq ?_
      refine wp_seq ?_
      refine region_text (M := []) (
          rT (tV (.int .i64 0)) ::
          []) hz hd (by kernel_rfl) ?_ ?_
      · refine ⟨?_, trivial⟩
        · exact sAs rfl rfl rfl hz rfl (Gd.none_ rfl) rfl (Src.const (.int .i64 0))
      intro a' γ' W' hz' hd' hC hk hh
      clear S1
      replace S4 := hk 4 _ (by kernel_rfl) S4
      replace S5 := hk 5 _ (by kernel_rfl) S5
      replace S6 := hk 6 _ (by kernel_rfl) S6
      clear S8
      clear S44
      clear S45
      clear S46
      clear S47
      clear S48
      clear S49
      clear S50
      clear S51
      replace HBy := RB.aft HBy hC (by intro m hm; simp at hm)
      replace HSc := RO.aft HSc hC (by intro m hm; simp at hm)
      replace O5 := OwN.aft O5 hC rfl
      replace O6 := OwN.aft O6 hC rfl
      have S11 := gotV hz' 0 hh rfl rfl rfl rfl
      replace HB := aft_call HB (RelC.below_nil hC)
      clear hC hk hh; replace hz := hz'; replace hd := hd'; clear hz' hd'
      refine wp_block ?_
      refine wp_loop_ghost (fun k a W => ∃ (i : Nat), k = xs.length - i ∧ a.tmps.size = 109 ∧ a.defers = [] ∧ Below w.heap.size w W ∧ Sl a 4 (.bool false) ∧ Sl a 5 (.slice (some ⟨g5, 0, none⟩) xs.length c5) ∧ Sl a 6 (.slice (some ⟨g6, 0, none⟩) xs.length c6) ∧ Sl a 11 (.int .i64 (i : Int)) ∧ RB Ab nb ls w.heap.size W ∧ RO As ns F w.heap.size W ∧ OwN B64 25 1000000 g5 c5 xs W ∧ OwN B32 44 1000000 g6 c6 xs W) _ ⟨0, rfl, hz, hd, HB, S4, S5, S6, S11, HBy, HSc, O5, O6⟩ ?_
      clear S4 S5 S6 S11 HBy HSc O5 O6 hz hd HB
      rintro k a W ⟨i, rfl, hz, hd, HB, S4, S5, S6, S11, HBy, HSc, O5, O6⟩
      refine wp_seq ?_
      refine wp_seq ?_
      refine region_text (M := []) (
          rT (tV (.int .i64 (i : Int))) ::
          rT (tV (.slice (some ⟨g5, 0, none⟩) xs.length c5)) ::
          rT (tV (.int .i64 (xs.length : Int))) ::
          rT (tV (.bool (decide (i < xs.length)))) ::
          []) hz hd (by kernel_rfl) ?_ ?_
      · refine ⟨?_, ?_, ?_, ?_, trivial⟩
        · exact sMv rfl rfl rfl hz rfl (Gd.none_ rfl) rfl (Src.out (t := 11) (by kernel_rfl) S11 rfl)
        · exact sMv rfl rfl rfl hz rfl (Gd.none_ rfl) rfl (Src.out (t := 5) (by kernel_rfl) S5 rfl)
        · exact sLen rfl rfl rfl hz rfl (Gd.none_ rfl) rfl (Src.dep (j := 1) (t := 80) (by kernel_rfl) (by kernel_rfl) rfl) (fun v w h => ⟨_, _, h⟩) len64
        · exact sBin rfl rfl rfl hz rfl (Gd.none_ rfl) rfl (Src.dep (j := 0) (t := 79) (by kernel_rfl) (by kernel_rfl) rfl) (Src.dep (j := 2) (t := 81) (by kernel_rfl) (by kernel_rfl) rfl) (fun w => by simp [go_sem])
      intro a' γ' W' hz' hd' hC hk hh
      replace S4 := hk 4 _ (by kernel_rfl) S4
      replace S5 := hk 5 _ (by kernel_rfl) S5
      replace S6 := hk 6 _ (by kernel_rfl) S6
      replace S11 := hk 11 _ (by kernel_rfl) S11
      replace HBy := RB.aft HBy hC (by intro m hm; simp at hm)
      replace HSc := RO.aft HSc hC (by intro m hm; simp at hm)
      replace O5 := OwN.aft O5 hC rfl
      replace O6 := OwN.aft O6 hC rfl
      have S79 := gotV hz' 0 hh rfl rfl rfl rfl
      have S80 := gotV hz' 1 hh rfl rfl rfl rfl
      have S81 := gotV hz' 2 hh rfl rfl rfl rfl
      have S82 := gotV hz' 3 hh rfl rfl rfl rfl
      replace HB := aft_call HB (RelC.below_nil hC)
      clear hC hk hh; replace hz := hz'; replace hd := hd'; clear hz' hd'
      by_cases hc4 : i < xs.length
      · rw [decide_eq_true hc4] at S82
        refine wp_cond_true S82.ev ?_
        have hi := hc4
        refine wp_skip ?_
        refine wp_seq ?_
        refine wp_block ?_
        refine wp_seq ?_
        refine region_drawn (M := []) (
            rT (tV (.slice (some ⟨g5, 0, none⟩) xs.length c5)) ::
            rT (tV (.int .i64 (i : Int))) ::
            rT (tV (.pointer (some ⟨g5, i, none⟩))) ::
            rT (tN B64 1000000 (xs.getD i 0)) ::
            rT (tV (.slice (some ⟨g6, 0, none⟩) xs.length c6)) ::
            rT (tV (.int .i64 (i : Int))) ::
            rT (tV (.pointer (some ⟨g6, i, none⟩))) ::
            rT (tN B32 1000000 (xs.getD i 0)) ::
            rT (tV (.bool true)) ::
            rT (tV (.bool false)) ::
            rT (tV (.bool false)) ::
            rT (tV (.slice (some ⟨g5, 0, none⟩) xs.length c5)) ::
            rT (tV (.int .i64 (i : Int))) ::
            rT (tV (.pointer (some ⟨g5, i, none⟩))) ::
            rT (tN B64 1000000 (xs.getD i 0)) ::
            rT (tV (.slice (some ⟨g6, 0, none⟩) xs.length c6)) ::
            rT (tV (.int .i64 (i : Int))) ::
            rT (tV (.pointer (some ⟨g6, i, none⟩))) ::
            rT (tN B32 1000000 (xs.getD i 0)) ::
            rT (tV (.int .i64 (i : Int))) ::
            rT (tV (.bool true)) ::
            rT (tV (.bool false)) ::
            rT (tV (.bool false)) ::
            []) hz hd (by kernel_rfl) (by kernel_rfl) ?_ ?_
        · refine ⟨?_, ?_, ?_, ?_, ?_, ?_, ?_, ?_, ?_, ?_, ?_, ?_, ?_, ?_, ?_, ?_, ?_, ?_, ?_, ?_, ?_, ?_, ?_, trivial⟩
          · exact sMv rfl rfl rfl hz rfl (Gd.none_ rfl) rfl (Src.out (t := 5) (by kernel_rfl) S5 rfl)
          · exact sMv rfl rfl rfl hz rfl (Gd.none_ rfl) rfl (Src.out (t := 11) (by kernel_rfl) S11 rfl)
          · exact sIdx rfl rfl rfl hz rfl (Gd.none_ rfl) rfl (Src.dep (j := 0) (t := 85) (by kernel_rfl) (by kernel_rfl) rfl) (Src.dep (j := 1) (t := 86) (by kernel_rfl) (by kernel_rfl) rfl) (ia64 hi)
          · exact sLoadRow rfl rfl rfl hz rfl (Gd.none_ rfl) rfl (Src.dep (j := 2) (t := 87) (by kernel_rfl) (by kernel_rfl) rfl) (OwN.rw_ O5) rfl hi ldr64
          · exact sMv rfl rfl rfl hz rfl (Gd.none_ rfl) rfl (Src.out (t := 6) (by kernel_rfl) S6 rfl)
          · exact sMv rfl rfl rfl hz rfl (Gd.none_ rfl) rfl (Src.out (t := 11) (by kernel_rfl) S11 rfl)
          · exact sIdx rfl rfl rfl hz rfl (Gd.none_ rfl) rfl (Src.dep (j := 4) (t := 89) (by kernel_rfl) (by kernel_rfl) rfl) (Src.dep (j := 5) (t := 90) (by kernel_rfl) (by kernel_rfl) rfl) (ia32 hi)
          · exact sLoadRow rfl rfl rfl hz rfl (Gd.none_ rfl) rfl (Src.dep (j := 6) (t := 91) (by kernel_rfl) (by kernel_rfl) rfl) (OwN.rw_ O6) rfl hi ldr32
          · exact sCall rfl rfl rfl hz rfl (Gd.none_ rfl) rfl Try.func43 (by kernel_rfl) (by kernel_rfl) fun a γ w U => (by show Calls _ _ #[a.eval (.tmp 88), a.eval (.tmp 92)] _ _; exact l_same (Src.at_ (Src.dep (j := 3) (t := 88) (by kernel_rfl) (by kernel_rfl) rfl) U) (Src.at_ (Src.dep (j := 7) (t := 92) (by kernel_rfl) (by kernel_rfl) rfl) U) (by decide) (by decide))
          · exact sNot (b := true) rfl rfl rfl hz rfl (Gd.none_ rfl) rfl (Src.dep (j := 8) (t := 93) (by kernel_rfl) (by kernel_rfl) rfl)
          · exact sMv rfl rfl rfl hz rfl (Gd.none_ rfl) rfl (Src.dep (j := 9) (t := 94) (by kernel_rfl) (by kernel_rfl) rfl)
          · exact sMv rfl rfl rfl hz rfl (Gd.yes rfl rfl (Src.dep (j := 10) (t := 95) (by kernel_rfl) (by kernel_rfl) rfl) rfl) rfl (Src.out (t := 5) (by kernel_rfl) S5 rfl)
          · exact sMv rfl rfl rfl hz rfl (Gd.yes rfl rfl (Src.dep (j := 10) (t := 95) (by kernel_rfl) (by kernel_rfl) rfl) rfl) rfl (Src.out (t := 11) (by kernel_rfl) S11 rfl)
          · exact sIdx rfl rfl rfl hz rfl (Gd.yes rfl rfl (Src.dep (j := 10) (t := 95) (by kernel_rfl) (by kernel_rfl) rfl) rfl) rfl (Src.dep (j := 11) (t := 96) (by kernel_rfl) (by kernel_rfl) rfl) (Src.dep (j := 12) (t := 97) (by kernel_rfl) (by kernel_rfl) rfl) (ia64 hi)
          · exact sLoadRow rfl rfl rfl hz rfl (Gd.yes rfl rfl (Src.dep (j := 10) (t := 95) (by kernel_rfl) (by kernel_rfl) rfl) rfl) rfl (Src.dep (j := 13) (t := 98) (by kernel_rfl) (by kernel_rfl) rfl) (OwN.rw_ O5) rfl hi ldr64
          · exact sMv rfl rfl rfl hz rfl (Gd.yes rfl rfl (Src.dep (j := 10) (t := 95) (by kernel_rfl) (by kernel_rfl) rfl) rfl) rfl (Src.out (t := 6) (by kernel_rfl) S6 rfl)
          · exact sMv rfl rfl rfl hz rfl (Gd.yes rfl rfl (Src.dep (j := 10) (t := 95) (by kernel_rfl) (by kernel_rfl) rfl) rfl) rfl (Src.out (t := 11) (by kernel_rfl) S11 rfl)
          · exact sIdx rfl rfl rfl hz rfl (Gd.yes rfl rfl (Src.dep (j := 10) (t := 95) (by kernel_rfl) (by kernel_rfl) rfl) rfl) rfl (Src.dep (j := 15) (t := 100) (by kernel_rfl) (by kernel_rfl) rfl) (Src.dep (j := 16) (t := 101) (by kernel_rfl) (by kernel_rfl) rfl) (ia32 hi)
          · exact sLoadRow rfl rfl rfl hz rfl (Gd.yes rfl rfl (Src.dep (j := 10) (t := 95) (by kernel_rfl) (by kernel_rfl) rfl) rfl) rfl (Src.dep (j := 17) (t := 102) (by kernel_rfl) (by kernel_rfl) rfl) (OwN.rw_ O6) rfl hi ldr32
          · exact sMv rfl rfl rfl hz rfl (Gd.yes rfl rfl (Src.dep (j := 10) (t := 95) (by kernel_rfl) (by kernel_rfl) rfl) rfl) rfl (Src.out (t := 11) (by kernel_rfl) S11 rfl)
          · exact sCall rfl rfl rfl hz rfl (Gd.yes rfl rfl (Src.dep (j := 10) (t := 95) (by kernel_rfl) (by kernel_rfl) rfl) rfl) rfl Try.func27 (by kernel_rfl) (by kernel_rfl) fun a γ w U => (by show Calls _ _ #[a.eval (.tmp 99), a.eval (.tmp 103), a.eval (.tmp 104)] _ _; rw [show a.eval (.tmp 104) = .int .i64 (i : Int) from Src.at_ (Src.dep (j := 19) (t := 104) (by kernel_rfl) (by kernel_rfl) rfl) U]; exact l_told (Src.at_ (Src.dep (j := 14) (t := 99) (by kernel_rfl) (by kernel_rfl) rfl) U) (Src.at_ (Src.dep (j := 18) (t := 103) (by kernel_rfl) (by kernel_rfl) rfl) U) (by decide) (by decide) (by omega))
          · exact sNot (b := true) rfl rfl rfl hz rfl (Gd.yes rfl rfl (Src.dep (j := 10) (t := 95) (by kernel_rfl) (by kernel_rfl) rfl) rfl) rfl (Src.dep (j := 20) (t := 105) (by kernel_rfl) (by kernel_rfl) rfl)
          · exact sPickF rfl rfl rfl hz rfl (Gd.none_ rfl) rfl (Src.dep (j := 10) (t := 95) (by kernel_rfl) (by kernel_rfl) rfl) (Src.dep (j := 21) (t := 106) (by kernel_rfl) (by kernel_rfl) rfl)
        intro a' γ' W' hz' hd' hC hk hh
        replace S4 := hk 4 _ (by kernel_rfl) S4
        replace S5 := hk 5 _ (by kernel_rfl) S5
        replace S6 := hk 6 _ (by kernel_rfl) S6
        replace S11 := hk 11 _ (by kernel_rfl) S11
        replace S79 := hk 79 _ (by kernel_rfl) S79
        replace S80 := hk 80 _ (by kernel_rfl) S80
        replace S81 := hk 81 _ (by kernel_rfl) S81
        replace S82 := hk 82 _ (by kernel_rfl) S82
        replace HBy := RB.aft HBy hC (by intro m hm; simp at hm)
        replace HSc := RO.aft HSc hC (by intro m hm; simp at hm)
        replace O5 := OwN.aft O5 hC rfl
        replace O6 := OwN.aft O6 hC rfl
        have S85 := gotV hz' 0 hh rfl rfl rfl rfl
        have S86 := gotV hz' 1 hh rfl rfl rfl rfl
        have S87 := gotV hz' 2 hh rfl rfl rfl rfl
        obtain ⟨v88, S88, H88⟩ := got hz' 3 hh rfl rfl rfl rfl
        have S89 := gotV hz' 4 hh rfl rfl rfl rfl
        have S90 := gotV hz' 5 hh rfl rfl rfl rfl
        have S91 := gotV hz' 6 hh rfl rfl rfl rfl
        obtain ⟨v92, S92, H92⟩ := got hz' 7 hh rfl rfl rfl rfl
        have S93 := gotV hz' 8 hh rfl rfl rfl rfl
        have S94 := gotV hz' 9 hh rfl rfl rfl rfl
        have S95 := gotV hz' 10 hh rfl rfl rfl rfl
        have S96 := gotV hz' 11 hh rfl rfl rfl rfl
        have S97 := gotV hz' 12 hh rfl rfl rfl rfl
        have S98 := gotV hz' 13 hh rfl rfl rfl rfl
        obtain ⟨v99, S99, H99⟩ := got hz' 14 hh rfl rfl rfl rfl
        have S100 := gotV hz' 15 hh rfl rfl rfl rfl
        have S101 := gotV hz' 16 hh rfl rfl rfl rfl
        have S102 := gotV hz' 17 hh rfl rfl rfl rfl
        obtain ⟨v103, S103, H103⟩ := got hz' 18 hh rfl rfl rfl rfl
        have S104 := gotV hz' 19 hh rfl rfl rfl rfl
        have S105 := gotV hz' 20 hh rfl rfl rfl rfl
        have S106 := gotV hz' 21 hh rfl rfl rfl rfl
        have S107 := gotV hz' 22 hh rfl rfl rfl rfl
        replace HB := aft_call HB (RelC.below_nil hC)
        clear hC hk hh; replace hz := hz'; replace hd := hd'; clear hz' hd'
        refine wp_cond_false S107.ev ?_
        refine wp_skip ?_
        refine region_text (M := []) (
            rT (tV (.int .i64 (i : Int))) ::
            rT (tV (.int .i64 ((i + 1 : Nat) : Int))) ::
            rT (tV (.int .i64 ((i + 1 : Nat) : Int))) ::
            []) hz hd (by kernel_rfl) ?_ ?_
        · refine ⟨?_, ?_, ?_, trivial⟩
          · exact sMv rfl rfl rfl hz rfl (Gd.none_ rfl) rfl (Src.out (t := 11) (by kernel_rfl) S11 rfl)
          · exact sBin rfl rfl rfl hz rfl (Gd.none_ rfl) rfl (Src.dep (j := 0) (t := 83) (by kernel_rfl) (by kernel_rfl) rfl) (Src.const (.int .i64 1)) (fun w => by simp [go_sem, IntKind.wrap_i64]; omega)
          · exact sAs rfl rfl rfl hz rfl (Gd.none_ rfl) rfl (Src.dep (j := 1) (t := 84) (by kernel_rfl) (by kernel_rfl) rfl)
        intro a' γ' W' hz' hd' hC hk hh
        replace S4 := hk 4 _ (by kernel_rfl) S4
        replace S5 := hk 5 _ (by kernel_rfl) S5
        replace S6 := hk 6 _ (by kernel_rfl) S6
        clear S11
        replace S79 := hk 79 _ (by kernel_rfl) S79
        replace S80 := hk 80 _ (by kernel_rfl) S80
        replace S81 := hk 81 _ (by kernel_rfl) S81
        replace S82 := hk 82 _ (by kernel_rfl) S82
        replace S85 := hk 85 _ (by kernel_rfl) S85
        replace S86 := hk 86 _ (by kernel_rfl) S86
        replace S87 := hk 87 _ (by kernel_rfl) S87
        replace S88 := hk 88 _ (by kernel_rfl) S88
        replace H88 := Ty.aft _ H88 hC
        replace S89 := hk 89 _ (by kernel_rfl) S89
        replace S90 := hk 90 _ (by kernel_rfl) S90
        replace S91 := hk 91 _ (by kernel_rfl) S91
        replace S92 := hk 92 _ (by kernel_rfl) S92
        replace H92 := Ty.aft _ H92 hC
        replace S93 := hk 93 _ (by kernel_rfl) S93
        replace S94 := hk 94 _ (by kernel_rfl) S94
        replace S95 := hk 95 _ (by kernel_rfl) S95
        replace S96 := hk 96 _ (by kernel_rfl) S96
        replace S97 := hk 97 _ (by kernel_rfl) S97
        replace S98 := hk 98 _ (by kernel_rfl) S98
        replace S99 := hk 99 _ (by kernel_rfl) S99
        replace H99 := Ty.aft _ H99 hC
        replace S100 := hk 100 _ (by kernel_rfl) S100
        replace S101 := hk 101 _ (by kernel_rfl) S101
        replace S102 := hk 102 _ (by kernel_rfl) S102
        replace S103 := hk 103 _ (by kernel_rfl) S103
        replace H103 := Ty.aft _ H103 hC
        replace S104 := hk 104 _ (by kernel_rfl) S104
        replace S105 := hk 105 _ (by kernel_rfl) S105
        replace S106 := hk 106 _ (by kernel_rfl) S106
        replace S107 := hk 107 _ (by kernel_rfl) S107
        replace HBy := RB.aft HBy hC (by intro m hm; simp at hm)
        replace HSc := RO.aft HSc hC (by intro m hm; simp at hm)
        replace O5 := OwN.aft O5 hC rfl
        replace O6 := OwN.aft O6 hC rfl
        have S83 := gotV hz' 0 hh rfl rfl rfl rfl
        have S84 := gotV hz' 1 hh rfl rfl rfl rfl
        have S11 := gotV hz' 2 hh rfl rfl rfl rfl
        replace HB := aft_call HB (RelC.below_nil hC)
        clear hC hk hh; replace hz := hz'; replace hd := hd'; clear hz' hd'
        show ∃ n', n' < _ ∧ _
        refine ⟨_, ?_, i + 1, rfl, hz, hd, HB, S4, S5, S6, S11, HBy, HSc, O5, O6⟩
        omega
      · rw [decide_eq_false hc4] at S82
        refine wp_cond_false S82.ev ?_
        refine wp_exit ?_
        refine wp_seq ?_
        refine region_text (M := []) (
            rT (tV (.bool true)) ::
            rT (tV (.bool true)) ::
            []) hz hd (by kernel_rfl) ?_ ?_
        · refine ⟨?_, ?_, trivial⟩
          · exact sCall rfl rfl rfl hz rfl (Gd.none_ rfl) rfl Try.func21 (by kernel_rfl) (by kernel_rfl) fun a γ w U => (by show Calls _ _ #[] _ _; exact l_started)
          · exact sAs rfl rfl rfl hz rfl (Gd.none_ rfl) rfl (Src.dep (j := 0) (t := 108) (by kernel_rfl) (by kernel_rfl) rfl)
        intro a' γ' W' hz' hd' hC hk hh
        clear S4
        clear S5
        clear S6
        clear S11
        clear S79
        clear S80
        clear S81
        clear S82
        replace HBy := RB.aft HBy hC (by intro m hm; simp at hm)
        replace HSc := RO.aft HSc hC (by intro m hm; simp at hm)
        replace O5 := OwN.aft O5 hC rfl
        replace O6 := OwN.aft O6 hC rfl
        have S4 := gotV hz' 1 hh rfl rfl rfl rfl
        replace HB := aft_call HB (RelC.below_nil hC)
        clear hC hk hh; replace hz := hz'; replace hd := hd'; clear hz' hd'
        refine wp_ret ?_
        exact ret1 (by kernel_rfl) S4 hd ⟨_, rfl, rfl, HB⟩
    · refine region_text (M := []) (
          rT (tV (.int .i64 (i : Int))) ::
          rT (tV (.slice As ns cs)) ::
          rT (tV (.int .i64 (ns : Int))) ::
          rT (tV (.bool false)) ::
          rT (tV (.bool false)) ::
          rT tAny ::
          rT tAny ::
          rT (tV (.bool false)) ::
          []) hz hd (by kernel_rfl) ?_ ?_
      · refine ⟨?_, ?_, ?_, ?_, ?_, ?_, ?_, ?_, trivial⟩
        · exact sMv rfl rfl rfl hz rfl (Gd.none_ rfl) rfl (Src.out (t := 8) (by kernel_rfl) S8 rfl)
        · exact sMv rfl rfl rfl hz rfl (Gd.none_ rfl) rfl (Src.out (t := 1) (by kernel_rfl) S1 rfl)
        · exact sLen rfl rfl rfl hz rfl (Gd.none_ rfl) rfl (Src.dep (j := 1) (t := 45) (by kernel_rfl) (by kernel_rfl) rfl) (fun v w h => ⟨_, _, h⟩) len_t.2
        · exact sBin rfl rfl rfl hz rfl (Gd.none_ rfl) rfl (Src.dep (j := 0) (t := 44) (by kernel_rfl) (by kernel_rfl) rfl) (Src.dep (j := 2) (t := 46) (by kernel_rfl) (by kernel_rfl) rfl) (fun w => by first | (simp [go_sem, c1]; done) | (simp [go_sem]; omega))
        · exact sMv rfl rfl rfl hz rfl (Gd.none_ rfl) rfl (Src.dep (j := 3) (t := 47) (by kernel_rfl) (by kernel_rfl) rfl)
        · exact sSkip rfl rfl rfl hz rfl (Gd.no rfl rfl (Src.dep (j := 4) (t := 48) (by kernel_rfl) (by kernel_rfl) rfl) rfl)
        · exact sSkip rfl rfl rfl hz rfl (Gd.no rfl rfl (Src.dep (j := 4) (t := 48) (by kernel_rfl) (by kernel_rfl) rfl) rfl)
        · exact sPickF rfl rfl rfl hz rfl (Gd.none_ rfl) rfl (Src.dep (j := 4) (t := 48) (by kernel_rfl) (by kernel_rfl) rfl) (Src.const (.bool false))
      intro a' γ' W' hz' hd' hC hk hh
      replace S1 := hk 1 _ (by kernel_rfl) S1
      replace S4 := hk 4 _ (by kernel_rfl) S4
      replace S5 := hk 5 _ (by kernel_rfl) S5
      replace S6 := hk 6 _ (by kernel_rfl) S6
      replace S8 := hk 8 _ (by kernel_rfl) S8
      replace HBy := RB.aft HBy hC (by intro m hm; simp at hm)
      replace HSc := RO.aft HSc hC (by intro m hm; simp at hm)
      replace O5 := OwN.aft O5 hC rfl
      replace O6 := OwN.aft O6 hC rfl
      have S44 := gotV hz' 0 hh rfl rfl rfl rfl
      have S45 := gotV hz' 1 hh rfl rfl rfl rfl
      have S46 := gotV hz' 2 hh rfl rfl rfl rfl
      have S47 := gotV hz' 3 hh rfl rfl rfl rfl
      have S48 := gotV hz' 4 hh rfl rfl rfl rfl
      have S51 := gotV hz' 7 hh rfl rfl rfl rfl
      replace HB := aft_call HB (RelC.below_nil hC)
      clear hC hk hh; replace hz := hz'; replace hd := hd'; clear hz' hd'
      refine wp_cond_false S51.ev ?_
      refine wp_exit ?_
      refine wp_seq ?_
      refine wp_seq ?_
      refine region_text (M := []) (
          rT (tV (.int .i64 0)) ::
          []) hz hd (by kernel_rfl) ?_ ?_
      · refine ⟨?_, trivial⟩
        · exact sAs rfl rfl rfl hz rfl (Gd.none_ rfl) rfl (Src.const (.int .i64 0))
      intro a' γ' W' hz' hd' hC hk hh
      clear S1
      replace S4 := hk 4 _ (by kernel_rfl) S4
      replace S5 := hk 5 _ (by kernel_rfl) S5
      replace S6 := hk 6 _ (by kernel_rfl) S6
      clear S8
      clear S44
      clear S45
      clear S46
      clear S47
      clear S48
      clear S51
      replace HBy := RB.aft HBy hC (by intro m hm; simp at hm)
      replace HSc := RO.aft HSc hC (by intro m hm; simp at hm)
      replace O5 := OwN.aft O5 hC rfl
      replace O6 := OwN.aft O6 hC rfl
      have S11 := gotV hz' 0 hh rfl rfl rfl rfl
      replace HB := aft_call HB (RelC.below_nil hC)
      clear hC hk hh; replace hz := hz'; replace hd := hd'; clear hz' hd'
      refine wp_block ?_
      refine wp_loop_ghost (fun k a W => ∃ (i : Nat), k = xs.length - i ∧ a.tmps.size = 109 ∧ a.defers = [] ∧ Below w.heap.size w W ∧ Sl a 4 (.bool false) ∧ Sl a 5 (.slice (some ⟨g5, 0, none⟩) xs.length c5) ∧ Sl a 6 (.slice (some ⟨g6, 0, none⟩) xs.length c6) ∧ Sl a 11 (.int .i64 (i : Int)) ∧ RB Ab nb ls w.heap.size W ∧ RO As ns F w.heap.size W ∧ OwN B64 25 1000000 g5 c5 xs W ∧ OwN B32 44 1000000 g6 c6 xs W) _ ⟨0, rfl, hz, hd, HB, S4, S5, S6, S11, HBy, HSc, O5, O6⟩ ?_
      clear S4 S5 S6 S11 HBy HSc O5 O6 hz hd HB
      rintro k a W ⟨i, rfl, hz, hd, HB, S4, S5, S6, S11, HBy, HSc, O5, O6⟩
      refine wp_seq ?_
      refine wp_seq ?_
      refine region_text (M := []) (
          rT (tV (.int .i64 (i : Int))) ::
          rT (tV (.slice (some ⟨g5, 0, none⟩) xs.length c5)) ::
          rT (tV (.int .i64 (xs.length : Int))) ::
          rT (tV (.bool (decide (i < xs.length)))) ::
          []) hz hd (by kernel_rfl) ?_ ?_
      · refine ⟨?_, ?_, ?_, ?_, trivial⟩
        · exact sMv rfl rfl rfl hz rfl (Gd.none_ rfl) rfl (Src.out (t := 11) (by kernel_rfl) S11 rfl)
        · exact sMv rfl rfl rfl hz rfl (Gd.none_ rfl) rfl (Src.out (t := 5) (by kernel_rfl) S5 rfl)
        · exact sLen rfl rfl rfl hz rfl (Gd.none_ rfl) rfl (Src.dep (j := 1) (t := 80) (by kernel_rfl) (by kernel_rfl) rfl) (fun v w h => ⟨_, _, h⟩) len64
        · exact sBin rfl rfl rfl hz rfl (Gd.none_ rfl) rfl (Src.dep (j := 0) (t := 79) (by kernel_rfl) (by kernel_rfl) rfl) (Src.dep (j := 2) (t := 81) (by kernel_rfl) (by kernel_rfl) rfl) (fun w => by simp [go_sem])
      intro a' γ' W' hz' hd' hC hk hh
      replace S4 := hk 4 _ (by kernel_rfl) S4
      replace S5 := hk 5 _ (by kernel_rfl) S5
      replace S6 := hk 6 _ (by kernel_rfl) S6
      replace S11 := hk 11 _ (by kernel_rfl) S11
      replace HBy := RB.aft HBy hC (by intro m hm; simp at hm)
      replace HSc := RO.aft HSc hC (by intro m hm; simp at hm)
      replace O5 := OwN.aft O5 hC rfl
      replace O6 := OwN.aft O6 hC rfl
      have S79 := gotV hz' 0 hh rfl rfl rfl rfl
      have S80 := gotV hz' 1 hh rfl rfl rfl rfl
      have S81 := gotV hz' 2 hh rfl rfl rfl rfl
      have S82 := gotV hz' 3 hh rfl rfl rfl rfl
      replace HB := aft_call HB (RelC.below_nil hC)
      clear hC hk hh; replace hz := hz'; replace hd := hd'; clear hz' hd'
      by_cases hc5 : i < xs.length
      · rw [decide_eq_true hc5] at S82
        refine wp_cond_true S82.ev ?_
        have hi := hc5
        refine wp_skip ?_
        refine wp_seq ?_
        refine wp_block ?_
        refine wp_seq ?_
        refine region_drawn (M := []) (
            rT (tV (.slice (some ⟨g5, 0, none⟩) xs.length c5)) ::
            rT (tV (.int .i64 (i : Int))) ::
            rT (tV (.pointer (some ⟨g5, i, none⟩))) ::
            rT (tN B64 1000000 (xs.getD i 0)) ::
            rT (tV (.slice (some ⟨g6, 0, none⟩) xs.length c6)) ::
            rT (tV (.int .i64 (i : Int))) ::
            rT (tV (.pointer (some ⟨g6, i, none⟩))) ::
            rT (tN B32 1000000 (xs.getD i 0)) ::
            rT (tV (.bool true)) ::
            rT (tV (.bool false)) ::
            rT (tV (.bool false)) ::
            rT (tV (.slice (some ⟨g5, 0, none⟩) xs.length c5)) ::
            rT (tV (.int .i64 (i : Int))) ::
            rT (tV (.pointer (some ⟨g5, i, none⟩))) ::
            rT (tN B64 1000000 (xs.getD i 0)) ::
            rT (tV (.slice (some ⟨g6, 0, none⟩) xs.length c6)) ::
            rT (tV (.int .i64 (i : Int))) ::
            rT (tV (.pointer (some ⟨g6, i, none⟩))) ::
            rT (tN B32 1000000 (xs.getD i 0)) ::
            rT (tV (.int .i64 (i : Int))) ::
            rT (tV (.bool true)) ::
            rT (tV (.bool false)) ::
            rT (tV (.bool false)) ::
            []) hz hd (by kernel_rfl) (by kernel_rfl) ?_ ?_
        · refine ⟨?_, ?_, ?_, ?_, ?_, ?_, ?_, ?_, ?_, ?_, ?_, ?_, ?_, ?_, ?_, ?_, ?_, ?_, ?_, ?_, ?_, ?_, ?_, trivial⟩
          · exact sMv rfl rfl rfl hz rfl (Gd.none_ rfl) rfl (Src.out (t := 5) (by kernel_rfl) S5 rfl)
          · exact sMv rfl rfl rfl hz rfl (Gd.none_ rfl) rfl (Src.out (t := 11) (by kernel_rfl) S11 rfl)
          · exact sIdx rfl rfl rfl hz rfl (Gd.none_ rfl) rfl (Src.dep (j := 0) (t := 85) (by kernel_rfl) (by kernel_rfl) rfl) (Src.dep (j := 1) (t := 86) (by kernel_rfl) (by kernel_rfl) rfl) (ia64 hi)
          · exact sLoadRow rfl rfl rfl hz rfl (Gd.none_ rfl) rfl (Src.dep (j := 2) (t := 87) (by kernel_rfl) (by kernel_rfl) rfl) (OwN.rw_ O5) rfl hi ldr64
          · exact sMv rfl rfl rfl hz rfl (Gd.none_ rfl) rfl (Src.out (t := 6) (by kernel_rfl) S6 rfl)
          · exact sMv rfl rfl rfl hz rfl (Gd.none_ rfl) rfl (Src.out (t := 11) (by kernel_rfl) S11 rfl)
          · exact sIdx rfl rfl rfl hz rfl (Gd.none_ rfl) rfl (Src.dep (j := 4) (t := 89) (by kernel_rfl) (by kernel_rfl) rfl) (Src.dep (j := 5) (t := 90) (by kernel_rfl) (by kernel_rfl) rfl) (ia32 hi)
          · exact sLoadRow rfl rfl rfl hz rfl (Gd.none_ rfl) rfl (Src.dep (j := 6) (t := 91) (by kernel_rfl) (by kernel_rfl) rfl) (OwN.rw_ O6) rfl hi ldr32
          · exact sCall rfl rfl rfl hz rfl (Gd.none_ rfl) rfl Try.func43 (by kernel_rfl) (by kernel_rfl) fun a γ w U => (by show Calls _ _ #[a.eval (.tmp 88), a.eval (.tmp 92)] _ _; exact l_same (Src.at_ (Src.dep (j := 3) (t := 88) (by kernel_rfl) (by kernel_rfl) rfl) U) (Src.at_ (Src.dep (j := 7) (t := 92) (by kernel_rfl) (by kernel_rfl) rfl) U) (by decide) (by decide))
          · exact sNot (b := true) rfl rfl rfl hz rfl (Gd.none_ rfl) rfl (Src.dep (j := 8) (t := 93) (by kernel_rfl) (by kernel_rfl) rfl)
          · exact sMv rfl rfl rfl hz rfl (Gd.none_ rfl) rfl (Src.dep (j := 9) (t := 94) (by kernel_rfl) (by kernel_rfl) rfl)
          · exact sMv rfl rfl rfl hz rfl (Gd.yes rfl rfl (Src.dep (j := 10) (t := 95) (by kernel_rfl) (by kernel_rfl) rfl) rfl) rfl (Src.out (t := 5) (by kernel_rfl) S5 rfl)
          · exact sMv rfl rfl rfl hz rfl (Gd.yes rfl rfl (Src.dep (j := 10) (t := 95) (by kernel_rfl) (by kernel_rfl) rfl) rfl) rfl (Src.out (t := 11) (by kernel_rfl) S11 rfl)
          · exact sIdx rfl rfl rfl hz rfl (Gd.yes rfl rfl (Src.dep (j := 10) (t := 95) (by kernel_rfl) (by kernel_rfl) rfl) rfl) rfl (Src.dep (j := 11) (t := 96) (by kernel_rfl) (by kernel_rfl) rfl) (Src.dep (j := 12) (t := 97) (by kernel_rfl) (by kernel_rfl) rfl) (ia64 hi)
          · exact sLoadRow rfl rfl rfl hz rfl (Gd.yes rfl rfl (Src.dep (j := 10) (t := 95) (by kernel_rfl) (by kernel_rfl) rfl) rfl) rfl (Src.dep (j := 13) (t := 98) (by kernel_rfl) (by kernel_rfl) rfl) (OwN.rw_ O5) rfl hi ldr64
          · exact sMv rfl rfl rfl hz rfl (Gd.yes rfl rfl (Src.dep (j := 10) (t := 95) (by kernel_rfl) (by kernel_rfl) rfl) rfl) rfl (Src.out (t := 6) (by kernel_rfl) S6 rfl)
          · exact sMv rfl rfl rfl hz rfl (Gd.yes rfl rfl (Src.dep (j := 10) (t := 95) (by kernel_rfl) (by kernel_rfl) rfl) rfl) rfl (Src.out (t := 11) (by kernel_rfl) S11 rfl)
          · exact sIdx rfl rfl rfl hz rfl (Gd.yes rfl rfl (Src.dep (j := 10) (t := 95) (by kernel_rfl) (by kernel_rfl) rfl) rfl) rfl (Src.dep (j := 15) (t := 100) (by kernel_rfl) (by kernel_rfl) rfl) (Src.dep (j := 16) (t := 101) (by kernel_rfl) (by kernel_rfl) rfl) (ia32 hi)
          · exact sLoadRow rfl rfl rfl hz rfl (Gd.yes rfl rfl (Src.dep (j := 10) (t := 95) (by kernel_rfl) (by kernel_rfl) rfl) rfl) rfl (Src.dep (j := 17) (t := 102) (by kernel_rfl) (by kernel_rfl) rfl) (OwN.rw_ O6) rfl hi ldr32
          · exact sMv rfl rfl rfl hz rfl (Gd.yes rfl rfl (Src.dep (j := 10) (t := 95) (by kernel_rfl) (by kernel_rfl) rfl) rfl) rfl (Src.out (t := 11) (by kernel_rfl) S11 rfl)
          · exact sCall rfl rfl rfl hz rfl (Gd.yes rfl rfl (Src.dep (j := 10) (t := 95) (by kernel_rfl) (by kernel_rfl) rfl) rfl) rfl Try.func27 (by kernel_rfl) (by kernel_rfl) fun a γ w U => (by show Calls _ _ #[a.eval (.tmp 99), a.eval (.tmp 103), a.eval (.tmp 104)] _ _; rw [show a.eval (.tmp 104) = .int .i64 (i : Int) from Src.at_ (Src.dep (j := 19) (t := 104) (by kernel_rfl) (by kernel_rfl) rfl) U]; exact l_told (Src.at_ (Src.dep (j := 14) (t := 99) (by kernel_rfl) (by kernel_rfl) rfl) U) (Src.at_ (Src.dep (j := 18) (t := 103) (by kernel_rfl) (by kernel_rfl) rfl) U) (by decide) (by decide) (by omega))
          · exact sNot (b := true) rfl rfl rfl hz rfl (Gd.yes rfl rfl (Src.dep (j := 10) (t := 95) (by kernel_rfl) (by kernel_rfl) rfl) rfl) rfl (Src.dep (j := 20) (t := 105) (by kernel_rfl) (by kernel_rfl) rfl)
          · exact sPickF rfl rfl rfl hz rfl (Gd.none_ rfl) rfl (Src.dep (j := 10) (t := 95) (by kernel_rfl) (by kernel_rfl) rfl) (Src.dep (j := 21) (t := 106) (by kernel_rfl) (by kernel_rfl) rfl)
        intro a' γ' W' hz' hd' hC hk hh
        replace S4 := hk 4 _ (by kernel_rfl) S4
        replace S5 := hk 5 _ (by kernel_rfl) S5
        replace S6 := hk 6 _ (by kernel_rfl) S6
        replace S11 := hk 11 _ (by kernel_rfl) S11
        replace S79 := hk 79 _ (by kernel_rfl) S79
        replace S80 := hk 80 _ (by kernel_rfl) S80
        replace S81 := hk 81 _ (by kernel_rfl) S81
        replace S82 := hk 82 _ (by kernel_rfl) S82
        replace HBy := RB.aft HBy hC (by intro m hm; simp at hm)
        replace HSc := RO.aft HSc hC (by intro m hm; simp at hm)
        replace O5 := OwN.aft O5 hC rfl
        replace O6 := OwN.aft O6 hC rfl
        have S85 := gotV hz' 0 hh rfl rfl rfl rfl
        have S86 := gotV hz' 1 hh rfl rfl rfl rfl
        have S87 := gotV hz' 2 hh rfl rfl rfl rfl
        obtain ⟨v88, S88, H88⟩ := got hz' 3 hh rfl rfl rfl rfl
        have S89 := gotV hz' 4 hh rfl rfl rfl rfl
        have S90 := gotV hz' 5 hh rfl rfl rfl rfl
        have S91 := gotV hz' 6 hh rfl rfl rfl rfl
        obtain ⟨v92, S92, H92⟩ := got hz' 7 hh rfl rfl rfl rfl
        have S93 := gotV hz' 8 hh rfl rfl rfl rfl
        have S94 := gotV hz' 9 hh rfl rfl rfl rfl
        have S95 := gotV hz' 10 hh rfl rfl rfl rfl
        have S96 := gotV hz' 11 hh rfl rfl rfl rfl
        have S97 := gotV hz' 12 hh rfl rfl rfl rfl
        have S98 := gotV hz' 13 hh rfl rfl rfl rfl
        obtain ⟨v99, S99, H99⟩ := got hz' 14 hh rfl rfl rfl rfl
        have S100 := gotV hz' 15 hh rfl rfl rfl rfl
        have S101 := gotV hz' 16 hh rfl rfl rfl rfl
        have S102 := gotV hz' 17 hh rfl rfl rfl rfl
        obtain ⟨v103, S103, H103⟩ := got hz' 18 hh rfl rfl rfl rfl
        have S104 := gotV hz' 19 hh rfl rfl rfl rfl
        have S105 := gotV hz' 20 hh rfl rfl rfl rfl
        have S106 := gotV hz' 21 hh rfl rfl rfl rfl
        have S107 := gotV hz' 22 hh rfl rfl rfl rfl
        replace HB := aft_call HB (RelC.below_nil hC)
        clear hC hk hh; replace hz := hz'; replace hd := hd'; clear hz' hd'
        refine wp_cond_false S107.ev ?_
        refine wp_skip ?_
        refine region_text (M := []) (
            rT (tV (.int .i64 (i : Int))) ::
            rT (tV (.int .i64 ((i + 1 : Nat) : Int))) ::
            rT (tV (.int .i64 ((i + 1 : Nat) : Int))) ::
            []) hz hd (by kernel_rfl) ?_ ?_
        · refine ⟨?_, ?_, ?_, trivial⟩
          · exact sMv rfl rfl rfl hz rfl (Gd.none_ rfl) rfl (Src.out (t := 11) (by kernel_rfl) S11 rfl)
          · exact sBin rfl rfl rfl hz rfl (Gd.none_ rfl) rfl (Src.dep (j := 0) (t := 83) (by kernel_rfl) (by kernel_rfl) rfl) (Src.const (.int .i64 1)) (fun w => by simp [go_sem, IntKind.wrap_i64]; omega)
          · exact sAs rfl rfl rfl hz rfl (Gd.none_ rfl) rfl (Src.dep (j := 1) (t := 84) (by kernel_rfl) (by kernel_rfl) rfl)
        intro a' γ' W' hz' hd' hC hk hh
        replace S4 := hk 4 _ (by kernel_rfl) S4
        replace S5 := hk 5 _ (by kernel_rfl) S5
        replace S6 := hk 6 _ (by kernel_rfl) S6
        clear S11
        replace S79 := hk 79 _ (by kernel_rfl) S79
        replace S80 := hk 80 _ (by kernel_rfl) S80
        replace S81 := hk 81 _ (by kernel_rfl) S81
        replace S82 := hk 82 _ (by kernel_rfl) S82
        replace S85 := hk 85 _ (by kernel_rfl) S85
        replace S86 := hk 86 _ (by kernel_rfl) S86
        replace S87 := hk 87 _ (by kernel_rfl) S87
        replace S88 := hk 88 _ (by kernel_rfl) S88
        replace H88 := Ty.aft _ H88 hC
        replace S89 := hk 89 _ (by kernel_rfl) S89
        replace S90 := hk 90 _ (by kernel_rfl) S90
        replace S91 := hk 91 _ (by kernel_rfl) S91
        replace S92 := hk 92 _ (by kernel_rfl) S92
        replace H92 := Ty.aft _ H92 hC
        replace S93 := hk 93 _ (by kernel_rfl) S93
        replace S94 := hk 94 _ (by kernel_rfl) S94
        replace S95 := hk 95 _ (by kernel_rfl) S95
        replace S96 := hk 96 _ (by kernel_rfl) S96
        replace S97 := hk 97 _ (by kernel_rfl) S97
        replace S98 := hk 98 _ (by kernel_rfl) S98
        replace S99 := hk 99 _ (by kernel_rfl) S99
        replace H99 := Ty.aft _ H99 hC
        replace S100 := hk 100 _ (by kernel_rfl) S100
        replace S101 := hk 101 _ (by kernel_rfl) S101
        replace S102 := hk 102 _ (by kernel_rfl) S102
        replace S103 := hk 103 _ (by kernel_rfl) S103
        replace H103 := Ty.aft _ H103 hC
        replace S104 := hk 104 _ (by kernel_rfl) S104
        replace S105 := hk 105 _ (by kernel_rfl) S105
        replace S106 := hk 106 _ (by kernel_rfl) S106
        replace S107 := hk 107 _ (by kernel_rfl) S107
        replace HBy := RB.aft HBy hC (by intro m hm; simp at hm)
        replace HSc := RO.aft HSc hC (by intro m hm; simp at hm)
        replace O5 := OwN.aft O5 hC rfl
        replace O6 := OwN.aft O6 hC rfl
        have S83 := gotV hz' 0 hh rfl rfl rfl rfl
        have S84 := gotV hz' 1 hh rfl rfl rfl rfl
        have S11 := gotV hz' 2 hh rfl rfl rfl rfl
        replace HB := aft_call HB (RelC.below_nil hC)
        clear hC hk hh; replace hz := hz'; replace hd := hd'; clear hz' hd'
        show ∃ n', n' < _ ∧ _
        refine ⟨_, ?_, i + 1, rfl, hz, hd, HB, S4, S5, S6, S11, HBy, HSc, O5, O6⟩
        omega
      · rw [decide_eq_false hc5] at S82
        refine wp_cond_false S82.ev ?_
        refine wp_exit ?_
        refine wp_seq ?_
        refine region_text (M := []) (
            rT (tV (.bool true)) ::
            rT (tV (.bool true)) ::
            []) hz hd (by kernel_rfl) ?_ ?_
        · refine ⟨?_, ?_, trivial⟩
          · exact sCall rfl rfl rfl hz rfl (Gd.none_ rfl) rfl Try.func21 (by kernel_rfl) (by kernel_rfl) fun a γ w U => (by show Calls _ _ #[] _ _; exact l_started)
          · exact sAs rfl rfl rfl hz rfl (Gd.none_ rfl) rfl (Src.dep (j := 0) (t := 108) (by kernel_rfl) (by kernel_rfl) rfl)
        intro a' γ' W' hz' hd' hC hk hh
        clear S4
        clear S5
        clear S6
        clear S11
        clear S79
        clear S80
        clear S81
        clear S82
        replace HBy := RB.aft HBy hC (by intro m hm; simp at hm)
        replace HSc := RO.aft HSc hC (by intro m hm; simp at hm)
        replace O5 := OwN.aft O5 hC rfl
        replace O6 := OwN.aft O6 hC rfl
        have S4 := gotV hz' 1 hh rfl rfl rfl rfl
        replace HB := aft_call HB (RelC.below_nil hC)
        clear hC hk hh; replace hz := hz'; replace hd := hd'; clear hz' hd'
        refine wp_ret ?_
        exact ret1 (by kernel_rfl) S4 hd ⟨_, rfl, rfl, HB⟩
  · refine region_text (M := []) (
        rT (tV (.int .i64 (i : Int))) ::
        rT (tV (.slice Ab nb cb)) ::
        rT (tV (.int .i64 (nb : Int))) ::
        rT (tV (.bool false)) ::
        rT (tV (.bool false)) ::
        rT tAny ::
        rT tAny ::
        rT (tV (.bool false)) ::
        []) hz hd (by kernel_rfl) ?_ ?_
    · refine ⟨?_, ?_, ?_, ?_, ?_, ?_, ?_, ?_, trivial⟩
      · exact sMv rfl rfl rfl hz rfl (Gd.none_ rfl) rfl (Src.out (t := 7) (by kernel_rfl) S7 rfl)
      · exact sMv rfl rfl rfl hz rfl (Gd.none_ rfl) rfl (Src.out (t := 0) (by kernel_rfl) S0 rfl)
      · exact sLen rfl rfl rfl hz rfl (Gd.none_ rfl) rfl (Src.dep (j := 1) (t := 17) (by kernel_rfl) (by kernel_rfl) rfl) (fun v w h => ⟨_, _, h⟩) len_t.1
      · exact sBin rfl rfl rfl hz rfl (Gd.none_ rfl) rfl (Src.dep (j := 0) (t := 16) (by kernel_rfl) (by kernel_rfl) rfl) (Src.dep (j := 2) (t := 18) (by kernel_rfl) (by kernel_rfl) rfl) (fun w => by first | (simp [go_sem, c1]; done) | (simp [go_sem]; omega))
      · exact sMv rfl rfl rfl hz rfl (Gd.none_ rfl) rfl (Src.dep (j := 3) (t := 19) (by kernel_rfl) (by kernel_rfl) rfl)
      · exact sSkip rfl rfl rfl hz rfl (Gd.no rfl rfl (Src.dep (j := 4) (t := 20) (by kernel_rfl) (by kernel_rfl) rfl) rfl)
      · exact sSkip rfl rfl rfl hz rfl (Gd.no rfl rfl (Src.dep (j := 4) (t := 20) (by kernel_rfl) (by kernel_rfl) rfl) rfl)
      · exact sPickF rfl rfl rfl hz rfl (Gd.none_ rfl) rfl (Src.dep (j := 4) (t := 20) (by kernel_rfl) (by kernel_rfl) rfl) (Src.const (.bool false))
    intro a' γ' W' hz' hd' hC hk hh
    replace S0 := hk 0 _ (by kernel_rfl) S0
    replace S1 := hk 1 _ (by kernel_rfl) S1
    replace S4 := hk 4 _ (by kernel_rfl) S4
    replace S5 := hk 5 _ (by kernel_rfl) S5
    replace S6 := hk 6 _ (by kernel_rfl) S6
    replace S7 := hk 7 _ (by kernel_rfl) S7
    replace HBy := RB.aft HBy hC (by intro m hm; simp at hm)
    replace HSc := RO.aft HSc hC (by intro m hm; simp at hm)
    replace O5 := OwN.aft O5 hC rfl
    replace O6 := OwN.aft O6 hC rfl
    have S16 := gotV hz' 0 hh rfl rfl rfl rfl
    have S17 := gotV hz' 1 hh rfl rfl rfl rfl
    have S18 := gotV hz' 2 hh rfl rfl rfl rfl
    have S19 := gotV hz' 3 hh rfl rfl rfl rfl
    have S20 := gotV hz' 4 hh rfl rfl rfl rfl
    have S23 := gotV hz' 7 hh rfl rfl rfl rfl
    replace HB := aft_call HB (RelC.below_nil hC)
    clear hC hk hh; replace hz := hz'; replace hd := hd'; clear hz' hd'
    refine wp_cond_false S23.ev ?_
    refine wp_exit ?_
    refine wp_seq ?_
    refine wp_seq ?_
    refine region_text (M := []) (
        rT (tV (.int .i64 0)) ::
        []) hz hd (by kernel_rfl) ?_ ?_
    · refine ⟨?_, trivial⟩
      · exact sAs rfl rfl rfl hz rfl (Gd.none_ rfl) rfl (Src.const (.int .i64 0))
    intro a' γ' W' hz' hd' hC hk hh
    clear S0
    replace S1 := hk 1 _ (by kernel_rfl) S1
    replace S4 := hk 4 _ (by kernel_rfl) S4
    replace S5 := hk 5 _ (by kernel_rfl) S5
    replace S6 := hk 6 _ (by kernel_rfl) S6
    clear S7
    clear S16
    clear S17
    clear S18
    clear S19
    clear S20
    clear S23
    replace HBy := RB.aft HBy hC (by intro m hm; simp at hm)
    replace HSc := RO.aft HSc hC (by intro m hm; simp at hm)
    replace O5 := OwN.aft O5 hC rfl
    replace O6 := OwN.aft O6 hC rfl
    have S8 := gotV hz' 0 hh rfl rfl rfl rfl
    replace HB := aft_call HB (RelC.below_nil hC)
    clear hC hk hh; replace hz := hz'; replace hd := hd'; clear hz' hd'
    refine wp_block ?_
    refine wp_loop_ghost (fun k a W => ∃ (i : Nat) (xs : List Nat) (g5 : Nat) (c5 : Nat) (g6 : Nat) (c6 : Nat), k = 18 - i ∧ a.tmps.size = 109 ∧ a.defers = [] ∧ Below w.heap.size w W ∧ Sl a 1 (.slice As ns cs) ∧ Sl a 4 (.bool false) ∧ Sl a 5 (.slice (some ⟨g5, 0, none⟩) xs.length c5) ∧ Sl a 6 (.slice (some ⟨g6, 0, none⟩) xs.length c6) ∧ Sl a 8 (.int .i64 (i : Int)) ∧ RB Ab nb ls w.heap.size W ∧ RO As ns F w.heap.size W ∧ OwN B64 25 1000000 g5 c5 xs W ∧ OwN B32 44 1000000 g6 c6 xs W ∧ w.heap.size ≤ g5 ∧ w.heap.size ≤ g6 ∧ 0 < xs.length ∧ xs.length ≤ i + 7 ∧ i ≤ 18) _ ⟨0, xs, g5, c5, g6, c6, rfl, hz, hd, HB, S1, S4, S5, S6, S8, HBy, HSc, O5, O6, b5, b6, hx0, (by omega)⟩ ?_
    clear S1 S4 S5 S6 S8 HBy HSc O5 O6 hz hd HB
    rintro k a W ⟨i, xs, g5, c5, g6, c6, rfl, hz, hd, HB, S1, S4, S5, S6, S8, HBy, HSc, O5, O6, b5, b6, hx0, hx1⟩
    refine wp_seq ?_
    refine wp_seq ?_
    rcases three i ns 18 with ⟨c1, c2⟩ | ⟨c1, c2⟩ | c1
    · refine region_text (M := []) (
          rT (tV (.int .i64 (i : Int))) ::
          rT (tV (.slice As ns cs)) ::
          rT (tV (.int .i64 (ns : Int))) ::
          rT (tV (.bool true)) ::
          rT (tV (.bool true)) ::
          rT (tV (.int .i64 (i : Int))) ::
          rT (tV (.bool true)) ::
          rT (tV (.bool true)) ::
          []) hz hd (by kernel_rfl) ?_ ?_
      · refine ⟨?_, ?_, ?_, ?_, ?_, ?_, ?_, ?_, trivial⟩
        · exact sMv rfl rfl rfl hz rfl (Gd.none_ rfl) rfl (Src.out (t := 8) (by kernel_rfl) S8 rfl)
        · exact sMv rfl rfl rfl hz rfl (Gd.none_ rfl) rfl (Src.out (t := 1) (by kernel_rfl) S1 rfl)
        · exact sLen rfl rfl rfl hz rfl (Gd.none_ rfl) rfl (Src.dep (j := 1) (t := 45) (by kernel_rfl) (by kernel_rfl) rfl) (fun v w h => ⟨_, _, h⟩) len_t.2
        · exact sBin rfl rfl rfl hz rfl (Gd.none_ rfl) rfl (Src.dep (j := 0) (t := 44) (by kernel_rfl) (by kernel_rfl) rfl) (Src.dep (j := 2) (t := 46) (by kernel_rfl) (by kernel_rfl) rfl) (fun w => by first | (simp [go_sem, c1]; done) | (simp [go_sem]; omega))
        · exact sMv rfl rfl rfl hz rfl (Gd.none_ rfl) rfl (Src.dep (j := 3) (t := 47) (by kernel_rfl) (by kernel_rfl) rfl)
        · exact sMv rfl rfl rfl hz rfl (Gd.yes rfl rfl (Src.dep (j := 4) (t := 48) (by kernel_rfl) (by kernel_rfl) rfl) rfl) rfl (Src.out (t := 8) (by kernel_rfl) S8 rfl)
        · exact sBin rfl rfl rfl hz rfl (Gd.yes rfl rfl (Src.dep (j := 4) (t := 48) (by kernel_rfl) (by kernel_rfl) rfl) rfl) rfl (Src.dep (j := 5) (t := 49) (by kernel_rfl) (by kernel_rfl) rfl) (Src.const (.int .i64 18)) (fun w => by first | (simp [go_sem, c2]; done) | (simp [go_sem]; omega))
        · exact sPickT rfl rfl rfl hz rfl (Gd.none_ rfl) rfl (Src.dep (j := 4) (t := 48) (by kernel_rfl) (by kernel_rfl) rfl) (Src.dep (j := 6) (t := 50) (by kernel_rfl) (by kernel_rfl) rfl)
      intro a' γ' W' hz' hd' hC hk hh
      replace S1 := hk 1 _ (by kernel_rfl) S1
      replace S4 := hk 4 _ (by kernel_rfl) S4
      replace S5 := hk 5 _ (by kernel_rfl) S5
      replace S6 := hk 6 _ (by kernel_rfl) S6
      replace S8 := hk 8 _ (by kernel_rfl) S8
      replace HBy := RB.aft HBy hC (by intro m hm; simp at hm)
      replace HSc := RO.aft HSc hC (by intro m hm; simp at hm)
      replace O5 := OwN.aft O5 hC rfl
      replace O6 := OwN.aft O6 hC rfl
      have S44 := gotV hz' 0 hh rfl rfl rfl rfl
      have S45 := gotV hz' 1 hh rfl rfl rfl rfl
      have S46 := gotV hz' 2 hh rfl rfl rfl rfl
      have S47 := gotV hz' 3 hh rfl rfl rfl rfl
      have S48 := gotV hz' 4 hh rfl rfl rfl rfl
      have S49 := gotV hz' 5 hh rfl rfl rfl rfl
      have S50 := gotV hz' 6 hh rfl rfl rfl rfl
      have S51 := gotV hz' 7 hh rfl rfl rfl rfl
      replace HB := aft_call HB (RelC.below_nil hC)
      clear hC hk hh; replace hz := hz'; replace hd := hd'; clear hz' hd'
      refine wp_cond_true S51.ev ?_
      refine wp_skip ?_
      refine wp_seq ?_
      refine wp_block ?_
      refine wp_seq ?_
      obtain ⟨gs, os, hA, hgs, hcs⟩ := HSc i c1
      obtain ⟨z, hz0⟩ := l_after xs hx0 (by omega) (F (i * 4 + 0)) (F (i * 4 + 1)) (F (i * 4 + 2)) (F (i * 4 + 3))
      refine region_text (M := []) (
          rT (tV (.slice (some ⟨g5, 0, none⟩) xs.length c5)) ::
          rT (tV (.slice (some ⟨g6, 0, none⟩) xs.length c6)) ::
          rT (tV (.slice As ns cs)) ::
          rT (tV (.int .i64 (i : Int))) ::
          rT (tV (.pointer (some ⟨gs, os + i * 4, none⟩))) ::
          rT (tV (.agg #[.int .i64 (F (i * 4 + 0)), .int .i64 (F (i * 4 + 1)), .int .i64 (F (i * 4 + 2)), .int .i64 (F (i * 4 + 3))])) ::
          rT (tT [tN B64 20000000 z, tN B32 20000000 z]) ::
          rT (tT [tN B64 20000000 z, tN B32 20000000 z]) ::
          rT (tN B64 20000000 z) ::
          rT (tN B32 20000000 z) ::
          rVar 10 25 1 ::
          rVar 11 44 1 ::
          rB 10 25 (tN B64 20000000 z) (some 10) 11 ::
          rB 11 44 (tN B32 20000000 z) (some 11) 12 ::
          []) hz hd (by kernel_rfl) ?_ ?_
      · refine ⟨?_, ?_, ?_, ?_, ?_, ?_, ?_, ?_, ?_, ?_, ?_, ?_, ?_, ?_, trivial⟩
        · exact sMv rfl rfl rfl hz rfl (Gd.none_ rfl) rfl (Src.out (t := 5) (by kernel_rfl) S5 rfl)
        · exact sMv rfl rfl rfl hz rfl (Gd.none_ rfl) rfl (Src.out (t := 6) (by kernel_rfl) S6 rfl)
        · exact sMv rfl rfl rfl hz rfl (Gd.none_ rfl) rfl (Src.out (t := 1) (by kernel_rfl) S1 rfl)
        · exact sMv rfl rfl rfl hz rfl (Gd.none_ rfl) rfl (Src.out (t := 8) (by kernel_rfl) S8 rfl)
        · exact sIdxV rfl rfl rfl hz rfl (Gd.none_ rfl) rfl (Src.dep (j := 2) (t := 57) (by kernel_rfl) (by kernel_rfl) rfl) (Src.dep (j := 3) (t := 58) (by kernel_rfl) (by kernel_rfl) rfl) (ix_op hA c1)
        · exact sLoadV rfl rfl rfl hz rfl (Gd.none_ rfl) rfl (Src.dep (j := 4) (t := 59) (by kernel_rfl) (by kernel_rfl) rfl) (fun γ w hC => ⟨_, ld_op (fun f hf => cell_aft (hcs f hf) hC hgs (by intro m hm; simp at hm)), rfl⟩)
        · exact sCall rfl rfl rfl hz rfl (Gd.none_ rfl) rfl Try.func44 (by kernel_rfl) (by kernel_rfl) fun a γ w U => (by show Calls _ _ #[a.eval (.tmp 55), a.eval (.tmp 56), a.eval (.tmp 60)] _ _; rw [show a.eval (.tmp 55) = .slice (some ⟨g5, 0, none⟩) xs.length c5 from Src.at_ (Src.dep (j := 0) (t := 55) (by kernel_rfl) (by kernel_rfl) rfl) U, show a.eval (.tmp 56) = .slice (some ⟨g6, 0, none⟩) xs.length c6 from Src.at_ (Src.dep (j := 1) (t := 56) (by kernel_rfl) (by kernel_rfl) rfl) U, show a.eval (.tmp 60) = .agg #[.int .i64 (F (i * 4 + 0)), .int .i64 (F (i * 4 + 1)), .int .i64 (F (i * 4 + 2)), .int .i64 (F (i * 4 + 3))] from Src.at_ (Src.dep (j := 5) (t := 60) (by kernel_rfl) (by kernel_rfl) rfl) U]; exact hz0 _ _ _ _ _ (Rw.aft (OwN.rw_ O5) U.c rfl) (Rw.aft (OwN.rw_ O6) U.c rfl))
        · exact sMv rfl rfl rfl hz rfl (Gd.none_ rfl) rfl (Src.dep (j := 6) (t := 61) (by kernel_rfl) (by kernel_rfl) rfl)
        · exact sExt rfl rfl rfl hz rfl (Gd.none_ rfl) rfl (Src.dep (j := 7) (t := 54) (by kernel_rfl) (by kernel_rfl) rfl) rfl
        · exact sExt rfl rfl rfl hz rfl (Gd.none_ rfl) rfl (Src.dep (j := 7) (t := 54) (by kernel_rfl) (by kernel_rfl) rfl) rfl
        · exact sAlloc rfl rfl rfl hz rfl rfl rfl rfl nd_slice al_n64
        · exact sAlloc rfl rfl rfl hz rfl rfl rfl rfl nd_slice al_n32
        · exact sStore rfl rfl rfl rfl rfl (by kernel_rfl) (by kernel_rfl) rfl (Src.dep (j := 8) (t := 62) (by kernel_rfl) (by kernel_rfl) rfl) st_n64
        · exact sStore rfl rfl rfl rfl rfl (by kernel_rfl) (by kernel_rfl) rfl (Src.dep (j := 9) (t := 63) (by kernel_rfl) (by kernel_rfl) rfl) st_n32
      intro a' γ' W' hz' hd' hC hk hh
      have tg5 := O5.lt
      have tg6 := O6.lt
      replace S1 := hk 1 _ (by kernel_rfl) S1
      replace S4 := hk 4 _ (by kernel_rfl) S4
      replace S5 := hk 5 _ (by kernel_rfl) S5
      replace S6 := hk 6 _ (by kernel_rfl) S6
      replace S8 := hk 8 _ (by kernel_rfl) S8
      replace S44 := hk 44 _ (by kernel_rfl) S44
      replace S45 := hk 45 _ (by kernel_rfl) S45
      replace S46 := hk 46 _ (by kernel_rfl) S46
      replace S47 := hk 47 _ (by kernel_rfl) S47
      replace S48 := hk 48 _ (by kernel_rfl) S48
      replace S49 := hk 49 _ (by kernel_rfl) S49
      replace S50 := hk 50 _ (by kernel_rfl) S50
      replace S51 := hk 51 _ (by kernel_rfl) S51
      replace HBy := RB.aft HBy hC (by intro m hm; simp at hm)
      replace HSc := RO.aft HSc hC (by intro m hm; simp at hm)
      replace O5 := OwN.aft O5 hC rfl
      replace O6 := OwN.aft O6 hC rfl
      have S55 := gotV hz' 0 hh rfl rfl rfl rfl
      have S56 := gotV hz' 1 hh rfl rfl rfl rfl
      have S57 := gotV hz' 2 hh rfl rfl rfl rfl
      have S58 := gotV hz' 3 hh rfl rfl rfl rfl
      have S59 := gotV hz' 4 hh rfl rfl rfl rfl
      have S60 := gotV hz' 5 hh rfl rfl rfl rfl
      obtain ⟨v61, S61, H61⟩ := got hz' 6 hh rfl rfl rfl rfl
      obtain ⟨v54, S54, H54⟩ := got hz' 7 hh rfl rfl rfl rfl
      obtain ⟨v62, S62, H62⟩ := got hz' 8 hh rfl rfl rfl rfl
      obtain ⟨v63, S63, H63⟩ := got hz' 9 hh rfl rfl rfl rfl
      obtain ⟨p6, S9, Cp6, lp6, gp6⟩ := gotB hz' 12 hC hh rfl rfl rfl rfl rfl rfl
      obtain ⟨p7, S10, Cp7, lp7, gp7⟩ := gotB hz' 13 hC hh rfl rfl rfl rfl rfl rfl
      have n_p6_g5 : p6 ≠ g5 := by omega
      have n_p6_g6 : p6 ≠ g6 := by omega
      have n_p7_g5 : p7 ≠ g5 := by omega
      have n_p7_g6 : p7 ≠ g6 := by omega
      clear tg5 tg6
      clear lp6 gp6 lp7 gp7
      replace HB := aft_call HB (RelC.below_nil hC)
      clear hC hk hh; replace hz := hz'; replace hd := hd'; clear hz' hd'
      refine wp_seq ?_
      refine wp_seq ?_
      refine region_text (M := []) (
          rT (tN B64 20000000 z) ::
          rT (tN B32 20000000 z) ::
          rT (tV (.bool true)) ::
          rT (tV (.bool false)) ::
          []) hz hd (by kernel_rfl) ?_ ?_
      · refine ⟨?_, ?_, ?_, ?_, trivial⟩
        · exact sLoad rfl rfl rfl hz rfl (Gd.none_ rfl) rfl (Src.out (t := 9) (by kernel_rfl) S9 rfl) Cp6 rfl ld_n64
        · exact sLoad rfl rfl rfl hz rfl (Gd.none_ rfl) rfl (Src.out (t := 10) (by kernel_rfl) S10 rfl) Cp7 rfl ld_n32
        · exact sCall rfl rfl rfl hz rfl (Gd.none_ rfl) rfl Try.func43 (by kernel_rfl) (by kernel_rfl) fun a γ w U => (by show Calls _ _ #[a.eval (.tmp 64), a.eval (.tmp 65)] _ _; exact l_same (Src.at_ (Src.dep (j := 0) (t := 64) (by kernel_rfl) (by kernel_rfl) rfl) U) (Src.at_ (Src.dep (j := 1) (t := 65) (by kernel_rfl) (by kernel_rfl) rfl) U) (by decide) (by decide))
        · exact sNot (b := true) rfl rfl rfl hz rfl (Gd.none_ rfl) rfl (Src.dep (j := 2) (t := 66) (by kernel_rfl) (by kernel_rfl) rfl)
      intro a' γ' W' hz' hd' hC hk hh
      replace Cp6 := Cell.aft Cp6 hC rfl
      replace Cp7 := Cell.aft Cp7 hC rfl
      replace S1 := hk 1 _ (by kernel_rfl) S1
      replace S4 := hk 4 _ (by kernel_rfl) S4
      replace S5 := hk 5 _ (by kernel_rfl) S5
      replace S6 := hk 6 _ (by kernel_rfl) S6
      replace S8 := hk 8 _ (by kernel_rfl) S8
      replace S44 := hk 44 _ (by kernel_rfl) S44
      replace S45 := hk 45 _ (by kernel_rfl) S45
      replace S46 := hk 46 _ (by kernel_rfl) S46
      replace S47 := hk 47 _ (by kernel_rfl) S47
      replace S48 := hk 48 _ (by kernel_rfl) S48
      replace S49 := hk 49 _ (by kernel_rfl) S49
      replace S50 := hk 50 _ (by kernel_rfl) S50
      replace S51 := hk 51 _ (by kernel_rfl) S51
      replace S55 := hk 55 _ (by kernel_rfl) S55
      replace S56 := hk 56 _ (by kernel_rfl) S56
      replace S57 := hk 57 _ (by kernel_rfl) S57
      replace S58 := hk 58 _ (by kernel_rfl) S58
      replace S59 := hk 59 _ (by kernel_rfl) S59
      replace S60 := hk 60 _ (by kernel_rfl) S60
      replace S61 := hk 61 _ (by kernel_rfl) S61
      replace H61 := Ty.aft _ H61 hC
      replace S54 := hk 54 _ (by kernel_rfl) S54
      replace H54 := Ty.aft _ H54 hC
      replace S62 := hk 62 _ (by kernel_rfl) S62
      replace H62 := Ty.aft _ H62 hC
      replace S63 := hk 63 _ (by kernel_rfl) S63
      replace H63 := Ty.aft _ H63 hC
      replace S9 := hk 9 _ (by kernel_rfl) S9
      replace S10 := hk 10 _ (by kernel_rfl) S10
      replace HBy := RB.aft HBy hC (by intro m hm; simp at hm)
      replace HSc := RO.aft HSc hC (by intro m hm; simp at hm)
      replace O5 := OwN.aft O5 hC rfl
      replace O6 := OwN.aft O6 hC rfl
      obtain ⟨v64, S64, H64⟩ := got hz' 0 hh rfl rfl rfl rfl
      obtain ⟨v65, S65, H65⟩ := got hz' 1 hh rfl rfl rfl rfl
      have S66 := gotV hz' 2 hh rfl rfl rfl rfl
      have S67 := gotV hz' 3 hh rfl rfl rfl rfl
      replace HB := aft_call HB (RelC.below_nil hC)
      clear hC hk hh; replace hz := hz'; replace hd := hd'; clear hz' hd'
      refine wp_cond_false S67.ev ?_
      refine wp_skip ?_
      refine wp_seq ?_
      refine region_text (M := []) (
          rT (tN B32 20000000 z) ::
          rT (tV (.int .i64 ((bl z : Nat) : Int))) ::
          rT (tV (.bool (decide (bl z < 16000)))) ::
          []) hz hd (by kernel_rfl) ?_ ?_
      · refine ⟨?_, ?_, ?_, trivial⟩
        · exact sLoad rfl rfl rfl hz rfl (Gd.none_ rfl) rfl (Src.out (t := 10) (by kernel_rfl) S10 rfl) Cp7 rfl ld_n32
        · exact sCall rfl rfl rfl hz rfl (Gd.none_ rfl) rfl Try.func45 (by kernel_rfl) (by kernel_rfl) fun a γ w U => (by show Calls _ _ #[a.eval (.tmp 68)] _ _; exact d_len (Src.at_ (Src.dep (j := 0) (t := 68) (by kernel_rfl) (by kernel_rfl) rfl) U) (by decide))
        · exact sBin rfl rfl rfl hz rfl (Gd.none_ rfl) rfl (Src.dep (j := 1) (t := 69) (by kernel_rfl) (by kernel_rfl) rfl) (Src.const (.int .i64 16000)) (fun w => by simp [go_sem]; omega)
      intro a' γ' W' hz' hd' hC hk hh
      replace Cp6 := Cell.aft Cp6 hC rfl
      replace Cp7 := Cell.aft Cp7 hC rfl
      replace S1 := hk 1 _ (by kernel_rfl) S1
      replace S4 := hk 4 _ (by kernel_rfl) S4
      replace S5 := hk 5 _ (by kernel_rfl) S5
      replace S6 := hk 6 _ (by kernel_rfl) S6
      replace S8 := hk 8 _ (by kernel_rfl) S8
      replace S44 := hk 44 _ (by kernel_rfl) S44
      replace S45 := hk 45 _ (by kernel_rfl) S45
      replace S46 := hk 46 _ (by kernel_rfl) S46
      replace S47 := hk 47 _ (by kernel_rfl) S47
      replace S48 := hk 48 _ (by kernel_rfl) S48
      replace S49 := hk 49 _ (by kernel_rfl) S49
      replace S50 := hk 50 _ (by kernel_rfl) S50
      replace S51 := hk 51 _ (by kernel_rfl) S51
      replace S55 := hk 55 _ (by kernel_rfl) S55
      replace S56 := hk 56 _ (by kernel_rfl) S56
      replace S57 := hk 57 _ (by kernel_rfl) S57
      replace S58 := hk 58 _ (by kernel_rfl) S58
      replace S59 := hk 59 _ (by kernel_rfl) S59
      replace S60 := hk 60 _ (by kernel_rfl) S60
      replace S61 := hk 61 _ (by kernel_rfl) S61
      replace H61 := Ty.aft _ H61 hC
      replace S54 := hk 54 _ (by kernel_rfl) S54
      replace H54 := Ty.aft _ H54 hC
      replace S62 := hk 62 _ (by kernel_rfl) S62
      replace H62 := Ty.aft _ H62 hC
      replace S63 := hk 63 _ (by kernel_rfl) S63
      replace H63 := Ty.aft _ H63 hC
      replace S9 := hk 9 _ (by kernel_rfl) S9
      replace S10 := hk 10 _ (by kernel_rfl) S10
      replace S64 := hk 64 _ (by kernel_rfl) S64
      replace H64 := Ty.aft _ H64 hC
      replace S65 := hk 65 _ (by kernel_rfl) S65
      replace H65 := Ty.aft _ H65 hC
      replace S66 := hk 66 _ (by kernel_rfl) S66
      replace S67 := hk 67 _ (by kernel_rfl) S67
      replace HBy := RB.aft HBy hC (by intro m hm; simp at hm)
      replace HSc := RO.aft HSc hC (by intro m hm; simp at hm)
      replace O5 := OwN.aft O5 hC rfl
      replace O6 := OwN.aft O6 hC rfl
      obtain ⟨v68, S68, H68⟩ := got hz' 0 hh rfl rfl rfl rfl
      have S69 := gotV hz' 1 hh rfl rfl rfl rfl
      have S70 := gotV hz' 2 hh rfl rfl rfl rfl
      replace HB := aft_call HB (RelC.below_nil hC)
      clear hC hk hh; replace hz := hz'; replace hd := hd'; clear hz' hd'
      by_cases hc8 : bl z < 16000
      · rw [decide_eq_true hc8] at S70
        refine wp_cond_true S70.ev ?_
        have hbl := hc8
        refine wp_seq ?_
        have n_g6_g5 : g6 ≠ g5 := OwN.ne O6 O5 (by decide)
        refine region_text (M := [g5]) (
            rT (tV (.slice (some ⟨g5, 0, none⟩) xs.length c5)) ::
            rT (tN B64 20000000 z) ::
            rL 2 25 (tN B64 1000000 z) ::
            rA 0 B64 25 1000000 w.heap.size (xs ++ [z]) 1000 ::
            rA 0 B64 25 1000000 w.heap.size (xs ++ [z]) 0 ::
            []) hz hd (by kernel_rfl) ?_ ?_
        · refine ⟨?_, ?_, ?_, ?_, ?_, trivial⟩
          · exact sMv rfl rfl rfl hz rfl (Gd.none_ rfl) rfl (Src.out (t := 5) (by kernel_rfl) S5 rfl)
          · exact sLoad rfl rfl rfl hz rfl (Gd.none_ rfl) rfl (Src.out (t := 9) (by kernel_rfl) S9 rfl) Cp6 (by simp [tagOf, n_p6_g5]) ld_n64
          · exact sLit rfl rfl rfl hz rfl rfl rfl (Src.to (Src.dep (j := 1) (t := 72) (by kernel_rfl) (by kernel_rfl) rfl) (tN_bl (k := 64) rfl (by decide) (by decide) hbl)) bl_n64
          · exact sApp (j := 2) rfl rfl rfl hz rfl rfl rfl (Src.dep (j := 0) (t := 71) (by kernel_rfl) (by kernel_rfl) rfl) (by kernel_rfl) (by kernel_rfl) rfl O5 (by simp [tagOf]) b5 HB.size (by kernel_rfl) Try.underlying69 i5.1 i5.2.1 i5.2.2.1 i5.2.2.2 rfl nd_sl (by unfold maxLen; omega) (by omega)
          · exact sHand (j := 3) rfl rfl rfl hz rfl (Gd.none_ rfl) (.inl rfl) (by kernel_rfl) (by kernel_rfl) rfl
        intro a' γ' W' hz' hd' hC hk hh
        replace Cp6 := Cell.aft Cp6 hC (by simp [tagOf, n_p6_g5])
        replace Cp7 := Cell.aft Cp7 hC (by simp [tagOf, n_p7_g5])
        replace S1 := hk 1 _ (by kernel_rfl) S1
        replace S4 := hk 4 _ (by kernel_rfl) S4
        clear S5
        replace S6 := hk 6 _ (by kernel_rfl) S6
        replace S8 := hk 8 _ (by kernel_rfl) S8
        replace S44 := hk 44 _ (by kernel_rfl) S44
        replace S45 := hk 45 _ (by kernel_rfl) S45
        replace S46 := hk 46 _ (by kernel_rfl) S46
        replace S47 := hk 47 _ (by kernel_rfl) S47
        replace S48 := hk 48 _ (by kernel_rfl) S48
        replace S49 := hk 49 _ (by kernel_rfl) S49
        replace S50 := hk 50 _ (by kernel_rfl) S50
        replace S51 := hk 51 _ (by kernel_rfl) S51
        replace S55 := hk 55 _ (by kernel_rfl) S55
        replace S56 := hk 56 _ (by kernel_rfl) S56
        replace S57 := hk 57 _ (by kernel_rfl) S57
        replace S58 := hk 58 _ (by kernel_rfl) S58
        replace S59 := hk 59 _ (by kernel_rfl) S59
        replace S60 := hk 60 _ (by kernel_rfl) S60
        replace S61 := hk 61 _ (by kernel_rfl) S61
        replace H61 := Ty.aft _ H61 hC
        replace S54 := hk 54 _ (by kernel_rfl) S54
        replace H54 := Ty.aft _ H54 hC
        replace S62 := hk 62 _ (by kernel_rfl) S62
        replace H62 := Ty.aft _ H62 hC
        replace S63 := hk 63 _ (by kernel_rfl) S63
        replace H63 := Ty.aft _ H63 hC
        replace S9 := hk 9 _ (by kernel_rfl) S9
        replace S10 := hk 10 _ (by kernel_rfl) S10
        replace S64 := hk 64 _ (by kernel_rfl) S64
        replace H64 := Ty.aft _ H64 hC
        replace S65 := hk 65 _ (by kernel_rfl) S65
        replace H65 := Ty.aft _ H65 hC
        replace S66 := hk 66 _ (by kernel_rfl) S66
        replace S67 := hk 67 _ (by kernel_rfl) S67
        replace S68 := hk 68 _ (by kernel_rfl) S68
        replace H68 := Ty.aft _ H68 hC
        replace S69 := hk 69 _ (by kernel_rfl) S69
        replace S70 := hk 70 _ (by kernel_rfl) S70
        replace HBy := RB.aft HBy hC (by intro m hm; simp at hm; subst hm; assumption)
        replace HSc := RO.aft HSc hC (by intro m hm; simp at hm; subst hm; assumption)
        replace O6 := OwN.aft O6 hC (by simp [tagOf, n_g6_g5])
        have S71 := gotV hz' 0 hh rfl rfl rfl rfl
        obtain ⟨v72, S72, H72⟩ := got hz' 1 hh rfl rfl rfl rfl
        obtain ⟨g5, c5, S5, O5, b5⟩ := gotA hz' 4 hh rfl rfl rfl rfl
        replace HB := RelC.aftM HB hC (by intro m hm; simp at hm; rcases hm with rfl <;> assumption)
        clear hC hk hh; replace hz := hz'; replace hd := hd'; clear hz' hd'
        have n_g5_g6 : g5 ≠ g6 := OwN.ne O5 O6 (by decide)
        refine region_text (M := [g6]) (
            rT (tV (.slice (some ⟨g6, 0, none⟩) xs.length c6)) ::
            rT (tN B32 20000000 z) ::
            rL 2 44 (tN B32 1000000 z) ::
            rA 0 B32 44 1000000 w.heap.size (xs ++ [z]) 1000 ::
            rA 0 B32 44 1000000 w.heap.size (xs ++ [z]) 0 ::
            []) hz hd (by kernel_rfl) ?_ ?_
        · refine ⟨?_, ?_, ?_, ?_, ?_, trivial⟩
          · exact sMv rfl rfl rfl hz rfl (Gd.none_ rfl) rfl (Src.out (t := 6) (by kernel_rfl) S6 rfl)
          · exact sLoad rfl rfl rfl hz rfl (Gd.none_ rfl) rfl (Src.out (t := 10) (by kernel_rfl) S10 rfl) Cp7 (by simp [tagOf, n_p7_g6]) ld_n32
          · exact sLit rfl rfl rfl hz rfl rfl rfl (Src.to (Src.dep (j := 1) (t := 76) (by kernel_rfl) (by kernel_rfl) rfl) (tN_bl (k := 32) rfl (by decide) (by decide) hbl)) bl_n32
          · exact sApp (j := 2) rfl rfl rfl hz rfl rfl rfl (Src.dep (j := 0) (t := 75) (by kernel_rfl) (by kernel_rfl) rfl) (by kernel_rfl) (by kernel_rfl) rfl O6 (by simp [tagOf]) b6 HB.size (by kernel_rfl) Try.underlying70 i6.1 i6.2.1 i6.2.2.1 i6.2.2.2 rfl nd_sl (by unfold maxLen; omega) (by omega)
          · exact sHand (j := 3) rfl rfl rfl hz rfl (Gd.none_ rfl) (.inl rfl) (by kernel_rfl) (by kernel_rfl) rfl
        intro a' γ' W' hz' hd' hC hk hh
        replace Cp6 := Cell.aft Cp6 hC (by simp [tagOf, n_p6_g6])
        replace Cp7 := Cell.aft Cp7 hC (by simp [tagOf, n_p7_g6])
        replace S1 := hk 1 _ (by kernel_rfl) S1
        replace S4 := hk 4 _ (by kernel_rfl) S4
        clear S6
        replace S8 := hk 8 _ (by kernel_rfl) S8
        replace S44 := hk 44 _ (by kernel_rfl) S44
        replace S45 := hk 45 _ (by kernel_rfl) S45
        replace S46 := hk 46 _ (by kernel_rfl) S46
        replace S47 := hk 47 _ (by kernel_rfl) S47
        replace S48 := hk 48 _ (by kernel_rfl) S48
        replace S49 := hk 49 _ (by kernel_rfl) S49
        replace S50 := hk 50 _ (by kernel_rfl) S50
        replace S51 := hk 51 _ (by kernel_rfl) S51
        replace S55 := hk 55 _ (by kernel_rfl) S55
        replace S56 := hk 56 _ (by kernel_rfl) S56
        replace S57 := hk 57 _ (by kernel_rfl) S57
        replace S58 := hk 58 _ (by kernel_rfl) S58
        replace S59 := hk 59 _ (by kernel_rfl) S59
        replace S60 := hk 60 _ (by kernel_rfl) S60
        replace S61 := hk 61 _ (by kernel_rfl) S61
        replace H61 := Ty.aft _ H61 hC
        replace S54 := hk 54 _ (by kernel_rfl) S54
        replace H54 := Ty.aft _ H54 hC
        replace S62 := hk 62 _ (by kernel_rfl) S62
        replace H62 := Ty.aft _ H62 hC
        replace S63 := hk 63 _ (by kernel_rfl) S63
        replace H63 := Ty.aft _ H63 hC
        replace S9 := hk 9 _ (by kernel_rfl) S9
        replace S10 := hk 10 _ (by kernel_rfl) S10
        replace S64 := hk 64 _ (by kernel_rfl) S64
        replace H64 := Ty.aft _ H64 hC
        replace S65 := hk 65 _ (by kernel_rfl) S65
        replace H65 := Ty.aft _ H65 hC
        replace S66 := hk 66 _ (by kernel_rfl) S66
        replace S67 := hk 67 _ (by kernel_rfl) S67
        replace S68 := hk 68 _ (by kernel_rfl) S68
        replace H68 := Ty.aft _ H68 hC
        replace S69 := hk 69 _ (by kernel_rfl) S69
        replace S70 := hk 70 _ (by kernel_rfl) S70
        replace S71 := hk 71 _ (by kernel_rfl) S71
        replace S72 := hk 72 _ (by kernel_rfl) S72
        replace H72 := Ty.aft _ H72 hC
        replace S5 := hk 5 _ (by kernel_rfl) S5
        replace HBy := RB.aft HBy hC (by intro m hm; simp at hm; subst hm; assumption)
        replace HSc := RO.aft HSc hC (by intro m hm; simp at hm; subst hm; assumption)
        replace O5 := OwN.aft O5 hC (by simp [tagOf, n_g5_g6])
        have S75 := gotV hz' 0 hh rfl rfl rfl rfl
        obtain ⟨v76, S76, H76⟩ := got hz' 1 hh rfl rfl rfl rfl
        obtain ⟨g6, c6, S6, O6, b6⟩ := gotA hz' 4 hh rfl rfl rfl rfl
        replace HB := RelC.aftM HB hC (by intro m hm; simp at hm; rcases hm with rfl <;> assumption)
        clear hC hk hh; replace hz := hz'; replace hd := hd'; clear hz' hd'
        refine region_text (M := []) (
            rT (tV (.int .i64 (i : Int))) ::
            rT (tV (.int .i64 ((i + 1 : Nat) : Int))) ::
            rT (tV (.int .i64 ((i + 1 : Nat) : Int))) ::
            []) hz hd (by kernel_rfl) ?_ ?_
        · refine ⟨?_, ?_, ?_, trivial⟩
          · exact sMv rfl rfl rfl hz rfl (Gd.none_ rfl) rfl (Src.out (t := 8) (by kernel_rfl) S8 rfl)
          · exact sBin rfl rfl rfl hz rfl (Gd.none_ rfl) rfl (Src.dep (j := 0) (t := 52) (by kernel_rfl) (by kernel_rfl) rfl) (Src.const (.int .i64 1)) (fun w => by simp [go_sem, IntKind.wrap_i64]; omega)
          · exact sAs rfl rfl rfl hz rfl (Gd.none_ rfl) rfl (Src.dep (j := 1) (t := 53) (by kernel_rfl) (by kernel_rfl) rfl)
        intro a' γ' W' hz' hd' hC hk hh
        replace Cp6 := Cell.aft Cp6 hC rfl
        replace Cp7 := Cell.aft Cp7 hC rfl
        replace S1 := hk 1 _ (by kernel_rfl) S1
        replace S4 := hk 4 _ (by kernel_rfl) S4
        clear S8
        replace S44 := hk 44 _ (by kernel_rfl) S44
        replace S45 := hk 45 _ (by kernel_rfl) S45
        replace S46 := hk 46 _ (by kernel_rfl) S46
        replace S47 := hk 47 _ (by kernel_rfl) S47
        replace S48 := hk 48 _ (by kernel_rfl) S48
        replace S49 := hk 49 _ (by kernel_rfl) S49
        replace S50 := hk 50 _ (by kernel_rfl) S50
        replace S51 := hk 51 _ (by kernel_rfl) S51
        replace S55 := hk 55 _ (by kernel_rfl) S55
        replace S56 := hk 56 _ (by kernel_rfl) S56
        replace S57 := hk 57 _ (by kernel_rfl) S57
        replace S58 := hk 58 _ (by kernel_rfl) S58
        replace S59 := hk 59 _ (by kernel_rfl) S59
        replace S60 := hk 60 _ (by kernel_rfl) S60
        replace S61 := hk 61 _ (by kernel_rfl) S61
        replace H61 := Ty.aft _ H61 hC
        replace S54 := hk 54 _ (by kernel_rfl) S54
        replace H54 := Ty.aft _ H54 hC
        replace S62 := hk 62 _ (by kernel_rfl) S62
        replace H62 := Ty.aft _ H62 hC
        replace S63 := hk 63 _ (by kernel_rfl) S63
        replace H63 := Ty.aft _ H63 hC
        replace S9 := hk 9 _ (by kernel_rfl) S9
        replace S10 := hk 10 _ (by kernel_rfl) S10
        replace S64 := hk 64 _ (by kernel_rfl) S64
        replace H64 := Ty.aft _ H64 hC
        replace S65 := hk 65 _ (by kernel_rfl) S65
        replace H65 := Ty.aft _ H65 hC
        replace S66 := hk 66 _ (by kernel_rfl) S66
        replace S67 := hk 67 _ (by kernel_rfl) S67
        replace S68 := hk 68 _ (by kernel_rfl) S68
        replace H68 := Ty.aft _ H68 hC
        replace S69 := hk 69 _ (by kernel_rfl) S69
        replace S70 := hk 70 _ (by kernel_rfl) S70
        replace S71 := hk 71 _ (by kernel_rfl) S71
        replace S72 := hk 72 _ (by kernel_rfl) S72
        replace H72 := Ty.aft _ H72 hC
        replace S5 := hk 5 _ (by kernel_rfl) S5
        replace S75 := hk 75 _ (by kernel_rfl) S75
        replace S76 := hk 76 _ (by kernel_rfl) S76
        replace H76 := Ty.aft _ H76 hC
        replace S6 := hk 6 _ (by kernel_rfl) S6
        replace HBy := RB.aft HBy hC (by intro m hm; simp at hm)
        replace HSc := RO.aft HSc hC (by intro m hm; simp at hm)
        replace O5 := OwN.aft O5 hC rfl
        replace O6 := OwN.aft O6 hC rfl
        have S52 := gotV hz' 0 hh rfl rfl rfl rfl
        have S53 := gotV hz' 1 hh rfl rfl rfl rfl
        have S8 := gotV hz' 2 hh rfl rfl rfl rfl
        replace HB := aft_call HB (RelC.below_nil hC)
        clear hC hk hh; replace hz := hz'; replace hd := hd'; clear hz' hd'
        show ∃ n', n' < _ ∧ _
        refine ⟨_, ?_, i + 1, xs ++ [z], g5, c5, g6, c6, rfl, hz, hd, HB, S1, S4, S5, S6, S8, HBy, HSc, O5, O6, b5, b6, (by simp only [List.length_append, List.length_singleton]; omega), (by simp only [List.length_append, List.length_singleton]; omega)⟩
        omega
      · rw [decide_eq_false hc8] at S70
        refine wp_cond_false S70.ev ?_
        refine wp_skip ?_
        refine region_text (M := []) (
            rT (tV (.int .i64 (i : Int))) ::
            rT (tV (.int .i64 ((i + 1 : Nat) : Int))) ::
            rT (tV (.int .i64 ((i + 1 : Nat) : Int))) ::
            []) hz hd (by kernel_rfl) ?_ ?_
        · refine ⟨?_, ?_, ?_, trivial⟩
          · exact sMv rfl rfl rfl hz rfl (Gd.none_ rfl) rfl (Src.out (t := 8) (by kernel_rfl) S8 rfl)
          · exact sBin rfl rfl rfl hz rfl (Gd.none_ rfl) rfl (Src.dep (j := 0) (t := 52) (by kernel_rfl) (by kernel_rfl) rfl) (Src.const (.int .i64 1)) (fun w => by simp [go_sem, IntKind.wrap_i64]; omega)
          · exact sAs rfl rfl rfl hz rfl (Gd.none_ rfl) rfl (Src.dep (j := 1) (t := 53) (by kernel_rfl) (by kernel_rfl) rfl)
        intro a' γ' W' hz' hd' hC hk hh
        replace Cp6 := Cell.aft Cp6 hC rfl
        replace Cp7 := Cell.aft Cp7 hC rfl
        replace S1 := hk 1 _ (by kernel_rfl) S1
        replace S4 := hk 4 _ (by kernel_rfl) S4
        replace S5 := hk 5 _ (by kernel_rfl) S5
        replace S6 := hk 6 _ (by kernel_rfl) S6
        clear S8
        replace S44 := hk 44 _ (by kernel_rfl) S44
        replace S45 := hk 45 _ (by kernel_rfl) S45
        replace S46 := hk 46 _ (by kernel_rfl) S46
        replace S47 := hk 47 _ (by kernel_rfl) S47
        replace S48 := hk 48 _ (by kernel_rfl) S48
        replace S49 := hk 49 _ (by kernel_rfl) S49
        replace S50 := hk 50 _ (by kernel_rfl) S50
        replace S51 := hk 51 _ (by kernel_rfl) S51
        replace S55 := hk 55 _ (by kernel_rfl) S55
        replace S56 := hk 56 _ (by kernel_rfl) S56
        replace S57 := hk 57 _ (by kernel_rfl) S57
        replace S58 := hk 58 _ (by kernel_rfl) S58
        replace S59 := hk 59 _ (by kernel_rfl) S59
        replace S60 := hk 60 _ (by kernel_rfl) S60
        replace S61 := hk 61 _ (by kernel_rfl) S61
        replace H61 := Ty.aft _ H61 hC
        replace S54 := hk 54 _ (by kernel_rfl) S54
        replace H54 := Ty.aft _ H54 hC
        replace S62 := hk 62 _ (by kernel_rfl) S62
        replace H62 := Ty.aft _ H62 hC
        replace S63 := hk 63 _ (by kernel_rfl) S63
        replace H63 := Ty.aft _ H63 hC
        replace S9 := hk 9 _ (by kernel_rfl) S9
        replace S10 := hk 10 _ (by kernel_rfl) S10
        replace S64 := hk 64 _ (by kernel_rfl) S64
        replace H64 := Ty.aft _ H64 hC
        replace S65 := hk 65 _ (by kernel_rfl) S65
        replace H65 := Ty.aft _ H65 hC
        replace S66 := hk 66 _ (by kernel_rfl) S66
        replace S67 := hk 67 _ (by kernel_rfl) S67
        replace S68 := hk 68 _ (by kernel_rfl) S68
        replace H68 := Ty.aft _ H68 hC
        replace S69 := hk 69 _ (by kernel_rfl) S69
        replace S70 := hk 70 _ (by kernel_rfl) S70
        replace HBy := RB.aft HBy hC (by intro m hm; simp at hm)
        replace HSc := RO.aft HSc hC (by intro m hm; simp at hm)
        replace O5 := OwN.aft O5 hC rfl
        replace O6 := OwN.aft O6 hC rfl
        have S52 := gotV hz' 0 hh rfl rfl rfl rfl
        have S53 := gotV hz' 1 hh rfl rfl rfl rfl
        have S8 := gotV hz' 2 hh rfl rfl rfl rfl
        replace HB := aft_call HB (RelC.below_nil hC)
        clear hC hk hh; replace hz := hz'; replace hd := hd'; clear hz' hd'
        show ∃ n', n' < _ ∧ _
        refine ⟨_, ?_, i + 1, xs, g5, c5, g6, c6, rfl, hz, hd, HB, S1, S4, S5, S6, S8, HBy, HSc, O5, O6, b5, b6, hx0, (by omega)⟩
        omega
    · refine region_text (M := []) (
          rT (tV (.int .i64 (i : Int))) ::
          rT (tV (.slice As ns cs)) ::
          rT (tV (.int .i64 (ns : Int))) ::
          rT (tV (.bool true)) ::
          rT (tV (.bool true)) ::
          rT (tV (.int .i64 (i : Int))) ::
          rT (tV (.bool false)) ::
          rT (tV (.bool false)) ::
          []) hz hd (by kernel_rfl) ?_ ?_
      · refine ⟨?_, ?_, ?_, ?_, ?_, ?_, ?_, ?_, trivial⟩
        · exact sMv rfl rfl rfl hz rfl (Gd.none_ rfl) rfl (Src.out (t := 8) (by kernel_rfl) S8 rfl)
        · exact sMv rfl rfl rfl hz rfl (Gd.none_ rfl) rfl (Src.out (t := 1) (by kernel_rfl) S1 rfl)
        · exact sLen rfl rfl rfl hz rfl (Gd.none_ rfl) rfl (Src.dep (j := 1) (t := 45) (by kernel_rfl) (by kernel_rfl) rfl) (fun v w h => ⟨_, _, h⟩) len_t.2
        · exact sBin rfl rfl rfl hz rfl (Gd.none_ rfl) rfl (Src.dep (j := 0) (t := 44) (by kernel_rfl) (by kernel_rfl) rfl) (Src.dep (j := 2) (t := 46) (by kernel_rfl) (by kernel_rfl) rfl) (fun w => by first | (simp [go_sem, c1]; done) | (simp [go_sem]; omega))
        · exact sMv rfl rfl rfl hz rfl (Gd.none_ rfl) rfl (Src.dep (j := 3) (t := 47) (by kernel_rfl) (by kernel_rfl) rfl)
        · exact sMv rfl rfl rfl hz rfl (Gd.yes rfl rfl (Src.dep (j := 4) (t := 48) (by kernel_rfl) (by kernel_rfl) rfl) rfl) rfl (Src.out (t := 8) (by kernel_rfl) S8 rfl)
        · exact sBin rfl rfl rfl hz rfl (Gd.yes rfl rfl (Src.dep (j := 4) (t := 48) (by kernel_rfl) (by kernel_rfl) rfl) rfl) rfl (Src.dep (j := 5) (t := 49) (by kernel_rfl) (by kernel_rfl) rfl) (Src.const (.int .i64 18)) (fun w => by first | (simp [go_sem, c2]; done) | (simp [go_sem]; omega))
        · exact sPickT rfl rfl rfl hz rfl (Gd.none_ rfl) rfl (Src.dep (j := 4) (t := 48) (by kernel_rfl) (by kernel_rfl) rfl) (Src.dep (j := 6) (t := 50) (by kernel_rfl) (by kernel_rfl) rfl)
      intro a' γ' W' hz' hd' hC hk hh
      replace S1 := hk 1 _ (by kernel_rfl) S1
      replace S4 := hk 4 _ (by kernel_rfl) S4
      replace S5 := hk 5 _ (by kernel_rfl) S5
      replace S6 := hk 6 _ (by kernel_rfl) S6
      replace S8 := hk 8 _ (by kernel_rfl) S8
      replace HBy := RB.aft HBy hC (by intro m hm; simp at hm)
      replace HSc := RO.aft HSc hC (by intro m hm; simp at hm)
      replace O5 := OwN.aft O5 hC rfl
      replace O6 := OwN.aft O6 hC rfl
      have S44 := gotV hz' 0 hh rfl rfl rfl rfl
      have S45 := gotV hz' 1 hh rfl rfl rfl rfl
      have S46 := gotV hz' 2 hh rfl rfl rfl rfl
      have S47 := gotV hz' 3 hh rfl rfl rfl rfl
      have S48 := gotV hz' 4 hh rfl rfl rfl rfl
      have S49 := gotV hz' 5 hh rfl rfl rfl rfl
      have S50 := gotV hz' 6 hh rfl rfl rfl rfl
      have S51 := gotV hz' 7 hh rfl rfl rfl rfl
      replace HB := aft_call HB (RelC.below_nil hC)
      clear hC hk hh; replace hz := hz'; replace hd := hd'; clear hz' hd'
      refine wp_cond_false S51.ev ?_
      refine wp_exit ?_
      refine wp_seq ?_
      refine wp_seq ?_
      refine region_text (M := []) (
          rT (tV (.int .i64 0)) ::
          []) hz hd (by kernel_rfl) ?_ ?_
      · refine ⟨?_, trivial⟩
        · exact sAs rfl rfl rfl hz rfl (Gd.none_ rfl) rfl (Src.const (.int .i64 0))
      intro a' γ' W' hz' hd' hC hk hh
      clear S1
      replace S4 := hk 4 _ (by kernel_rfl) S4
      replace S5 := hk 5 _ (by kernel_rfl) S5
      replace S6 := hk 6 _ (by kernel_rfl) S6
      clear S8
      clear S44
      clear S45
      clear S46
      clear S47
      clear S48
      clear S49
      clear S50
      clear S51
      replace HBy := RB.aft HBy hC (by intro m hm; simp at hm)
      replace HSc := RO.aft HSc hC (by intro m hm; simp at hm)
      replace O5 := OwN.aft O5 hC rfl
      replace O6 := OwN.aft O6 hC rfl
      have S11 := gotV hz' 0 hh rfl rfl rfl rfl
      replace HB := aft_call HB (RelC.below_nil hC)
      clear hC hk hh; replace hz := hz'; replace hd := hd'; clear hz' hd'
      refine wp_block ?_
      refine wp_loop_ghost (fun k a W => ∃ (i : Nat), k = xs.length - i ∧ a.tmps.size = 109 ∧ a.defers = [] ∧ Below w.heap.size w W ∧ Sl a 4 (.bool false) ∧ Sl a 5 (.slice (some ⟨g5, 0, none⟩) xs.length c5) ∧ Sl a 6 (.slice (some ⟨g6, 0, none⟩) xs.length c6) ∧ Sl a 11 (.int .i64 (i : Int)) ∧ RB Ab nb ls w.heap.size W ∧ RO As ns F w.heap.size W ∧ OwN B64 25 1000000 g5 c5 xs W ∧ OwN B32 44 1000000 g6 c6 xs W) _ ⟨0, rfl, hz, hd, HB, S4, S5, S6, S11, HBy, HSc, O5, O6⟩ ?_
      clear S4 S5 S6 S11 HBy HSc O5 O6 hz hd HB
      rintro k a W ⟨i, rfl, hz, hd, HB, S4, S5, S6, S11, HBy, HSc, O5, O6⟩
      refine wp_seq ?_
      refine wp_seq ?_
      refine region_text (M := []) (
          rT (tV (.int .i64 (i : Int))) ::
          rT (tV (.slice (some ⟨g5, 0, none⟩) xs.length c5)) ::
          rT (tV (.int .i64 (xs.length : Int))) ::
          rT (tV (.bool (decide (i < xs.length)))) ::
          []) hz hd (by kernel_rfl) ?_ ?_
      · refine ⟨?_, ?_, ?_, ?_, trivial⟩
        · exact sMv rfl rfl rfl hz rfl (Gd.none_ rfl) rfl (Src.out (t := 11) (by kernel_rfl) S11 rfl)
        · exact sMv rfl rfl rfl hz rfl (Gd.none_ rfl) rfl (Src.out (t := 5) (by kernel_rfl) S5 rfl)
        · exact sLen rfl rfl rfl hz rfl (Gd.none_ rfl) rfl (Src.dep (j := 1) (t := 80) (by kernel_rfl) (by kernel_rfl) rfl) (fun v w h => ⟨_, _, h⟩) len64
        · exact sBin rfl rfl rfl hz rfl (Gd.none_ rfl) rfl (Src.dep (j := 0) (t := 79) (by kernel_rfl) (by kernel_rfl) rfl) (Src.dep (j := 2) (t := 81) (by kernel_rfl) (by kernel_rfl) rfl) (fun w => by simp [go_sem])
      intro a' γ' W' hz' hd' hC hk hh
      replace S4 := hk 4 _ (by kernel_rfl) S4
      replace S5 := hk 5 _ (by kernel_rfl) S5
      replace S6 := hk 6 _ (by kernel_rfl) S6
      replace S11 := hk 11 _ (by kernel_rfl) S11
      replace HBy := RB.aft HBy hC (by intro m hm; simp at hm)
      replace HSc := RO.aft HSc hC (by intro m hm; simp at hm)
      replace O5 := OwN.aft O5 hC rfl
      replace O6 := OwN.aft O6 hC rfl
      have S79 := gotV hz' 0 hh rfl rfl rfl rfl
      have S80 := gotV hz' 1 hh rfl rfl rfl rfl
      have S81 := gotV hz' 2 hh rfl rfl rfl rfl
      have S82 := gotV hz' 3 hh rfl rfl rfl rfl
      replace HB := aft_call HB (RelC.below_nil hC)
      clear hC hk hh; replace hz := hz'; replace hd := hd'; clear hz' hd'
      by_cases hc9 : i < xs.length
      · rw [decide_eq_true hc9] at S82
        refine wp_cond_true S82.ev ?_
        have hi := hc9
        refine wp_skip ?_
        refine wp_seq ?_
        refine wp_block ?_
        refine wp_seq ?_
        refine region_drawn (M := []) (
            rT (tV (.slice (some ⟨g5, 0, none⟩) xs.length c5)) ::
            rT (tV (.int .i64 (i : Int))) ::
            rT (tV (.pointer (some ⟨g5, i, none⟩))) ::
            rT (tN B64 1000000 (xs.getD i 0)) ::
            rT (tV (.slice (some ⟨g6, 0, none⟩) xs.length c6)) ::
            rT (tV (.int .i64 (i : Int))) ::
            rT (tV (.pointer (some ⟨g6, i, none⟩))) ::
            rT (tN B32 1000000 (xs.getD i 0)) ::
            rT (tV (.bool true)) ::
            rT (tV (.bool false)) ::
            rT (tV (.bool false)) ::
            rT (tV (.slice (some ⟨g5, 0, none⟩) xs.length c5)) ::
            rT (tV (.int .i64 (i : Int))) ::
            rT (tV (.pointer (some ⟨g5, i, none⟩))) ::
            rT (tN B64 1000000 (xs.getD i 0)) ::
            rT (tV (.slice (some ⟨g6, 0, none⟩) xs.length c6)) ::
            rT (tV (.int .i64 (i : Int))) ::
            rT (tV (.pointer (some ⟨g6, i, none⟩))) ::
            rT (tN B32 1000000 (xs.getD i 0)) ::
            rT (tV (.int .i64 (i : Int))) ::
            rT (tV (.bool true)) ::
            rT (tV (.bool false)) ::
            rT (tV (.bool false)) ::
            []) hz hd (by kernel_rfl) (by kernel_rfl) ?_ ?_
        · refine ⟨?_, ?_, ?_, ?_, ?_, ?_, ?_, ?_, ?_, ?_, ?_, ?_, ?_, ?_, ?_, ?_, ?_, ?_, ?_, ?_, ?_, ?_, ?_, trivial⟩
          · exact sMv rfl rfl rfl hz rfl (Gd.none_ rfl) rfl (Src.out (t := 5) (by kernel_rfl) S5 rfl)
          · exact sMv rfl rfl rfl hz rfl (Gd.none_ rfl) rfl (Src.out (t := 11) (by kernel_rfl) S11 rfl)
          · exact sIdx rfl rfl rfl hz rfl (Gd.none_ rfl) rfl (Src.dep (j := 0) (t := 85) (by kernel_rfl) (by kernel_rfl) rfl) (Src.dep (j := 1) (t := 86) (by kernel_rfl) (by kernel_rfl) rfl) (ia64 hi)
          · exact sLoadRow rfl rfl rfl hz rfl (Gd.none_ rfl) rfl (Src.dep (j := 2) (t := 87) (by kernel_rfl) (by kernel_rfl) rfl) (OwN.rw_ O5) rfl hi ldr64
          · exact sMv rfl rfl rfl hz rfl (Gd.none_ rfl) rfl (Src.out (t := 6) (by kernel_rfl) S6 rfl)
          · exact sMv rfl rfl rfl hz rfl (Gd.none_ rfl) rfl (Src.out (t := 11) (by kernel_rfl) S11 rfl)
          · exact sIdx rfl rfl rfl hz rfl (Gd.none_ rfl) rfl (Src.dep (j := 4) (t := 89) (by kernel_rfl) (by kernel_rfl) rfl) (Src.dep (j := 5) (t := 90) (by kernel_rfl) (by kernel_rfl) rfl) (ia32 hi)
          · exact sLoadRow rfl rfl rfl hz rfl (Gd.none_ rfl) rfl (Src.dep (j := 6) (t := 91) (by kernel_rfl) (by kernel_rfl) rfl) (OwN.rw_ O6) rfl hi ldr32
          · exact sCall rfl rfl rfl hz rfl (Gd.none_ rfl) rfl Try.func43 (by kernel_rfl) (by kernel_rfl) fun a γ w U => (by show Calls _ _ #[a.eval (.tmp 88), a.eval (.tmp 92)] _ _; exact l_same (Src.at_ (Src.dep (j := 3) (t := 88) (by kernel_rfl) (by kernel_rfl) rfl) U) (Src.at_ (Src.dep (j := 7) (t := 92) (by kernel_rfl) (by kernel_rfl) rfl) U) (by decide) (by decide))
          · exact sNot (b := true) rfl rfl rfl hz rfl (Gd.none_ rfl) rfl (Src.dep (j := 8) (t := 93) (by kernel_rfl) (by kernel_rfl) rfl)
          · exact sMv rfl rfl rfl hz rfl (Gd.none_ rfl) rfl (Src.dep (j := 9) (t := 94) (by kernel_rfl) (by kernel_rfl) rfl)
          · exact sMv rfl rfl rfl hz rfl (Gd.yes rfl rfl (Src.dep (j := 10) (t := 95) (by kernel_rfl) (by kernel_rfl) rfl) rfl) rfl (Src.out (t := 5) (by kernel_rfl) S5 rfl)
          · exact sMv rfl rfl rfl hz rfl (Gd.yes rfl rfl (Src.dep (j := 10) (t := 95) (by kernel_rfl) (by kernel_rfl) rfl) rfl) rfl (Src.out (t := 11) (by kernel_rfl) S11 rfl)
          · exact sIdx rfl rfl rfl hz rfl (Gd.yes rfl rfl (Src.dep (j := 10) (t := 95) (by kernel_rfl) (by kernel_rfl) rfl) rfl) rfl (Src.dep (j := 11) (t := 96) (by kernel_rfl) (by kernel_rfl) rfl) (Src.dep (j := 12) (t := 97) (by kernel_rfl) (by kernel_rfl) rfl) (ia64 hi)
          · exact sLoadRow rfl rfl rfl hz rfl (Gd.yes rfl rfl (Src.dep (j := 10) (t := 95) (by kernel_rfl) (by kernel_rfl) rfl) rfl) rfl (Src.dep (j := 13) (t := 98) (by kernel_rfl) (by kernel_rfl) rfl) (OwN.rw_ O5) rfl hi ldr64
          · exact sMv rfl rfl rfl hz rfl (Gd.yes rfl rfl (Src.dep (j := 10) (t := 95) (by kernel_rfl) (by kernel_rfl) rfl) rfl) rfl (Src.out (t := 6) (by kernel_rfl) S6 rfl)
          · exact sMv rfl rfl rfl hz rfl (Gd.yes rfl rfl (Src.dep (j := 10) (t := 95) (by kernel_rfl) (by kernel_rfl) rfl) rfl) rfl (Src.out (t := 11) (by kernel_rfl) S11 rfl)
          · exact sIdx rfl rfl rfl hz rfl (Gd.yes rfl rfl (Src.dep (j := 10) (t := 95) (by kernel_rfl) (by kernel_rfl) rfl) rfl) rfl (Src.dep (j := 15) (t := 100) (by kernel_rfl) (by kernel_rfl) rfl) (Src.dep (j := 16) (t := 101) (by kernel_rfl) (by kernel_rfl) rfl) (ia32 hi)
          · exact sLoadRow rfl rfl rfl hz rfl (Gd.yes rfl rfl (Src.dep (j := 10) (t := 95) (by kernel_rfl) (by kernel_rfl) rfl) rfl) rfl (Src.dep (j := 17) (t := 102) (by kernel_rfl) (by kernel_rfl) rfl) (OwN.rw_ O6) rfl hi ldr32
          · exact sMv rfl rfl rfl hz rfl (Gd.yes rfl rfl (Src.dep (j := 10) (t := 95) (by kernel_rfl) (by kernel_rfl) rfl) rfl) rfl (Src.out (t := 11) (by kernel_rfl) S11 rfl)
          · exact sCall rfl rfl rfl hz rfl (Gd.yes rfl rfl (Src.dep (j := 10) (t := 95) (by kernel_rfl) (by kernel_rfl) rfl) rfl) rfl Try.func27 (by kernel_rfl) (by kernel_rfl) fun a γ w U => (by show Calls _ _ #[a.eval (.tmp 99), a.eval (.tmp 103), a.eval (.tmp 104)] _ _; rw [show a.eval (.tmp 104) = .int .i64 (i : Int) from Src.at_ (Src.dep (j := 19) (t := 104) (by kernel_rfl) (by kernel_rfl) rfl) U]; exact l_told (Src.at_ (Src.dep (j := 14) (t := 99) (by kernel_rfl) (by kernel_rfl) rfl) U) (Src.at_ (Src.dep (j := 18) (t := 103) (by kernel_rfl) (by kernel_rfl) rfl) U) (by decide) (by decide) (by omega))
          · exact sNot (b := true) rfl rfl rfl hz rfl (Gd.yes rfl rfl (Src.dep (j := 10) (t := 95) (by kernel_rfl) (by kernel_rfl) rfl) rfl) rfl (Src.dep (j := 20) (t := 105) (by kernel_rfl) (by kernel_rfl) rfl)
          · exact sPickF rfl rfl rfl hz rfl (Gd.none_ rfl) rfl (Src.dep (j := 10) (t := 95) (by kernel_rfl) (by kernel_rfl) rfl) (Src.dep (j := 21) (t := 106) (by kernel_rfl) (by kernel_rfl) rfl)
        intro a' γ' W' hz' hd' hC hk hh
        replace S4 := hk 4 _ (by kernel_rfl) S4
        replace S5 := hk 5 _ (by kernel_rfl) S5
        replace S6 := hk 6 _ (by kernel_rfl) S6
        replace S11 := hk 11 _ (by kernel_rfl) S11
        replace S79 := hk 79 _ (by kernel_rfl) S79
        replace S80 := hk 80 _ (by kernel_rfl) S80
        replace S81 := hk 81 _ (by kernel_rfl) S81
        replace S82 := hk 82 _ (by kernel_rfl) S82
        replace HBy := RB.aft HBy hC (by intro m hm; simp at hm)
        replace HSc := RO.aft HSc hC (by intro m hm; simp at hm)
        replace O5 := OwN.aft O5 hC rfl
        replace O6 := OwN.aft O6 hC rfl
        have S85 := gotV hz' 0 hh rfl rfl rfl rfl
        have S86 := gotV hz' 1 hh rfl rfl rfl rfl
        have S87 := gotV hz' 2 hh rfl rfl rfl rfl
        obtain ⟨v88, S88, H88⟩ := got hz' 3 hh rfl rfl rfl rfl
        have S89 := gotV hz' 4 hh rfl rfl rfl rfl
        have S90 := gotV hz' 5 hh rfl rfl rfl rfl
        have S91 := gotV hz' 6 hh rfl rfl rfl rfl
        obtain ⟨v92, S92, H92⟩ := got hz' 7 hh rfl rfl rfl rfl
        have S93 := gotV hz' 8 hh rfl rfl rfl rfl
        have S94 := gotV hz' 9 hh rfl rfl rfl rfl
        have S95 := gotV hz' 10 hh rfl rfl rfl rfl
        have S96 := gotV hz' 11 hh rfl rfl rfl rfl
        have S97 := gotV hz' 12 hh rfl rfl rfl rfl
        have S98 := gotV hz' 13 hh rfl rfl rfl rfl
        obtain ⟨v99, S99, H99⟩ := got hz' 14 hh rfl rfl rfl rfl
        have S100 := gotV hz' 15 hh rfl rfl rfl rfl
        have S101 := gotV hz' 16 hh rfl rfl rfl rfl
        have S102 := gotV hz' 17 hh rfl rfl rfl rfl
        obtain ⟨v103, S103, H103⟩ := got hz' 18 hh rfl rfl rfl rfl
        have S104 := gotV hz' 19 hh rfl rfl rfl rfl
        have S105 := gotV hz' 20 hh rfl rfl rfl rfl
        have S106 := gotV hz' 21 hh rfl rfl rfl rfl
        have S107 := gotV hz' 22 hh rfl rfl rfl rfl
        replace HB := aft_call HB (RelC.below_nil hC)
        clear hC hk hh; replace hz := hz'; replace hd := hd'; clear hz' hd'
        refine wp_cond_false S107.ev ?_
        refine wp_skip ?_
        refine region_text (M := []) (
            rT (tV (.int .i64 (i : Int))) ::
            rT (tV (.int .i64 ((i + 1 : Nat) : Int))) ::
            rT (tV (.int .i64 ((i + 1 : Nat) : Int))) ::
            []) hz hd (by kernel_rfl) ?_ ?_
        · refine ⟨?_, ?_, ?_, trivial⟩
          · exact sMv rfl rfl rfl hz rfl (Gd.none_ rfl) rfl (Src.out (t := 11) (by kernel_rfl) S11 rfl)
          · exact sBin rfl rfl rfl hz rfl (Gd.none_ rfl) rfl (Src.dep (j := 0) (t := 83) (by kernel_rfl) (by kernel_rfl) rfl) (Src.const (.int .i64 1)) (fun w => by simp [go_sem, IntKind.wrap_i64]; omega)
          · exact sAs rfl rfl rfl hz rfl (Gd.none_ rfl) rfl (Src.dep (j := 1) (t := 84) (by kernel_rfl) (by kernel_rfl) rfl)
        intro a' γ' W' hz' hd' hC hk hh
        replace S4 := hk 4 _ (by kernel_rfl) S4
        replace S5 := hk 5 _ (by kernel_rfl) S5
        replace S6 := hk 6 _ (by kernel_rfl) S6
        clear S11
        replace S79 := hk 79 _ (by kernel_rfl) S79
        replace S80 := hk 80 _ (by kernel_rfl) S80
        replace S81 := hk 81 _ (by kernel_rfl) S81
        replace S82 := hk 82 _ (by kernel_rfl) S82
        replace S85 := hk 85 _ (by kernel_rfl) S85
        replace S86 := hk 86 _ (by kernel_rfl) S86
        replace S87 := hk 87 _ (by kernel_rfl) S87
        replace S88 := hk 88 _ (by kernel_rfl) S88
        replace H88 := Ty.aft _ H88 hC
        replace S89 := hk 89 _ (by kernel_rfl) S89
        replace S90 := hk 90 _ (by kernel_rfl) S90
        replace S91 := hk 91 _ (by kernel_rfl) S91
        replace S92 := hk 92 _ (by kernel_rfl) S92
        replace H92 := Ty.aft _ H92 hC
        replace S93 := hk 93 _ (by kernel_rfl) S93
        replace S94 := hk 94 _ (by kernel_rfl) S94
        replace S95 := hk 95 _ (by kernel_rfl) S95
        replace S96 := hk 96 _ (by kernel_rfl) S96
        replace S97 := hk 97 _ (by kernel_rfl) S97
        replace S98 := hk 98 _ (by kernel_rfl) S98
        replace S99 := hk 99 _ (by kernel_rfl) S99
        replace H99 := Ty.aft _ H99 hC
        replace S100 := hk 100 _ (by kernel_rfl) S100
        replace S101 := hk 101 _ (by kernel_rfl) S101
        replace S102 := hk 102 _ (by kernel_rfl) S102
        replace S103 := hk 103 _ (by kernel_rfl) S103
        replace H103 := Ty.aft _ H103 hC
        replace S104 := hk 104 _ (by kernel_rfl) S104
        replace S105 := hk 105 _ (by kernel_rfl) S105
        replace S106 := hk 106 _ (by kernel_rfl) S106
        replace S107 := hk 107 _ (by kernel_rfl) S107
        replace HBy := RB.aft HBy hC (by intro m hm; simp at hm)
        replace HSc := RO.aft HSc hC (by intro m hm; simp at hm)
        replace O5 := OwN.aft O5 hC rfl
        replace O6 := OwN.aft O6 hC rfl
        have S83 := gotV hz' 0 hh rfl rfl rfl rfl
        have S84 := gotV hz' 1 hh rfl rfl rfl rfl
        have S11 := gotV hz' 2 hh rfl rfl rfl rfl
        replace HB := aft_call HB (RelC.below_nil hC)
        clear hC hk hh; replace hz := hz'; replace hd := hd'; clear hz' hd'
        show ∃ n', n' < _ ∧ _
        refine ⟨_, ?_, i + 1, rfl, hz, hd, HB, S4, S5, S6, S11, HBy, HSc, O5, O6⟩
        omega
      · rw [decide_eq_false hc9] at S82
        refine wp_cond_false S82.ev ?_
        refine wp_exit ?_
        refine wp_seq ?_
        refine region_text (M := []) (
            rT (tV (.bool true)) ::
            rT (tV (.bool true)) ::
            []) hz hd (by kernel_rfl) ?_ ?_
        · refine ⟨?_, ?_, trivial⟩
          · exact sCall rfl rfl rfl hz rfl (Gd.none_ rfl) rfl Try.func21 (by kernel_rfl) (by kernel_rfl) fun a γ w U => (by show Calls _ _ #[] _ _; exact l_started)
          · exact sAs rfl rfl rfl hz rfl (Gd.none_ rfl) rfl (Src.dep (j := 0) (t := 108) (by kernel_rfl) (by kernel_rfl) rfl)
        intro a' γ' W' hz' hd' hC hk hh
        clear S4
        clear S5
        clear S6
        clear S11
        clear S79
        clear S80
        clear S81
        clear S82
        replace HBy := RB.aft HBy hC (by intro m hm; simp at hm)
        replace HSc := RO.aft HSc hC (by intro m hm; simp at hm)
        replace O5 := OwN.aft O5 hC rfl
        replace O6 := OwN.aft O6 hC rfl
        have S4 := gotV hz' 1 hh rfl rfl rfl rfl
        replace HB := aft_call HB (RelC.below_nil hC)
        clear hC hk hh; replace hz := hz'; replace hd := hd'; clear hz' hd'
        refine wp_ret ?_
        exact ret1 (by kernel_rfl) S4 hd ⟨_, rfl, rfl, HB⟩
    · refine region_text (M := []) (
          rT (tV (.int .i64 (i : Int))) ::
          rT (tV (.slice As ns cs)) ::
          rT (tV (.int .i64 (ns : Int))) ::
          rT (tV (.bool false)) ::
          rT (tV (.bool false)) ::
          rT tAny ::
          rT tAny ::
          rT (tV (.bool false)) ::
          []) hz hd (by kernel_rfl) ?_ ?_
      · refine ⟨?_, ?_, ?_, ?_, ?_, ?_, ?_, ?_, trivial⟩
        · exact sMv rfl rfl rfl hz rfl (Gd.none_ rfl) rfl (Src.out (t := 8) (by kernel_rfl) S8 rfl)
        · exact sMv rfl rfl rfl hz rfl (Gd.none_ rfl) rfl (Src.out (t := 1) (by kernel_rfl) S1 rfl)
        · exact sLen rfl rfl rfl hz rfl (Gd.none_ rfl) rfl (Src.dep (j := 1) (t := 45) (by kernel_rfl) (by kernel_rfl) rfl) (fun v w h => ⟨_, _, h⟩) len_t.2
        · exact sBin rfl rfl rfl hz rfl (Gd.none_ rfl) rfl (Src.dep (j := 0) (t := 44) (by kernel_rfl) (by kernel_rfl) rfl) (Src.dep (j := 2) (t := 46) (by kernel_rfl) (by kernel_rfl) rfl) (fun w => by first | (simp [go_sem, c1]; done) | (simp [go_sem]; omega))
        · exact sMv rfl rfl rfl hz rfl (Gd.none_ rfl) rfl (Src.dep (j := 3) (t := 47) (by kernel_rfl) (by kernel_rfl) rfl)
        · exact sSkip rfl rfl rfl hz rfl (Gd.no rfl rfl (Src.dep (j := 4) (t := 48) (by kernel_rfl) (by kernel_rfl) rfl) rfl)
        · exact sSkip rfl rfl rfl hz rfl (Gd.no rfl rfl (Src.dep (j := 4) (t := 48) (by kernel_rfl) (by kernel_rfl) rfl) rfl)
        · exact sPickF rfl rfl rfl hz rfl (Gd.none_ rfl) rfl (Src.dep (j := 4) (t := 48) (by kernel_rfl) (by kernel_rfl) rfl) (Src.const (.bool false))
      intro a' γ' W' hz' hd' hC hk hh
      replace S1 := hk 1 _ (by kernel_rfl) S1
      replace S4 := hk 4 _ (by kernel_rfl) S4
      replace S5 := hk 5 _ (by kernel_rfl) S5
      replace S6 := hk 6 _ (by kernel_rfl) S6
      replace S8 := hk 8 _ (by kernel_rfl) S8
      replace HBy := RB.aft HBy hC (by intro m hm; simp at hm)
      replace HSc := RO.aft HSc hC (by intro m hm; simp at hm)
      replace O5 := OwN.aft O5 hC rfl
      replace O6 := OwN.aft O6 hC rfl
      have S44 := gotV hz' 0 hh rfl rfl rfl rfl
      have S45 := gotV hz' 1 hh rfl rfl rfl rfl
      have S46 := gotV hz' 2 hh rfl rfl rfl rfl
      have S47 := gotV hz' 3 hh rfl rfl rfl rfl
      have S48 := gotV hz' 4 hh rfl rfl rfl rfl
      have S51 := gotV hz' 7 hh rfl rfl rfl rfl
      replace HB := aft_call HB (RelC.below_nil hC)
      clear hC hk hh; replace hz := hz'; replace hd := hd'; clear hz' hd'
      refine wp_cond_false S51.ev ?_
      refine wp_exit ?_
      refine wp_seq ?_
      refine wp_seq ?_
      refine region_text (M := []) (
          rT (tV (.int .i64 0)) ::
          []) hz hd (by kernel_rfl) ?_ ?_
      · refine ⟨?_, trivial⟩
        · exact sAs rfl rfl rfl hz rfl (Gd.none_ rfl) rfl (Src.const (.int .i64 0))
      intro a' γ' W' hz' hd' hC hk hh
      clear S1
      replace S4 := hk 4 _ (by kernel_rfl) S4
      replace S5 := hk 5 _ (by kernel_rfl) S5
      replace S6 := hk 6 _ (by kernel_rfl) S6
      clear S8
      clear S44
      clear S45
      clear S46
      clear S47
      clear S48
      clear S51
      replace HBy := RB.aft HBy hC (by intro m hm; simp at hm)
      replace HSc := RO.aft HSc hC (by intro m hm; simp at hm)
      replace O5 := OwN.aft O5 hC rfl
      replace O6 := OwN.aft O6 hC rfl
      have S11 := gotV hz' 0 hh rfl rfl rfl rfl
      replace HB := aft_call HB (RelC.below_nil hC)
      clear hC hk hh; replace hz := hz'; replace hd := hd'; clear hz' hd'
      refine wp_block ?_
      refine wp_loop_ghost (fun k a W => ∃ (i : Nat), k = xs.length - i ∧ a.tmps.size = 109 ∧ a.defers = [] ∧ Below w.heap.size w W ∧ Sl a 4 (.bool false) ∧ Sl a 5 (.slice (some ⟨g5, 0, none⟩) xs.length c5) ∧ Sl a 6 (.slice (some ⟨g6, 0, none⟩) xs.length c6) ∧ Sl a 11 (.int .i64 (i : Int)) ∧ RB Ab nb ls w.heap.size W ∧ RO As ns F w.heap.size W ∧ OwN B64 25 1000000 g5 c5 xs W ∧ OwN B32 44 1000000 g6 c6 xs W) _ ⟨0, rfl, hz, hd, HB, S4, S5, S6, S11, HBy, HSc, O5, O6⟩ ?_
      clear S4 S5 S6 S11 HBy HSc O5 O6 hz hd HB
      rintro k a W ⟨i, rfl, hz, hd, HB, S4, S5, S6, S11, HBy, HSc, O5, O6⟩
      refine wp_seq ?_
      refine wp_seq ?_
      refine region_text (M := []) (
          rT (tV (.int .i64 (i : Int))) ::
          rT (tV (.slice (some ⟨g5, 0, none⟩) xs.length c5)) ::
          rT (tV (.int .i64 (xs.length : Int))) ::
          rT (tV (.bool (decide (i < xs.length)))) ::
          []) hz hd (by kernel_rfl) ?_ ?_
      · refine ⟨?_, ?_, ?_, ?_, trivial⟩
        · exact sMv rfl rfl rfl hz rfl (Gd.none_ rfl) rfl (Src.out (t := 11) (by kernel_rfl) S11 rfl)
        · exact sMv rfl rfl rfl hz rfl (Gd.none_ rfl) rfl (Src.out (t := 5) (by kernel_rfl) S5 rfl)
        · exact sLen rfl rfl rfl hz rfl (Gd.none_ rfl) rfl (Src.dep (j := 1) (t := 80) (by kernel_rfl) (by kernel_rfl) rfl) (fun v w h => ⟨_, _, h⟩) len64
        · exact sBin rfl rfl rfl hz rfl (Gd.none_ rfl) rfl (Src.dep (j := 0) (t := 79) (by kernel_rfl) (by kernel_rfl) rfl) (Src.dep (j := 2) (t := 81) (by kernel_rfl) (by kernel_rfl) rfl) (fun w => by simp [go_sem])
      intro a' γ' W' hz' hd' hC hk hh
      replace S4 := hk 4 _ (by kernel_rfl) S4
      replace S5 := hk 5 _ (by kernel_rfl) S5
      replace S6 := hk 6 _ (by kernel_rfl) S6
      replace S11 := hk 11 _ (by kernel_rfl) S11
      replace HBy := RB.aft HBy hC (by intro m hm; simp at hm)
      replace HSc := RO.aft HSc hC (by intro m hm; simp at hm)
      replace O5 := OwN.aft O5 hC rfl
      replace O6 := OwN.aft O6 hC rfl
      have S79 := gotV hz' 0 hh rfl rfl rfl rfl
      have S80 := gotV hz' 1 hh rfl rfl rfl rfl
      have S81 := gotV hz' 2 hh rfl rfl rfl rfl
      have S82 := gotV hz' 3 hh rfl rfl rfl rfl
      replace HB := aft_call HB (RelC.below_nil hC)
      clear hC hk hh; replace hz := hz'; replace hd := hd'; clear hz' hd'
      by_cases hc10 : i < xs.length
      · rw [decide_eq_true hc10] at S82
        refine wp_cond_true S82.ev ?_
        have hi := hc10
        refine wp_skip ?_
        refine wp_seq ?_
        refine wp_block ?_
        refine wp_seq ?_
        refine region_drawn (M := []) (
            rT (tV (.slice (some ⟨g5, 0, none⟩) xs.length c5)) ::
            rT (tV (.int .i64 (i : Int))) ::
            rT (tV (.pointer (some ⟨g5, i, none⟩))) ::
            rT (tN B64 1000000 (xs.getD i 0)) ::
            rT (tV (.slice (some ⟨g6, 0, none⟩) xs.length c6)) ::
            rT (tV (.int .i64 (i : Int))) ::
            rT (tV (.pointer (some ⟨g6, i, none⟩))) ::
            rT (tN B32 1000000 (xs.getD i 0)) ::
            rT (tV (.bool true)) ::
            rT (tV (.bool false)) ::
            rT (tV (.bool false)) ::
            rT (tV (.slice (some ⟨g5, 0, none⟩) xs.length c5)) ::
            rT (tV (.int .i64 (i : Int))) ::
            rT (tV (.pointer (some ⟨g5, i, none⟩))) ::
            rT (tN B64 1000000 (xs.getD i 0)) ::
            rT (tV (.slice (some ⟨g6, 0, none⟩) xs.length c6)) ::
            rT (tV (.int .i64 (i : Int))) ::
            rT (tV (.pointer (some ⟨g6, i, none⟩))) ::
            rT (tN B32 1000000 (xs.getD i 0)) ::
            rT (tV (.int .i64 (i : Int))) ::
            rT (tV (.bool true)) ::
            rT (tV (.bool false)) ::
            rT (tV (.bool false)) ::
            []) hz hd (by kernel_rfl) (by kernel_rfl) ?_ ?_
        · refine ⟨?_, ?_, ?_, ?_, ?_, ?_, ?_, ?_, ?_, ?_, ?_, ?_, ?_, ?_, ?_, ?_, ?_, ?_, ?_, ?_, ?_, ?_, ?_, trivial⟩
          · exact sMv rfl rfl rfl hz rfl (Gd.none_ rfl) rfl (Src.out (t := 5) (by kernel_rfl) S5 rfl)
          · exact sMv rfl rfl rfl hz rfl (Gd.none_ rfl) rfl (Src.out (t := 11) (by kernel_rfl) S11 rfl)
          · exact sIdx rfl rfl rfl hz rfl (Gd.none_ rfl) rfl (Src.dep (j := 0) (t := 85) (by kernel_rfl) (by kernel_rfl) rfl) (Src.dep (j := 1) (t := 86) (by kernel_rfl) (by kernel_rfl) rfl) (ia64 hi)
          · exact sLoadRow rfl rfl rfl hz rfl (Gd.none_ rfl) rfl (Src.dep (j := 2) (t := 87) (by kernel_rfl) (by kernel_rfl) rfl) (OwN.rw_ O5) rfl hi ldr64
          · exact sMv rfl rfl rfl hz rfl (Gd.none_ rfl) rfl (Src.out (t := 6) (by kernel_rfl) S6 rfl)
          · exact sMv rfl rfl rfl hz rfl (Gd.none_ rfl) rfl (Src.out (t := 11) (by kernel_rfl) S11 rfl)
          · exact sIdx rfl rfl rfl hz rfl (Gd.none_ rfl) rfl (Src.dep (j := 4) (t := 89) (by kernel_rfl) (by kernel_rfl) rfl) (Src.dep (j := 5) (t := 90) (by kernel_rfl) (by kernel_rfl) rfl) (ia32 hi)
          · exact sLoadRow rfl rfl rfl hz rfl (Gd.none_ rfl) rfl (Src.dep (j := 6) (t := 91) (by kernel_rfl) (by kernel_rfl) rfl) (OwN.rw_ O6) rfl hi ldr32
          · exact sCall rfl rfl rfl hz rfl (Gd.none_ rfl) rfl Try.func43 (by kernel_rfl) (by kernel_rfl) fun a γ w U => (by show Calls _ _ #[a.eval (.tmp 88), a.eval (.tmp 92)] _ _; exact l_same (Src.at_ (Src.dep (j := 3) (t := 88) (by kernel_rfl) (by kernel_rfl) rfl) U) (Src.at_ (Src.dep (j := 7) (t := 92) (by kernel_rfl) (by kernel_rfl) rfl) U) (by decide) (by decide))
          · exact sNot (b := true) rfl rfl rfl hz rfl (Gd.none_ rfl) rfl (Src.dep (j := 8) (t := 93) (by kernel_rfl) (by kernel_rfl) rfl)
          · exact sMv rfl rfl rfl hz rfl (Gd.none_ rfl) rfl (Src.dep (j := 9) (t := 94) (by kernel_rfl) (by kernel_rfl) rfl)
          · exact sMv rfl rfl rfl hz rfl (Gd.yes rfl rfl (Src.dep (j := 10) (t := 95) (by kernel_rfl) (by kernel_rfl) rfl) rfl) rfl (Src.out (t := 5) (by kernel_rfl) S5 rfl)
          · exact sMv rfl rfl rfl hz rfl (Gd.yes rfl rfl (Src.dep (j := 10) (t := 95) (by kernel_rfl) (by kernel_rfl) rfl) rfl) rfl (Src.out (t := 11) (by kernel_rfl) S11 rfl)
          · exact sIdx rfl rfl rfl hz rfl (Gd.yes rfl rfl (Src.dep (j := 10) (t := 95) (by kernel_rfl) (by kernel_rfl) rfl) rfl) rfl (Src.dep (j := 11) (t := 96) (by kernel_rfl) (by kernel_rfl) rfl) (Src.dep (j := 12) (t := 97) (by kernel_rfl) (by kernel_rfl) rfl) (ia64 hi)
          · exact sLoadRow rfl rfl rfl hz rfl (Gd.yes rfl rfl (Src.dep (j := 10) (t := 95) (by kernel_rfl) (by kernel_rfl) rfl) rfl) rfl (Src.dep (j := 13) (t := 98) (by kernel_rfl) (by kernel_rfl) rfl) (OwN.rw_ O5) rfl hi ldr64
          · exact sMv rfl rfl rfl hz rfl (Gd.yes rfl rfl (Src.dep (j := 10) (t := 95) (by kernel_rfl) (by kernel_rfl) rfl) rfl) rfl (Src.out (t := 6) (by kernel_rfl) S6 rfl)
          · exact sMv rfl rfl rfl hz rfl (Gd.yes rfl rfl (Src.dep (j := 10) (t := 95) (by kernel_rfl) (by kernel_rfl) rfl) rfl) rfl (Src.out (t := 11) (by kernel_rfl) S11 rfl)
          · exact sIdx rfl rfl rfl hz rfl (Gd.yes rfl rfl (Src.dep (j := 10) (t := 95) (by kernel_rfl) (by kernel_rfl) rfl) rfl) rfl (Src.dep (j := 15) (t := 100) (by kernel_rfl) (by kernel_rfl) rfl) (Src.dep (j := 16) (t := 101) (by kernel_rfl) (by kernel_rfl) rfl) (ia32 hi)
          · exact sLoadRow rfl rfl rfl hz rfl (Gd.yes rfl rfl (Src.dep (j := 10) (t := 95) (by kernel_rfl) (by kernel_rfl) rfl) rfl) rfl (Src.dep (j := 17) (t := 102) (by kernel_rfl) (by kernel_rfl) rfl) (OwN.rw_ O6) rfl hi ldr32
          · exact sMv rfl rfl rfl hz rfl (Gd.yes rfl rfl (Src.dep (j := 10) (t := 95) (by kernel_rfl) (by kernel_rfl) rfl) rfl) rfl (Src.out (t := 11) (by kernel_rfl) S11 rfl)
          · exact sCall rfl rfl rfl hz rfl (Gd.yes rfl rfl (Src.dep (j := 10) (t := 95) (by kernel_rfl) (by kernel_rfl) rfl) rfl) rfl Try.func27 (by kernel_rfl) (by kernel_rfl) fun a γ w U => (by show Calls _ _ #[a.eval (.tmp 99), a.eval (.tmp 103), a.eval (.tmp 104)] _ _; rw [show a.eval (.tmp 104) = .int .i64 (i : Int) from Src.at_ (Src.dep (j := 19) (t := 104) (by kernel_rfl) (by kernel_rfl) rfl) U]; exact l_told (Src.at_ (Src.dep (j := 14) (t := 99) (by kernel_rfl) (by kernel_rfl) rfl) U) (Src.at_ (Src.dep (j := 18) (t := 103) (by kernel_rfl) (by kernel_rfl) rfl) U) (by decide) (by decide) (by omega))
          · exact sNot (b := true) rfl rfl rfl hz rfl (Gd.yes rfl rfl (Src.dep (j := 10) (t := 95) (by kernel_rfl) (by kernel_rfl) rfl) rfl) rfl (Src.dep (j := 20) (t := 105) (by kernel_rfl) (by kernel_rfl) rfl)
          · exact sPickF rfl rfl rfl hz rfl (Gd.none_ rfl) rfl (Src.dep (j := 10) (t := 95) (by kernel_rfl) (by kernel_rfl) rfl) (Src.dep (j := 21) (t := 106) (by kernel_rfl) (by kernel_rfl) rfl)
        intro a' γ' W' hz' hd' hC hk hh
        replace S4 := hk 4 _ (by kernel_rfl) S4
        replace S5 := hk 5 _ (by kernel_rfl) S5
        replace S6 := hk 6 _ (by kernel_rfl) S6
        replace S11 := hk 11 _ (by kernel_rfl) S11
        replace S79 := hk 79 _ (by kernel_rfl) S79
        replace S80 := hk 80 _ (by kernel_rfl) S80
        replace S81 := hk 81 _ (by kernel_rfl) S81
        replace S82 := hk 82 _ (by kernel_rfl) S82
        replace HBy := RB.aft HBy hC (by intro m hm; simp at hm)
        replace HSc := RO.aft HSc hC (by intro m hm; simp at hm)
        replace O5 := OwN.aft O5 hC rfl
        replace O6 := OwN.aft O6 hC rfl
        have S85 := gotV hz' 0 hh rfl rfl rfl rfl
        have S86 := gotV hz' 1 hh rfl rfl rfl rfl
        have S87 := gotV hz' 2 hh rfl rfl rfl rfl
        obtain ⟨v88, S88, H88⟩ := got hz' 3 hh rfl rfl rfl rfl
        have S89 := gotV hz' 4 hh rfl rfl rfl rfl
        have S90 := gotV hz' 5 hh rfl rfl rfl rfl
        have S91 := gotV hz' 6 hh rfl rfl rfl rfl
        obtain ⟨v92, S92, H92⟩ := got hz' 7 hh rfl rfl rfl rfl
        have S93 := gotV hz' 8 hh rfl rfl rfl rfl
        have S94 := gotV hz' 9 hh rfl rfl rfl rfl
        have S95 := gotV hz' 10 hh rfl rfl rfl rfl
        have S96 := gotV hz' 11 hh rfl rfl rfl rfl
        have S97 := gotV hz' 12 hh rfl rfl rfl rfl
        have S98 := gotV hz' 13 hh rfl rfl rfl rfl
        obtain ⟨v99, S99, H99⟩ := got hz' 14 hh rfl rfl rfl rfl
        have S100 := gotV hz' 15 hh rfl rfl rfl rfl
        have S101 := gotV hz' 16 hh rfl rfl rfl rfl
        have S102 := gotV hz' 17 hh rfl rfl rfl rfl
        obtain ⟨v103, S103, H103⟩ := got hz' 18 hh rfl rfl rfl rfl
        have S104 := gotV hz' 19 hh rfl rfl rfl rfl
        have S105 := gotV hz' 20 hh rfl rfl rfl rfl
        have S106 := gotV hz' 21 hh rfl rfl rfl rfl
        have S107 := gotV hz' 22 hh rfl rfl rfl rfl
        replace HB := aft_call HB (RelC.below_nil hC)
        clear hC hk hh; replace hz := hz'; replace hd := hd'; clear hz' hd'
        refine wp_cond_false S107.ev ?_
        refine wp_skip ?_
        refine region_text (M := []) (
            rT (tV (.int .i64 (i : Int))) ::
            rT (tV (.int .i64 ((i + 1 : Nat) : Int))) ::
            rT (tV (.int .i64 ((i + 1 : Nat) : Int))) ::
            []) hz hd (by kernel_rfl) ?_ ?_
        · refine ⟨?_, ?_, ?_, trivial⟩
          · exact sMv rfl rfl rfl hz rfl (Gd.none_ rfl) rfl (Src.out (t := 11) (by kernel_rfl) S11 rfl)
          · exact sBin rfl rfl rfl hz rfl (Gd.none_ rfl) rfl (Src.dep (j := 0) (t := 83) (by kernel_rfl) (by kernel_rfl) rfl) (Src.const (.int .i64 1)) (fun w => by simp [go_sem, IntKind.wrap_i64]; omega)
          · exact sAs rfl rfl rfl hz rfl (Gd.none_ rfl) rfl (Src.dep (j := 1) (t := 84) (by kernel_rfl) (by kernel_rfl) rfl)
        intro a' γ' W' hz' hd' hC hk hh
        replace S4 := hk 4 _ (by kernel_rfl) S4
        replace S5 := hk 5 _ (by kernel_rfl) S5
        replace S6 := hk 6 _ (by kernel_rfl) S6
        clear S11
        replace S79 := hk 79 _ (by kernel_rfl) S79
        replace S80 := hk 80 _ (by kernel_rfl) S80
        replace S81 := hk 81 _ (by kernel_rfl) S81
        replace S82 := hk 82 _ (by kernel_rfl) S82
        replace S85 := hk 85 _ (by kernel_rfl) S85
        replace S86 := hk 86 _ (by kernel_rfl) S86
        replace S87 := hk 87 _ (by kernel_rfl) S87
        replace S88 := hk 88 _ (by kernel_rfl) S88
        replace H88 := Ty.aft _ H88 hC
        replace S89 := hk 89 _ (by kernel_rfl) S89
        replace S90 := hk 90 _ (by kernel_rfl) S90
        replace S91 := hk 91 _ (by kernel_rfl) S91
        replace S92 := hk 92 _ (by kernel_rfl) S92
        replace H92 := Ty.aft _ H92 hC
        replace S93 := hk 93 _ (by kernel_rfl) S93
        replace S94 := hk 94 _ (by kernel_rfl) S94
        replace S95 := hk 95 _ (by kernel_rfl) S95
        replace S96 := hk 96 _ (by kernel_rfl) S96
        replace S97 := hk 97 _ (by kernel_rfl) S97
        replace S98 := hk 98 _ (by kernel_rfl) S98
        replace S99 := hk 99 _ (by kernel_rfl) S99
        replace H99 := Ty.aft _ H99 hC
        replace S100 := hk 100 _ (by kernel_rfl) S100
        replace S101 := hk 101 _ (by kernel_rfl) S101
        replace S102 := hk 102 _ (by kernel_rfl) S102
        replace S103 := hk 103 _ (by kernel_rfl) S103
        replace H103 := Ty.aft _ H103 hC
        replace S104 := hk 104 _ (by kernel_rfl) S104
        replace S105 := hk 105 _ (by kernel_rfl) S105
        replace S106 := hk 106 _ (by kernel_rfl) S106
        replace S107 := hk 107 _ (by kernel_rfl) S107
        replace HBy := RB.aft HBy hC (by intro m hm; simp at hm)
        replace HSc := RO.aft HSc hC (by intro m hm; simp at hm)
        replace O5 := OwN.aft O5 hC rfl
        replace O6 := OwN.aft O6 hC rfl
        have S83 := gotV hz' 0 hh rfl rfl rfl rfl
        have S84 := gotV hz' 1 hh rfl rfl rfl rfl
        have S11 := gotV hz' 2 hh rfl rfl rfl rfl
        replace HB := aft_call HB (RelC.below_nil hC)
        clear hC hk hh; replace hz := hz'; replace hd := hd'; clear hz' hd'
        show ∃ n', n' < _ ∧ _
        refine ⟨_, ?_, i + 1, rfl, hz, hd, HB, S4, S5, S6, S11, HBy, HSc, O5, O6⟩
        omega
      · rw [decide_eq_false hc10] at S82
        refine wp_cond_false S82.ev ?_
        refine wp_exit ?_
        refine wp_seq ?_
        refine region_text (M := []) (
            rT (tV (.bool true)) ::
            rT (tV (.bool true)) ::
            []) hz hd (by kernel_rfl) ?_ ?_
        · refine ⟨?_, ?_, trivial⟩
          · exact sCall rfl rfl rfl hz rfl (Gd.none_ rfl) rfl Try.func21 (by kernel_rfl) (by kernel_rfl) fun a γ w U => (by show Calls _ _ #[] _ _; exact l_started)
          · exact sAs rfl rfl rfl hz rfl (Gd.none_ rfl) rfl (Src.dep (j := 0) (t := 108) (by kernel_rfl) (by kernel_rfl) rfl)
        intro a' γ' W' hz' hd' hC hk hh
        clear S4
        clear S5
        clear S6
        clear S11
        clear S79
        clear S80
        clear S81
        clear S82
        replace HBy := RB.aft HBy hC (by intro m hm; simp at hm)
        replace HSc := RO.aft HSc hC (by intro m hm; simp at hm)
        replace O5 := OwN.aft O5 hC rfl
        replace O6 := OwN.aft O6 hC rfl
        have S4 := gotV hz' 1 hh rfl rfl rfl rfl
        replace HB := aft_call HB (RelC.below_nil hC)
        clear hC hk hh; replace hz := hz'; replace hd := hd'; clear hz' hd'
        refine wp_ret ?_
        exact ret1 (by kernel_rfl) S4 hd ⟨_, rfl, rfl, HB⟩

end Go.Proofs.Ytijbhbjenddiaaa.Rg

namespace Go.Proofs.Ytijbhbjenddiaaa
open Go.RowKit Go.Deep Go.ChangeShapes Go.WideShapes Rg

theorem ret_out' {P : Program} {f : FuncId} {args : Array Value} {w : World} {v : Value} (h : Calls P f args w (Ret (tV v) w)) : Calls P f args w fun e w' => e = .returned v ∧ Below w.heap.size w w' := by
  refine h.mono ?_
  rintro e w' ⟨u, rfl, rfl, hb⟩
  exact ⟨rfl, hb⟩
theorem u8_bv {l : List Int} (h : ∀ x ∈ l, (Lit.int .u8 x).wf = true) : bv (l.map Int.toNat) = l.map (.int .u8) ∧ ∀ d ∈ l.map Int.toNat, d < 256 := by
  have hx : ∀ x ∈ l, 0 ≤ x ∧ x ≤ 255 := fun x hx => by
    have := h x hx
    simp only [Lit.wf, decide_eq_true_eq, Bool.and_eq_true] at this
    have e1 : IntKind.u8.min = 0 := by decide
    have e2 : IntKind.u8.max = 255 := by decide
    rw [e1, e2] at this
    exact this
  refine ⟨?_, fun d hd => ?_⟩
  · unfold bv
    rw [List.map_map]
    refine List.map_congr_left fun x hm => ?_
    have := hx x hm
    simp
    omega
  · obtain ⟨x, hm, rfl⟩ := List.mem_map.1 hd
    have := hx x hm
    omega
theorem in_byterows {H : Type} {enc : TypeId × Value → H} {P : Program} {w : World} {t e q : TypeId} {a : Option Addr} {len cap : Nat} {d : DataW H} {p : List MemPlace} (ht : P.underlying t = some (.slice e)) (he : P.underlying e = some (.slice q)) (hq : P.underlying q = some (.int .u8)) (ce : P.cellsOf e = 1) (cq : P.cellsOf q = 1)
    (h : DataW.Trod enc P w 0 (fun _ => true) true t (.slice a len cap) d p) : ∃ ls, RB a len ls w.heap.size w := by
  obtain ⟨fuel, hf⟩ := h
  rcases open_int_rows ht he hq ce cq hf with ⟨hcs, _⟩ | ⟨x, l, c, A, L, C, Z, hcs, _, hl, hm, hx, hcell⟩
  · simp [Value.cells] at hcs
    obtain ⟨rfl, rfl, rfl⟩ := hcs
    exact ⟨fun _ => [], fun i hi => absurd hi (by omega)⟩
  · simp [Value.cells] at hcs
    obtain ⟨rfl, rfl, rfl⟩ := hcs
    refine ⟨fun i => ((Z i).take (L i)).map Int.toNat, fun i hi => ?_⟩
    obtain ⟨h1, h2, h3, h4, h5, h6, h7⟩ := hcell i (by omega)
    have h0 := (hcell 0 (by omega)).1
    obtain ⟨g, off, s⟩ := x
    have hsn : s = none := by
      have := spot_none h0
      unfold Addr.add at this
      simpa using this
    subst hsn
    rw [Addr.add_lit] at h1
    obtain ⟨e1, e2⟩ := u8_bv (l := (Z i).take (L i)) (fun x hx => h5 x (List.mem_of_mem_take hx))
    refine ⟨g, off, A i, L i, C i, rfl, World.block_lt_of_cell? _ _ h1, h1, ⟨?_, e2⟩, h2, by omega⟩
    rw [e1]
    refine ⟨by rw [List.length_map, List.length_take, h4]; omega, fun hn => ?_⟩
    cases hA : A i with
    | none => have := h6 hA; omega
    | some a' =>
      obtain ⟨_, hc⟩ := h7 a' hA
      refine ⟨a', rfl, ?_, fun j u hu => ?_⟩
      · have := World.block_lt_of_cell? w _ (hc 0 (by omega)); rwa [block_of_add] at this
      · have hj : j < L i := by
          have := (List.getElem?_eq_some_iff.1 hu).1
          simp at this; omega
        rw [hc j (by omega), ← hu]
        simp [List.getElem?_take, hj]
        rw [List.getElem?_eq_getElem (by omega)]; rfl
theorem ro_in {w : World} {A : Option Addr} {n c : Nat} {l : List Int} (h : InI .i64 32 4 w A n c l) : RO A n (fun j => l.getD j 0) w.heap.size w := by
  intro i hi
  obtain ⟨g, off, rfl, hg, hc⟩ := h.reads.flat (by omega) (by decide)
  have hl := h.reads.1
  rw [List.length_map] at hl
  refine ⟨g, off, rfl, hg, fun f hf => hc _ _ ?_⟩
  have : i * 4 + f < l.length := by omega
  rw [List.getElem?_map, List.getElem?_eq_getElem this]
  show _ = some (Value.int IntKind.i64 (l.getD (i * 4 + f) 0))
  rw [List.getD_eq_getElem?_getD, List.getElem?_eq_getElem this]; rfl
theorem natPlays_walk (A0 : Option Addr) (n0 c0 : Nat) (ls : Nat → List Nat) (A1 : Option Addr) (n1 c1 : Nat) (l1 : List Int) (w : World) (h0 : RB A0 n0 ls w.heap.size w) (h1 : InI .i64 32 4 w A1 n1 c1 l1) :
    Calls Try.prog 12 #[.slice A0 n0 c0, .slice A1 n1 c1] w fun e w' => e = .returned (.bool true) ∧ Below w.heap.size w w' :=
  ret_out' (natPlays_ret h0 (ro_in h1))
end Go.Proofs.Ytijbhbjenddiaaa
