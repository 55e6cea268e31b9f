/-
  Walks and plain laws, put together: OA OB OE TI UJ UK T5.
-/
import Derived.Test.YthanbjbcpljcoaaQp
import Derived.Test.YthanbjbcpljcoaaQf
import Derived.Test.YthanbjbcpljcoaaFr
import Derived.ChangeSlices
import Derived.Test.YthanbjbcpljcoaaXAX
import Derived.ArgAppend
set_option linter.unusedVariables false
set_option linter.unusedSimpArgs false
namespace Go.Proofs.Ythanbjbcpljcoaa.Rg

open Go.RowKit
theorem AllT.set : ∀ {Ts : List Ty} {vs : List Value} {w : World} (i : Nat) {T : Ty} {v : Value}, AllT Ts vs w → T.p v w → AllT (Ts.set i T) (vs.set i v) w
  | [], [], _, _, _, _, h, _ => h
  | _ :: _, _ :: _, _, 0, _, _, h, hv => ⟨hv, h.2⟩
  | _ :: _, _ :: _, _, i + 1, _, _, h, hv => ⟨h.1, AllT.set i h.2 hv⟩
  | [], _ :: _, _, _, _, _, h, _ => h.elim
  | _ :: _, [], _, _, _, _, h, _ => h.elim
section

variable {P : Program} {ops : Array Oper} {Q : Exit → Act → World → Prop} {a0 : Act} {M : List Nat} {W : World} {rels : List Rel} {i : Nat} {o : Oper} {T T' : Ty} {N d : Nat} {x y c c2 : Operand}
/-- All blocks but one stay, and there may be new ones. -/
structure ButB (p : Nat) (w w' : World) : Prop where
  os : w'.os = w.os
  tape : w'.tape = w.tape
  output : w'.output = w.output
  size : w.heap.size ≤ w'.heap.size
  block : ∀ b, b < w.heap.size → b ≠ p → w'.heap[b]? = w.heap[b]?
theorem ButB.refl (p : Nat) (w : World) : ButB p w w := ⟨rfl, rfl, rfl, Nat.le_refl _, fun _ _ _ => rfl⟩
theorem ButB.of (p : Nat) {w w' : World} (h : Below w.heap.size w w') : ButB p w w' := ⟨h.os, h.tape, h.output, h.size, fun b hb _ => h.block b hb⟩
theorem ButB.trans {p : Nat} {w w' w'' : World} (h : ButB p w w') (g : ButB p w' w'') : ButB p w w'' :=
  ⟨g.os.trans h.os, g.tape.trans h.tape, g.output.trans h.output, Nat.le_trans h.size g.size, fun b hb hp => (g.block b (Nat.lt_of_lt_of_le hb h.size) hp).trans (h.block b hb hp)⟩
theorem ButB.aft {p : Nat} {M : List Nat} {w W w' : World} {γ : Nat → Nat} (h : ButB p w W) (hc : RelC M W γ w') (hM : ∀ m ∈ M, w.heap.size ≤ m ∨ m = p) : ButB p w w' := by
  refine ⟨hc.1.os.trans h.os, hc.1.tape.trans h.tape, hc.1.output.trans h.output, Nat.le_trans h.size hc.1.size, fun b hb hp => (hc.1.block b (Nat.lt_of_lt_of_le hb h.size) (.inr ?_)).trans (h.block b hb hp)⟩
  have key : ∀ (M : List Nat) (k : Nat), (∀ m ∈ M, w.heap.size ≤ m ∨ m = p) → tagOf M k b = 0 := by
    intro M
    induction M with
    | nil => intro k _; rfl
    | cons m M ih =>
      intro k hm
      unfold tagOf
      have := hm m List.mem_cons_self
      rw [if_neg (by omega)]
      exact ih _ fun x hx => hm x (List.mem_cons_of_mem _ hx)
  unfold mt
  rw [if_pos (key M 1000 hM)]; omega
end
end Go.Proofs.Ythanbjbcpljcoaa.Rg

namespace Go.Proofs.Ythanbjbcpljcoaa.Rg

open Go.RowKit
section

variable {B l m : Nat} {a : Rat} {v : Value} {w : World}
end

end Go.Proofs.Ythanbjbcpljcoaa.Rg

namespace Go.Proofs.Ythanbjbcpljcoaa.Rg

open Go.RowKit
section

variable {P : Program} {ops : Array Oper} {Q : Exit → Act → World → Prop} {a0 : Act} {M : List Nat} {W : World} {rels : List Rel} {i : Nat} {o : Oper} {T T' : Ty} {N d : Nat} {x y z : Operand}
def rN (j : Nat) (id : TypeId) (T : Ty) (u : Value) : Rel :=
  ⟨none, 0, j + 1, fun v γ w => ∃ p, v = .tuple #[.pointer (some ⟨p, 0, none⟩), u] ∧ γ p = j + 1 ∧ Cell id T p w,
    fun t γ w γ' w' v ht g ⟨p, e, hγ, h⟩ => ⟨p, e, by rw [g.tag p h.lt]; exact hγ, h.grow g (by omega)⟩⟩
def allTag (γ : Nat → Nat) (w : World) (t : Nat) : Nat → Nat := fun b => if b < w.heap.size then γ b else t
end
end Go.Proofs.Ythanbjbcpljcoaa.Rg

namespace Go.Proofs.Ythanbjbcpljcoaa.Rg

open Go.RowKit Go.ChangeShapes Go.WideShapes Go.ChangeAt Go.Deep

theorem u8_bv {l : List Int} (h : ∀ x ∈ l, (Lit.int .u8 x).wf = true) : bv (l.map Int.toNat) = l.map (.int .u8) ∧ ∀ d ∈ l.map Int.toNat, d < 256 := by
  have hx : ∀ x ∈ l, 0 ≤ x ∧ x ≤ 255 := fun x hx => by
    have := h x hx
    simp only [Lit.wf, decide_eq_true_eq, Bool.and_eq_true] at this
    have e1 : IntKind.u8.min = 0 := by decide
    have e2 : IntKind.u8.max = 255 := by decide
    rw [e1, e2] at this
    exact this
  refine ⟨?_, fun d hd => ?_⟩
  · unfold bv
    rw [List.map_map]
    refine List.map_congr_left fun x hm => ?_
    have := hx x hm
    simp
    omega
  · obtain ⟨x, hm, rfl⟩ := List.mem_map.1 hd
    have := hx x hm
    omega
theorem ret_out {P : Program} {f : FuncId} {args : Array Value} {w : World} {v : Value} (h : Calls P f args w (Ret (tV v) w)) : Calls P f args w fun e w' => e = .returned v ∧ Below w.heap.size w w' := by
  refine h.mono ?_
  rintro e w' ⟨u, rfl, rfl, hb⟩
  exact ⟨rfl, hb⟩
section

variable {H : Type} {enc : TypeId × Value → H} {P : Program} {w : World}
theorem bytes_in {t e : TypeId} {fuel : Nat} {cs : List Value} {x : DataW H × List MemPlace} (ht : P.underlying t = some (.slice e)) (he : P.underlying e = some (.int .u8)) (hc : P.cellsOf e = 1)
    (h : DataW.trod enc P w 0 (fun _ => true) true fuel t cs = some x) : ∃ A n c l, cs = [.slice A n c] ∧ BAt w A n c l ∧ n ≤ c ∧ n ≤ 9223372036854775807 := by
  rcases open_ints ht he hc h with ⟨hcs, _⟩ | ⟨a, len, cap, zs, hcs, _, hl, hm, hz, hx, hcell, hwz⟩
  · exact ⟨none, 0, 0, [], hcs, ⟨⟨by simp [bv], fun h => absurd h (by omega)⟩, by simp⟩, Nat.le_refl _, by omega⟩
  · simp only [if_true] at hz
    obtain ⟨e1, e2⟩ := u8_bv (l := zs.take len) (fun x hx => hwz x (List.mem_of_mem_take hx))
    refine ⟨some a, len, cap, (zs.take len).map Int.toNat, hcs, ⟨?_, e2⟩, hl, by unfold maxLen at hm; omega⟩
    rw [e1]
    refine ⟨by rw [List.length_map, List.length_take, hz]; omega, fun hn => ⟨a, rfl, ?_, fun j u hu => ?_⟩⟩
    · have := World.block_lt_of_cell? w _ (hcell 0 (by omega)); rwa [block_of_add] at this
    · have hj : j < len := by
        have := (List.getElem?_eq_some_iff.1 hu).1
        simp at this; omega
      rw [hcell j (by omega), ← hu]
      simp [List.getElem?_take, hj]
      rw [List.getElem?_eq_getElem (by omega)]; rfl
theorem cells22 : Try.prog.cellsOf 22 = 1 := by kernel_rfl
set_option maxRecDepth 100000 in
theorem in_f {v : Value} {d : DataW H} {p : List MemPlace} {r : Reach} {base : Nat} (hv : Value.okWide Try.prog w r base 24 v) (h : DataW.Trod enc Try.prog w 0 (fun _ => true) true 24 v d p) : ∃ l k, (tF l k).p v w := by
  obtain ⟨cs, rfl, hsz⟩ := okWide_struct Try.underlying24 hv
  have h2 : Try.prog.cellsOf 24 = 2 := by kernel_rfl
  rw [h2] at hsz
  obtain ⟨c0, c1, rfl⟩ : ∃ c0 c1, cs = #[c0, c1] := by
    obtain ⟨l⟩ := cs
    match l, hsz with
    | [a, b], _ => exact ⟨a, b, rfl⟩
  obtain ⟨fuel, h⟩ := h
  obtain ⟨xs, n, rfl, hx, hlen, hxl, hf⟩ := DataW.trod_struct Try.underlying24 h
  have f0 : DataW.trod enc Try.prog w 0 (fun _ => true) true n 22 (List.take (Try.prog.cellsOf 22) [c0, c1]) = xs[0]? := hf 0 _ rfl
  have f1 : DataW.trod enc Try.prog w 0 (fun _ => true) true n 22 (List.take (Try.prog.cellsOf 22) [c1]) = xs[1]? := hf 1 _ rfl
  rw [cells22] at f0 f1
  have hl : xs.length = 2 := hxl
  rw [List.getElem?_eq_getElem (by omega)] at f0 f1
  obtain ⟨A, m, c, l, e0, hB, h3, h4⟩ := bytes_in Try.underlying22 Try.underlying5 (by kernel_rfl) f0
  obtain ⟨A', m', c', l', e1, hB', h3', h4'⟩ := bytes_in Try.underlying22 Try.underlying5 (by kernel_rfl) f1
  simp [Value.cells] at e0 e1
  subst e0 e1
  exact ⟨l, l', A, m, c, A', m', c', rfl, hB, h3, h4, hB', h3', h4'⟩
end
end Go.Proofs.Ythanbjbcpljcoaa.Rg

namespace Go.Proofs.Ythanbjbcpljcoaa.Rg

open Go.RowKit

/-- Bytes of one's own: a block from B on that holds bytes alone; the first n are l. -/
structure OwB (B g n c : Nat) (l : List Nat) (w : World) : Prop where
  ex : ∃ L, Bg w g L ∧ L.length = c ∧ (∀ d ∈ L, d < 256) ∧ L.take n = l
  le : n ≤ c
  lo : B ≤ g
  max : c ≤ maxLen
section

variable {B g n c : Nat} {l : List Nat} {w w' : World}
theorem OwB.lt (h : OwB B g n c l w) : g < w.heap.size := by obtain ⟨L, h1, _⟩ := h.ex; exact h1.lt
theorem OwB.same (h : OwB B g n c l w) (e : w'.heap[g]? = w.heap[g]?) : OwB B g n c l w' := by
  obtain ⟨L, h1, h2⟩ := h.ex
  exact ⟨⟨L, e.trans h1, h2⟩, h.le, h.lo, h.max⟩
theorem OwB.grow {t : Nat} {γ γ' : Nat → Nat} (h : OwB B g n c l w) (gr : Grow t γ w γ' w') (hp : t = 0 ∨ γ g ≠ t) : OwB B g n c l w' := h.same (gr.block g h.lt hp)
theorem OwB.aft {M : List Nat} {γ : Nat → Nat} (h : OwB B g n c l w) (hc : RelC M w γ w') (hp : tagOf M 1000 g = 0) : OwB B g n c l w' := h.grow hc.1 (.inr (by unfold mt; rw [if_pos hp]; omega))
theorem OwB.by_ (h : OwB B g n c l w) {lim : Nat} (hl : n ≤ lim) : (tBy lim l).p (.slice (some ⟨g, 0, none⟩) n c) w := by
  obtain ⟨L, h1, h2, h3, h4⟩ := h.ex
  have hb := h1.bat h3
  have hle := h.le
  refine ⟨_, n, c, rfl, ⟨⟨?_, fun hn => ⟨_, rfl, h.lt, fun j u hu => ?_⟩⟩, fun d hd => h3 d (by rw [← h4] at hd; exact List.mem_of_mem_take hd)⟩, h.le, hl⟩
  · rw [bv_length, ← h4, List.length_take]; omega
  · have hj : j < n := by have := (List.getElem?_eq_some_iff.1 hu).1; rw [bv_length, ← h4, List.length_take] at this; omega
    rw [Addr.add_lit, Nat.zero_add, h1.cell (by omega)]
    rw [← h4] at hu
    unfold bv at hu
    rw [List.map_take, List.getElem?_take_of_lt hj] at hu
    rw [← hu]
    have := bv_get L j (by omega)
    unfold bv at this
    rw [this]
end
/-- The same, whatever the bytes. -/
def ByU (B g n c : Nat) (w : World) : Prop := ∃ l, OwB B g n c l w
section

variable {B g n c k d : Nat} {l : List Nat} {w w' : World}
theorem ByU.aft {M : List Nat} {γ : Nat → Nat} (h : ByU B g n c w) (hc : RelC M w γ w') (hp : tagOf M 1000 g = 0) : ByU B g n c w' := by
  obtain ⟨l, h⟩ := h; exact ⟨l, h.aft hc hp⟩
theorem ByU.set_ (h : ByU B g n c w) (hd : d < 256) : ByU B g n c (w.setCell ⟨g, k, none⟩ (.int .u8 (d : Int))) := by
  obtain ⟨l, h⟩ := h
  obtain ⟨L, h1, h2, h3, h4⟩ := h.ex
  refine ⟨_, ⟨L.set k d, h1.set_ k d, by rw [List.length_set]; exact h2, fun x hx => ?_, rfl⟩, h.le, h.lo, h.max⟩
  rcases List.mem_or_eq_of_mem_set hx with hx | rfl
  · exact h3 x hx
  · exact hd
theorem ByU.ne {g' : Nat} {u : Value} (h : ByU B g n c w) (hg : g ≠ g') : ByU B g n c (w.setCell ⟨g', k, none⟩ u) := by
  obtain ⟨l, h⟩ := h
  exact ⟨l, h.same (Below.heap_setCell w ⟨g', k, none⟩ u g hg)⟩
theorem ByU.cell (h : ByU B g n c w) (hk : k < n) : ∃ z : Nat, z < 256 ∧ w.cell? ⟨g, k, none⟩ = some (.int .u8 (z : Int)) := by
  obtain ⟨l, h⟩ := h
  obtain ⟨L, h1, h2, h3, h4⟩ := h.ex
  have hle := h.le
  refine ⟨L.getD k 0, h3 _ ?_, h1.cell (by omega)⟩
  rw [List.getD_eq_getElem?_getD, List.getElem?_eq_getElem (by omega)]
  exact List.getElem_mem _
theorem ByU.frozen (h : ByU B g n c w) (k : Nat) : w.frozen? ⟨g, k, none⟩ = false := by
  obtain ⟨l, h⟩ := h
  obtain ⟨L, h1, _⟩ := h.ex
  exact h1.frozen k
theorem ByU.lo (h : ByU B g n c w) : B ≤ g := by obtain ⟨l, h⟩ := h; exact h.lo
/-- Digits stay. -/
theorem u64_keep {a : Addr} {m : Int} {u : Value} (h : ByU B g n c w) (ha : w.cell? a = some (.int .u64 m)) : (w.setCell ⟨g, k, none⟩ u).cell? a = some (.int .u64 m) := by
  obtain ⟨l, h⟩ := h
  obtain ⟨L, h1, h2, h3, h4⟩ := h.ex
  by_cases hag : a.block = g
  · exfalso
    obtain ⟨b, o, s⟩ := a
    simp only at hag
    subst hag
    have h1' : w.heap[b]? = some (.cells (bva L) 5 (0, 0)) := h1
    cases s with
    | none =>
      have e := Blk.cell h1 o
      rw [ha] at e
      have hm := List.mem_of_getElem? (by simpa [bva] using e.symm : (bv L)[o]? = some (.int .u64 m))
      obtain ⟨x, _, hx⟩ := List.mem_map.1 hm
      cases hx
    | some s => simp [World.cell?, h1'] at ha
  · rw [World.cell?_of_block (Below.heap_setCell w ⟨g, k, none⟩ u a.block hag)]; exact ha
theorem dat_keep {b m e x : Nat} {A : Option Addr} {u : Value} (h : ByU B g n c w) (hd : DAt b w A m e x) : DAt b (w.setCell ⟨g, k, none⟩ u) A m e x := by
  refine ⟨⟨hd.reads.1, fun hn => ?_⟩, hd.cap, hd.room⟩
  obtain ⟨ad, e, hb, hc⟩ := hd.reads.2 hn
  refine ⟨ad, e, by simpa [World.setCell] using hb, fun j v hv => ?_⟩
  obtain ⟨d, _, rfl⟩ := List.mem_map.1 (List.mem_of_getElem? hv)
  exact u64_keep h (hc j _ hv)
theorem q_keep {b l : Nat} {x : Rat} {v u : Value} (h : ByU B g n c w) (hv : (tQ b l x).p v w) : (tQ b l x).p v (w.setCell ⟨g, k, none⟩ u) := by
  obtain ⟨p, q, ⟨A, m, e, A', m', e', rfl, h1, h2, h3, h4⟩, r⟩ := hv
  exact ⟨p, q, ⟨A, m, e, A', m', e', rfl, dat_keep h h1, h2, dat_keep h h3, h4⟩, r⟩
/-- A variable that holds a fraction stays. -/
theorem cell_keep {b l p : Nat} {id : TypeId} {x : Rat} {u : Value} (h : ByU B g n c w) (hid : (id == 5) = false) (hc : Cell id (tQ b l x) p w) : Cell id (tQ b l x) p (w.setCell ⟨g, k, none⟩ u) := by
  obtain ⟨v, hb, hv⟩ := hc
  have hne : p ≠ g := by
    rintro rfl
    obtain ⟨l, h⟩ := h
    obtain ⟨L, h1, _⟩ := h.ex
    have h1 : w.heap[p]? = some (.cells (bva L) 5 (0, 0)) := h1
    have hb : w.heap[p]? = some (.cells v.cells id (0, 0)) := hb
    rw [h1] at hb
    injection hb with hb
    injection hb with e1 e2 e3
    rw [← e2] at hid
    simp at hid
  exact ⟨v, (Below.heap_setCell w ⟨g, k, none⟩ u p hne).trans hb, q_keep h hv⟩
end
/-- Bytes of one's own, told with a tag. -/
def rOB (tg B n : Nat) (l : List Nat) : Rel :=
  ⟨none, 0, tg, fun v γ w => ∃ g c, v = .slice (some ⟨g, 0, none⟩) n c ∧ γ g = tg ∧ OwB B g n c l w,
    fun t γ w γ' w' v ht gr ⟨g, c, e, hγ, h⟩ => ⟨g, c, e, by rw [gr.tag g h.lt]; exact hγ, h.grow gr (by omega)⟩⟩
/-- The same, with no room behind. -/
def rOF (tg B n : Nat) (l : List Nat) : Rel :=
  ⟨none, 0, tg, fun v γ w => ∃ g, v = .slice (some ⟨g, 0, none⟩) n n ∧ γ g = tg ∧ OwB B g n n l w,
    fun t γ w γ' w' v ht gr ⟨g, e, hγ, h⟩ => ⟨g, e, by rw [gr.tag g h.lt]; exact hγ, h.grow gr (by omega)⟩⟩
/-- A slice of a length. -/
def tSl (n : Nat) : Ty := tS fun v => ∃ A c, v = .slice A n c
section

variable {P : Program} {ops : Array Oper} {Q : Exit → Act → World → Prop} {a0 : Act} {M : List Nat} {W : World} {rels : List Rel} {i : Nat} {o : Oper} {T : Ty} {N d : Nat} {x y : Operand}
/-- A literal of bytes. -/
theorem zLitB {tid : TypeId} {n B : Nat} {l : List Nat} {ps : Array (Nat × Operand)} {vs : Array (Nat × Value)} (hz : a0.tmps.size = N) (hop : o.op = .buildSlice tid n ps) (hev : ∀ a : Act, (ps.map fun (i, x) => (i, a.eval x)) = vs)
    (hrun : ∀ w, (Instr.buildSlice tid n vs).run P w = .ok (.slice (some ⟨w.heap.size, 0, none⟩) n n) (w.alloc (.cells (bva l) 5))) (hl : l.length = n) (h256 : ∀ d ∈ l, d < 256) (hm : decide (n ≤ 1000) = true) (hB : B ≤ W.heap.size)
    (ho : ops[i]? = some o := by rfl) (hr : rels[i]? = some (rOF (i + 1) B n l) := by rfl) (hd : o.dst = some d := by rfl) (hlt : decide (d < N) = true := by rfl) (hg : o.guard = none := by rfl) : StepOk P ops a0 M W Q rels i o := by
  intro a γ w K hc hag hearly hdep hkp hK
  rw [if_pos (by simp [Region.wanted, hg])]
  have hrun' : (execOp a.eval o).run P w = .ok (.value (.slice (some ⟨w.heap.size, 0, none⟩) n n)) (w.alloc (.cells (bva l) 5)) := by
    unfold execOp
    rw [hop]
    simp only [hev, Sem.run_bind, hrun, Result.andThen, Sem.run_pure]
  have hm := of_decide_eq_true hm
  unfold Oper.wp
  rw [hrun']
  exact hK _ (newTag γ w (i + 1)) _ (by unfold effOf; rw [hr]; exact Grow.alloc γ w _ _) (holds_put ho hr rfl hd (lt_of hz hlt hag) ⟨w.heap.size, rfl, by simp [newTag], ⟨l, Blk.new w _ _, hl, h256, by rw [← hl]; exact List.take_length⟩, Nat.le_refl _, Nat.le_trans hB hc.1.size, by unfold maxLen; omega⟩)
/-- A call that hands back bytes of their own. -/
theorem zCB {n B : Nat} {l : List Nat} {f : FuncId} {fn : Func} {args : Array Operand} {ts : Array TypeId} (hz : a0.tmps.size = N) (hop : o.op = .call { callee := .value (.func f), args := args, argTypes := ts }) (hf : P.funcs[f]? = some fn) (hB : B ≤ W.heap.size)
    (h : ∀ a γ w, Up ops a0 M W rels i o a γ w → Calls P f (args.toList.map a.eval).toArray w fun e w' => ∃ g, e = .returned (.slice (some ⟨g, 0, none⟩) n n) ∧ OwB w.heap.size g n n l w' ∧ Below w.heap.size w w') (g : Gd ops a0 M W rels i o true := by exact Gd.none_ rfl)
    (ho : ops[i]? = some o := by rfl) (hr : rels[i]? = some (rOF (i + 1) B n l) := by rfl) (hd : o.dst = some d := by rfl) (hlt : decide (d < N) = true := by rfl) (hn : (fn.name == "runtime.NumGoroutine") = false := by kernel_rfl) (hb : fn.body.isNone = false := by kernel_rfl) : StepOk P ops a0 M W Q rels i o := by
  intro a γ w K hcc hag hearly hdep hkp hK
  have U : Up ops a0 M W rels i o a γ w := ⟨hcc, hag, hearly, hdep, hkp⟩
  rw [if_pos (g a γ w U)]
  have hcall := h a γ w U
  have hmap : (args.toList.map a.eval).toArray = args.map a.eval := by rw [← Array.toList_map]
  rw [hmap] at hcall
  have hrun : (execOp a.eval o).run P w = .ok (.enter f (args.map a.eval)) w := by
    unfold execOp
    rw [hop]
    simp [go_sem, resolve, Deferred.ofValue, Act.eval, invoke, run_enter hf hn hb]
  unfold Oper.wp
  rw [hrun]
  refine Calls.mono hcall ?_
  rintro e w' ⟨p, rfl, hown, hbel⟩
  have hp := hown.lo
  have hg0 := Grow.below γ hbel
  have hgr : Grow 0 γ w (allTag γ w (i + 1)) w' := ⟨hg0.os, hg0.tape, hg0.output, hg0.size, fun b hb => by simp [allTag, hb], hg0.block, hg0.num, hg0.var⟩
  refine hK _ _ w' (by unfold effOf; rw [hr]; exact hgr) (holds_put ho hr rfl hd (lt_of hz hlt hag) ⟨p, rfl, ?_, hown.ex, hown.le, Nat.le_trans hB (Nat.le_trans hcc.1.size hp), hown.max⟩)
  unfold allTag; rw [if_neg (by omega)]
/-- Handed on. -/
theorem zHandR {j t : Nat} {r r' : Rel} (hz : a0.tmps.size = N) (hr : rels[i]? = some r') (hj : (ops[j]?).bind (·.dst) = some t) (hwj : waitsD o j = true) (hrj : rels[j]? = some r) (hs : r.sub = none) (hs' : r'.sub = none) (he : r'.eff = 0) (hp : ∀ v γ w, r.p v γ w → r'.p v γ w)
    (hop : o.op = .assign (.tmp t) ∨ o.op = .move (.tmp t)) (g : Gd ops a0 M W rels i o true := by exact Gd.none_ rfl) (ho : ops[i]? = some o := by rfl) (hd : o.dst = some d := by rfl) (hlt : decide (d < N) = true := by rfl) : StepOk P ops a0 M W Q rels i o := by
  intro a γ w K hc hag hearly hdep hkp hK
  have U : Up ops a0 M W rels i o a γ w := ⟨hc, hag, hearly, hdep, hkp⟩
  rw [if_pos (g a γ w U)]
  have h1 := hdep j (.inl hwj)
  unfold Holds at h1
  rw [hrj] at h1
  have e2 : valOf ops a j = a.eval (.tmp t) := by simp only [valOf, hj]; rfl
  have h2 : r.p (a.eval (.tmp t)) γ w := by
    rw [← e2]
    have h1' : r.p (valOf ops a (r.sub.getD j)) γ w := h1
    rw [hs] at h1'; exact h1'
  have hrun' : (execOp a.eval o).run P w = .ok (.value (a.eval (.tmp t))) w := by
    unfold execOp
    rcases hop with h | h <;> rw [h] <;> simp only [Sem.run_pure]
  unfold Oper.wp
  rw [hrun']
  exact hK _ γ w (by unfold effOf; rw [hr]; simp only [he]; exact Grow.refl_ _ _) (holds_put ho hr hs' hd (lt_of hz hlt hag) (hp _ _ _ h2))
end

section

variable {P : Program} {w : World}
theorem info_byte' : ∃ i : TypeInfo, Try.prog.info? 5 = some i ∧ i.zero = some (.int .u8 0) ∧ i.size = 1 ∧ i.bytes = 1 := by
  have h := info_byte
  cases hq : Try.prog.info? 5 with
  | none => rw [hq] at h; cases h
  | some i =>
    rw [hq] at h
    simp at h
    exact ⟨i, rfl, h.1, h.2.1, h.2.2⟩
theorem zeros_bv (n : Nat) : Builtin.zeroCells #[.int .u8 0] n = bva (List.replicate n 0) := by
  apply Array.ext
  · simp [Builtin.zeroCells, bva, bv]
  · intro i h1 h2
    simp [Builtin.zeroCells, bva, bv, Nat.mod_one]
/-- Bytes put behind bytes that have no room. -/
theorem app_bytes {B g n m c : Nat} {A : Option Addr} {l k : List Nat} {ty : TypeId} (h : OwB B g n n l w) (hk : BAt w A m c k) (hm : 0 < m) (hs : n + m ≤ 1000000000000) :
    ∃ c' w', (Builtin.append_ #[22, 22] ty #[.slice (some ⟨g, 0, none⟩) n n, .slice A m c]).run Try.prog w = .ok (.slice (some ⟨w.heap.size, 0, none⟩) (n + m) c') w' ∧ OwB w.heap.size w.heap.size (n + m) c' (l ++ k) w' ∧ Below w.heap.size w w' := by
  obtain ⟨i0, hi, hz, hz1, hz2⟩ := info_byte'
  obtain ⟨L, h1, h2, h3, h4⟩ := h.ex
  have hLl : L = l := by rw [← h4, ← h2, List.take_length]
  subst hLl
  obtain ⟨ad, rfl, hb, hc⟩ := hk.reads.2 hm
  have hkl := hk.len
  have hr := run_append_grow (P := Try.prog) w 22 ty 5 i0 (.int .u8 0) Try.underlying22 hi hz ⟨g, 0, none⟩ n n (bv L) (by rw [bv_length, hz1, h2, Nat.mul_one]) (fun j u hu => by
      have hj : j < L.length := by have := (List.getElem?_eq_some_iff.1 hu).1; rwa [bv_length] at this
      rw [Addr.add_lit, Nat.zero_add, h1.cell hj, ← hu, bv_get _ j hj]) ad m c (bv k) (by rw [bv_length, hz1, hkl, Nat.mul_one]) hc (by omega) (by omega) (growslice_fits (by omega) (by rw [hz2]; omega))
  have hge := grownCap_ge w (n + m) n 5
  have hcm := grownCap_le_maxLen w (n + m) n 5 (by unfold maxLen; omega)
  generalize grownCap w (n + m) n 5 = nc at hr hge hcm
  have e : (bv L).toArray ++ (bv k).toArray ++ Builtin.zeroCells (Value.int .u8 0).cells (nc - (n + m)) = bva (L ++ k ++ List.replicate (nc - (n + m)) 0) := by
    show _ ++ Builtin.zeroCells #[.int .u8 0] _ = _
    rw [zeros_bv]
    simp [bva, bv]
  rw [e] at hr
  have hbw : Below w.heap.size w (w.drew.alloc (.cells (bva (L ++ k ++ List.replicate (nc - (n + m)) 0)) 5)) := (Below.refl _ _).drew.alloc (Nat.le_refl _) _
  refine ⟨nc, _, hr, ⟨⟨_, Blk.new w.drew 5 _, ?_, fun d hd => ?_, ?_⟩, hge, Nat.le_refl _, hcm⟩, hbw⟩
  · simp [h2, hkl]; omega
  · rcases List.mem_append.1 hd with hd | hd
    · rcases List.mem_append.1 hd with hd | hd
      · exact h3 d hd
      · exact hk.byte d hd
    · have := List.eq_of_mem_replicate hd; omega
  · rw [show n + m = (L ++ k).length by rw [List.length_append, h2, hkl]]
    exact List.take_left
theorem app_none {g n c : Nat} {A : Option Addr} {ty : TypeId} : (Builtin.append_ #[22, 22] ty #[.slice (some ⟨g, 0, none⟩) n n, .slice A 0 c]).run Try.prog w = .ok (.slice (some ⟨g, 0, none⟩) n n) w := by
  obtain ⟨i0, hi, hz, hz1, hz2⟩ := info_byte'
  have ht := Try.underlying22
  cases A with
  | none => simp [Builtin.append_, run_underlying ht, sizeOf, typeInfo, hi, Builtin.lenOf, Builtin.firstCells, loadCells, loadCellsFrom, storeCells]
  | some a => simp [Builtin.append_, run_underlying ht, sizeOf, typeInfo, hi, Builtin.lenOf, Builtin.firstCells, loadCells, loadCellsFrom, storeCells]
end

section

variable {ops : Array Oper} {Q : Exit → Act → World → Prop} {a0 : Act} {M : List Nat} {W : World} {rels : List Rel} {i : Nat} {o : Oper} {T : Ty} {N d : Nat} {x y : Operand}
/-- append([]byte{0}, ..): of its own, whether it has grown or not. -/
theorem zAppB {B j t lim m : Nat} {k : List Nat} (hz : a0.tmps.size = N) (hop : o.op = .call { callee := .builtin .append, args := #[.tmp t, y], argTypes := #[22, 22] }) (hj : (ops[j]?).bind (·.dst) = some t) (hwj : waitsD o j = true) (hrj : rels[j]? = some (rOF (j + 1) B 1 [0])) (sy : Src ops a0 M W rels i o y (tBy lim k)) (hlim : lim ≤ 1000) (hm : m = k.length + 1) (hBW : B ≤ W.heap.size)
    (ho : ops[i]? = some o := by rfl) (hr : rels[i]? = some (rOB (j + 1) B m (0 :: k)) := by rfl) (hd : o.dst = some d := by rfl) (hlt : decide (d < N) = true := by rfl) (hg : o.guard = none := by rfl) : StepOk Try.prog ops a0 M W Q rels i o := by
  intro a γ w K hc hag hearly hdep hkp hK
  rw [if_pos (by simp [Region.wanted, hg])]
  have U : Up ops a0 M W rels i o a γ w := ⟨hc, hag, hearly, hdep, hkp⟩
  have h1 := hdep j (.inl hwj)
  unfold Holds at h1
  rw [hrj] at h1
  have e2 : valOf ops a j = a.eval (.tmp t) := by simp only [valOf, hj]; rfl
  obtain ⟨g, e3, hγ, hown⟩ : (rOF (j + 1) B 1 [0]).p (valOf ops a j) γ w := h1
  rw [e2] at e3
  obtain ⟨A, n, c, e4, hbt, hnc, hnl⟩ : (tBy lim k).p (a.eval y) w := sy a γ w U
  have hkl := hbt.len
  rcases Nat.eq_zero_or_pos n with h0 | h0
  · subst h0
    have hk0 : k = [] := List.eq_nil_of_length_eq_zero hkl
    subst hk0
    have hrun' : (execOp a.eval o).run Try.prog w = .ok (.value (.slice (some ⟨g, 0, none⟩) 1 1)) w := by
      unfold execOp
      simp only [hop, resolve, invoke, builtin, Sem.run_bind, Sem.run_pure, Result.andThen_ok, List.map_toArray, List.map_cons, List.map_nil, e3, e4, app_none]
    unfold Oper.wp
    rw [hrun']
    subst hm
    exact hK _ γ w (by unfold effOf; rw [hr]; exact Grow.refl_ γ w) (holds_put ho hr rfl hd (lt_of hz hlt hag) ⟨g, 1, rfl, hγ, hown⟩)
  · obtain ⟨c', w', hrun, hown', hbel⟩ := app_bytes (ty := o.type) hown hbt h0 (by omega)
    have hrun' : (execOp a.eval o).run Try.prog w = .ok (.value (.slice (some ⟨w.heap.size, 0, none⟩) (1 + n) c')) w' := by
      unfold execOp
      simp only [hop, resolve, invoke, builtin, Sem.run_bind, Sem.run_pure, Result.andThen_ok, List.map_toArray, List.map_cons, List.map_nil, e3, e4, hrun]
    unfold Oper.wp
    rw [hrun']
    have hmn : m = 1 + n := by omega
    subst hmn
    have hg0 := Grow.below γ hbel
    have hgr : Grow 0 γ w (allTag γ w (j + 1)) w' := ⟨hg0.os, hg0.tape, hg0.output, hg0.size, fun b hb => by simp [allTag, hb], hg0.block, hg0.num, hg0.var⟩
    exact hK _ _ w' (by unfold effOf; rw [hr]; exact hgr) (holds_put ho hr rfl hd (lt_of hz hlt hag) ⟨_, c', rfl, by simp [allTag], hown'.ex, hown'.le, Nat.le_trans hBW hc.1.size, hown'.max⟩)
/-- Three bytes put behind: of what comes the length counts. -/
theorem zAppG {B g n j t : Nat} {l3 : List Nat} (hz : a0.tmps.size = N) (hop : o.op = .call { callee := .builtin .append, args := #[x, .tmp t], argTypes := #[22, 22] }) (s : Src ops a0 M W rels i o x (tV (.slice (some ⟨g, 0, none⟩) n n))) (hown : ByU B g n n W) (hM : tagOf M 1000 g = 0)
    (hj : (ops[j]?).bind (·.dst) = some t) (hwj : waitsD o j = true) (hrj : rels[j]? = some (rOF (j + 1) B 3 l3)) (hn : n ≤ 100000000000)
    (ho : ops[i]? = some o := by rfl) (hr : rels[i]? = some (rT (tSl (n + 3))) := by rfl) (hd : o.dst = some d := by rfl) (hlt : decide (d < N) = true := by rfl) (hg : o.guard = none := by rfl) : StepOk Try.prog ops a0 M W Q rels i o := by
  intro a γ w K hc hag hearly hdep hkp hK
  rw [if_pos (by simp [Region.wanted, hg])]
  have U : Up ops a0 M W rels i o a γ w := ⟨hc, hag, hearly, hdep, hkp⟩
  have e1 : a.eval x = .slice (some ⟨g, 0, none⟩) n n := s a γ w U
  obtain ⟨l, hown⟩ := ByU.aft hown hc hM
  have h1 := hdep j (.inl hwj)
  unfold Holds at h1
  rw [hrj] at h1
  have e2 : valOf ops a j = a.eval (.tmp t) := by simp only [valOf, hj]; rfl
  obtain ⟨q, e3, hγ, hq⟩ : (rOF (j + 1) B 3 l3).p (valOf ops a j) γ w := h1
  rw [e2] at e3
  obtain ⟨A, n', c, e4, hbt, _, _⟩ := hq.by_ (lim := 3) (Nat.le_refl _)
  cases e4
  obtain ⟨c', w', hrun, hown', hbel⟩ := app_bytes (ty := o.type) hown hbt (by decide) (by omega)
  have hrun' : (execOp a.eval o).run Try.prog w = .ok (.value (.slice (some ⟨w.heap.size, 0, none⟩) (n + 3) c')) w' := by
    unfold execOp
    simp only [hop, resolve, invoke, builtin, Sem.run_bind, Sem.run_pure, Result.andThen_ok, List.map_toArray, List.map_cons, List.map_nil, e1, e3, hrun]
  unfold Oper.wp
  rw [hrun']
  exact hK _ _ w' (by unfold effOf; rw [hr]; exact Grow.below γ hbel) (holds_put ho hr rfl hd (lt_of hz hlt hag) ⟨_, c', rfl⟩)
theorem zLenS {n : Nat} (hz : a0.tmps.size = N) (s : Src ops a0 M W rels i o x (tSl n)) (hop : o.op = .call { callee := .builtin .len, args := #[x], argTypes := #[22] }) (hid : ∀ A c w, (Builtin.len_ #[22] o.type #[.slice A n c]).run Try.prog w = .ok (.int .i64 (n : Int)) w) (g : Gd ops a0 M W rels i o true := by exact Gd.none_ rfl)
    (ho : ops[i]? = some o := by rfl) (hr : rels[i]? = some (rT (tV (.int .i64 (n : Int)))) := by rfl) (hd : o.dst = some d := by rfl) (hlt : decide (d < N) = true := by rfl) : StepOk Try.prog ops a0 M W Q rels i o :=
  sOp ho hr hd hz hlt g fun a γ w U => by
    obtain ⟨A, c, e⟩ : ∃ A c, a.eval x = .slice A n c := s a γ w U
    refine ⟨_, ?_, rfl⟩
    generalize a.eval = ρ at e ⊢
    unfold execOp; rw [hop]; simp [go_sem, e, hid]
end

section

variable {N : Nat} {rels : List Rel} {a : Act} {γ : Nat → Nat} {w : World} {t : Nat} {l : List Oper}
theorem gotOB {tg B n : Nat} {k : List Nat} (hz : a.tmps.size = N) (i : Nat) (hh : ∀ i, i < l.length → alive l.toArray rels i = true → Holds l.toArray rels i a γ w) (hi : decide (i < l.length) = true) (hr : rels[i]? = some (rOB tg B n k)) (hd : (l.toArray[i]?).bind (·.dst) = some t) (hlt : decide (t < N) = true) (hal : alive l.toArray rels i = true := by kernel_rfl) :
    ∃ g c, Sl a t (.slice (some ⟨g, 0, none⟩) n c) ∧ OwB B g n c k w := by
  have h := hh i (of_decide_eq_true hi) hal
  unfold Holds at h
  rw [hr] at h
  have e : valOf l.toArray a i = a.eval (.tmp t) := by simp only [valOf, hd]; rfl
  obtain ⟨g, c, h1, _, h2⟩ : (rOB tg B n k).p (valOf l.toArray a i) γ w := h
  rw [e] at h1
  exact ⟨g, c, by rw [← h1]; exact Sl.of hz hlt, h2⟩
theorem gotOF {tg B n : Nat} {k : List Nat} (hz : a.tmps.size = N) (i : Nat) (hh : ∀ i, i < l.length → alive l.toArray rels i = true → Holds l.toArray rels i a γ w) (hi : decide (i < l.length) = true) (hr : rels[i]? = some (rOF tg B n k)) (hd : (l.toArray[i]?).bind (·.dst) = some t) (hlt : decide (t < N) = true) (hal : alive l.toArray rels i = true := by kernel_rfl) :
    ∃ g, Sl a t (.slice (some ⟨g, 0, none⟩) n n) ∧ OwB B g n n k w ∧ γ g = tg := by
  have h := hh i (of_decide_eq_true hi) hal
  unfold Holds at h
  rw [hr] at h
  have e : valOf l.toArray a i = a.eval (.tmp t) := by simp only [valOf, hd]; rfl
  obtain ⟨g, h1, h0, h2⟩ : (rOF tg B n k).p (valOf l.toArray a i) γ w := h
  rw [e] at h1
  exact ⟨g, by rw [← h1]; exact Sl.of hz hlt, h2, h0⟩
end
/-! ### Regions that write one byte -/
section

variable {P : Program} {ops : Array Oper} {rest : List Oper} {o : Oper} {a : Act} {w w' : World} {Q : Exit → Act → World → Prop} {u v p : Value} {x y : Operand}
theorem wl_val (hg : o.guard = none) (hrun : (execOp a.eval o).run P w = .ok (.value v) w) (hK : wpList P ops Q rest (a.put o.dst v) w) : wpList P ops Q (o :: rest) a w := by
  refine wpList_plain hg fun K hK' => ?_
  unfold Oper.wp
  rw [hrun]
  exact hK' _ _ hK
theorem wl_skip (hg : o.guard = none) (hrun : (execOp a.eval o).run P w = .ok .skip w') (hK : wpList P ops Q rest (a.put o.dst undef) w') : wpList P ops Q (o :: rest) a w := by
  refine wpList_plain hg fun K hK' => ?_
  unfold Oper.wp
  rw [hrun]
  exact hK' _ _ hK
theorem ex_move (hop : o.op = .move x) (e : a.eval x = v) : (execOp a.eval o).run P w = .ok (.value v) w := by
  unfold execOp; rw [hop]; simp only [Sem.run_pure, e]
theorem ex_index {t : TypeId} (hop : o.op = .indexAddr t x y) (e1 : a.eval x = u) (e2 : a.eval y = v) (h : (Instr.indexAt t u v).run P w = .ok p w) : (execOp a.eval o).run P w = .ok (.value p) w := by
  unfold execOp; rw [hop]; simp only [e1, e2, Sem.run_bind, h, Result.andThen, Sem.run_pure]
theorem ex_load {t : TypeId} (hop : o.op = .load t x) (e1 : a.eval x = u) (h : (Instr.loadAt t u).run P w = .ok p w) : (execOp a.eval o).run P w = .ok (.value p) w := by
  unfold execOp; rw [hop]; simp only [e1, Sem.run_bind, h, Result.andThen, Sem.run_pure]
theorem ex_bin {op : BinOp} {id id' : TypeId} {z : Value} (hop : o.op = .binOp op id x y id') (e1 : a.eval x = u) (e2 : a.eval y = v) (h : (do eqGuard op id x y u v; binOp op id u v : Sem Value).run P w = .ok z w) : (execOp a.eval o).run P w = .ok (.value z) w := by
  unfold execOp; rw [hop]; simp only [e1, e2, Sem.run_bind, Sem.run_pure] at h ⊢
  rw [h]; rfl
theorem ex_store {t : TypeId} (hop : o.op = .store t x y) (e1 : a.eval x = u) (e2 : a.eval y = v) (h : (Instr.storeAt t u v).run P w = .ok () w') : (execOp a.eval o).run P w = .ok .skip w' := by
  unfold execOp; rw [hop]; simp only [e1, e2, Sem.run_bind, h, Result.andThen, Sem.run_pure]
theorem Sl.put_ne {d t : Nat} (h : Sl a t v) (hne : d ≠ t) : Sl (a.put (some d) u) t v := by
  unfold Sl at *
  simp only [Act.put, Array.getElem?_setIfInBounds_ne hne]; exact h
theorem Sl.put_eq {d : Nat} (h : d < a.tmps.size) : Sl (a.put (some d) u) d u := by
  unfold Sl; simp [Act.put, h]
theorem put_size {d : Option Nat} : (a.put d u).tmps.size = a.tmps.size := by cases d <;> simp [Act.put]
end

section

variable {g n c k : Nat} {w : World} {B : Nat}
theorem ix_by {A : Option Addr} (hk : k < n) : (Instr.indexAt 22 (.slice (some ⟨g, 0, none⟩) n c) (.int .i64 (k : Int))).run Try.prog w = .ok (.pointer (some ⟨g, k, none⟩)) w := by
  simp [go_sem, hk]
theorem ld_by {z : Int} (h : w.cell? ⟨g, k, none⟩ = some (.int .u8 z)) : (Instr.loadAt 5 (.pointer (some ⟨g, k, none⟩))).run Try.prog w = .ok (.int .u8 z) w := by
  simp [go_sem, h]
theorem st_by {z : Int} {d : Nat} (h : w.cell? ⟨g, k, none⟩ = some (.int .u8 z)) (hf : w.frozen? ⟨g, k, none⟩ = false) : (Instr.storeAt 5 (.pointer (some ⟨g, k, none⟩)) (.int .u8 (d : Int))).run Try.prog w = .ok () (w.setCell ⟨g, k, none⟩ (.int .u8 (d : Int))) := by
  simp [go_sem, h, hf]
theorem xor_by {ox oy : Operand} (z : Nat) : ∃ d : Nat, d < 256 ∧ ∀ w : World, (do eqGuard .xor 5 ox oy (.int .u8 (z : Int)) (.int .u8 255); binOp .xor 5 (.int .u8 (z : Int)) (.int .u8 255) : Sem Value).run Try.prog w = .ok (.int .u8 (d : Int)) w := by
  have h : ∃ d : Nat, d < 256 ∧ bits .xor .u8 (z : Int) 255 = (d : Int) := by
    refine ⟨(BitVec.ofInt 8 (z : Int) ^^^ BitVec.ofInt 8 255).toNat, (BitVec.ofInt 8 (z : Int) ^^^ BitVec.ofInt 8 255).isLt, ?_⟩
    show IntKind.u8.wrap ((BitVec.ofInt 8 (z : Int) ^^^ BitVec.ofInt 8 255).toNat : Int) = _
    have := (BitVec.ofInt 8 (z : Int) ^^^ BitVec.ofInt 8 255).isLt
    generalize (BitVec.ofInt 8 (z : Int) ^^^ BitVec.ofInt 8 255).toNat = m at *
    simp [IntKind.wrap, IntKind.bits, IntKind.signed]; omega
  obtain ⟨d, h1, h2⟩ := h
  exact ⟨d, h1, fun w => by simp [go_sem, h2]⟩
variable {N : Nat} {a : Act} {Q : Exit → Act → World → Prop} {id : Nat} {o0 o1 o2 o3 o4 o5 o6 o7 o8 : Oper} {s i t0 t1 t2 t3 t4 t5 t6 t7 : Nat}
/-- x[k] = 255 -/
theorem reg_set (hz : a.tmps.size = N) (S1 : Sl a s (.slice (some ⟨g, 0, none⟩) n c)) (S2 : Sl a i (.int .i64 (k : Int))) (hk : k < n) (hB : ByU B g n c w)
    (hQ : ∀ a', a'.tmps.size = N → a'.defers = a.defers → (∀ t v, ([t0, t1, t2].contains t) = false → Sl a t v → Sl a' t v) → Q .normal a' (w.setCell ⟨g, k, none⟩ (.int .u8 ((255 : Nat) : Int))))
    (h0 : o0.op = .move (.tmp s) := by rfl) (d0 : o0.dst = some t0 := by rfl) (g0 : o0.guard = none := by rfl) (h1 : o1.op = .move (.tmp i) := by rfl) (d1 : o1.dst = some t1 := by rfl) (g1 : o1.guard = none := by rfl)
    (h2 : o2.op = .indexAddr 22 (.tmp t0) (.tmp t1) := by rfl) (d2 : o2.dst = some t2 := by rfl) (g2 : o2.guard = none := by rfl) (h3 : o3.op = .store 5 (.tmp t2) (.const (.int .u8 255)) := by rfl) (d3 : o3.dst = none := by rfl) (g3 : o3.guard = none := by rfl)
    (hne : decide (t0 ≠ t1 ∧ t0 ≠ i ∧ t0 < N ∧ t1 < N ∧ t2 < N) = true := by rfl) : (Code.region id #[o0, o1, o2, o3] false).wp Try.prog Q a w := by
  obtain ⟨n1, n2, n3, n4, n5⟩ := of_decide_eq_true hne
  obtain ⟨z, hz256, hcell⟩ := hB.cell hk
  have hfr := hB.frozen k
  refine wp_region_lit (l := [o0, o1, o2, o3]) ?_
  refine wl_val g0 (ex_move h0 S1.ev) ?_
  rw [d0]
  have A1 := Sl.put_eq (a := a) (u := .slice (some ⟨g, 0, none⟩) n c) (d := t0) (by omega)
  have A2 := S2.put_ne (u := .slice (some ⟨g, 0, none⟩) n c) n2
  have z1 : (a.put (some t0) (.slice (some ⟨g, 0, none⟩) n c)).tmps.size = N := put_size.trans hz
  refine wl_val g1 (ex_move h1 A2.ev) ?_
  rw [d1]
  have B1 := A1.put_ne (u := .int .i64 (k : Int)) (Ne.symm n1)
  have B2 := Sl.put_eq (a := a.put (some t0) (.slice (some ⟨g, 0, none⟩) n c)) (u := .int .i64 (k : Int)) (d := t1) (by omega)
  refine wl_val g2 (ex_index h2 B1.ev B2.ev (ix_by (A := none) hk)) ?_
  rw [d2]
  refine wl_skip g3 (ex_store h3 (Sl.ev (Sl.put_eq (by rw [put_size, z1]; exact n5))) rfl (st_by (d := 255) hcell hfr)) ?_
  rw [d3]
  refine wpList_nil (hQ _ ?_ ?_ ?_)
  · rw [put_size, put_size, put_size, put_size]; exact hz
  · rfl
  · intro t v ht hs
    simp only [List.contains_cons, List.contains_nil, Bool.or_false, Bool.or_eq_false_iff, beq_eq_false_iff_ne] at ht
    exact ((hs.put_ne (Ne.symm ht.1)).put_ne (Ne.symm ht.2.1)).put_ne (Ne.symm ht.2.2)
/-- x[k] = x[k] ^ 255 -/
theorem reg_xor (hz : a.tmps.size = N) (S1 : Sl a s (.slice (some ⟨g, 0, none⟩) n c)) (S2 : Sl a i (.int .i64 (k : Int))) (hk : k < n) (hB : ByU B g n c w)
    (hQ : ∀ a' (d : Nat), d < 256 → a'.tmps.size = N → a'.defers = a.defers → (∀ t v, ([t0, t1, t2, t3, t4, t5, t6, t7].contains t) = false → Sl a t v → Sl a' t v) → Q .normal a' (w.setCell ⟨g, k, none⟩ (.int .u8 (d : Int))))
    (h0 : o0.op = .move (.tmp s) := by rfl) (d0 : o0.dst = some t0 := by rfl) (g0 : o0.guard = none := by rfl) (h1 : o1.op = .move (.tmp i) := by rfl) (d1 : o1.dst = some t1 := by rfl) (g1 : o1.guard = none := by rfl)
    (h2 : o2.op = .move (.tmp s) := by rfl) (d2 : o2.dst = some t2 := by rfl) (g2 : o2.guard = none := by rfl) (h3 : o3.op = .move (.tmp i) := by rfl) (d3 : o3.dst = some t3 := by rfl) (g3 : o3.guard = none := by rfl)
    (h4 : o4.op = .indexAddr 22 (.tmp t2) (.tmp t3) := by rfl) (d4 : o4.dst = some t4 := by rfl) (g4 : o4.guard = none := by rfl) (h5 : o5.op = .load 5 (.tmp t4) := by rfl) (d5 : o5.dst = some t5 := by rfl) (g5 : o5.guard = none := by rfl)
    (h6 : o6.op = .binOp .xor 5 (.tmp t5) (.const (.int .u8 255)) 5 := by rfl) (d6 : o6.dst = some t6 := by rfl) (g6 : o6.guard = none := by rfl)
    (h7 : o7.op = .indexAddr 22 (.tmp t0) (.tmp t1) := by rfl) (d7 : o7.dst = some t7 := by rfl) (g7 : o7.guard = none := by rfl) (h8 : o8.op = .store 5 (.tmp t7) (.tmp t6) := by rfl) (d8 : o8.dst = none := by rfl) (g8 : o8.guard = none := by rfl)
    (hne : decide ((s < t0 ∧ i < t0 ∧ t0 < t1 ∧ t1 < t2 ∧ t2 < t3 ∧ t3 < t4 ∧ t4 < t5 ∧ t5 < t6 ∧ t6 < t7) ∧ t7 < N) = true := by rfl) : (Code.region id #[o0, o1, o2, o3, o4, o5, o6, o7, o8] false).wp Try.prog Q a w := by
  obtain ⟨hord, hN⟩ := of_decide_eq_true hne
  obtain ⟨z, hz256, hcell⟩ := hB.cell hk
  have hfr := hB.frozen k
  obtain ⟨d, hd256, hxor⟩ := xor_by (ox := .tmp t5) (oy := .const (.int .u8 255)) z
  refine wp_region_lit (l := [o0, o1, o2, o3, o4, o5, o6, o7, o8]) ?_
  refine wl_val g0 (ex_move h0 S1.ev) ?_
  rw [d0]
  have A1 := Sl.put_eq (a := a) (u := .slice (some ⟨g, 0, none⟩) n c) (d := t0) (by omega)
  have A2 := S2.put_ne (u := .slice (some ⟨g, 0, none⟩) n c) (d := t0) (by omega)
  have A3 := S1.put_ne (u := .slice (some ⟨g, 0, none⟩) n c) (d := t0) (by omega)
  have z1 : (a.put (some t0) (.slice (some ⟨g, 0, none⟩) n c)).tmps.size = N := put_size.trans hz
  have keep : ∀ t v, t ≠ t0 → Sl a t v → Sl (a.put (some t0) (.slice (some ⟨g, 0, none⟩) n c)) t v := fun t v ht h => h.put_ne (Ne.symm ht)
  have df : (a.put (some t0) (.slice (some ⟨g, 0, none⟩) n c)).defers = a.defers := rfl
  generalize a.put (some t0) (.slice (some ⟨g, 0, none⟩) n c) = a1 at *
  refine wl_val g1 (ex_move h1 A2.ev) ?_
  rw [d1]
  replace A1 := A1.put_ne (u := .int .i64 (k : Int)) (d := t1) (by omega)
  replace A2 := A2.put_ne (u := .int .i64 (k : Int)) (d := t1) (by omega)
  replace A3 := A3.put_ne (u := .int .i64 (k : Int)) (d := t1) (by omega)
  have A4 := Sl.put_eq (a := a1) (u := .int .i64 (k : Int)) (d := t1) (by omega)
  replace keep : ∀ t v, t ≠ t0 → t ≠ t1 → Sl a t v → Sl (a1.put (some t1) (.int .i64 (k : Int))) t v := fun t v ht ht1 h => (keep t v ht h).put_ne (Ne.symm ht1)
  replace z1 : (a1.put (some t1) (.int .i64 (k : Int))).tmps.size = N := put_size.trans z1
  replace df : (a1.put (some t1) (.int .i64 (k : Int))).defers = a.defers := df
  generalize a1.put (some t1) (.int .i64 (k : Int)) = a2 at *
  refine wl_val g2 (ex_move h2 A3.ev) ?_
  rw [d2]
  replace A1 := A1.put_ne (u := .slice (some ⟨g, 0, none⟩) n c) (d := t2) (by omega)
  replace A2 := A2.put_ne (u := .slice (some ⟨g, 0, none⟩) n c) (d := t2) (by omega)
  replace A4 := A4.put_ne (u := .slice (some ⟨g, 0, none⟩) n c) (d := t2) (by omega)
  have A5 := Sl.put_eq (a := a2) (u := .slice (some ⟨g, 0, none⟩) n c) (d := t2) (by omega)
  replace keep : ∀ t v, t ≠ t0 → t ≠ t1 → t ≠ t2 → Sl a t v → Sl (a2.put (some t2) (.slice (some ⟨g, 0, none⟩) n c)) t v := fun t v ht ht1 ht2 h => (keep t v ht ht1 h).put_ne (Ne.symm ht2)
  replace z1 : (a2.put (some t2) (.slice (some ⟨g, 0, none⟩) n c)).tmps.size = N := put_size.trans z1
  replace df : (a2.put (some t2) (.slice (some ⟨g, 0, none⟩) n c)).defers = a.defers := df
  generalize a2.put (some t2) (.slice (some ⟨g, 0, none⟩) n c) = a3 at *
  refine wl_val g3 (ex_move h3 A2.ev) ?_
  rw [d3]
  replace A1 := A1.put_ne (u := .int .i64 (k : Int)) (d := t3) (by omega)
  replace A4 := A4.put_ne (u := .int .i64 (k : Int)) (d := t3) (by omega)
  replace A5 := A5.put_ne (u := .int .i64 (k : Int)) (d := t3) (by omega)
  have A6 := Sl.put_eq (a := a3) (u := .int .i64 (k : Int)) (d := t3) (by omega)
  replace keep : ∀ t v, t ≠ t0 → t ≠ t1 → t ≠ t2 → t ≠ t3 → Sl a t v → Sl (a3.put (some t3) (.int .i64 (k : Int))) t v := fun t v ht ht1 ht2 ht3 h => (keep t v ht ht1 ht2 h).put_ne (Ne.symm ht3)
  replace z1 : (a3.put (some t3) (.int .i64 (k : Int))).tmps.size = N := put_size.trans z1
  replace df : (a3.put (some t3) (.int .i64 (k : Int))).defers = a.defers := df
  generalize a3.put (some t3) (.int .i64 (k : Int)) = a4 at *
  refine wl_val g4 (ex_index h4 A5.ev A6.ev (ix_by (A := none) hk)) ?_
  rw [d4]
  replace A1 := A1.put_ne (u := .pointer (some ⟨g, k, none⟩)) (d := t4) (by omega)
  replace A4 := A4.put_ne (u := .pointer (some ⟨g, k, none⟩)) (d := t4) (by omega)
  have A7 := Sl.put_eq (a := a4) (u := .pointer (some ⟨g, k, none⟩)) (d := t4) (by omega)
  replace keep : ∀ t v, t ≠ t0 → t ≠ t1 → t ≠ t2 → t ≠ t3 → t ≠ t4 → Sl a t v → Sl (a4.put (some t4) (.pointer (some ⟨g, k, none⟩))) t v := fun t v ht ht1 ht2 ht3 ht4 h => (keep t v ht ht1 ht2 ht3 h).put_ne (Ne.symm ht4)
  replace z1 : (a4.put (some t4) (.pointer (some ⟨g, k, none⟩))).tmps.size = N := put_size.trans z1
  replace df : (a4.put (some t4) (.pointer (some ⟨g, k, none⟩))).defers = a.defers := df
  generalize a4.put (some t4) (.pointer (some ⟨g, k, none⟩)) = a5 at *
  refine wl_val g5 (ex_load h5 A7.ev (ld_by hcell)) ?_
  rw [d5]
  replace A1 := A1.put_ne (u := .int .u8 (z : Int)) (d := t5) (by omega)
  replace A4 := A4.put_ne (u := .int .u8 (z : Int)) (d := t5) (by omega)
  have A8 := Sl.put_eq (a := a5) (u := .int .u8 (z : Int)) (d := t5) (by omega)
  replace keep : ∀ t v, t ≠ t0 → t ≠ t1 → t ≠ t2 → t ≠ t3 → t ≠ t4 → t ≠ t5 → Sl a t v → Sl (a5.put (some t5) (.int .u8 (z : Int))) t v := fun t v ht ht1 ht2 ht3 ht4 ht5 h => (keep t v ht ht1 ht2 ht3 ht4 h).put_ne (Ne.symm ht5)
  replace z1 : (a5.put (some t5) (.int .u8 (z : Int))).tmps.size = N := put_size.trans z1
  replace df : (a5.put (some t5) (.int .u8 (z : Int))).defers = a.defers := df
  generalize a5.put (some t5) (.int .u8 (z : Int)) = a6 at *
  refine wl_val g6 (ex_bin h6 A8.ev rfl (hxor w)) ?_
  rw [d6]
  replace A1 := A1.put_ne (u := .int .u8 (d : Int)) (d := t6) (by omega)
  replace A4 := A4.put_ne (u := .int .u8 (d : Int)) (d := t6) (by omega)
  have A9 := Sl.put_eq (a := a6) (u := .int .u8 (d : Int)) (d := t6) (by omega)
  replace keep : ∀ t v, t ≠ t0 → t ≠ t1 → t ≠ t2 → t ≠ t3 → t ≠ t4 → t ≠ t5 → t ≠ t6 → Sl a t v → Sl (a6.put (some t6) (.int .u8 (d : Int))) t v := fun t v ht ht1 ht2 ht3 ht4 ht5 ht6 h => (keep t v ht ht1 ht2 ht3 ht4 ht5 h).put_ne (Ne.symm ht6)
  replace z1 : (a6.put (some t6) (.int .u8 (d : Int))).tmps.size = N := put_size.trans z1
  replace df : (a6.put (some t6) (.int .u8 (d : Int))).defers = a.defers := df
  generalize a6.put (some t6) (.int .u8 (d : Int)) = a7 at *
  refine wl_val g7 (ex_index h7 A1.ev A4.ev (ix_by (A := none) hk)) ?_
  rw [d7]
  have A10 := Sl.put_eq (a := a7) (u := .pointer (some ⟨g, k, none⟩)) (d := t7) (by omega)
  replace A9 := A9.put_ne (u := .pointer (some ⟨g, k, none⟩)) (d := t7) (by omega)
  refine wl_skip g8 (ex_store h8 A10.ev A9.ev (st_by hcell hfr)) ?_
  rw [d8]
  refine wpList_nil (hQ _ d hd256 ?_ ?_ ?_)
  · rw [put_size, put_size]; exact z1
  · exact df
  · intro t v ht hs
    simp only [List.contains_cons, List.contains_nil, Bool.or_false, Bool.or_eq_false_iff, beq_eq_false_iff_ne] at ht
    obtain ⟨e0, e1, e2, e3, e4, e5, e6, e7⟩ := ht
    exact (keep t v e0 e1 e2 e3 e4 e5 e6 hs).put_ne (Ne.symm e7)
end
theorem c_fb0 {lim : Nat} {l : List Nat} {v1 : Value} {w : World} (h1 : (tBy lim (0 :: l)).p v1 w) (b1 : lim ≤ big) : Calls Try.prog 12 #[v1] w (Ret (tN B64 lim (bev l)) w) := by
  have h := c_fb h1 b1
  have e : bev (0 :: l) = bev l := by unfold bev; rw [List.reverse_cons]; simp [val_append, val]
  rwa [e] at h
theorem c_own {l1 x : Nat} {v1 : Value} {w : World} (h1 : (tN B64 l1 x).p v1 w) (b1 : l1 ≤ big) :
    Calls Try.prog 19 #[v1] w fun e w' => ∃ g, e = .returned (.slice (some ⟨g, 0, none⟩) (bytesOf x).length (bytesOf x).length) ∧ OwB w.heap.size g (bytesOf x).length (bytesOf x).length (bytesOf x) w' ∧ Below w.heap.size w w' := by
  have hbl := bl_of h1 (k := 64) rfl (by decide)
  obtain ⟨A, n, c, rfl, hx, hn⟩ := h1
  rw [big_eq] at b1
  refine (bytes_eq A n c x w hx (by omega)).mono ?_
  rintro e w' ⟨g, rfl, hg, hB, hb⟩
  refine ⟨g, rfl, ⟨⟨_, hB, rfl, fun d hd => bytesOf_lt x d hd, List.take_length⟩, Nat.le_refl _, hg, ?_⟩, hb⟩
  rw [bytes_len]; unfold maxLen; omega
end Go.Proofs.Ythanbjbcpljcoaa.Rg

namespace Go.Proofs.Ythanbjbcpljcoaa.Rg

open Go.RowKit

theorem kp_7 {m : Nat} (hm : 3 ≤ m) : 7 < 2 ^ m := Nat.lt_of_lt_of_le (by decide : 7 < 2 ^ 3) (Nat.pow_le_pow_right (by decide) hm)
theorem kp_cell {id : TypeId} {b l p : Nat} {x : Rat} {w : World} (h : Cell id (tQ b l x) p w) : bl x.num.toNat ≤ l ∧ bl x.den ≤ l := by
  obtain ⟨v, _, hv⟩ := h
  exact ⟨bl_le (tQ_bits hv).1, bl_le (tQ_bits hv).2⟩
set_option maxRecDepth 10000 in
set_option maxHeartbeats 2000000 in
theorem ratKept_ret {l1 m1 l2 m2 : List Nat} {v0 v1 : Value} {w : World} (h0 : (tF l1 m1).p v0 w) (h1 : (tF l2 m2).p v1 w) :
    Calls Try.prog 3 #[v0, v1] w (Ret (tV (.bool true)) w) := by
 refine enter Try.func3 rfl Try.ntmps3 (by simp) ?_
 intro a hz hd ha
 have S0 := ha 0 _ rfl
 have H0 := h0
 have S1 := ha 1 _ rfl
 have H1 := h1
 clear ha
 have HB : Below w.heap.size w w := Below.refl _ _
 have hl120 := List.length_take_le 120 l1
 have hbv := Lib.hid (tF_bits (m := 960) (Nat.le_refl _) h0).1
 refine wp_seq ?_
 refine region_text (M := []) (
  rB 0 24 (tF l1 m1) none 0 ::
  rB 1 24 (tF l2 m2) none 0 ::
  rT (tV (.bool false)) ::
  []) hz hd (by kernel_rfl) ?_ ?_
 refine ⟨?_, ?_, ?_, trivial⟩
 exact zBox hz (so S0 H0) box_f
 exact zBox hz (so S1 H1) box_f
 exact zAs hz kc
 intro a' γ' W' hz' hd' hC hk hh
 clear S0 H0
 clear S1 H1
 obtain ⟨p1, S2, Cp1, lp1, gp1⟩ := gotB hz' 0 hC hh rfl rfl rfl rfl rfl rfl
 obtain ⟨p2, S3, Cp2, lp2, gp2⟩ := gotB hz' 1 hC hh rfl rfl rfl rfl rfl rfl
 have S4 := gotV hz' 2 hh rfl rfl rfl rfl
 clear lp1 gp1 lp2 gp2
 replace HB := aft_call HB (RelC.below_nil hC)
 clear hC hk hh; replace hz := hz'; replace hd := hd'; clear hz' hd'
 refine wp_seq ?_
 refine region_text (M := []) (
  rT (tF l1 m1) ::
  rT (tT [tQ B64 960 (mkF l1 m1), tQ B32 960 (mkF l1 m1)]) ::
  rT (tT [tQ B64 960 (mkF l1 m1), tQ B32 960 (mkF l1 m1)]) ::
  rT (tQ B64 960 (mkF l1 m1)) ::
  rT (tQ B32 960 (mkF l1 m1)) ::
  rVar 5 29 2 ::
  rVar 6 33 2 ::
  rB 5 29 (tQ B64 960 (mkF l1 m1)) (some 5) 6 ::
  rB 6 33 (tQ B32 960 (mkF l1 m1)) (some 6) 7 ::
  []) hz hd (by kernel_rfl) ?_ ?_
 refine ⟨?_, ?_, ?_, ?_, ?_, ?_, ?_, ?_, ?_, trivial⟩
 exact zLd hz (sv S2) Cp1 ld_f
 exact zC1 hz Try.func9 (sd 0 rfl) (fun _ _ h0 => l_made h0)
 exact zMv hz (sd 1 rfl)
 exact zExt hz (sd 2 rfl)
 exact zExt hz (sd 2 rfl)
 exact zAl hz nd_rat al_r64
 exact zAl hz nd_rat al_r32
 exact zSt (sd 3 rfl) st_q64
 exact zSt (sd 4 rfl) st_q32
 intro a' γ' W' hz' hd' hC hk hh
 replace Cp1 := kC hC Cp1
 replace Cp2 := kC hC Cp2
 replace S2 := kp hk S2
 replace S3 := kp hk S3
 replace S4 := kp hk S4
 obtain ⟨p3, S5, Cp3, lp3, gp3⟩ := gotB hz' 7 hC hh rfl rfl rfl rfl rfl rfl
 obtain ⟨p4, S6, Cp4, lp4, gp4⟩ := gotB hz' 8 hC hh rfl rfl rfl rfl rfl rfl
 clear lp3 gp3 lp4 gp4
 replace HB := aft_call HB (RelC.below_nil hC)
 clear hC hk hh; replace hz := hz'; replace hd := hd'; clear hz' hd'
 refine wp_seq ?_
 refine region_text (M := []) (
  rT (tF l2 m2) ::
  rT (tT [tQ B64 960 (mkF l2 m2), tQ B32 960 (mkF l2 m2)]) ::
  rT (tT [tQ B64 960 (mkF l2 m2), tQ B32 960 (mkF l2 m2)]) ::
  rT (tQ B64 960 (mkF l2 m2)) ::
  rT (tQ B32 960 (mkF l2 m2)) ::
  rVar 5 29 2 ::
  rVar 6 33 2 ::
  rB 5 29 (tQ B64 960 (mkF l2 m2)) (some 5) 6 ::
  rB 6 33 (tQ B32 960 (mkF l2 m2)) (some 6) 7 ::
  []) hz hd (by kernel_rfl) ?_ ?_
 refine ⟨?_, ?_, ?_, ?_, ?_, ?_, ?_, ?_, ?_, trivial⟩
 exact zLd hz (sv S3) Cp2 ld_f
 exact zC1 hz Try.func9 (sd 0 rfl) (fun _ _ h0 => l_made h0)
 exact zMv hz (sd 1 rfl)
 exact zExt hz (sd 2 rfl)
 exact zExt hz (sd 2 rfl)
 exact zAl hz nd_rat al_r64
 exact zAl hz nd_rat al_r32
 exact zSt (sd 3 rfl) st_q64
 exact zSt (sd 4 rfl) st_q32
 intro a' γ' W' hz' hd' hC hk hh
 replace Cp1 := kC hC Cp1
 clear Cp2
 replace Cp3 := kC hC Cp3
 replace Cp4 := kC hC Cp4
 replace S2 := kp hk S2
 clear S3
 replace S4 := kp hk S4
 replace S5 := kp hk S5
 replace S6 := kp hk S6
 obtain ⟨p5, S7, Cp5, lp5, gp5⟩ := gotB hz' 7 hC hh rfl rfl rfl rfl rfl rfl
 obtain ⟨p6, S8, Cp6, lp6, gp6⟩ := gotB hz' 8 hC hh rfl rfl rfl rfl rfl rfl
 clear lp5 gp5 lp6 gp6
 replace HB := aft_call HB (RelC.below_nil hC)
 clear hC hk hh; replace hz := hz'; replace hd := hd'; clear hz' hd'
 refine wp_seq ?_
 refine region_text (M := []) (
  rOF 1 w.heap.size 1 [0] ::
  rT (tV (.pointer (some ⟨p1, 0, none⟩))) ::
  rT (tBy 9223372036854775807 l1) ::
  rT (tBy 120 (l1.take 120)) ::
  rOB 1 w.heap.size ((l1.take 120).length + 1) (0 :: l1.take 120) ::
  rOB 1 w.heap.size ((l1.take 120).length + 1) (0 :: l1.take 120) ::
  []) hz hd (by kernel_rfl) ?_ ?_
 refine ⟨?_, ?_, ?_, ?_, ?_, ?_, trivial⟩
 exact zLitB (vs := #[(0, .int .u8 0)]) (l := [0]) hz rfl (fun a => by simp [Act.eval]) (fun w => by simp [go_sem, Value.cells, bva, bv]) rfl (by decide) rfl HB.size
 exact sFA rfl rfl rfl hz rfl (Gd.none_ rfl) rfl (sv S2) (fun w => by simp [go_sem])
 exact zLdP hz (sd 1 rfl) Cp1 ldp_f
 exact zC1 hz Try.func10 (sd 2 rfl) (fun _ _ h0 => l_cut h0)
 exact zAppB (j := 0) (lim := 120) (k := l1.take 120) hz rfl (by kernel_rfl) (by kernel_rfl) rfl (sd 3 rfl) (by decide) rfl HB.size
 exact zHandR (j := 4) hz rfl (by kernel_rfl) (by kernel_rfl) rfl rfl rfl rfl (fun _ _ _ h => h) (.inl rfl)
 intro a' γ' W' hz' hd' hC hk hh
 replace Cp1 := kC hC Cp1
 replace Cp3 := kC hC Cp3
 replace Cp4 := kC hC Cp4
 replace Cp5 := kC hC Cp5
 replace Cp6 := kC hC Cp6
 replace S2 := kp hk S2
 replace S4 := kp hk S4
 replace S5 := kp hk S5
 replace S6 := kp hk S6
 replace S7 := kp hk S7
 replace S8 := kp hk S8
 obtain ⟨g9, c9, S9, O9⟩ := gotOB hz' 5 hh rfl rfl rfl rfl
 replace HB := aft_call HB (RelC.below_nil hC)
 clear hC hk hh; replace hz := hz'; replace hd := hd'; clear hz' hd'
 refine wp_seq ?_
 refine region_text (M := []) (
  rT (tV (.slice (some ⟨g9, 0, none⟩) ((l1.take 120).length + 1) c9)) ::
  rT (tN B64 121 (bev (l1.take 120))) ::
  rT (tN B64 1 7) ::
  rT (tT [tQ B64 960 (mkRat (bev (l1.take 120)) 7), tV (.bool (decide (7 ≠ 0)))]) ::
  rT (tT [tQ B64 960 (mkRat (bev (l1.take 120)) 7), tV (.bool (decide (7 ≠ 0)))]) ::
  rT (tQ B64 960 (mkRat (bev (l1.take 120)) 7)) ::
  rT (tV (.bool (decide (7 ≠ 0)))) ::
  rVar 7 29 2 ::
  rB 7 29 (tQ B64 960 (mkRat (bev (l1.take 120)) 7)) (some 7) 8 ::
  rT (tV (.bool (decide (7 ≠ 0)))) ::
  []) hz hd (by kernel_rfl) ?_ ?_
 refine ⟨?_, ?_, ?_, ?_, ?_, ?_, ?_, ?_, ?_, ?_, trivial⟩
 exact zMv hz (sv S9)
 exact sCall rfl rfl rfl hz rfl (Gd.none_ rfl) rfl Try.func12 (by kernel_rfl) (by kernel_rfl) fun a γ w U => (by show Calls _ _ #[a.eval (.tmp 39)] _ _; rw [show a.eval (.tmp 39) = .slice (some ⟨g9, 0, none⟩) ((l1.take 120).length + 1) c9 from Src.at_ (sd 0 rfl) U]; exact c_fb0 (lim := 121) ((O9.aft U.c rfl).by_ (by have := List.length_take_le 120 l1; omega)) (by decide))
 exact zC1 hz Try.func13 (kc (v := .int .u64 7)) (k1 (fun _ => c_of (by decide)))
 exact zC2 hz Try.func11 (sd 1 rfl) (sd 2 rfl) (fun _ _ _ h0 h1 => cq_from (l := 960) h0 h1 (by decide) (by decide) hbv.out (kp_7 (m := 960) (by decide)) (by decide))
 exact zMv hz (sd 3 rfl)
 exact zExt hz (sd 4 rfl)
 exact zExt hz (sd 4 rfl)
 exact zAl hz nd_rat al_r64
 exact zSt (sd 5 rfl) st_q64
 exact zAs hz (sd 6 rfl)
 intro a' γ' W' hz' hd' hC hk hh
 replace Cp1 := kC hC Cp1
 replace Cp3 := kC hC Cp3
 replace Cp4 := kC hC Cp4
 replace Cp5 := kC hC Cp5
 replace Cp6 := kC hC Cp6
 replace S2 := kp hk S2
 replace S4 := kp hk S4
 replace S5 := kp hk S5
 replace S6 := kp hk S6
 replace S7 := kp hk S7
 replace S8 := kp hk S8
 replace S9 := kp hk S9
 replace O9 := OwB.aft O9 hC rfl
 obtain ⟨p7, S10, Cp7, lp7, gp7⟩ := gotB hz' 8 hC hh rfl rfl rfl rfl rfl rfl
 have S11 := gotV hz' 9 hh rfl rfl rfl rfl
 clear lp7 gp7
 replace HB := aft_call HB (RelC.below_nil hC)
 clear hC hk hh; replace hz := hz'; replace hd := hd'; clear hz' hd'
 refine wp_seq ?_
 refine region_text (M := []) (
  rT (tV (.pointer (some ⟨p1, 0, none⟩))) ::
  rT (tBy 9223372036854775807 l1) ::
  rT (tBy 120 (l1.take 120)) ::
  rT (tN B32 120 (bev (l1.take 120))) ::
  rT (tN B32 2 7) ::
  rT (tT [tQ B32 960 (mkRat (bev (l1.take 120)) 7), tV (.bool (decide (7 ≠ 0)))]) ::
  rT (tT [tQ B32 960 (mkRat (bev (l1.take 120)) 7), tV (.bool (decide (7 ≠ 0)))]) ::
  rT (tQ B32 960 (mkRat (bev (l1.take 120)) 7)) ::
  rT (tV (.bool (decide (7 ≠ 0)))) ::
  rVar 9 33 2 ::
  rB 9 33 (tQ B32 960 (mkRat (bev (l1.take 120)) 7)) (some 9) 10 ::
  rT (tV (.bool (decide (7 ≠ 0)))) ::
  []) hz hd (by kernel_rfl) ?_ ?_
 refine ⟨?_, ?_, ?_, ?_, ?_, ?_, ?_, ?_, ?_, ?_, ?_, ?_, trivial⟩
 exact sFA rfl rfl rfl hz rfl (Gd.none_ rfl) rfl (sv S2) (fun w => by simp [go_sem])
 exact zLdP hz (sd 0 rfl) Cp1 ldp_f
 exact zC1 hz Try.func10 (sd 1 rfl) (fun _ _ h0 => l_cut h0)
 exact zC1 hz Try.func15 (sd 2 rfl) (fun _ _ h0 => d_fb h0 (by decide))
 exact zC1 hz Try.func16 (kc (v := .int .u64 7)) (k1 (fun _ => d_of (by decide)))
 exact zC2 hz Try.func14 (sd 3 rfl) (sd 4 rfl) (fun _ _ _ h0 h1 => dq_from (l := 960) h0 h1 (by decide) (by decide) hbv.out (kp_7 (m := 960) (by decide)) (by decide))
 exact zMv hz (sd 5 rfl)
 exact zExt hz (sd 6 rfl)
 exact zExt hz (sd 6 rfl)
 exact zAl hz nd_rat al_r32
 exact zSt (sd 7 rfl) st_q32
 exact zAs hz (sd 8 rfl)
 intro a' γ' W' hz' hd' hC hk hh
 clear Cp1
 replace Cp3 := kC hC Cp3
 replace Cp4 := kC hC Cp4
 replace Cp5 := kC hC Cp5
 replace Cp6 := kC hC Cp6
 replace Cp7 := kC hC Cp7
 clear S2
 replace S4 := kp hk S4
 replace S5 := kp hk S5
 replace S6 := kp hk S6
 replace S7 := kp hk S7
 replace S8 := kp hk S8
 replace S9 := kp hk S9
 replace S10 := kp hk S10
 replace S11 := kp hk S11
 replace O9 := OwB.aft O9 hC rfl
 obtain ⟨p8, S12, Cp8, lp8, gp8⟩ := gotB hz' 10 hC hh rfl rfl rfl rfl rfl rfl
 clear lp8 gp8
 replace HB := aft_call HB (RelC.below_nil hC)
 clear hC hk hh; replace hz := hz'; replace hd := hd'; clear hz' hd'
 refine wp_seq ?_
 refine wp_seq ?_
 replace O9 : ByU _ _ _ _ _ := ⟨_, O9⟩
 refine region_text (M := []) (
  rT (tV (.int .i64 0)) ::
  []) hz hd (by kernel_rfl) ?_ ?_
 refine ⟨?_, trivial⟩
 exact zAs hz kc
 intro a' γ' W' hz' hd' hC hk hh
 replace Cp3 := kC hC Cp3
 replace Cp4 := kC hC Cp4
 replace Cp5 := kC hC Cp5
 replace Cp6 := kC hC Cp6
 replace Cp7 := kC hC Cp7
 replace Cp8 := kC hC Cp8
 replace S4 := kp hk S4
 replace S5 := kp hk S5
 replace S6 := kp hk S6
 replace S7 := kp hk S7
 replace S8 := kp hk S8
 replace S9 := kp hk S9
 replace S10 := kp hk S10
 replace S11 := kp hk S11
 replace S12 := kp hk S12
 replace O9 := ByU.aft O9 hC rfl
 have S14 := gotV hz' 0 hh rfl rfl rfl rfl
 replace HB := aft_call HB (RelC.below_nil hC)
 clear hC hk hh; replace hz := hz'; replace hd := hd'; clear hz' hd'
 refine wp_block ?_
 refine wp_loop_ghost (fun k a W => ∃ (k0 : Nat), k = ((l1.take 120).length + 1) - k0 ∧ a.tmps.size = 147 ∧ a.defers = [] ∧ Below w.heap.size w W ∧ Sl a 4 (.bool false) ∧ Sl a 5 (.pointer (some ⟨p3, 0, none⟩)) ∧ Sl a 6 (.pointer (some ⟨p4, 0, none⟩)) ∧ Sl a 7 (.pointer (some ⟨p5, 0, none⟩)) ∧ Sl a 8 (.pointer (some ⟨p6, 0, none⟩)) ∧ Sl a 9 (.slice (some ⟨g9, 0, none⟩) ((l1.take 120).length + 1) c9) ∧ Sl a 10 (.pointer (some ⟨p7, 0, none⟩)) ∧ Sl a 11 (.bool (decide (7 ≠ 0))) ∧ Sl a 12 (.pointer (some ⟨p8, 0, none⟩)) ∧ Sl a 14 (.int .i64 (k0 : Int)) ∧ Cell 29 (tQ B64 960 (mkF l1 m1)) p3 W ∧ Cell 33 (tQ B32 960 (mkF l1 m1)) p4 W ∧ Cell 29 (tQ B64 960 (mkF l2 m2)) p5 W ∧ Cell 33 (tQ B32 960 (mkF l2 m2)) p6 W ∧ Cell 29 (tQ B64 960 (mkRat (bev (l1.take 120)) 7)) p7 W ∧ Cell 33 (tQ B32 960 (mkRat (bev (l1.take 120)) 7)) p8 W ∧ ByU w.heap.size g9 ((l1.take 120).length + 1) c9 W ∧ k0 ≤ (l1.take 120).length + 1) _ ⟨0, rfl, hz, hd, HB, S4, S5, S6, S7, S8, S9, S10, S11, S12, S14, Cp3, Cp4, Cp5, Cp6, Cp7, Cp8, O9, (Nat.zero_le _)⟩ ?_
 clear S4 S5 S6 S7 S8 S9 S10 S11 S12 S14 Cp3 Cp4 Cp5 Cp6 Cp7 Cp8 O9 hz hd HB
 rintro k a W ⟨k0, rfl, hz, hd, HB, S4, S5, S6, S7, S8, S9, S10, S11, S12, S14, Cp3, Cp4, Cp5, Cp6, Cp7, Cp8, O9, hk0⟩
 refine wp_seq ?_
 refine wp_seq ?_
 refine region_text (M := []) (
  rT (tV (.int .i64 (k0 : Int))) ::
  rT (tV (.slice (some ⟨g9, 0, none⟩) ((l1.take 120).length + 1) c9)) ::
  rT (tV (.int .i64 (((l1.take 120).length + 1 : Nat) : Int))) ::
  rT (tV (.bool (decide (k0 < ((l1.take 120).length + 1 : Nat))))) ::
  []) hz hd (by kernel_rfl) ?_ ?_
 refine ⟨?_, ?_, ?_, ?_, trivial⟩
 exact zMv hz (sv S14)
 exact zMv hz (sv S9)
 exact sLenK hz rfl (sd 1 rfl) (fun w => by simp [go_sem])
 exact sBin rfl rfl rfl hz rfl (Gd.none_ rfl) rfl (sd 0 rfl) (sd 2 rfl) (fun w => by simp [go_sem]; try omega)
 intro a' γ' W' hz' hd' hC hk hh
 replace Cp3 := kC hC Cp3
 replace Cp4 := kC hC Cp4
 replace Cp5 := kC hC Cp5
 replace Cp6 := kC hC Cp6
 replace Cp7 := kC hC Cp7
 replace Cp8 := kC hC Cp8
 replace S4 := kp hk S4
 replace S5 := kp hk S5
 replace S6 := kp hk S6
 replace S7 := kp hk S7
 replace S8 := kp hk S8
 replace S9 := kp hk S9
 replace S10 := kp hk S10
 replace S11 := kp hk S11
 replace S12 := kp hk S12
 replace S14 := kp hk S14
 replace O9 := ByU.aft O9 hC rfl
 have S57 := gotV hz' 3 hh rfl rfl rfl rfl
 replace HB := aft_call HB (RelC.below_nil hC)
 clear hC hk hh; replace hz := hz'; replace hd := hd'; clear hz' hd'
 by_cases hc9 : k0 < ((l1.take 120).length + 1 : Nat)
 rw [decide_eq_true hc9] at S57
 refine wp_cond_true S57.ev ?_
 refine wp_skip ?_
 refine wp_seq ?_
 refine wp_block ?_
 refine reg_set hz S9 S14 (by omega) O9 ?_
 intro a' hz' hd' hk
 replace hd : _ = _ := hd'.trans hd
 replace Cp3 := cell_keep (k := k0) (u := .int .u8 ((255 : Nat) : Int)) O9 (by rfl) Cp3
 replace Cp4 := cell_keep (k := k0) (u := .int .u8 ((255 : Nat) : Int)) O9 (by rfl) Cp4
 replace Cp5 := cell_keep (k := k0) (u := .int .u8 ((255 : Nat) : Int)) O9 (by rfl) Cp5
 replace Cp6 := cell_keep (k := k0) (u := .int .u8 ((255 : Nat) : Int)) O9 (by rfl) Cp6
 replace Cp7 := cell_keep (k := k0) (u := .int .u8 ((255 : Nat) : Int)) O9 (by rfl) Cp7
 replace Cp8 := cell_keep (k := k0) (u := .int .u8 ((255 : Nat) : Int)) O9 (by rfl) Cp8
 replace HB := HB.setCell (p := ⟨g9, k0, none⟩) O9.lo (.int .u8 ((255 : Nat) : Int))
 replace O9 := ByU.set_ (k := k0) (d := 255) O9 (by decide)
 replace S4 := hk 4 _ rfl S4
 replace S5 := hk 5 _ rfl S5
 replace S6 := hk 6 _ rfl S6
 replace S7 := hk 7 _ rfl S7
 replace S8 := hk 8 _ rfl S8
 replace S9 := hk 9 _ rfl S9
 replace S10 := hk 10 _ rfl S10
 replace S11 := hk 11 _ rfl S11
 replace S12 := hk 12 _ rfl S12
 replace S14 := hk 14 _ rfl S14
 replace S57 := hk 57 _ rfl S57
 clear hk; replace hz := hz'; clear hz' hd'
 refine region_text (M := []) (
  rT (tV (.int .i64 (k0 : Int))) ::
  rT (tV (.int .i64 ((k0 + 1 : Nat) : Int))) ::
  rT (tV (.int .i64 ((k0 + 1 : Nat) : Int))) ::
  []) hz hd (by kernel_rfl) ?_ ?_
 refine ⟨?_, ?_, ?_, trivial⟩
 exact zMv hz (sv S14)
 exact sBin rfl rfl rfl hz rfl (Gd.none_ rfl) rfl (sd 0 rfl) kc (fun w => by simp [go_sem, IntKind.wrap_i64]; omega)
 exact zAs hz (sd 1 rfl)
 intro a' γ' W' hz' hd' hC hk hh
 replace Cp3 := kC hC Cp3
 replace Cp4 := kC hC Cp4
 replace Cp5 := kC hC Cp5
 replace Cp6 := kC hC Cp6
 replace Cp7 := kC hC Cp7
 replace Cp8 := kC hC Cp8
 replace S4 := kp hk S4
 replace S5 := kp hk S5
 replace S6 := kp hk S6
 replace S7 := kp hk S7
 replace S8 := kp hk S8
 replace S9 := kp hk S9
 replace S10 := kp hk S10
 replace S11 := kp hk S11
 replace S12 := kp hk S12
 clear S14
 replace S57 := kp hk S57
 replace O9 := ByU.aft O9 hC rfl
 have S14 := gotV hz' 2 hh rfl rfl rfl rfl
 replace HB := aft_call HB (RelC.below_nil hC)
 clear hC hk hh; replace hz := hz'; replace hd := hd'; clear hz' hd'
 show ∃ n', n' < _ ∧ _
 refine ⟨_, ?_, k0 + 1, rfl, hz, hd, HB, S4, S5, S6, S7, S8, S9, S10, S11, S12, S14, Cp3, Cp4, Cp5, Cp6, Cp7, Cp8, O9, (by omega)⟩
 omega
 rw [decide_eq_false hc9] at S57
 refine wp_cond_false S57.ev ?_
 refine wp_exit ?_
 refine wp_seq ?_
 clear O9
 refine region_text (M := []) (
  rT (tQ B64 960 (mkF l1 m1)) ::
  rT (tQ B64 960 (mkF l2 m2)) ::
  rT (tQ B64 1921 ((mkF l1 m1) + (mkF l2 m2))) ::
  rVar 3 29 2 ::
  rB 3 29 (tQ B64 1921 ((mkF l1 m1) + (mkF l2 m2))) (some 3) 4 ::
  []) hz hd (by kernel_rfl) ?_ ?_
 refine ⟨?_, ?_, ?_, ?_, ?_, trivial⟩
 exact zLd hz (sv S5) Cp3 ld_q64
 exact zLd hz (sv S7) Cp5 ld_q64
 exact zC2 hz Try.func17 (sd 0 rfl) (sd 1 rfl) (fun _ _ _ h0 h1 => cq_add h0 h1 (by decide) (by decide))
 exact zAl hz nd_rat al_r64
 exact zSt (sd 2 rfl) st_q64
 intro a' γ' W' hz' hd' hC hk hh
 replace Cp3 := kC hC Cp3
 replace Cp4 := kC hC Cp4
 replace Cp5 := kC hC Cp5
 replace Cp6 := kC hC Cp6
 replace Cp7 := kC hC Cp7
 replace Cp8 := kC hC Cp8
 replace S4 := kp hk S4
 replace S5 := kp hk S5
 replace S6 := kp hk S6
 replace S7 := kp hk S7
 replace S8 := kp hk S8
 clear S9
 replace S10 := kp hk S10
 replace S11 := kp hk S11
 replace S12 := kp hk S12
 clear S14
 clear S57
 obtain ⟨p10, S15, Cp10, lp10, gp10⟩ := gotB hz' 4 hC hh rfl rfl rfl rfl rfl rfl
 clear lp10 gp10
 replace HB := aft_call HB (RelC.below_nil hC)
 clear hC hk hh; replace hz := hz'; replace hd := hd'; clear hz' hd'
 refine wp_seq ?_
 refine wp_seq ?_
 refine region_text (M := []) (
  rT (tV (.int .i64 0)) ::
  []) hz hd (by kernel_rfl) ?_ ?_
 refine ⟨?_, trivial⟩
 exact zAs hz kc
 intro a' γ' W' hz' hd' hC hk hh
 replace Cp3 := kC hC Cp3
 replace Cp4 := kC hC Cp4
 replace Cp5 := kC hC Cp5
 replace Cp6 := kC hC Cp6
 replace Cp7 := kC hC Cp7
 replace Cp8 := kC hC Cp8
 replace Cp10 := kC hC Cp10
 replace S4 := kp hk S4
 replace S5 := kp hk S5
 replace S6 := kp hk S6
 replace S7 := kp hk S7
 replace S8 := kp hk S8
 replace S10 := kp hk S10
 replace S11 := kp hk S11
 replace S12 := kp hk S12
 replace S15 := kp hk S15
 have S16 := gotV hz' 0 hh rfl rfl rfl rfl
 replace HB := aft_call HB (RelC.below_nil hC)
 clear hC hk hh; replace hz := hz'; replace hd := hd'; clear hz' hd'
 refine wp_block ?_
 refine wp_loop_ghost (fun k a W => ∃ (ka : Nat), k = 2 - ka ∧ a.tmps.size = 147 ∧ a.defers = [] ∧ Below w.heap.size w W ∧ Sl a 4 (.bool false) ∧ Sl a 5 (.pointer (some ⟨p3, 0, none⟩)) ∧ Sl a 6 (.pointer (some ⟨p4, 0, none⟩)) ∧ Sl a 7 (.pointer (some ⟨p5, 0, none⟩)) ∧ Sl a 8 (.pointer (some ⟨p6, 0, none⟩)) ∧ Sl a 10 (.pointer (some ⟨p7, 0, none⟩)) ∧ Sl a 11 (.bool (decide (7 ≠ 0))) ∧ Sl a 12 (.pointer (some ⟨p8, 0, none⟩)) ∧ Sl a 15 (.pointer (some ⟨p10, 0, none⟩)) ∧ Sl a 16 (.int .i64 (ka : Int)) ∧ Cell 29 (tQ B64 960 (mkF l1 m1)) p3 W ∧ Cell 33 (tQ B32 960 (mkF l1 m1)) p4 W ∧ Cell 29 (tQ B64 960 (mkF l2 m2)) p5 W ∧ Cell 33 (tQ B32 960 (mkF l2 m2)) p6 W ∧ Cell 29 (tQ B64 960 (mkRat (bev (l1.take 120)) 7)) p7 W ∧ Cell 33 (tQ B32 960 (mkRat (bev (l1.take 120)) 7)) p8 W ∧ Cell 29 (tQ B64 1921 ((mkF l1 m1) + (mkF l2 m2))) p10 W ∧ ka ≤ 2) _ ⟨0, rfl, hz, hd, HB, S4, S5, S6, S7, S8, S10, S11, S12, S15, S16, Cp3, Cp4, Cp5, Cp6, Cp7, Cp8, Cp10, (by decide)⟩ ?_
 clear S4 S5 S6 S7 S8 S10 S11 S12 S15 S16 Cp3 Cp4 Cp5 Cp6 Cp7 Cp8 Cp10 hz hd HB
 rintro k a W ⟨ka, rfl, hz, hd, HB, S4, S5, S6, S7, S8, S10, S11, S12, S15, S16, Cp3, Cp4, Cp5, Cp6, Cp7, Cp8, Cp10, hka⟩
 refine wp_seq ?_
 refine wp_seq ?_
 refine region_text (M := []) (
  rT (tV (.int .i64 (ka : Int))) ::
  rT (tV (.bool (decide (ka < 2)))) ::
  []) hz hd (by kernel_rfl) ?_ ?_
 refine ⟨?_, ?_, trivial⟩
 exact zMv hz (sv S16)
 exact sBin rfl rfl rfl hz rfl (Gd.none_ rfl) rfl (sd 0 rfl) kc (fun w => by simp [go_sem]; try omega)
 intro a' γ' W' hz' hd' hC hk hh
 replace Cp3 := kC hC Cp3
 replace Cp4 := kC hC Cp4
 replace Cp5 := kC hC Cp5
 replace Cp6 := kC hC Cp6
 replace Cp7 := kC hC Cp7
 replace Cp8 := kC hC Cp8
 replace Cp10 := kC hC Cp10
 replace S4 := kp hk S4
 replace S5 := kp hk S5
 replace S6 := kp hk S6
 replace S7 := kp hk S7
 replace S8 := kp hk S8
 replace S10 := kp hk S10
 replace S11 := kp hk S11
 replace S12 := kp hk S12
 replace S15 := kp hk S15
 replace S16 := kp hk S16
 have S67 := gotV hz' 1 hh rfl rfl rfl rfl
 replace HB := aft_call HB (RelC.below_nil hC)
 clear hC hk hh; replace hz := hz'; replace hd := hd'; clear hz' hd'
 by_cases hc11 : ka < 2
 rw [decide_eq_true hc11] at S67
 refine wp_cond_true S67.ev ?_
 refine wp_skip ?_
 refine wp_seq ?_
 refine wp_block ?_
 refine wp_seq ?_
 refine region_text (M := []) (
  rT (tQ B64 960 (mkF l1 m1)) ::
  rT (tT [tN B64 960 ((mkF l1 m1).num.toNat), tN B64 961 ((mkF l1 m1).den)]) ::
  rT (tT [tN B64 960 ((mkF l1 m1).num.toNat), tN B64 961 ((mkF l1 m1).den)]) ::
  rT (tN B64 960 ((mkF l1 m1).num.toNat)) ::
  rT (tN B64 961 ((mkF l1 m1).den)) ::
  rVar 5 27 1 ::
  rVar 6 27 1 ::
  rB 5 27 (tN B64 960 ((mkF l1 m1).num.toNat)) (some 5) 6 ::
  rB 6 27 (tN B64 961 ((mkF l1 m1).den)) (some 6) 7 ::
  []) hz hd (by kernel_rfl) ?_ ?_
 refine ⟨?_, ?_, ?_, ?_, ?_, ?_, ?_, ?_, ?_, trivial⟩
 exact zLd hz (sv S5) Cp3 ld_q64
 exact zC1 hz Try.func18 (sd 0 rfl) (fun _ _ h0 => cq_parts h0 (by decide))
 exact zMv hz (sd 1 rfl)
 exact zExt hz (sd 2 rfl)
 exact zExt hz (sd 2 rfl)
 exact zAl hz nd_slice al_n64
 exact zAl hz nd_slice al_n64
 exact zSt (sd 3 rfl) st_n64
 exact zSt (sd 4 rfl) st_n64
 intro a' γ' W' hz' hd' hC hk hh
 replace Cp3 := kC hC Cp3
 replace Cp4 := kC hC Cp4
 replace Cp5 := kC hC Cp5
 replace Cp6 := kC hC Cp6
 replace Cp7 := kC hC Cp7
 replace Cp8 := kC hC Cp8
 replace Cp10 := kC hC Cp10
 replace S4 := kp hk S4
 replace S5 := kp hk S5
 replace S6 := kp hk S6
 replace S7 := kp hk S7
 replace S8 := kp hk S8
 replace S10 := kp hk S10
 replace S11 := kp hk S11
 replace S12 := kp hk S12
 replace S15 := kp hk S15
 replace S16 := kp hk S16
 replace S67 := kp hk S67
 obtain ⟨p12, S17, Cp12, lp12, gp12⟩ := gotB hz' 7 hC hh rfl rfl rfl rfl rfl rfl
 obtain ⟨p13, S18, Cp13, lp13, gp13⟩ := gotB hz' 8 hC hh rfl rfl rfl rfl rfl rfl
 clear lp12 gp12 lp13 gp13
 replace HB := aft_call HB (RelC.below_nil hC)
 clear hC hk hh; replace hz := hz'; replace hd := hd'; clear hz' hd'
 refine wp_seq ?_
 refine region_drawn (M := []) (
  rT (tN B64 960 ((mkF l1 m1).num.toNat)) ::
  rOF 2 w.heap.size ((bytesOf ((mkF l1 m1).num.toNat)).length) (bytesOf ((mkF l1 m1).num.toNat)) ::
  rT (tN B64 961 ((mkF l1 m1).den)) ::
  rOF 4 w.heap.size ((bytesOf ((mkF l1 m1).den)).length) (bytesOf ((mkF l1 m1).den)) ::
  rOF 2 w.heap.size ((bytesOf ((mkF l1 m1).num.toNat)).length) (bytesOf ((mkF l1 m1).num.toNat)) ::
  rOF 4 w.heap.size ((bytesOf ((mkF l1 m1).den)).length) (bytesOf ((mkF l1 m1).den)) ::
  []) hz hd (by kernel_rfl) (by kernel_rfl) ?_ ?_
 refine ⟨?_, ?_, ?_, ?_, ?_, ?_, trivial⟩
 exact zLd hz (sv S17) Cp12 ld_n64
 exact zCB hz rfl Try.func19 HB.size (fun a γ w U => (by show Calls _ _ #[a.eval (.tmp 75)] _ _; exact c_own (Src.at_ (sd 0 rfl) U) (by decide)))
 exact zLd hz (sv S18) Cp13 ld_n64
 exact zCB hz rfl Try.func19 HB.size (fun a γ w U => (by show Calls _ _ #[a.eval (.tmp 77)] _ _; exact c_own (Src.at_ (sd 2 rfl) U) (by decide)))
 exact zHandR (j := 1) hz rfl (by kernel_rfl) (by kernel_rfl) rfl rfl rfl rfl (fun _ _ _ h => h) (.inl rfl)
 exact zHandR (j := 3) hz rfl (by kernel_rfl) (by kernel_rfl) rfl rfl rfl rfl (fun _ _ _ h => h) (.inl rfl)
 intro a' γ' W' hz' hd' hC hk hh
 replace Cp3 := kC hC Cp3
 replace Cp4 := kC hC Cp4
 replace Cp5 := kC hC Cp5
 replace Cp6 := kC hC Cp6
 replace Cp7 := kC hC Cp7
 replace Cp8 := kC hC Cp8
 replace Cp10 := kC hC Cp10
 replace Cp12 := kC hC Cp12
 replace Cp13 := kC hC Cp13
 replace S4 := kp hk S4
 replace S5 := kp hk S5
 replace S6 := kp hk S6
 replace S7 := kp hk S7
 replace S8 := kp hk S8
 replace S10 := kp hk S10
 replace S11 := kp hk S11
 replace S12 := kp hk S12
 replace S15 := kp hk S15
 replace S16 := kp hk S16
 replace S67 := kp hk S67
 replace S17 := kp hk S17
 replace S18 := kp hk S18
 obtain ⟨g19, S19, O19, tg19⟩ := gotOF hz' 4 hh rfl rfl rfl rfl
 replace O19 : ByU _ _ _ _ _ := ⟨_, O19⟩
 obtain ⟨n19, e_n19⟩ : ∃ n, n = (bytesOf ((mkF l1 m1).num.toNat)).length := ⟨_, rfl⟩
 rw [← e_n19] at S19 O19
 obtain ⟨g20, S20, O20, tg20⟩ := gotOF hz' 5 hh rfl rfl rfl rfl
 replace O20 : ByU _ _ _ _ _ := ⟨_, O20⟩
 obtain ⟨n20, e_n20⟩ : ∃ n, n = (bytesOf ((mkF l1 m1).den)).length := ⟨_, rfl⟩
 rw [← e_n20] at S20 O20
 have n_g : g19 ≠ g20 := by intro e; rw [e, tg20] at tg19; cases tg19
 clear tg19 tg20
 replace HB := aft_call HB (RelC.below_nil hC)
 clear hC hk hh; replace hz := hz'; replace hd := hd'; clear hz' hd'
 refine wp_seq ?_
 refine wp_seq ?_
 have hq := kp_cell Cp3
 have hn19 : n19 ≤ 100000000000 := by rw [e_n19, bytes_len]; omega
 have hn20 : n20 ≤ 100000000000 := by rw [e_n20, bytes_len]; omega
 clear hq
 clear e_n19 e_n20
 clear Cp12
 clear Cp13
 refine region_text (M := []) (
  rT (tV (.int .i64 0)) ::
  []) hz hd (by kernel_rfl) ?_ ?_
 refine ⟨?_, trivial⟩
 exact zAs hz kc
 intro a' γ' W' hz' hd' hC hk hh
 replace Cp3 := kC hC Cp3
 replace Cp4 := kC hC Cp4
 replace Cp5 := kC hC Cp5
 replace Cp6 := kC hC Cp6
 replace Cp7 := kC hC Cp7
 replace Cp8 := kC hC Cp8
 replace Cp10 := kC hC Cp10
 replace S4 := kp hk S4
 replace S5 := kp hk S5
 replace S6 := kp hk S6
 replace S7 := kp hk S7
 replace S8 := kp hk S8
 replace S10 := kp hk S10
 replace S11 := kp hk S11
 replace S12 := kp hk S12
 replace S15 := kp hk S15
 replace S16 := kp hk S16
 replace S67 := kp hk S67
 replace S17 := kp hk S17
 replace S18 := kp hk S18
 replace S19 := kp hk S19
 replace S20 := kp hk S20
 replace O19 := ByU.aft O19 hC rfl
 replace O20 := ByU.aft O20 hC rfl
 have S21 := gotV hz' 0 hh rfl rfl rfl rfl
 replace HB := aft_call HB (RelC.below_nil hC)
 clear hC hk hh; replace hz := hz'; replace hd := hd'; clear hz' hd'
 refine wp_block ?_
 refine wp_loop_ghost (fun k a W => ∃ (kx : Nat), k = n19 - kx ∧ a.tmps.size = 147 ∧ a.defers = [] ∧ Below w.heap.size w W ∧ Sl a 4 (.bool false) ∧ Sl a 5 (.pointer (some ⟨p3, 0, none⟩)) ∧ Sl a 6 (.pointer (some ⟨p4, 0, none⟩)) ∧ Sl a 7 (.pointer (some ⟨p5, 0, none⟩)) ∧ Sl a 8 (.pointer (some ⟨p6, 0, none⟩)) ∧ Sl a 10 (.pointer (some ⟨p7, 0, none⟩)) ∧ Sl a 11 (.bool (decide (7 ≠ 0))) ∧ Sl a 12 (.pointer (some ⟨p8, 0, none⟩)) ∧ Sl a 15 (.pointer (some ⟨p10, 0, none⟩)) ∧ Sl a 16 (.int .i64 (ka : Int)) ∧ Sl a 17 (.pointer (some ⟨p12, 0, none⟩)) ∧ Sl a 18 (.pointer (some ⟨p13, 0, none⟩)) ∧ Sl a 19 (.slice (some ⟨g19, 0, none⟩) n19 n19) ∧ Sl a 20 (.slice (some ⟨g20, 0, none⟩) n20 n20) ∧ Sl a 21 (.int .i64 (kx : Int)) ∧ Sl a 67 (.bool true) ∧ Cell 29 (tQ B64 960 (mkF l1 m1)) p3 W ∧ Cell 33 (tQ B32 960 (mkF l1 m1)) p4 W ∧ Cell 29 (tQ B64 960 (mkF l2 m2)) p5 W ∧ Cell 33 (tQ B32 960 (mkF l2 m2)) p6 W ∧ Cell 29 (tQ B64 960 (mkRat (bev (l1.take 120)) 7)) p7 W ∧ Cell 33 (tQ B32 960 (mkRat (bev (l1.take 120)) 7)) p8 W ∧ Cell 29 (tQ B64 1921 ((mkF l1 m1) + (mkF l2 m2))) p10 W ∧ ByU w.heap.size g19 n19 n19 W ∧ ByU w.heap.size g20 n20 n20 W ∧ kx ≤ n19) _ ⟨0, rfl, hz, hd, HB, S4, S5, S6, S7, S8, S10, S11, S12, S15, S16, S17, S18, S19, S20, S21, S67, Cp3, Cp4, Cp5, Cp6, Cp7, Cp8, Cp10, O19, O20, (Nat.zero_le _)⟩ ?_
 clear S4 S5 S6 S7 S8 S10 S11 S12 S15 S16 S67 S17 S18 S19 S20 S21 Cp3 Cp4 Cp5 Cp6 Cp7 Cp8 Cp10 O19 O20 hz hd HB
 rintro k a W ⟨kx, rfl, hz, hd, HB, S4, S5, S6, S7, S8, S10, S11, S12, S15, S16, S17, S18, S19, S20, S21, S67, Cp3, Cp4, Cp5, Cp6, Cp7, Cp8, Cp10, O19, O20, hkx⟩
 refine wp_seq ?_
 refine wp_seq ?_
 refine region_text (M := []) (
  rT (tV (.int .i64 (kx : Int))) ::
  rT (tV (.slice (some ⟨g19, 0, none⟩) n19 n19)) ::
  rT (tV (.int .i64 (n19 : Int))) ::
  rT (tV (.bool (decide (kx < n19)))) ::
  []) hz hd (by kernel_rfl) ?_ ?_
 refine ⟨?_, ?_, ?_, ?_, trivial⟩
 exact zMv hz (sv S21)
 exact zMv hz (sv S19)
 exact sLenK hz rfl (sd 1 rfl) (fun w => by simp [go_sem])
 exact sBin rfl rfl rfl hz rfl (Gd.none_ rfl) rfl (sd 0 rfl) (sd 2 rfl) (fun w => by simp [go_sem]; try omega)
 intro a' γ' W' hz' hd' hC hk hh
 replace Cp3 := kC hC Cp3
 replace Cp4 := kC hC Cp4
 replace Cp5 := kC hC Cp5
 replace Cp6 := kC hC Cp6
 replace Cp7 := kC hC Cp7
 replace Cp8 := kC hC Cp8
 replace Cp10 := kC hC Cp10
 replace S4 := kp hk S4
 replace S5 := kp hk S5
 replace S6 := kp hk S6
 replace S7 := kp hk S7
 replace S8 := kp hk S8
 replace S10 := kp hk S10
 replace S11 := kp hk S11
 replace S12 := kp hk S12
 replace S15 := kp hk S15
 replace S16 := kp hk S16
 replace S67 := kp hk S67
 replace S17 := kp hk S17
 replace S18 := kp hk S18
 replace S19 := kp hk S19
 replace S20 := kp hk S20
 replace S21 := kp hk S21
 replace O19 := ByU.aft O19 hC rfl
 replace O20 := ByU.aft O20 hC rfl
 have S82 := gotV hz' 3 hh rfl rfl rfl rfl
 replace HB := aft_call HB (RelC.below_nil hC)
 clear hC hk hh; replace hz := hz'; replace hd := hd'; clear hz' hd'
 by_cases hc14 : kx < n19
 rw [decide_eq_true hc14] at S82
 refine wp_cond_true S82.ev ?_
 refine wp_skip ?_
 refine wp_seq ?_
 refine wp_block ?_
 refine reg_xor hz S19 S21 (by omega) O19 ?_
 intro a' dd hdd hz' hd' hk
 replace hd : _ = _ := hd'.trans hd
 replace Cp3 := cell_keep (k := kx) (u := .int .u8 (dd : Int)) O19 (by rfl) Cp3
 replace Cp4 := cell_keep (k := kx) (u := .int .u8 (dd : Int)) O19 (by rfl) Cp4
 replace Cp5 := cell_keep (k := kx) (u := .int .u8 (dd : Int)) O19 (by rfl) Cp5
 replace Cp6 := cell_keep (k := kx) (u := .int .u8 (dd : Int)) O19 (by rfl) Cp6
 replace Cp7 := cell_keep (k := kx) (u := .int .u8 (dd : Int)) O19 (by rfl) Cp7
 replace Cp8 := cell_keep (k := kx) (u := .int .u8 (dd : Int)) O19 (by rfl) Cp8
 replace Cp10 := cell_keep (k := kx) (u := .int .u8 (dd : Int)) O19 (by rfl) Cp10
 replace O20 := ByU.ne (k := kx) (u := .int .u8 (dd : Int)) O20 (Ne.symm n_g)
 replace HB := HB.setCell (p := ⟨g19, kx, none⟩) O19.lo (.int .u8 (dd : Int))
 replace O19 := ByU.set_ (k := kx) (d := dd) O19 hdd
 replace S4 := hk 4 _ rfl S4
 replace S5 := hk 5 _ rfl S5
 replace S6 := hk 6 _ rfl S6
 replace S7 := hk 7 _ rfl S7
 replace S8 := hk 8 _ rfl S8
 replace S10 := hk 10 _ rfl S10
 replace S11 := hk 11 _ rfl S11
 replace S12 := hk 12 _ rfl S12
 replace S15 := hk 15 _ rfl S15
 replace S16 := hk 16 _ rfl S16
 replace S67 := hk 67 _ rfl S67
 replace S17 := hk 17 _ rfl S17
 replace S18 := hk 18 _ rfl S18
 replace S19 := hk 19 _ rfl S19
 replace S20 := hk 20 _ rfl S20
 replace S21 := hk 21 _ rfl S21
 replace S82 := hk 82 _ rfl S82
 clear hk; replace hz := hz'; clear hz' hd'
 refine region_text (M := []) (
  rT (tV (.int .i64 (kx : Int))) ::
  rT (tV (.int .i64 ((kx + 1 : Nat) : Int))) ::
  rT (tV (.int .i64 ((kx + 1 : Nat) : Int))) ::
  []) hz hd (by kernel_rfl) ?_ ?_
 refine ⟨?_, ?_, ?_, trivial⟩
 exact zMv hz (sv S21)
 exact sBin rfl rfl rfl hz rfl (Gd.none_ rfl) rfl (sd 0 rfl) kc (fun w => by simp [go_sem, IntKind.wrap_i64]; omega)
 exact zAs hz (sd 1 rfl)
 intro a' γ' W' hz' hd' hC hk hh
 replace Cp3 := kC hC Cp3
 replace Cp4 := kC hC Cp4
 replace Cp5 := kC hC Cp5
 replace Cp6 := kC hC Cp6
 replace Cp7 := kC hC Cp7
 replace Cp8 := kC hC Cp8
 replace Cp10 := kC hC Cp10
 replace S4 := kp hk S4
 replace S5 := kp hk S5
 replace S6 := kp hk S6
 replace S7 := kp hk S7
 replace S8 := kp hk S8
 replace S10 := kp hk S10
 replace S11 := kp hk S11
 replace S12 := kp hk S12
 replace S15 := kp hk S15
 replace S16 := kp hk S16
 replace S67 := kp hk S67
 replace S17 := kp hk S17
 replace S18 := kp hk S18
 replace S19 := kp hk S19
 replace S20 := kp hk S20
 clear S21
 replace S82 := kp hk S82
 replace O19 := ByU.aft O19 hC rfl
 replace O20 := ByU.aft O20 hC rfl
 have S21 := gotV hz' 2 hh rfl rfl rfl rfl
 replace HB := aft_call HB (RelC.below_nil hC)
 clear hC hk hh; replace hz := hz'; replace hd := hd'; clear hz' hd'
 show ∃ n', n' < _ ∧ _
 refine ⟨_, ?_, kx + 1, rfl, hz, hd, HB, S4, S5, S6, S7, S8, S10, S11, S12, S15, S16, S17, S18, S19, S20, S21, S67, Cp3, Cp4, Cp5, Cp6, Cp7, Cp8, Cp10, O19, O20, (by omega)⟩
 omega
 rw [decide_eq_false hc14] at S82
 refine wp_cond_false S82.ev ?_
 refine wp_exit ?_
 refine wp_seq ?_
 refine wp_seq ?_
 refine region_text (M := []) (
  rT (tV (.int .i64 0)) ::
  []) hz hd (by kernel_rfl) ?_ ?_
 refine ⟨?_, trivial⟩
 exact zAs hz kc
 intro a' γ' W' hz' hd' hC hk hh
 replace Cp3 := kC hC Cp3
 replace Cp4 := kC hC Cp4
 replace Cp5 := kC hC Cp5
 replace Cp6 := kC hC Cp6
 replace Cp7 := kC hC Cp7
 replace Cp8 := kC hC Cp8
 replace Cp10 := kC hC Cp10
 replace S4 := kp hk S4
 replace S5 := kp hk S5
 replace S6 := kp hk S6
 replace S7 := kp hk S7
 replace S8 := kp hk S8
 replace S10 := kp hk S10
 replace S11 := kp hk S11
 replace S12 := kp hk S12
 replace S15 := kp hk S15
 replace S16 := kp hk S16
 replace S67 := kp hk S67
 replace S17 := kp hk S17
 replace S18 := kp hk S18
 replace S19 := kp hk S19
 replace S20 := kp hk S20
 replace S21 := kp hk S21
 replace S82 := kp hk S82
 replace O19 := ByU.aft O19 hC rfl
 replace O20 := ByU.aft O20 hC rfl
 have S22 := gotV hz' 0 hh rfl rfl rfl rfl
 replace HB := aft_call HB (RelC.below_nil hC)
 clear hC hk hh; replace hz := hz'; replace hd := hd'; clear hz' hd'
 refine wp_block ?_
 refine wp_loop_ghost (fun k a W => ∃ (ky : Nat), k = n20 - ky ∧ a.tmps.size = 147 ∧ a.defers = [] ∧ Below w.heap.size w W ∧ Sl a 4 (.bool false) ∧ Sl a 5 (.pointer (some ⟨p3, 0, none⟩)) ∧ Sl a 6 (.pointer (some ⟨p4, 0, none⟩)) ∧ Sl a 7 (.pointer (some ⟨p5, 0, none⟩)) ∧ Sl a 8 (.pointer (some ⟨p6, 0, none⟩)) ∧ Sl a 10 (.pointer (some ⟨p7, 0, none⟩)) ∧ Sl a 11 (.bool (decide (7 ≠ 0))) ∧ Sl a 12 (.pointer (some ⟨p8, 0, none⟩)) ∧ Sl a 15 (.pointer (some ⟨p10, 0, none⟩)) ∧ Sl a 16 (.int .i64 (ka : Int)) ∧ Sl a 17 (.pointer (some ⟨p12, 0, none⟩)) ∧ Sl a 18 (.pointer (some ⟨p13, 0, none⟩)) ∧ Sl a 19 (.slice (some ⟨g19, 0, none⟩) n19 n19) ∧ Sl a 20 (.slice (some ⟨g20, 0, none⟩) n20 n20) ∧ Sl a 21 (.int .i64 (kx : Int)) ∧ Sl a 22 (.int .i64 (ky : Int)) ∧ Sl a 67 (.bool true) ∧ Sl a 82 (.bool false) ∧ Cell 29 (tQ B64 960 (mkF l1 m1)) p3 W ∧ Cell 33 (tQ B32 960 (mkF l1 m1)) p4 W ∧ Cell 29 (tQ B64 960 (mkF l2 m2)) p5 W ∧ Cell 33 (tQ B32 960 (mkF l2 m2)) p6 W ∧ Cell 29 (tQ B64 960 (mkRat (bev (l1.take 120)) 7)) p7 W ∧ Cell 33 (tQ B32 960 (mkRat (bev (l1.take 120)) 7)) p8 W ∧ Cell 29 (tQ B64 1921 ((mkF l1 m1) + (mkF l2 m2))) p10 W ∧ ByU w.heap.size g19 n19 n19 W ∧ ByU w.heap.size g20 n20 n20 W ∧ ky ≤ n20) _ ⟨0, rfl, hz, hd, HB, S4, S5, S6, S7, S8, S10, S11, S12, S15, S16, S17, S18, S19, S20, S21, S22, S67, S82, Cp3, Cp4, Cp5, Cp6, Cp7, Cp8, Cp10, O19, O20, (Nat.zero_le _)⟩ ?_
 clear S4 S5 S6 S7 S8 S10 S11 S12 S15 S16 S67 S17 S18 S19 S20 S21 S82 S22 Cp3 Cp4 Cp5 Cp6 Cp7 Cp8 Cp10 O19 O20 hz hd HB
 rintro k a W ⟨ky, rfl, hz, hd, HB, S4, S5, S6, S7, S8, S10, S11, S12, S15, S16, S17, S18, S19, S20, S21, S22, S67, S82, Cp3, Cp4, Cp5, Cp6, Cp7, Cp8, Cp10, O19, O20, hky⟩
 refine wp_seq ?_
 refine wp_seq ?_
 refine region_text (M := []) (
  rT (tV (.int .i64 (ky : Int))) ::
  rT (tV (.slice (some ⟨g20, 0, none⟩) n20 n20)) ::
  rT (tV (.int .i64 (n20 : Int))) ::
  rT (tV (.bool (decide (ky < n20)))) ::
  []) hz hd (by kernel_rfl) ?_ ?_
 refine ⟨?_, ?_, ?_, ?_, trivial⟩
 exact zMv hz (sv S22)
 exact zMv hz (sv S20)
 exact sLenK hz rfl (sd 1 rfl) (fun w => by simp [go_sem])
 exact sBin rfl rfl rfl hz rfl (Gd.none_ rfl) rfl (sd 0 rfl) (sd 2 rfl) (fun w => by simp [go_sem]; try omega)
 intro a' γ' W' hz' hd' hC hk hh
 replace Cp3 := kC hC Cp3
 replace Cp4 := kC hC Cp4
 replace Cp5 := kC hC Cp5
 replace Cp6 := kC hC Cp6
 replace Cp7 := kC hC Cp7
 replace Cp8 := kC hC Cp8
 replace Cp10 := kC hC Cp10
 replace S4 := kp hk S4
 replace S5 := kp hk S5
 replace S6 := kp hk S6
 replace S7 := kp hk S7
 replace S8 := kp hk S8
 replace S10 := kp hk S10
 replace S11 := kp hk S11
 replace S12 := kp hk S12
 replace S15 := kp hk S15
 replace S16 := kp hk S16
 replace S67 := kp hk S67
 replace S17 := kp hk S17
 replace S18 := kp hk S18
 replace S19 := kp hk S19
 replace S20 := kp hk S20
 replace S21 := kp hk S21
 replace S82 := kp hk S82
 replace S22 := kp hk S22
 replace O19 := ByU.aft O19 hC rfl
 replace O20 := ByU.aft O20 hC rfl
 have S96 := gotV hz' 3 hh rfl rfl rfl rfl
 replace HB := aft_call HB (RelC.below_nil hC)
 clear hC hk hh; replace hz := hz'; replace hd := hd'; clear hz' hd'
 by_cases hc15 : ky < n20
 rw [decide_eq_true hc15] at S96
 refine wp_cond_true S96.ev ?_
 refine wp_skip ?_
 refine wp_seq ?_
 refine wp_block ?_
 refine reg_xor hz S20 S22 (by omega) O20 ?_
 intro a' dd hdd hz' hd' hk
 replace hd : _ = _ := hd'.trans hd
 replace Cp3 := cell_keep (k := ky) (u := .int .u8 (dd : Int)) O20 (by rfl) Cp3
 replace Cp4 := cell_keep (k := ky) (u := .int .u8 (dd : Int)) O20 (by rfl) Cp4
 replace Cp5 := cell_keep (k := ky) (u := .int .u8 (dd : Int)) O20 (by rfl) Cp5
 replace Cp6 := cell_keep (k := ky) (u := .int .u8 (dd : Int)) O20 (by rfl) Cp6
 replace Cp7 := cell_keep (k := ky) (u := .int .u8 (dd : Int)) O20 (by rfl) Cp7
 replace Cp8 := cell_keep (k := ky) (u := .int .u8 (dd : Int)) O20 (by rfl) Cp8
 replace Cp10 := cell_keep (k := ky) (u := .int .u8 (dd : Int)) O20 (by rfl) Cp10
 replace O19 := ByU.ne (k := ky) (u := .int .u8 (dd : Int)) O19 n_g
 replace HB := HB.setCell (p := ⟨g20, ky, none⟩) O20.lo (.int .u8 (dd : Int))
 replace O20 := ByU.set_ (k := ky) (d := dd) O20 hdd
 replace S4 := hk 4 _ rfl S4
 replace S5 := hk 5 _ rfl S5
 replace S6 := hk 6 _ rfl S6
 replace S7 := hk 7 _ rfl S7
 replace S8 := hk 8 _ rfl S8
 replace S10 := hk 10 _ rfl S10
 replace S11 := hk 11 _ rfl S11
 replace S12 := hk 12 _ rfl S12
 replace S15 := hk 15 _ rfl S15
 replace S16 := hk 16 _ rfl S16
 replace S67 := hk 67 _ rfl S67
 replace S17 := hk 17 _ rfl S17
 replace S18 := hk 18 _ rfl S18
 replace S19 := hk 19 _ rfl S19
 replace S20 := hk 20 _ rfl S20
 replace S21 := hk 21 _ rfl S21
 replace S82 := hk 82 _ rfl S82
 replace S22 := hk 22 _ rfl S22
 replace S96 := hk 96 _ rfl S96
 clear hk; replace hz := hz'; clear hz' hd'
 refine region_text (M := []) (
  rT (tV (.int .i64 (ky : Int))) ::
  rT (tV (.int .i64 ((ky + 1 : Nat) : Int))) ::
  rT (tV (.int .i64 ((ky + 1 : Nat) : Int))) ::
  []) hz hd (by kernel_rfl) ?_ ?_
 refine ⟨?_, ?_, ?_, trivial⟩
 exact zMv hz (sv S22)
 exact sBin rfl rfl rfl hz rfl (Gd.none_ rfl) rfl (sd 0 rfl) kc (fun w => by simp [go_sem, IntKind.wrap_i64]; omega)
 exact zAs hz (sd 1 rfl)
 intro a' γ' W' hz' hd' hC hk hh
 replace Cp3 := kC hC Cp3
 replace Cp4 := kC hC Cp4
 replace Cp5 := kC hC Cp5
 replace Cp6 := kC hC Cp6
 replace Cp7 := kC hC Cp7
 replace Cp8 := kC hC Cp8
 replace Cp10 := kC hC Cp10
 replace S4 := kp hk S4
 replace S5 := kp hk S5
 replace S6 := kp hk S6
 replace S7 := kp hk S7
 replace S8 := kp hk S8
 replace S10 := kp hk S10
 replace S11 := kp hk S11
 replace S12 := kp hk S12
 replace S15 := kp hk S15
 replace S16 := kp hk S16
 replace S67 := kp hk S67
 replace S17 := kp hk S17
 replace S18 := kp hk S18
 replace S19 := kp hk S19
 replace S20 := kp hk S20
 replace S21 := kp hk S21
 replace S82 := kp hk S82
 clear S22
 replace S96 := kp hk S96
 replace O19 := ByU.aft O19 hC rfl
 replace O20 := ByU.aft O20 hC rfl
 have S22 := gotV hz' 2 hh rfl rfl rfl rfl
 replace HB := aft_call HB (RelC.below_nil hC)
 clear hC hk hh; replace hz := hz'; replace hd := hd'; clear hz' hd'
 show ∃ n', n' < _ ∧ _
 refine ⟨_, ?_, ky + 1, rfl, hz, hd, HB, S4, S5, S6, S7, S8, S10, S11, S12, S15, S16, S17, S18, S19, S20, S21, S22, S67, S82, Cp3, Cp4, Cp5, Cp6, Cp7, Cp8, Cp10, O19, O20, (by omega)⟩
 omega
 rw [decide_eq_false hc15] at S96
 refine wp_cond_false S96.ev ?_
 refine wp_exit ?_
 refine wp_seq ?_
 refine region_text (M := []) (
  rT (tV (.slice (some ⟨g19, 0, none⟩) n19 n19)) ::
  rOF 2 w.heap.size 3 [1, 2, 3] ::
  rT (tSl (n19 + 3)) ::
  rT (tSl (n19 + 3)) ::
  []) hz hd (by kernel_rfl) ?_ ?_
 refine ⟨?_, ?_, ?_, ?_, trivial⟩
 exact zMv hz (sv S19)
 exact zLitB (vs := #[(0, .int .u8 1), (1, .int .u8 2), (2, .int .u8 3)]) (l := [1, 2, 3]) hz rfl (fun a => by simp [Act.eval]) (fun w => by simp [go_sem, Value.cells, bva, bv]) rfl (by decide) rfl HB.size
 exact zAppG (j := 1) (B := w.heap.size) hz rfl (sd 0 rfl) O19 rfl (by kernel_rfl) (by kernel_rfl) rfl hn19
 exact zAs hz (sd 2 rfl)
 intro a' γ' W' hz' hd' hC hk hh
 replace Cp3 := kC hC Cp3
 replace Cp4 := kC hC Cp4
 replace Cp5 := kC hC Cp5
 replace Cp6 := kC hC Cp6
 replace Cp7 := kC hC Cp7
 replace Cp8 := kC hC Cp8
 replace Cp10 := kC hC Cp10
 replace S4 := kp hk S4
 replace S5 := kp hk S5
 replace S6 := kp hk S6
 replace S7 := kp hk S7
 replace S8 := kp hk S8
 replace S10 := kp hk S10
 replace S11 := kp hk S11
 replace S12 := kp hk S12
 replace S15 := kp hk S15
 replace S16 := kp hk S16
 replace S67 := kp hk S67
 replace S17 := kp hk S17
 replace S18 := kp hk S18
 clear S19
 replace S20 := kp hk S20
 replace S21 := kp hk S21
 replace S82 := kp hk S82
 replace S22 := kp hk S22
 replace S96 := kp hk S96
 replace O19 := ByU.aft O19 hC rfl
 replace O20 := ByU.aft O20 hC rfl
 obtain ⟨v19, S19, H19⟩ := got hz' 3 hh rfl rfl rfl rfl
 replace HB := aft_call HB (RelC.below_nil hC)
 clear hC hk hh; replace hz := hz'; replace hd := hd'; clear hz' hd'
 refine wp_seq ?_
 refine region_text (M := []) (
  rT (tV (.slice (some ⟨g20, 0, none⟩) n20 n20)) ::
  rOF 2 w.heap.size 3 [1, 2, 3] ::
  rT (tSl (n20 + 3)) ::
  rT (tSl (n20 + 3)) ::
  []) hz hd (by kernel_rfl) ?_ ?_
 refine ⟨?_, ?_, ?_, ?_, trivial⟩
 exact zMv hz (sv S20)
 exact zLitB (vs := #[(0, .int .u8 1), (1, .int .u8 2), (2, .int .u8 3)]) (l := [1, 2, 3]) hz rfl (fun a => by simp [Act.eval]) (fun w => by simp [go_sem, Value.cells, bva, bv]) rfl (by decide) rfl HB.size
 exact zAppG (j := 1) (B := w.heap.size) hz rfl (sd 0 rfl) O20 rfl (by kernel_rfl) (by kernel_rfl) rfl hn20
 exact zAs hz (sd 2 rfl)
 intro a' γ' W' hz' hd' hC hk hh
 replace Cp3 := kC hC Cp3
 replace Cp4 := kC hC Cp4
 replace Cp5 := kC hC Cp5
 replace Cp6 := kC hC Cp6
 replace Cp7 := kC hC Cp7
 replace Cp8 := kC hC Cp8
 replace Cp10 := kC hC Cp10
 replace S4 := kp hk S4
 replace S5 := kp hk S5
 replace S6 := kp hk S6
 replace S7 := kp hk S7
 replace S8 := kp hk S8
 replace S10 := kp hk S10
 replace S11 := kp hk S11
 replace S12 := kp hk S12
 replace S15 := kp hk S15
 replace S16 := kp hk S16
 replace S67 := kp hk S67
 replace S17 := kp hk S17
 replace S18 := kp hk S18
 clear S20
 replace S21 := kp hk S21
 replace S82 := kp hk S82
 replace S22 := kp hk S22
 replace S96 := kp hk S96
 replace S19 := kp hk S19
 replace H19 := Ty.aft _ H19 hC
 replace O19 := ByU.aft O19 hC rfl
 replace O20 := ByU.aft O20 hC rfl
 obtain ⟨v20, S20, H20⟩ := got hz' 3 hh rfl rfl rfl rfl
 replace HB := aft_call HB (RelC.below_nil hC)
 clear hC hk hh; replace hz := hz'; replace hd := hd'; clear hz' hd'
 refine wp_seq ?_
 refine region_text (M := []) (
  rT (tSl (n19 + 3)) ::
  rT (tV (.int .i64 ((n19 + 3 : Nat) : Int))) ::
  rT (tV (.bool false)) ::
  rT (tV (.bool false)) ::
  rT (tSl (n20 + 3)) ::
  rT (tV (.int .i64 ((n20 + 3 : Nat) : Int))) ::
  rT (tV (.bool false)) ::
  rT (tV (.bool false)) ::
  []) hz hd (by kernel_rfl) ?_ ?_
 refine ⟨?_, ?_, ?_, ?_, ?_, ?_, ?_, ?_, trivial⟩
 exact zMv hz (so S19 H19)
 exact zLenS hz (sd 0 rfl) rfl (fun A c w => by simp [go_sem])
 exact sBin rfl rfl rfl hz rfl (Gd.none_ rfl) rfl (sd 1 rfl) kc (fun w => by simp [go_sem]; omega)
 exact zMv hz (sd 2 rfl)
 exact zMv hz (so S20 H20) (g := gT 3 rfl)
 exact zLenS hz (sd 4 rfl) rfl (fun A c w => by simp [go_sem]) (g := gT 3 rfl)
 exact sBin rfl rfl rfl hz rfl (gT 3 rfl) rfl (sd 5 rfl) kc (fun w => by simp [go_sem]; omega)
 exact zPF hz (sd 3 rfl) (sd 6 rfl)
 intro a' γ' W' hz' hd' hC hk hh
 replace Cp3 := kC hC Cp3
 replace Cp4 := kC hC Cp4
 replace Cp5 := kC hC Cp5
 replace Cp6 := kC hC Cp6
 replace Cp7 := kC hC Cp7
 replace Cp8 := kC hC Cp8
 replace Cp10 := kC hC Cp10
 replace S4 := kp hk S4
 replace S5 := kp hk S5
 replace S6 := kp hk S6
 replace S7 := kp hk S7
 replace S8 := kp hk S8
 replace S10 := kp hk S10
 replace S11 := kp hk S11
 replace S12 := kp hk S12
 replace S15 := kp hk S15
 replace S16 := kp hk S16
 replace S67 := kp hk S67
 replace S17 := kp hk S17
 replace S18 := kp hk S18
 replace S21 := kp hk S21
 replace S82 := kp hk S82
 replace S22 := kp hk S22
 replace S96 := kp hk S96
 replace S19 := kp hk S19
 replace H19 := Ty.aft _ H19 hC
 replace S20 := kp hk S20
 replace H20 := Ty.aft _ H20 hC
 replace O19 := ByU.aft O19 hC rfl
 replace O20 := ByU.aft O20 hC rfl
 have S120 := gotV hz' 7 hh rfl rfl rfl rfl
 replace HB := aft_call HB (RelC.below_nil hC)
 clear hC hk hh; replace hz := hz'; replace hd := hd'; clear hz' hd'
 refine wp_cond_false S120.ev ?_
 refine wp_skip ?_
 refine region_text (M := []) (
  rT (tV (.int .i64 (ka : Int))) ::
  rT (tV (.int .i64 ((ka + 1 : Nat) : Int))) ::
  rT (tV (.int .i64 ((ka + 1 : Nat) : Int))) ::
  []) hz hd (by kernel_rfl) ?_ ?_
 refine ⟨?_, ?_, ?_, trivial⟩
 exact zMv hz (sv S16)
 exact sBin rfl rfl rfl hz rfl (Gd.none_ rfl) rfl (sd 0 rfl) kc (fun w => by simp [go_sem, IntKind.wrap_i64]; omega)
 exact zAs hz (sd 1 rfl)
 intro a' γ' W' hz' hd' hC hk hh
 replace Cp3 := kC hC Cp3
 replace Cp4 := kC hC Cp4
 replace Cp5 := kC hC Cp5
 replace Cp6 := kC hC Cp6
 replace Cp7 := kC hC Cp7
 replace Cp8 := kC hC Cp8
 replace Cp10 := kC hC Cp10
 replace S4 := kp hk S4
 replace S5 := kp hk S5
 replace S6 := kp hk S6
 replace S7 := kp hk S7
 replace S8 := kp hk S8
 replace S10 := kp hk S10
 replace S11 := kp hk S11
 replace S12 := kp hk S12
 replace S15 := kp hk S15
 clear S16
 replace S67 := kp hk S67
 replace S17 := kp hk S17
 replace S18 := kp hk S18
 replace S21 := kp hk S21
 replace S82 := kp hk S82
 replace S22 := kp hk S22
 replace S96 := kp hk S96
 replace S19 := kp hk S19
 replace H19 := Ty.aft _ H19 hC
 replace S20 := kp hk S20
 replace H20 := Ty.aft _ H20 hC
 replace S120 := kp hk S120
 replace O19 := ByU.aft O19 hC rfl
 replace O20 := ByU.aft O20 hC rfl
 have S16 := gotV hz' 2 hh rfl rfl rfl rfl
 replace HB := aft_call HB (RelC.below_nil hC)
 clear hC hk hh; replace hz := hz'; replace hd := hd'; clear hz' hd'
 show ∃ n', n' < _ ∧ _
 refine ⟨_, ?_, ka + 1, rfl, hz, hd, HB, S4, S5, S6, S7, S8, S10, S11, S12, S15, S16, Cp3, Cp4, Cp5, Cp6, Cp7, Cp8, Cp10, (by omega)⟩
 omega
 rw [decide_eq_false hc11] at S67
 refine wp_cond_false S67.ev ?_
 refine wp_exit ?_
 refine wp_seq ?_
 have hc16 : 7 ≠ 0 := (by decide)
 rw [decide_eq_true hc16] at S11
 have hc17 : mkF l1 m1 = mkF l1 m1 := rfl
 have hc18 : mkF l2 m2 = mkF l2 m2 := rfl
 have hc19 : mkRat (bev (l1.take 120)) 7 = mkRat (bev (l1.take 120)) 7 := rfl
 refine region_drawn (M := []) (
  rT (tV (.bool true)) ::
  rT (tV (.bool true)) ::
  rT (tV (.bool true)) ::
  rT (tV (.bool true)) ::
  rT (tV (.bool true)) ::
  rT (tQ B64 960 (mkF l1 m1)) ::
  rT (tQ B32 960 (mkF l1 m1)) ::
  rT (tV (.bool true)) ::
  rT (tV (.bool true)) ::
  rT (tV (.bool true)) ::
  rT (tQ B64 960 (mkF l2 m2)) ::
  rT (tQ B32 960 (mkF l2 m2)) ::
  rT (tV (.bool true)) ::
  rT (tV (.bool true)) ::
  rT (tV (.bool true)) ::
  rT (tQ B64 960 (mkRat (bev (l1.take 120)) 7)) ::
  rT (tQ B32 960 (mkRat (bev (l1.take 120)) 7)) ::
  rT (tV (.bool true)) ::
  rT (tV (.bool true)) ::
  rT (tV (.bool true)) ::
  rT (tQ B64 1921 ((mkF l1 m1) + (mkF l2 m2))) ::
  rT (tQ B32 960 (mkF l1 m1)) ::
  rT (tQ B32 960 (mkF l2 m2)) ::
  rT (tQ B32 1921 ((mkF l1 m1) + (mkF l2 m2))) ::
  rT (tV (.bool (decide ((mkF l1 m1) + (mkF l2 m2) = (mkF l1 m1) + (mkF l2 m2))))) ::
  rT (tV (.bool (decide ((mkF l1 m1) + (mkF l2 m2) = (mkF l1 m1) + (mkF l2 m2))))) ::
  rT (tV (.bool (decide ((mkF l1 m1) + (mkF l2 m2) = (mkF l1 m1) + (mkF l2 m2))))) ::
  []) hz hd (by kernel_rfl) (by kernel_rfl) ?_ ?_
 refine ⟨?_, ?_, ?_, ?_, ?_, ?_, ?_, ?_, ?_, ?_, ?_, ?_, ?_, ?_, ?_, ?_, ?_, ?_, ?_, ?_, ?_, ?_, ?_, ?_, ?_, ?_, ?_, trivial⟩
 exact zC0 hz Try.func20 (fun _ => l_told)
 exact zMv hz (sd 0 rfl)
 exact zMv hz (sv S11) (g := gT 1 rfl)
 exact zPT hz (sd 1 rfl) (sd 2 rfl)
 exact zMv hz (sd 3 rfl)
 exact zLd hz (sv S5) Cp3 ld_q64 (g := gT 4 rfl)
 exact zLd hz (sv S6) Cp4 ld_q32 (g := gT 4 rfl)
 exact zC2 hz Try.func21 (sd 5 rfl) (sd 6 rfl) (fun _ _ _ h0 h1 => (by have hq := l_same h0 h1 (by decide) (by decide); simp only [decide_eq_true hc17] at hq; exact hq)) (g := gT 4 rfl)
 exact zPT hz (sd 4 rfl) (sd 7 rfl)
 exact zMv hz (sd 8 rfl)
 exact zLd hz (sv S7) Cp5 ld_q64 (g := gT 9 rfl)
 exact zLd hz (sv S8) Cp6 ld_q32 (g := gT 9 rfl)
 exact zC2 hz Try.func21 (sd 10 rfl) (sd 11 rfl) (fun _ _ _ h0 h1 => (by have hq := l_same h0 h1 (by decide) (by decide); simp only [decide_eq_true hc18] at hq; exact hq)) (g := gT 9 rfl)
 exact zPT hz (sd 9 rfl) (sd 12 rfl)
 exact zMv hz (sd 13 rfl)
 exact zLd hz (sv S10) Cp7 ld_q64 (g := gT 14 rfl)
 exact zLd hz (sv S12) Cp8 ld_q32 (g := gT 14 rfl)
 exact zC2 hz Try.func21 (sd 15 rfl) (sd 16 rfl) (fun _ _ _ h0 h1 => (by have hq := l_same h0 h1 (by decide) (by decide); simp only [decide_eq_true hc19] at hq; exact hq)) (g := gT 14 rfl)
 exact zPT hz (sd 14 rfl) (sd 17 rfl)
 exact zMv hz (sd 18 rfl)
 exact zLd hz (sv S15) Cp10 ld_q64 (g := gT 19 rfl)
 exact zLd hz (sv S6) Cp4 ld_q32 (g := gT 19 rfl)
 exact zLd hz (sv S8) Cp6 ld_q32 (g := gT 19 rfl)
 exact zC2 hz Try.func22 (sd 21 rfl) (sd 22 rfl) (fun _ _ _ h0 h1 => dq_add h0 h1 (by decide) (by decide)) (g := gT 19 rfl)
 exact zC2 hz Try.func21 (sd 20 rfl) (sd 23 rfl) (fun _ _ _ h0 h1 => l_same h0 h1 (by decide) (by decide)) (g := gT 19 rfl)
 exact zPT hz (sd 19 rfl) (sd 24 rfl)
 exact zAs hz (sd 25 rfl)
 intro a' γ' W' hz' hd' hC hk hh
 clear Cp3
 clear Cp4
 clear Cp5
 clear Cp6
 clear Cp7
 clear Cp8
 clear Cp10
 clear S4
 clear S5
 clear S6
 clear S7
 clear S8
 clear S10
 clear S11
 clear S12
 clear S15
 clear S16
 clear S67
 have S4 := gotV hz' 26 hh rfl rfl rfl rfl
 replace HB := aft_call HB (RelC.below_nil hC)
 clear hC hk hh; replace hz := hz'; replace hd := hd'; clear hz' hd'
 refine wp_ret ?_
 have hc20 : (mkF l1 m1) + (mkF l2 m2) = (mkF l1 m1) + (mkF l2 m2) := rfl
 rw [decide_eq_true hc20] at S4
 exact ret1 (by kernel_rfl) S4 hd ⟨_, rfl, rfl, HB⟩

end Go.Proofs.Ythanbjbcpljcoaa.Rg

namespace Go.Proofs.Ythanbjbcpljcoaa.Rg

open Go.RowKit

theorem ratKept_walk (v0 : Value) (l1 m1 : List Nat) (v1 : Value) (l2 m2 : List Nat) (w : World) (h0 : (tF l1 m1).p v0 w) (h1 : (tF l2 m2).p v1 w) : Calls Try.prog 3 #[v0, v1] w fun e w' => e = .returned (.bool true) ∧ Below w.heap.size w w' :=
  ret_out (ratKept_ret h0 h1)
end Go.Proofs.Ythanbjbcpljcoaa.Rg
