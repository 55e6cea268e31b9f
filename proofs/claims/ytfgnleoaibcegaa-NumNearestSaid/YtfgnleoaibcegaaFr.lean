/-
  What a law's walk is told of its arguments: small words for the frame of a row.
-/
import Derived.Test.YtfgnleoaibcegaaWd

import Derived.ProofKit

import Derived.OpenShut

import Derived.ChangeOld

import Derived.SizedLaws

import Derived.Deep.Slices

import Derived.Deep.Fields

import Derived.ChangeSame

set_option linter.unusedVariables false

set_option linter.unusedSimpArgs false

namespace Go.Proofs.Ytfgnleoaibcegaa

open Go.ChangeShapes Go.WideShapes Go.ChangeAt Go.RowKit Go.Deep

theorem spot_none {w : World} {a : Addr} {v : Value} (h : w.cell? a = some v) : a = ⟨a.block, a.off, none⟩ := by
  obtain ⟨b, o, s⟩ := a
  cases s with
  | none => rfl
  | some x =>
    unfold World.cell? at h
    split at h <;> simp at h
theorem Reads.flat {w : World} {B size n : Nat} {A : Option Addr} {xs : List Value} (h : Reads w B size A n xs) (hn : 0 < n) (hs : 0 < size) :
    ∃ g off, A = some ⟨g, off, none⟩ ∧ g < B ∧ ∀ j u, xs[j]? = some u → w.cell? ⟨g, off + j, none⟩ = some u := by
  obtain ⟨ad, rfl, hb, hc⟩ := h.2 hn
  have hl : 0 < xs.length := by rw [h.1]; exact Nat.mul_pos hn hs
  have h0 := hc 0 _ (List.getElem?_eq_getElem hl)
  obtain ⟨g, off, s⟩ := ad
  have hsn : s = none := by
    have := spot_none h0
    unfold Addr.add at this
    simp at this
    exact this
  subst hsn
  refine ⟨g, off, rfl, hb, fun j u hu => ?_⟩
  have := hc j u hu
  rwa [Addr.add_lit] at this

/-- A slice that came in: its cells hold numbers of one kind. -/
structure InI (k : IntKind) (bytes nf : Nat) (w : World) (A : Option Addr) (n c : Nat) (l : List Int) : Prop where
  reads : Reads w w.heap.size nf A n (l.map (.int k))
  wf : ∀ x ∈ l, (Lit.int k x).wf = true
  le : n ≤ c
  reach : c * bytes ≤ 140737488351232

section

variable {H : Type} {enc : TypeId × Value → H} {P : Program} {w : World} {base : Nat} {spare : Nat → Bool} {held : Bool}
theorem open_slice_fields {t e : TypeId} {fs : Array Field} {fuel : Nat} {cs : List Value} {x : DataW H × List MemPlace} (ht : P.underlying t = some (.slice e)) (he : P.underlying e = some (.struct fs))
    (hone : oneCellFields P fs = true) (hC : P.cellsOf e = fs.size) (h : DataW.trod enc P w base spare held fuel t cs = some x) :
    (cs = [.slice none 0 0] ∧ x = (.nil, [])) ∨
    ∃ (a : Addr) (len cap m : Nat) (D : Nat → DataW H) (Pl : Nat → List MemPlace), cs = [.slice (some a) len cap] ∧ base ≤ a.block ∧ len ≤ cap ∧ cap ≤ maxLen ∧ m = (if spare a.block then cap else len) ∧
      x = (.slice ((List.range len).map D) ((List.range (m - len)).map fun j => D (len + j)), MemPlace.row a (m * fs.size) ++ (List.range m).flatMap Pl) ∧
      ∀ i, i < m → ∃ (ys : List (DataW H × List MemPlace)) (n : Nat), D i = .agg (ys.map (·.1)) ∧ Pl i = ys.flatMap (·.2) ∧ ys.length = fs.size ∧
        ∀ (j : Nat) (f : Field), fs[j]? = some f → ∃ (v : Value) (y : DataW H × List MemPlace), w.cell? (a.add (i * fs.size + j)) = some v ∧ ys[j]? = some y ∧ DataW.trod enc P w base spare held n f.type [v] = some y := by
  rcases open_slice ht h with h0 | ⟨a, len, cap, m, n, D, Pl, hcs, hb, hl, hm, hmm, hx, hi⟩
  · exact .inl h0
  · refine .inr ⟨a, len, cap, m, D, Pl, hcs, hb, hl, hm, hmm, by rw [hC] at hx; exact hx, fun i him => ?_⟩
    obtain ⟨cs', hc, ht'⟩ := hi i him
    rw [hC] at hc
    obtain ⟨ys, n', hn', hy, hlen, hyl, hf⟩ := DataW.trod_struct he ht'
    obtain ⟨_, hcl, hat⟩ := World.cells?_some hc
    simp only [Prod.mk.injEq] at hy
    refine ⟨ys, n', hy.1, hy.2, hyl, fun j f hj => ?_⟩
    obtain ⟨ho, hk⟩ := hone_of hone j f hj
    have hjl : j < fs.size := (Array.getElem?_eq_some_iff.1 hj).1
    have hcell := hat j hjl
    have hv : cs'[j]? = some (cs'[j]'(by omega)) := List.getElem?_eq_getElem (by omega)
    have h1 := hf j f hj
    rw [ho, hk] at h1
    have hone' : (cs'.drop j).take 1 = [cs'[j]'(by omega)] := by
      rw [List.drop_eq_getElem_cons (by omega)]
      rfl
    rw [hone'] at h1
    have hys : ys[j]? = some (ys[j]'(by omega)) := List.getElem?_eq_getElem (by omega)
    refine ⟨_, _, ?_, hys, h1.trans hys⟩
    rw [← Go.Deep.add_add, hcell, hv]
end

section

variable {H : Type} {enc : TypeId × Value → H} {P : Program} {w : World}

theorem in_ints {t e : TypeId} {k : IntKind} {bytes : Nat} {a : Option Addr} {len cap : Nat} {d : DataW H} {p : List MemPlace} (ht : P.underlying t = some (.slice e)) (he : P.underlying e = some (.int k)) (hc : P.cellsOf e = 1) (hb : P.bytesOf e = bytes)
    (h : DataW.Trod enc P w 0 (fun _ => true) true t (.slice a len cap) d p) (hs : ∀ elems spare, d = .slice elems spare → (elems.length + spare.length) * P.bytesOf e ≤ reachBytes) :
    ∃ l, InI k bytes 1 w a len cap l := by
  obtain ⟨fuel, hf⟩ := h
  rcases open_ints ht he hc hf with ⟨hcs, _⟩ | ⟨x, l, c, zs, hcs, _, hl, hm, hz, hx, hcell, hwz⟩
  · simp [Value.cells] at hcs
    obtain ⟨rfl, rfl, rfl⟩ := hcs
    exact ⟨[], ⟨by simp, fun h => absurd h (by omega)⟩, by simp, Nat.le_refl _, by omega⟩
  · simp [Value.cells] at hcs
    obtain ⟨rfl, rfl, rfl⟩ := hcs
    simp only [if_true] at hz
    simp only [Prod.mk.injEq] at hx
    have hr := hs _ _ hx.1
    rw [hb] at hr
    simp only [reachBytes, lits, List.length_map, List.length_take, List.length_drop, hz] at hr
    have hcap : min len cap + (cap - len) = cap := by omega
    rw [hcap] at hr
    refine ⟨zs.take len, ⟨by simp [hz]; omega, fun hn => ⟨x, rfl, ?_, fun j u hu => ?_⟩⟩, fun y hy => hwz y (List.mem_of_mem_take hy), hl, hr⟩
    · have := World.block_lt_of_cell? w _ (hcell 0 (by omega)); rwa [block_of_add] at this
    · have hj : j < len := by
        have := (List.getElem?_eq_some_iff.1 hu).1
        simp at this; omega
      rw [hcell j (by omega), ← hu]
      simp [List.getElem?_take, hj]
      rw [List.getElem?_eq_getElem (by omega)]; rfl

theorem pick_ints {m : Nat} {Q : Nat → Int → Prop} (h : ∀ q, q < m → ∃ x, Q q x) : ∃ l : List Int, l.length = m ∧ ∀ q, q < m → Q q (l.getD q 0) := by
  induction m with
  | zero => exact ⟨[], rfl, fun q hq => absurd hq (by omega)⟩
  | succ m ih =>
    obtain ⟨l, hl, hq⟩ := ih (fun q hq => h q (by omega))
    obtain ⟨x, hx⟩ := h m (by omega)
    refine ⟨l ++ [x], by simp [hl], fun q hq' => ?_⟩
    by_cases e : q < m
    · have := hq q e
      rw [List.getD_eq_getElem?_getD, List.getElem?_append_left (by omega), ← List.getD_eq_getElem?_getD]
      exact this
    · obtain rfl : q = m := by omega
      rw [List.getD_eq_getElem?_getD, List.getElem?_append_right (by omega)]
      simpa [hl] using hx

theorem in_rows {t e F : TypeId} {fs : Array Field} {k : IntKind} {nf bytes : Nat} {a : Option Addr} {len cap : Nat} {d : DataW H} {p : List MemPlace} (ht : P.underlying t = some (.slice e)) (he : P.underlying e = some (.struct fs))
    (hone : oneCellFields P fs = true) (hC : P.cellsOf e = fs.size) (hnf : fs.size = nf) (hpos : 0 < nf) (hF : P.underlying F = some (.int k)) (hfs : ∀ (j : Nat) (f : Field), fs[j]? = some f → f.type = F) (hb : P.bytesOf e = bytes)
    (h : DataW.Trod enc P w 0 (fun _ => true) true t (.slice a len cap) d p) (hs : ∀ elems spare, d = .slice elems spare → (elems.length + spare.length) * P.bytesOf e ≤ reachBytes) :
    ∃ l, InI k bytes nf w a len cap l := by
  obtain ⟨fuel, hf⟩ := h
  rcases open_slice_fields ht he hone hC hf with ⟨hcs, _⟩ | ⟨x, l, c, m, D, Pl, hcs, _, hl, hm, hmm, hx, hcell⟩
  · simp [Value.cells] at hcs
    obtain ⟨rfl, rfl, rfl⟩ := hcs
    exact ⟨[], ⟨by simp, fun h => absurd h (by omega)⟩, by simp, Nat.le_refl _, by omega⟩
  · simp [Value.cells] at hcs
    obtain ⟨rfl, rfl, rfl⟩ := hcs
    simp only [if_true] at hmm
    subst hmm
    simp only [Prod.mk.injEq] at hx
    have hr := hs _ _ hx.1
    rw [hb] at hr
    simp only [reachBytes, List.length_map, List.length_range] at hr
    have hcap : len + (m - len) = m := by omega
    rw [hcap] at hr
    rw [hnf] at hcell
    obtain ⟨zs, hz, hq⟩ := pick_ints (m := len * nf) (Q := fun q x' => w.cell? (x.add q) = some (.int k x') ∧ (Lit.int k x').wf = true) (fun q hq => by
      have hnf0 : 0 < nf := hpos
      have hi : q / nf < len := Nat.div_lt_of_lt_mul (by rw [Nat.mul_comm]; exact hq)
      obtain ⟨ys, n, _, _, hys, hfield⟩ := hcell (q / nf) (by omega)
      have hj : q % nf < nf := Nat.mod_lt _ hnf0
      obtain ⟨v, y, hc, hy, htr⟩ := hfield (q % nf) (fs[q % nf]'(by omega)) (Array.getElem?_eq_getElem (by omega))
      rw [hfs _ _ (Array.getElem?_eq_getElem (by omega))] at htr
      obtain ⟨x', e0, _, wx⟩ := DataW.trod_int hF htr
      simp at e0
      subst e0
      rw [show q / nf * nf + q % nf = q from by rw [Nat.mul_comm]; exact Nat.div_add_mod q nf] at hc
      exact ⟨x', hc, wx⟩)
    refine ⟨zs, ⟨by simp [hz], fun hn => ⟨x, rfl, ?_, fun j u hu => ?_⟩⟩, fun y hy => ?_, hl, hr⟩
    · have := World.block_lt_of_cell? w _ (hq 0 (Nat.mul_pos hn hpos)).1
      rwa [block_of_add] at this
    · have hj := (List.getElem?_eq_some_iff.1 hu).1
      simp at hj
      rw [(hq j (by omega)).1, ← hu]
      simp
      rw [List.getElem?_eq_getElem (by omega)]; rfl
    · obtain ⟨j, hj, rfl⟩ := List.getElem_of_mem hy
      have := (hq j (by omega)).2
      rwa [List.getD_eq_getElem?_getD, List.getElem?_eq_getElem hj] at this
end

end Go.Proofs.Ytfgnleoaibcegaa
