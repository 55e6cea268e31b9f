/-
  Walks and plain laws.
-/
import Derived.Test.YtfgnleoaibcegaaGreatXWd
import Derived.ProofKit
import Derived.OpenShut
import Derived.ChangeOld
import Derived.SizedLaws
import Derived.Deep.Slices
import Derived.Deep.Fields
import Derived.ChangeSame
set_option linter.unusedVariables false
set_option linter.unusedSimpArgs false
namespace Go.Proofs.YtfgnleoaibcegaaGreat

open Go.ChangeShapes Go.WideShapes Go.ChangeAt Go.RowKit Go.Deep

theorem spot_none {w : World} {a : Addr} {v : Value} (h : w.cell? a = some v) : a = ⟨a.block, a.off, none⟩ := by
  obtain ⟨b, o, s⟩ := a
  cases s with
  | none => rfl
  | some x =>
    unfold World.cell? at h
    split at h <;> simp at h
theorem Reads.flat {w : World} {B size n : Nat} {A : Option Addr} {xs : List Value} (h : Reads w B size A n xs) (hn : 0 < n) (hs : 0 < size) :
    ∃ g off, A = some ⟨g, off, none⟩ ∧ g < B ∧ ∀ j u, xs[j]? = some u → w.cell? ⟨g, off + j, none⟩ = some u := by
  obtain ⟨ad, rfl, hb, hc⟩ := h.2 hn
  have hl : 0 < xs.length := by rw [h.1]; exact Nat.mul_pos hn hs
  have h0 := hc 0 _ (List.getElem?_eq_getElem hl)
  obtain ⟨g, off, s⟩ := ad
  have hsn : s = none := by
    have := spot_none h0
    unfold Addr.add at this
    simp at this
    exact this
  subst hsn
  refine ⟨g, off, rfl, hb, fun j u hu => ?_⟩
  have := hc j u hu
  rwa [Addr.add_lit] at this

structure InI (k : IntKind) (bytes nf : Nat) (w : World) (A : Option Addr) (n c : Nat) (l : List Int) : Prop where
  reads : Reads w w.heap.size nf A n (l.map (.int k))
  wf : ∀ x ∈ l, (Lit.int k x).wf = true
  le : n ≤ c
  reach : c * bytes ≤ 140737488351232

section

variable {H : Type} {enc : TypeId × Value → H} {P : Program} {w : World} {base : Nat} {spare : Nat → Bool} {held : Bool}
end

section

variable {H : Type} {enc : TypeId × Value → H} {P : Program} {w : World}

theorem in_ints {t e : TypeId} {k : IntKind} {bytes : Nat} {a : Option Addr} {len cap : Nat} {d : DataW H} {p : List MemPlace} (ht : P.underlying t = some (.slice e)) (he : P.underlying e = some (.int k)) (hc : P.cellsOf e = 1) (hb : P.bytesOf e = bytes)
    (h : DataW.Trod enc P w 0 (fun _ => true) true t (.slice a len cap) d p) (hs : ∀ elems spare, d = .slice elems spare → (elems.length + spare.length) * P.bytesOf e ≤ reachBytes) :
    ∃ l, InI k bytes 1 w a len cap l := by
  obtain ⟨fuel, hf⟩ := h
  rcases open_ints ht he hc hf with ⟨hcs, _⟩ | ⟨x, l, c, zs, hcs, _, hl, hm, hz, hx, hcell, hwz⟩
  · simp [Value.cells] at hcs
    obtain ⟨rfl, rfl, rfl⟩ := hcs
    exact ⟨[], ⟨by simp, fun h => absurd h (by omega)⟩, by simp, Nat.le_refl _, by omega⟩
  · simp [Value.cells] at hcs
    obtain ⟨rfl, rfl, rfl⟩ := hcs
    simp only [if_true] at hz
    simp only [Prod.mk.injEq] at hx
    have hr := hs _ _ hx.1
    rw [hb] at hr
    simp only [reachBytes, lits, List.length_map, List.length_take, List.length_drop, hz] at hr
    have hcap : min len cap + (cap - len) = cap := by omega
    rw [hcap] at hr
    refine ⟨zs.take len, ⟨by simp [hz]; omega, fun hn => ⟨x, rfl, ?_, fun j u hu => ?_⟩⟩, fun y hy => hwz y (List.mem_of_mem_take hy), hl, hr⟩
    · have := World.block_lt_of_cell? w _ (hcell 0 (by omega)); rwa [block_of_add] at this
    · have hj : j < len := by
        have := (List.getElem?_eq_some_iff.1 hu).1
        simp at this; omega
      rw [hcell j (by omega), ← hu]
      simp [List.getElem?_take, hj]
      rw [List.getElem?_eq_getElem (by omega)]; rfl

end

end Go.Proofs.YtfgnleoaibcegaaGreat
