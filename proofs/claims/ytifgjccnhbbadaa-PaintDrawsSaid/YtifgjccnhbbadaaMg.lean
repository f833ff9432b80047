/-
  Readers: arrays of two and of four integers.
-/
import Derived.Test.YtifgjccnhbbadaaKd
import Derived.OpenShut
import Derived.WideShapes
set_option linter.unusedVariables false
namespace Go.K
open Go.RowKit Go.ChangeShapes Go.WideShapes Go.Deep

section
variable {P : Program} {w : World} {r : Reach} {base : Nat} {t : TypeId} {v : Value}
theorem okWide_array {n : Nat} {e : TypeId} (ht : P.underlying t = some (.array n e)) (h : Value.okWide P w r base t v) : ∃ cs, v = .agg cs ∧ cs.size = P.cellsOf t := by
  simp only [Value.okWide, ht] at h
  obtain ⟨cs, h1, h2, _⟩ := h
  exact ⟨cs, h1, h2⟩
end

section
variable {P : Program} {t e : TypeId} {k : IntKind} {H : Type} {enc : TypeId × Value → H} {w : World} {base : Nat} {spare : Nat → Bool} {held : Bool} {fuel : Nat} {cs : List Value} {x : DataW H × List MemPlace}
theorem array_at {n : Nat} (ht : P.underlying t = some (.array n e)) (he : P.underlying e = some (.int k)) (hC : P.cellsOf e = 1) (h : DataW.trod enc P w base spare held fuel t cs = some x) (i : Nat) (hi : i < n) :
    ∃ a, (cs.drop i).take 1 = [.int k a] ∧ (Lit.int k a).wf = true := by
  obtain ⟨xs, m, _, _, _, hl, hf⟩ := DataW.trod_array ht h
  have h1 := hf i hi
  rw [List.getElem?_eq_getElem (by omega), hC, Nat.mul_one] at h1
  obtain ⟨a, e0, _, wa⟩ := DataW.trod_int he h1
  exact ⟨a, e0, wa⟩
theorem array_len {n : Nat} (ht : P.underlying t = some (.array n e)) (h : DataW.trod enc P w base spare held fuel t cs = some x) : cs.length = P.cellsOf t := by
  obtain ⟨xs, m, _, _, hl, _⟩ := DataW.trod_array ht h
  exact hl
theorem rdr_array4 (ht : P.underlying t = some (.array 4 e)) (he : P.underlying e = some (.int k)) (hC : P.cellsOf e = 1) (hT : P.cellsOf t = 4) (h : DataW.trod enc P w base spare held fuel t cs = some x) :
    ∃ a0 a1 a2 a3, cs = [.int k a0, .int k a1, .int k a2, .int k a3] ∧ (Lit.int k a0).wf = true ∧ (Lit.int k a1).wf = true ∧ (Lit.int k a2).wf = true ∧ (Lit.int k a3).wf = true := by
  have hl := (array_len ht h).trans hT
  obtain ⟨a0, e0, w0⟩ := array_at ht he hC h 0 (by decide)
  obtain ⟨a1, e1, w1⟩ := array_at ht he hC h 1 (by decide)
  obtain ⟨a2, e2, w2⟩ := array_at ht he hC h 2 (by decide)
  obtain ⟨a3, e3, w3⟩ := array_at ht he hC h 3 (by decide)
  match cs, hl, e0, e1, e2, e3 with
  | [c0, c1, c2, c3], _, e0, e1, e2, e3 =>
    simp at e0 e1 e2 e3
    subst e0 e1 e2 e3
    exact ⟨a0, a1, a2, a3, rfl, w0, w1, w2, w3⟩
theorem rdr_array2 (ht : P.underlying t = some (.array 2 e)) (he : P.underlying e = some (.int k)) (hC : P.cellsOf e = 1) (hT : P.cellsOf t = 2) (h : DataW.trod enc P w base spare held fuel t cs = some x) :
    ∃ a0 a1, cs = [.int k a0, .int k a1] ∧ (Lit.int k a0).wf = true ∧ (Lit.int k a1).wf = true := by
  have hl := (array_len ht h).trans hT
  obtain ⟨a0, e0, w0⟩ := array_at ht he hC h 0 (by decide)
  obtain ⟨a1, e1, w1⟩ := array_at ht he hC h 1 (by decide)
  match cs, hl, e0, e1 with
  | [c0, c1], _, e0, e1 =>
    simp at e0 e1
    subst e0 e1
    exact ⟨a0, a1, rfl, w0, w1⟩
end
end Go.K
