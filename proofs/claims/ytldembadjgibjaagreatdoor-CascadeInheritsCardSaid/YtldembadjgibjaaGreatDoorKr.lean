/-
  A slice of integers that came in, as the law's frame hands it to the walk, and as it reads.
-/
import Derived.Test.YtldembadjgibjaaGreatDoorKl
import Derived.ProofKit
import Derived.OpenShut
set_option linter.unusedVariables false
namespace Go.K
open Go.RowKit

/-- nil, or a row of cap cells, the numbers zs, of which the first len are the elements -/
def IsRow (k : IntKind) (w : World) (a : Option Addr) (len cap : Nat) (zs : List Int) : Prop :=
  (a = none ∧ len = 0 ∧ cap = 0 ∧ zs = []) ∨
  ∃ x, a = some x ∧ len ≤ cap ∧ cap ≤ maxLen ∧ zs.length = cap ∧ (∀ i, i < zs.length → w.cell? (x.add i) = some (.int k (zs.getD i 0))) ∧ ∀ n ∈ zs, (Lit.int k n).wf = true

theorem IsRow.rd {k : IntKind} {w : World} {a : Option Addr} {len cap : Nat} {zs : List Int} (h : IsRow k w a len cap zs) : Rd w 1 a len ((zs.take len).map (Value.int k)) ∧ ∀ n ∈ zs.take len, (Lit.int k n).wf = true := by
  rcases h with ⟨rfl, rfl, rfl, rfl⟩ | ⟨x, rfl, hl, hm, hz, hc, hw⟩
  · exact ⟨⟨by simp, by simp, fun _ => rfl, by simp⟩, by simp⟩
  · refine ⟨⟨by simp; omega, fun u hu => ?_, (fun h => by cases h), fun ad had j u hu => ?_⟩, fun n hn => hw n (List.mem_of_mem_take hn)⟩
    · simp only [List.mem_map] at hu
      obtain ⟨n, _, rfl⟩ := hu
      rfl
    · cases had
      have hj : j < len ∧ j < zs.length := by
        have := (List.getElem?_eq_some_iff.1 hu).1
        simp at this; omega
      rw [hc j hj.2]
      rw [List.getElem?_map, List.getElem?_take_of_lt hj.1, List.getElem?_eq_getElem hj.2] at hu
      simp at hu
      rw [← hu]
      simp [hj.2]
end Go.K
