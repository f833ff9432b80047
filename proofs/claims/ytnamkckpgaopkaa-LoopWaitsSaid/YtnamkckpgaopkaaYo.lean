/-
  What an operation that came in reads as.
-/
import Derived.Test.YtnamkckpgaopkaaYn
import Derived.Test.YtnamkckpgaopkaaKd
set_option linter.unusedVariables false
namespace Go.Proofs.Ytnamkckpgaopkaa
open Go.RowKit Go.K

theorem rdr_lop : Rdr Try.prog 74 3 LOp.cells LOp.ok := by
  intro H enc w base spare held fuel cs x h
  have hl := rdr_cells Try.underlying74 (sz := 3) (by kernel_rfl) h
  obtain ⟨k, hk, ok⟩ := rdr_field Try.underlying74 0 _ rfl (sz := 1) (by kernel_rfl) (rdr_int Try.underlying5) h
  obtain ⟨i, hi, oi⟩ := rdr_field Try.underlying74 1 _ rfl (sz := 1) (by kernel_rfl) (rdr_int Try.underlying72) h
  obtain ⟨d, hd, od⟩ := rdr_field Try.underlying74 2 _ rfl (sz := 1) (by kernel_rfl) (rdr_int Try.underlying72) h
  match cs, hl with
  | [a, b, c], _ =>
    simp at hk hi hd
    subst hk hi hd
    exact ⟨⟨k, i, d⟩, rfl, ⟨(bounds_u8 ok).1, (bounds_u8 ok).2⟩, ⟨(bounds_i16 oi).1, (bounds_i16 oi).2⟩, (bounds_i16 od).1, (bounds_i16 od).2⟩
theorem lop_one : ∀ (o : LOp), ∀ u ∈ o.cells, u.oneCell' = true := by
  intro o u hu
  simp [LOp.cells] at hu
  rcases hu with rfl | rfl | rfl <;> rfl
end Go.Proofs.Ytnamkckpgaopkaa
