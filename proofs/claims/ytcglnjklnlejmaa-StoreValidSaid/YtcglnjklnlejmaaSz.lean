/-
  What a change that came in reads as.
-/
import Derived.Test.YtcglnjklnlejmaaSq
set_option linter.unusedVariables false
set_option linter.unusedSimpArgs false
namespace Go.Proofs.Ytcglnjklnlejmaa
open Go.RowKit Go.K Go.K.Sr

open Go.ChangeShapes Go.WideShapes Go.Deep
def Ch.any (_ : Ch) : Prop := True
theorem rdr_ch : Rdr Try.prog 59 3 ccells Ch.any := by
  intro H enc w base spare held fuel cs x h
  have hl := rdr_cells Try.underlying59 (sz := 3) (by kernel_rfl) h
  obtain ⟨a0, h0, -⟩ := rdr_field Try.underlying59 0 _ rfl (sz := 1) (by kernel_rfl) (rdr_string Try.underlying9) h
  obtain ⟨a1, h1, -⟩ := rdr_field Try.underlying59 1 _ rfl (sz := 1) (by kernel_rfl) (rdr_string Try.underlying9) h
  obtain ⟨a2, h2, -⟩ := rdr_field Try.underlying59 2 _ rfl (sz := 1) (by kernel_rfl) (rdr_bool Try.underlying4) h
  match cs, hl with
  | [c0, c1, c2], _ =>
    simp at h0 h1 h2
    subst h0 h1 h2
    exact ⟨⟨a0, a1, a2⟩, rfl, trivial⟩
theorem ch_one : ∀ (o : Ch), ∀ u ∈ ccells o, u.oneCell' = true := by
  intro o u hu
  simp [ccells] at hu
  rcases hu with h | h | h <;> subst h <;> rfl

end Go.Proofs.Ytcglnjklnlejmaa
