/-
  What actions that came in read as.
-/
import Derived.Test.YtianjcbofgdfdaaEs
import Derived.Test.YtianjcbofgdfdaaFd
set_option linter.unusedVariables false
set_option linter.unusedSimpArgs false
namespace Go.Proofs.Ytianjcbofgdfdaa
open Go.RowKit Go.K Go.K.Ev Go.ChangeShapes Go.WideShapes Go.Deep

def AcOk (a : Ac) : Prop := 0 ≤ a.kind ∧ 0 ≤ a.at' ∧ a.at' < 256
theorem acells_one : ∀ (o : Ac), ∀ u ∈ acells o, u.oneCell' = true := by
  intro o u hu
  simp only [acells, List.mem_cons] at hu
  rcases hu with rfl | rfl | hu
  · rfl
  · rfl
  · exact lcells_one _ u hu
theorem rdr_ac : Rdr Try.prog 90 10 acells AcOk := by
  intro H enc w base spare held fuel cs x h
  have hl := rdr_cells Try.underlying90 (sz := 10) (by kernel_rfl) h
  obtain ⟨a0, h0, w0⟩ := rdr_field Try.underlying90 0 _ rfl (sz := 1) (by kernel_rfl) (rdr_int Try.underlying5) h
  obtain ⟨a1, h1, w1⟩ := rdr_field Try.underlying90 1 _ rfl (sz := 1) (by kernel_rfl) (rdr_int Try.underlying5) h
  obtain ⟨a2, h2, -⟩ := rdr_field Try.underlying90 2 _ rfl (sz := 8) (by kernel_rfl) rdr_li h
  match cs, hl with
  | [c0, c1, c2, c3, c4, c5, c6, c7, c8, c9], _ =>
    simp at h0 h1
    have h2' : [c2, c3, c4, c5, c6, c7, c8, c9] = lcells a2 := h2
    subst h0 h1
    refine ⟨⟨a0, a1, a2⟩, ?_, (bounds_u8 w1).1, (bounds_u8 w0).1, by have := (bounds_u8 w0).2; simp only; omega⟩
    simp only [acells, ← h2']
end Go.Proofs.Ytianjcbofgdfdaa
