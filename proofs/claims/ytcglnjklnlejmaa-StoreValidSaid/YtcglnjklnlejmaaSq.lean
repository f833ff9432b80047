/-
  What an operation that came in reads as.
-/
import Derived.Test.YtcglnjklnlejmaaSo
import Derived.Test.YtcglnjklnlejmaaKd
set_option linter.unusedVariables false
set_option linter.unusedSimpArgs false
namespace Go.Proofs.Ytcglnjklnlejmaa
open Go.RowKit Go.K Go.K.Sr Go.ChangeShapes Go.WideShapes Go.Deep

theorem rdr_op : Rdr Try.prog 45 5 opc Op'.ok := by
  intro H enc w base spare held fuel cs x h
  have hl := rdr_cells Try.underlying45 (sz := 5) (by kernel_rfl) h
  obtain ⟨a0, h0, w0⟩ := rdr_field Try.underlying45 0 _ rfl (sz := 1) (by kernel_rfl) (rdr_int Try.underlying5) h
  obtain ⟨a1, h1, w1⟩ := rdr_field Try.underlying45 1 _ rfl (sz := 1) (by kernel_rfl) (rdr_int Try.underlying5) h
  obtain ⟨a2, h2, -⟩ := rdr_field Try.underlying45 2 _ rfl (sz := 1) (by kernel_rfl) (rdr_string Try.underlying9) h
  obtain ⟨a3, h3, -⟩ := rdr_field Try.underlying45 3 _ rfl (sz := 1) (by kernel_rfl) (rdr_string Try.underlying9) h
  obtain ⟨a4, h4, -⟩ := rdr_field Try.underlying45 4 _ rfl (sz := 1) (by kernel_rfl) (rdr_bool Try.underlying4) h
  match cs, hl with
  | [c0, c1, c2, c3, c4], _ =>
    simp at h0 h1 h2 h3 h4
    subst h0 h1 h2 h3 h4
    exact ⟨⟨a0, a1, a2, a3, a4⟩, rfl, (bounds_u8 w0).1, (bounds_u8 w0).2, (bounds_u8 w1).1, (bounds_u8 w1).2⟩
theorem opc_one : ∀ (o : Op'), ∀ u ∈ opc o, u.oneCell' = true := by
  intro o u hu
  simp [opc] at hu
  rcases hu with h | h | h | h | h <;> subst h <;> rfl
/-- a law of one parameter, from its walk -/
theorem ops_in {F : Nat} (hgo : ∀ (s : Option Addr) (c : Nat) (ls : List Op') (w0 : World), Rd w0 5 s ls.length (flat opc ls) → (ls.length : Int) ≤ 9223372036854775807 → (∀ o ∈ ls, o.ok) →
      Calls Try.prog F #[.slice s ls.length c] w0 fun e w' => e = .returned (.bool true) ∧ Below w0.heap.size w0 w')
    (s : Option Addr) (n c : Nat) (l : List Op') (w : World) (h : IsRowF w 5 opc Op'.ok s n c l) :
    Calls Try.prog F #[.slice s n c] w fun e w' => e = .returned (.bool true) ∧ Below w.heap.size w w' := by
  obtain ⟨h1, h2, h3, h4, h5⟩ := h
  have hm : l.length ≤ maxLen := by omega
  subst h1
  exact hgo s c l w h4 (by simp only [maxLen] at hm; omega) h5
end Go.Proofs.Ytcglnjklnlejmaa
