/-
  What the boxes that came in read as; PaintDraws over them.
-/
import Derived.Test.YtifgjccnhbbadaaNu
import Derived.Test.YtifgjccnhbbadaaMg
import Derived.Test.YtifgjccnhbbadaaKd
import Derived.WalkKit
set_option linter.unusedVariables false
set_option linter.unusedSimpArgs false
namespace Go.Proofs.Ytifgjccnhbbadaa
open Go.RowKit Go.K Go.ChangeShapes Go.WideShapes Go.Deep

def rc8 (r : R4) : List Value := [.int .i8 r.x, .int .i8 r.y, .int .i8 r.w, .int .i8 r.h]
theorem rdr_rc8 : Rdr Try.prog 27 4 rc8 Bd8 := by
  intro H enc w base spare held fuel cs x h
  obtain ⟨a0, a1, a2, a3, rfl, w0, w1, w2, w3⟩ := rdr_array4 Try.underlying27 Try.underlying23 (by kernel_rfl) (by kernel_rfl) h
  exact ⟨⟨a0, a1, a2, a3⟩, rfl, (bounds_i8 w0).1, (bounds_i8 w0).2, (bounds_i8 w1).1, (bounds_i8 w1).2, (bounds_i8 w2).1, (bounds_i8 w2).2, (bounds_i8 w3).1, (bounds_i8 w3).2⟩
theorem rdr_bx : Rdr Try.prog 29 11 Bx.cells Bx.ok := by
  intro H enc w base spare held fuel cs x h
  have hl := rdr_cells Try.underlying29 (sz := 11) (by kernel_rfl) h
  obtain ⟨a0, h0, w0⟩ := rdr_field Try.underlying29 0 _ rfl (sz := 1) (by kernel_rfl) (rdr_int Try.underlying5) h
  obtain ⟨a1, h1, w1⟩ := rdr_field Try.underlying29 1 _ rfl (sz := 4) (by kernel_rfl) rdr_rc8 h
  obtain ⟨a2, h2, w2⟩ := rdr_field Try.underlying29 2 _ rfl (sz := 4) (by kernel_rfl) rdr_rc8 h
  obtain ⟨a3, h3, -⟩ := rdr_field Try.underlying29 3 _ rfl (sz := 1) (by kernel_rfl) (rdr_string Try.underlying9) h
  obtain ⟨a4, h4, w4⟩ := rdr_field Try.underlying29 4 _ rfl (sz := 1) (by kernel_rfl) (rdr_int Try.underlying5) h
  match cs, hl with
  | [c0, c1, c2, c3, c4, c5, c6, c7, c8, c9, c10], _ =>
    have h1' : [c1, c2, c3, c4] = rc8 a1 := h1
    have h2' : [c5, c6, c7, c8] = rc8 a2 := h2
    simp [rc8] at h0 h1' h2' h3 h4
    obtain ⟨p0, p1, p2, p3⟩ := h1'
    obtain ⟨q0, q1, q2, q3⟩ := h2'
    subst h0 h3 h4 p0 p1 p2 p3 q0 q1 q2 q3
    exact ⟨⟨a0, a1, a2, a3, a4⟩, rfl, (bounds_u8 w0).1, (bounds_u8 w0).2, (bounds_u8 w4).1, (bounds_u8 w4).2, w1, w2⟩
theorem bx_one : ∀ (o : Bx), ∀ u ∈ o.cells, u.oneCell' = true := by
  intro o u hu
  simp [Bx.cells] at hu
  rcases hu with h | h | h | h | h | h | h | h | h | h | h <;> subst h <;> rfl
theorem draws_in (s : Option Addr) (n c : Nat) (l : List Bx) (p q : Int) (w : World) (h : IsRowF w 11 Bx.cells Bx.ok s n c l) (hp : (Lit.int .i8 p).wf = true) (hq : (Lit.int .i8 q).wf = true) :
    Calls Try.prog 3 #[.slice s n c, .agg #[.int .i8 p, .int .i8 q]] w fun e w' => e = .returned (.bool true) ∧ Below w.heap.size w w' := by
  obtain ⟨h1, h2, h3, h4, h5⟩ := h
  have e3 : l.length = n := by omega
  subst e3
  obtain ⟨p1, p2⟩ := bounds_i8 hp
  obtain ⟨q1, q2⟩ := bounds_i8 hq
  exact draws_go l h5 p q p1 p2 q1 q2 w h4 (by omega)
end Go.Proofs.Ytifgjccnhbbadaa
