/-
  What items that came in read as; HitTop over any reader of them.
-/
import Derived.Test.YtfjjgebfeklnhaaDoorHh
import Derived.Test.YtfjjgebfeklnhaaDoorKd
set_option linter.unusedVariables false
set_option linter.unusedSimpArgs false
namespace Go.Proofs.YtfjjgebfeklnhaaDoor
open Go.RowKit Go.K Go.ChangeShapes Go.WideShapes Go.Deep

def rcells (r : R4) : List Value := [.int .i8 r.x, .int .i8 r.y, .int .u8 r.w, .int .u8 r.h]
theorem rdr_rect : Rdr Tryd.prog 45 4 rcells R4.ok8 := by
  intro H enc w base spare held fuel cs x h
  have hl := rdr_cells Tryd.underlying45 (sz := 4) (by kernel_rfl) h
  obtain ⟨a0, h0, w0⟩ := rdr_field Tryd.underlying45 0 _ rfl (sz := 1) (by kernel_rfl) (rdr_int Tryd.underlying43) h
  obtain ⟨a1, h1, w1⟩ := rdr_field Tryd.underlying45 1 _ rfl (sz := 1) (by kernel_rfl) (rdr_int Tryd.underlying43) h
  obtain ⟨a2, h2, w2⟩ := rdr_field Tryd.underlying45 2 _ rfl (sz := 1) (by kernel_rfl) (rdr_int Tryd.underlying5) h
  obtain ⟨a3, h3, w3⟩ := rdr_field Tryd.underlying45 3 _ rfl (sz := 1) (by kernel_rfl) (rdr_int Tryd.underlying5) h
  match cs, hl with
  | [c0, c1, c2, c3], _ =>
    simp at h0 h1 h2 h3
    subst h0 h1 h2 h3
    exact ⟨⟨a0, a1, a2, a3⟩, rfl, (bounds_i8 w0).1, (bounds_i8 w0).2, (bounds_i8 w1).1, (bounds_i8 w1).2, (bounds_u8 w2).1, (bounds_u8 w2).2, (bounds_u8 w3).1, (bounds_u8 w3).2⟩
def lc (x : Li) : List Value := [.int .u8 x.kd, .int .u8 x.nd, .int .i8 x.r.x, .int .i8 x.r.y, .int .u8 x.r.w, .int .u8 x.r.h, .int .i8 x.c.x, .int .i8 x.c.y, .int .u8 x.c.w, .int .u8 x.c.h, .bool x.cl, .string x.tx]
theorem rdr_li : Rdr Tryd.prog 47 12 lc Li.ok := by
  intro H enc w base spare held fuel cs x h
  have hl := rdr_cells Tryd.underlying47 (sz := 12) (by kernel_rfl) h
  obtain ⟨a0, h0, w0⟩ := rdr_field Tryd.underlying47 0 _ rfl (sz := 1) (by kernel_rfl) (rdr_int Tryd.underlying5) h
  obtain ⟨a1, h1, w1⟩ := rdr_field Tryd.underlying47 1 _ rfl (sz := 1) (by kernel_rfl) (rdr_int Tryd.underlying5) h
  obtain ⟨a2, h2, w2⟩ := rdr_field Tryd.underlying47 2 _ rfl (sz := 4) (by kernel_rfl) rdr_rect h
  obtain ⟨a3, h3, w3⟩ := rdr_field Tryd.underlying47 3 _ rfl (sz := 4) (by kernel_rfl) rdr_rect h
  obtain ⟨a4, h4, -⟩ := rdr_field Tryd.underlying47 4 _ rfl (sz := 1) (by kernel_rfl) (rdr_bool Tryd.underlying4) h
  obtain ⟨a5, h5, -⟩ := rdr_field Tryd.underlying47 5 _ rfl (sz := 1) (by kernel_rfl) (rdr_string Tryd.underlying9) h
  match cs, hl with
  | [c0, c1, c2, c3, c4, c5, c6, c7, c8, c9, c10, c11], _ =>
    have h2' : [c2, c3, c4, c5] = rcells a2 := h2
    have h3' : [c6, c7, c8, c9] = rcells a3 := h3
    simp [rcells] at h0 h1 h2' h3' h4 h5
    obtain ⟨p0, p1, p2, p3⟩ := h2'
    obtain ⟨q0, q1, q2, q3⟩ := h3'
    subst h0 h1 h4 h5 p0 p1 p2 p3 q0 q1 q2 q3
    exact ⟨⟨a0, a1, a2, a3, a4, a5⟩, rfl, bounds_u8 w0, bounds_u8 w1, w2, w3⟩
theorem lc_one : ∀ (o : Li), ∀ u ∈ lc o, u.oneCell' = true := by
  intro o u hu
  simp [lc] at hu
  rcases hu with h | h | h | h | h | h | h | h | h | h | h | h <;> subst h <;> rfl
theorem lc_flat (l : List Li) (h : ∀ x ∈ l, x.ok) : ∃ ls : List GL, flat lcells ls = flat lc l ∧ ls.length = l.length := by
  refine ⟨l.attach.map (fun x => ⟨x.1, h x.1 x.2⟩), ?_, by simp⟩
  have e : flat lc l = flat (fun x : { x // x ∈ l } => lc x.1) l.attach := by
    conv => lhs; rw [← List.attach_map_subtype_val l]
    rw [flat_map]
  rw [e, flat_map]
  rfl
end Go.Proofs.YtfjjgebfeklnhaaDoor
