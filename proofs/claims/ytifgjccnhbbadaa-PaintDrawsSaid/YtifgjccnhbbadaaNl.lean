/-
  PaintDraws: the canvas as objects.
-/
import Derived.Test.YtifgjccnhbbadaaNo
import Derived.Test.YtifgjccnhbbadaaMe
set_option linter.unusedVariables false
set_option linter.unusedSimpArgs false
namespace Go.Proofs.Ytifgjccnhbbadaa
open Go.RowKit Go.K Go.PlainAid Go.Lib

abbrev Hd := Option Addr × Nat
def hdV (W : Nat) (p : Hd) : Value := .slice p.1 W p.2
def hdAt (hs : List Hd) (r : Nat) : Hd := hs.getD r (none, 0)
def rowA (W : Nat) (hs : List Hd) (f : Nat → Nat → Int) (r : Nat) : As := As.row 21 1 (hdAt hs r).1 W (hdAt hs r).2 (rowV W (f r))
def rowsL (W : Nat) (hs : List Hd) (f : Nat → Nat → Int) : List As := (List.range hs.length).map (rowA W hs f)
def cvC (W H : Nat) (s : Option Addr) (c : Nat) : Array Value := #[.int .i64 W, .int .i64 H, .slice s H c]
def cvL (bc W : Nat) (s : Option Addr) (c : Nat) (hs : List Hd) (f : Nat → Nat → Int) (L : List As) : List As := As.cells bc (cvC W hs.length s c) 54 :: As.row 55 1 s hs.length c (hs.map (hdV W)) :: (rowsL W hs f ++ L)
def putF (f : Nat → Nat → Int) (r x : Nat) (v : Int) : Nat → Nat → Int := fun r' c' => if r' = r ∧ c' = x then v else f r' c'
theorem rowsL_len (W : Nat) (hs : List Hd) (f : Nat → Nat → Int) : (rowsL W hs f).length = hs.length := by simp [rowsL]
theorem rowsL_at {W : Nat} {hs : List Hd} {f : Nat → Nat → Int} {r : Nat} (h : r < hs.length) : (rowsL W hs f)[r]'(by rw [rowsL_len]; exact h) = rowA W hs f r := by simp [rowsL]
theorem rowA_put (W : Nat) (hs : List Hd) (f : Nat → Nat → Int) (r x : Nat) (v : Int) (hx : x < W) : rowA W hs (putF f r x v) r = As.row 21 1 (hdAt hs r).1 W (hdAt hs r).2 ((rowV W (f r)).set x (.int .i32 v)) := by
  unfold rowA
  rw [rowV_set _ _ _ _ hx]
  congr 1
  apply rowV_congr
  intro c _
  simp [putF]
theorem rowsL_put (W : Nat) (hs : List Hd) (f : Nat → Nat → Int) (r x : Nat) (v : Int) : rowsL W hs (putF f r x v) = (rowsL W hs f).set r (rowA W hs (putF f r x v) r) := by
  apply List.ext_getElem
  · simp [rowsL]
  · intro k h1 h2
    rw [List.getElem_set]
    by_cases e : r = k
    · subst e
      rw [if_pos rfl]
      simp [rowsL]
    · rw [if_neg e]
      simp only [rowsL, List.getElem_map, List.getElem_range, rowA]
      congr 1
      apply rowV_congr
      intro c _
      unfold putF
      rw [if_neg (fun q => e q.1.symm)]
theorem perm_at : ∀ (l : List As) (r : Nat) (h : r < l.length), (l[r] :: l.eraseIdx r).Perm l
  | [], _, h => absurd h (Nat.not_lt_zero _)
  | a :: l, 0, _ => List.Perm.refl _
  | a :: l, r + 1, h => (List.Perm.swap a _ _).trans ((perm_at l r (Nat.lt_of_succ_lt_succ h)).cons a)
theorem cv_perm {l : List As} {r : Nat} (hr : r < l.length) (A B : As) (L : List As) : (A :: B :: (l ++ L)).Perm (l[r] :: (A :: B :: (l.eraseIdx r ++ L))) := by
  have h1 : (l[r] :: l.eraseIdx r).Perm l := perm_at _ _ hr
  have h2 : (l ++ L).Perm (l[r] :: (l.eraseIdx r ++ L)) := (h1.symm.append_right L)
  exact ((h2.cons B).trans (.swap _ _ _) |>.cons A).trans (.swap _ _ _)
/-- a cell of the canvas -/
theorem cv_row {w0 w : World} {bc W : Nat} {s : Option Addr} {c : Nat} {hs : List Hd} {f : Nat → Nat → Int} {L : List As} (h : St w0 w (cvL bc W s c hs f L)) {r x : Nat} (hr : r < hs.length) (hx : x < W) :
    ∃ g off k, hdAt hs r = (some ⟨g, off, none⟩, k) ∧ w.cell? ⟨g, off + x, none⟩ = some (.int .i32 (f r x)) ∧ w.frozen? ⟨g, off + x, none⟩ = false ∧
      ∀ v : Int, St w0 (w.setCell ⟨g, off + x, none⟩ (.int .i32 v)) (cvL bc W s c hs (putF f r x v) L) := by
  have hl : r < (rowsL W hs f).length := by rw [rowsL_len]; exact hr
  have h1 := h.perm (cv_perm hl _ _ _)
  rw [rowsL_at hr] at h1
  have hsl := h1.sl
  obtain ⟨g, off, e1, e2⟩ := hsl.rd.addr (by omega)
  obtain ⟨k, ek⟩ : ∃ k, (hdAt hs r).2 = k := ⟨_, rfl⟩
  refine ⟨g, off, k, Prod.ext e1 ek, ?_, ?_, fun v => ?_⟩
  · exact e2 x _ (by simp [rowV, hx])
  · rw [e1] at hsl
    rcases hsl.row with ⟨q, _⟩ | ⟨g', off', cur, q, hb, _⟩
    · cases q
    · cases q
      exact hb.free _
  · unfold rowA at h1
    rw [e1] at h1
    have h2 := h1.row_set x (by omega) (.int .i32 v) rfl
    rw [← e1, ← rowA_put W hs f r x v hx] at h2
    refine h2.perm ?_
    unfold cvL
    rw [rowsL_put]
    have hl2 : r < ((rowsL W hs f).set r (rowA W hs (putF f r x v) r)).length := by rw [List.length_set]; exact hl
    have h3 := (cv_perm hl2 (As.cells bc (cvC W hs.length s c) 54) (As.row 55 1 s hs.length c (hs.map (hdV W))) L).symm
    rw [List.getElem_set_self, List.eraseIdx_set_eq] at h3
    exact h3
theorem cv_hd {w0 w : World} {bc W : Nat} {s : Option Addr} {c : Nat} {hs : List Hd} {f : Nat → Nat → Int} {L : List As} (h : St w0 w (cvL bc W s c hs f L)) {r : Nat} (hr : r < hs.length) :
    ∃ g off, s = some ⟨g, off, none⟩ ∧ w.cell? ⟨g, off + r, none⟩ = some (hdV W (hdAt hs r)) := by
  have h1 := h.swap.sl
  obtain ⟨g, off, e1, e2⟩ := h1.rd.addr (by omega)
  exact ⟨g, off, e1, e2 r _ (by simp [hdAt, List.getD, List.getElem?_eq_getElem hr])⟩
theorem cv_three {w0 w : World} {bc W : Nat} {s : Option Addr} {c : Nat} {hs : List Hd} {f : Nat → Nat → Int} {L : List As} (h : St w0 w (cvL bc W s c hs f L)) :
    w.cell? ⟨bc, 0, none⟩ = some (.int .i64 W) ∧ w.cell? ⟨bc, 1, none⟩ = some (.int .i64 hs.length) ∧ w.cell? ⟨bc, 2, none⟩ = some (.slice s hs.length c) := by
  exact ⟨h.cell 0, h.cell 1, h.cell 2⟩
end Go.Proofs.Ytifgjccnhbbadaa
