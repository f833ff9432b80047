/-
  What listeners, targets and an event that came in read as.
-/
import Derived.Test.YtianjcbofgdfdaaEo
import Derived.Test.YtianjcbofgdfdaaKd
set_option linter.unusedVariables false
set_option linter.unusedSimpArgs false
namespace Go.Proofs.Ytianjcbofgdfdaa
open Go.RowKit Go.K Go.K.Ev Go.ChangeShapes Go.WideShapes Go.Deep

theorem rdr_tg : Rdr Try.prog 29 2 gcells (fun _ => True) := by
  intro H enc w base spare held fuel cs x h
  have hl := rdr_cells Try.underlying29 (sz := 2) (by kernel_rfl) h
  obtain ⟨k, hk, ok⟩ := rdr_field Try.underlying29 0 _ rfl (sz := 1) (by kernel_rfl) (rdr_int Try.underlying3) h
  obtain ⟨i, hi, oi⟩ := rdr_field Try.underlying29 1 _ rfl (sz := 1) (by kernel_rfl) (rdr_int Try.underlying3) h
  match cs, hl with
  | [a, b], _ =>
    simp at hk hi
    subst hk hi
    exact ⟨⟨k, i⟩, rfl, trivial⟩
theorem tg_one : ∀ (o : Tg), ∀ u ∈ gcells o, u.oneCell' = true := by
  intro o u hu
  simp [gcells] at hu
  rcases hu with rfl | rfl <;> rfl
theorem rdr_li : Rdr Try.prog 55 8 lcells (fun _ => True) := by
  intro H enc w base spare held fuel cs x h
  have hl := rdr_cells Try.underlying55 (sz := 8) (by kernel_rfl) h
  obtain ⟨a0, h0, -⟩ := rdr_field Try.underlying55 0 _ rfl (sz := 1) (by kernel_rfl) (rdr_int Try.underlying3) h
  obtain ⟨a1, h1, -⟩ := rdr_field Try.underlying55 1 _ rfl (sz := 2) (by kernel_rfl) rdr_tg h
  obtain ⟨a2, h2, -⟩ := rdr_field Try.underlying55 2 _ rfl (sz := 1) (by kernel_rfl) (rdr_string Try.underlying9) h
  obtain ⟨a3, h3, -⟩ := rdr_field Try.underlying55 3 _ rfl (sz := 1) (by kernel_rfl) (rdr_int Try.underlying3) h
  obtain ⟨a4, h4, -⟩ := rdr_field Try.underlying55 4 _ rfl (sz := 1) (by kernel_rfl) (rdr_bool Try.underlying4) h
  obtain ⟨a5, h5, -⟩ := rdr_field Try.underlying55 5 _ rfl (sz := 1) (by kernel_rfl) (rdr_bool Try.underlying4) h
  obtain ⟨a6, h6, -⟩ := rdr_field Try.underlying55 6 _ rfl (sz := 1) (by kernel_rfl) (rdr_bool Try.underlying4) h
  match cs, hl with
  | [c0, c1, c2, c3, c4, c5, c6, c7], _ =>
    simp [gcells] at h0 h1 h2 h3 h4 h5 h6
    obtain ⟨h1, h1'⟩ := h1
    subst h0 h1 h1' h2 h3 h4 h5 h6
    exact ⟨⟨a0, a1, a2, a3, a4, a5, a6⟩, rfl, trivial⟩

theorem flat_of {H : Type} {enc : TypeId × Value → H} {P : Program} {w : World} {base : Nat} {spare : Nat → Bool} {held : Bool} {fuel : Nat} {cs : List Value} {x : DataW H × List MemPlace} {t e : TypeId} {sz : Nat} {α : Type} {f : α → List Value} {ok : α → Prop}
    (ht : P.underlying t = some (.slice e)) (hC : P.cellsOf e = sz) (hR : Rdr P e sz f ok) (hf : ∀ a, (f a).length = sz) (h1 : ∀ a, ∀ u ∈ f a, u.oneCell' = true)
    (h : DataW.trod enc P w base spare held fuel t cs = some x) : ∃ a len cap l, cs = [.slice a len cap] ∧ IsRowF w sz f ok a len cap l := by
  have h' := h
  rcases open_slice ht h with ⟨h0, _⟩ | ⟨ad, len', cap', m, n, D, Pl, hcs, -⟩
  · subst h0
    obtain ⟨l, hl⟩ := open_flat ht hC hR hf h1 h'
    exact ⟨_, _, _, l, rfl, hl⟩
  · subst hcs
    obtain ⟨l, hl⟩ := open_flat ht hC hR hf h1 h'
    exact ⟨_, _, _, l, rfl, hl⟩

theorem ev_open {H : Type} {enc : TypeId × Value → H} {w : World} {base : Nat} {spare : Nat → Bool} {held : Bool} {fuel : Nat} {cs : List Value} {x : DataW H × List MemPlace} (h : DataW.trod enc Try.prog w base spare held fuel 25 cs = some x) :
    ∃ ty bub can s n c P, cs = [.string ty, .bool bub, .bool can, .slice s n c] ∧ IsRowF w 2 gcells (fun _ => True) s n c P := by
  have hl := rdr_cells Try.underlying25 (sz := 4) (by kernel_rfl) h
  obtain ⟨a0, h0, -⟩ := rdr_field Try.underlying25 0 _ rfl (sz := 1) (by kernel_rfl) (rdr_string Try.underlying9) h
  obtain ⟨a1, h1, -⟩ := rdr_field Try.underlying25 1 _ rfl (sz := 1) (by kernel_rfl) (rdr_bool Try.underlying4) h
  obtain ⟨a2, h2, -⟩ := rdr_field Try.underlying25 2 _ rfl (sz := 1) (by kernel_rfl) (rdr_bool Try.underlying4) h
  obtain ⟨xs, n, _, _, _, hlen, hf⟩ := DataW.trod_struct Try.underlying25 h
  have hi : 3 < xs.length := by rw [hlen]; exact by decide
  have h3 := hf 3 _ rfl
  rw [List.getElem?_eq_getElem hi] at h3
  obtain ⟨s, n', c, P, e, hP⟩ := flat_of (sz := 2) Try.underlying23 (by kernel_rfl) rdr_tg (fun _ => rfl) tg_one h3
  match cs, hl with
  | [c0, c1, c2, c3], _ =>
    have e' : [c3] = [Value.slice s n' c] := e
    simp at h0 h1 h2 e'
    subst h0 h1 h2 e'
    exact ⟨a0, a1, a2, s, n', c, P, rfl, hP⟩
end Go.Proofs.Ytianjcbofgdfdaa
