/-
  A reader of nested data.
-/
import Derived.Test.YtcglnjklnlejmaaVc
import Derived.Test.YtcglnjklnlejmaaSz
set_option linter.unusedVariables false
set_option linter.unusedSimpArgs false
namespace Go.Proofs.Ytcglnjklnlejmaa
open Go.RowKit Go.K Go.K.Sr

open Go.ChangeShapes Go.WideShapes Go.Deep
/-- as Rdr, at one world: what holds of a reading may speak of it -/
def RdrW (w : World) (P : Program) (t : TypeId) (sz : Nat) {α : Type} (f : α → List Value) (ok : α → Prop) : Prop :=
  ∀ {H : Type} {enc : TypeId × Value → H} {base : Nat} {spare : Nat → Bool} {held : Bool} {fuel : Nat} {cs : List Value} {x : DataW H × List MemPlace},
    DataW.trod enc P w base spare held fuel t cs = some x → ∃ a, cs = f a ∧ ok a
theorem open_flat_w {H : Type} {enc : TypeId × Value → H} {P : Program} {w : World} {base : Nat} {spare : Nat → Bool} {held : Bool} {fuel : Nat} {x : DataW H × List MemPlace} {t e : TypeId} {sz : Nat} {α : Type} {f : α → List Value} {ok : α → Prop} {a : Option Addr} {len cap : Nat}
    (ht : P.underlying t = some (.slice e)) (hC : P.cellsOf e = sz) (hR : RdrW w P e sz f ok) (hf : ∀ a, (f a).length = sz) (h1 : ∀ a, ∀ u ∈ f a, u.oneCell' = true)
    (h : DataW.trod enc P w base spare held fuel t [.slice a len cap] = some x) : ∃ l, IsRowF w sz f ok a len cap l := by
  rcases open_slice ht h with ⟨h0, _⟩ | ⟨ad, len', cap', m, n, D, Pl, hcs, hb, hl, hm, hmm, hx, hi⟩
  · simp at h0
    obtain ⟨rfl, rfl, rfl⟩ := h0
    exact ⟨[], rfl, Nat.le_refl _, by simp [maxLen], ⟨by simp [flat], by simp [flat], fun _ => rfl, by simp⟩, by simp⟩
  · simp at hcs
    obtain ⟨rfl, rfl, rfl⟩ := hcs
    have hlm : len ≤ m := by rw [hmm]; split <;> omega
    obtain ⟨l, hll, hall⟩ := list_of (Q := fun i a => ok a ∧ ∀ j, j < sz → w.cell? (ad.add (i * sz + j)) = (f a)[j]?) len (fun i hi' => by
      obtain ⟨cs', hc, ht'⟩ := hi i (by omega)
      rw [hC] at hc
      obtain ⟨_, _, hat⟩ := World.cells?_some hc
      obtain ⟨a, rfl, hok⟩ := hR ht'
      exact ⟨a, hok, fun j hj => by rw [← Go.Deep.add_add]; exact hat j hj⟩)
    refine ⟨l, hll, hl, hm, ⟨by rw [flat_len hf, hll], flat_one_cell h1 l, (fun h => by cases h), fun a' ha' j u hu => ?_⟩, fun y hy => ?_⟩
    · cases ha'
      obtain ⟨k, i, hk, hi', rfl, y, hy, hyu⟩ := flat_get hf l j u hu
      rw [(hall k y hy).2 i hi']; exact hyu
    · obtain ⟨i, hi'⟩ := List.getElem?_of_mem hy
      exact (hall i y hi').1


theorem flat_of_w {H : Type} {enc : TypeId × Value → H} {P : Program} {w : World} {base : Nat} {spare : Nat → Bool} {held : Bool} {fuel : Nat} {cs : List Value} {x : DataW H × List MemPlace} {t e : TypeId} {sz : Nat} {α : Type} {f : α → List Value} {ok : α → Prop}
    (ht : P.underlying t = some (.slice e)) (hC : P.cellsOf e = sz) (hR : RdrW w P e sz f ok) (hf : ∀ a, (f a).length = sz) (h1 : ∀ a, ∀ u ∈ f a, u.oneCell' = true)
    (h : DataW.trod enc P w base spare held fuel t cs = some x) : ∃ a len cap l, cs = [.slice a len cap] ∧ IsRowF w sz f ok a len cap l ∧ (a = none → cap = 0) := by
  have h' := h
  rcases open_slice ht h with ⟨h0, _⟩ | ⟨ad, len', cap', m, n, D, Pl, hcs, -⟩
  · subst h0
    obtain ⟨l, hl⟩ := open_flat_w ht hC hR hf h1 h'
    exact ⟨_, _, _, l, rfl, hl, fun _ => rfl⟩
  · subst hcs
    obtain ⟨l, hl⟩ := open_flat_w ht hC hR hf h1 h'
    exact ⟨_, _, _, l, rfl, hl, (fun q => by cases q)⟩

set_option maxRecDepth 100000 in
theorem cells_t (w : World) : RdrW w Try.prog 36 4 (fun x : Gt => ycells (gy x)) (fun x => IsRowF w 3 ccells Ch.any x.s x.l.length x.c x.l) := by
  intro H enc base spare held fuel cs x h
  have hl := rdr_cells Try.underlying36 (sz := 4) (by kernel_rfl) h
  obtain ⟨a0, h0, -⟩ := rdr_field Try.underlying36 0 _ rfl (sz := 1) (by kernel_rfl) (rdr_int Try.underlying3) h
  obtain ⟨a1, h1, -⟩ := rdr_field Try.underlying36 1 _ rfl (sz := 1) (by kernel_rfl) (rdr_string Try.underlying9) h
  obtain ⟨a2, h2, -⟩ := rdr_field Try.underlying36 2 _ rfl (sz := 1) (by kernel_rfl) (rdr_bool Try.underlying4) h
  obtain ⟨xs, n, _, _, _, hlen, hf⟩ := DataW.trod_struct Try.underlying36 h
  have hi : 3 < xs.length := by rw [hlen]; exact by decide
  have h3 := hf 3 _ rfl
  rw [List.getElem?_eq_getElem hi] at h3
  obtain ⟨s, n', c, l, e, hP, -⟩ := flat_of_w (sz := 3) Try.underlying34 (by kernel_rfl) (fun hh => rdr_ch hh) (fun _ => rfl) ch_one h3
  match cs, hl with
  | [c0, c1, c2, c3], _ =>
    have e' : [c3] = [Value.slice s n' c] := e
    simp at h0 h1 h2 e'
    subst h0 h1 h2 e'
    have hn := hP.1
    subst hn
    exact ⟨⟨⟨a0, a1, a2⟩, s, c, l⟩, rfl, hP⟩
theorem cells_t1 : ∀ (o : Gt), ∀ u ∈ ycells (gy o), u.oneCell' = true := by
  intro o u hu
  simp [ycells, gy] at hu
  rcases hu with h | h | h | h <;> subst h <;> rfl
def Pr.any (_ : Pr) : Prop := True
theorem rdr_pr : Rdr Try.prog 62 2 pcells Pr.any := by
  intro H enc w base spare held fuel cs x h
  have hl := rdr_cells Try.underlying62 (sz := 2) (by kernel_rfl) h
  obtain ⟨a0, h0, -⟩ := rdr_field Try.underlying62 0 _ rfl (sz := 1) (by kernel_rfl) (rdr_string Try.underlying9) h
  obtain ⟨a1, h1, -⟩ := rdr_field Try.underlying62 1 _ rfl (sz := 1) (by kernel_rfl) (rdr_string Try.underlying9) h
  match cs, hl with
  | [c0, c1], _ =>
    simp at h0 h1
    subst h0 h1
    exact ⟨⟨a0, a1⟩, rfl, trivial⟩

set_option maxRecDepth 100000 in
theorem open_store {H : Type} {enc : TypeId × Value → H} {w : World} {base : Nat} {spare : Nat → Bool} {held : Bool} {fuel : Nat} {cs : List Value} {x : DataW H × List MemPlace} (h : DataW.trod enc Try.prog w base spare held fuel 28 cs = some x) :
    ∃ sp n cp P st m ct T nx, cs = [.slice sp n cp, .slice st m ct, .int .i64 nx] ∧ IsRowF w 2 pcells Pr.any sp n cp P ∧ IsRowF w 4 (fun x : Gt => ycells (gy x)) (fun x => IsRowF w 3 ccells Ch.any x.s x.l.length x.c x.l) st m ct T ∧ (sp = none → cp = 0) := by
  have hl := rdr_cells Try.underlying28 (sz := 3) (by kernel_rfl) h
  obtain ⟨a2, h2, -⟩ := rdr_field Try.underlying28 2 _ rfl (sz := 1) (by kernel_rfl) (rdr_int Try.underlying3) h
  obtain ⟨xs, n, _, _, _, hlen, hf⟩ := DataW.trod_struct Try.underlying28 h
  have hi0 : 0 < xs.length := by rw [hlen]; exact by decide
  have hi1 : 1 < xs.length := by rw [hlen]; exact by decide
  have g0 := hf 0 _ rfl
  have g1 := hf 1 _ rfl
  rw [List.getElem?_eq_getElem hi0] at g0
  rw [List.getElem?_eq_getElem hi1] at g1
  obtain ⟨sp, n', cp, P, e0, hP, hnil⟩ := flat_of_w (sz := 2) Try.underlying25 (by kernel_rfl) (fun hh => rdr_pr hh) (fun _ => rfl) pcells_one g0
  obtain ⟨st, m', ct, T, e1, hT, -⟩ := flat_of_w (sz := 4) Try.underlying26 (by kernel_rfl) (cells_t w) (fun _ => rfl) cells_t1 g1
  match cs, hl with
  | [c0, c1, c2], _ =>
    have e0' : [c0] = [Value.slice sp n' cp] := e0
    have e1' : [c1] = [Value.slice st m' ct] := e1
    simp at h2 e0' e1'
    subst h2 e0' e1'
    exact ⟨sp, n', cp, P, st, m', ct, T, a2, rfl, hP, hT, hnil⟩
theorem gv_of {w : World} {sp st : Option Addr} {n cp m ct : Nat} {P : List Pr} {T : List Gt} (nx : Int) (hP : IsRowF w 2 pcells Pr.any sp n cp P) (hT : IsRowF w 4 (fun x : Gt => ycells (gy x)) (fun x => IsRowF w 3 ccells Ch.any x.s x.l.length x.c x.l) st m ct T) (hnil : sp = none → cp = 0) :
    Gv w (.agg #[.slice sp n cp, .slice st m ct, .int .i64 nx]) P T nx sp cp st ct := by
  obtain ⟨p1, p2, p3, p4, -⟩ := hP
  obtain ⟨t1, t2, t3, t4, t5⟩ := hT
  subst p1 t1
  refine ⟨rfl, p4, ⟨p4, p2, p3, hnil⟩, ?_, fun x hx => (t5 x hx).2.2.2.1⟩
  have e : flat ycells (T.map gy) = flat (fun x : Gt => ycells (gy x)) T := by simp [flat, List.flatMap_map]
  rw [e]
  exact t4

end Go.Proofs.Ytcglnjklnlejmaa
