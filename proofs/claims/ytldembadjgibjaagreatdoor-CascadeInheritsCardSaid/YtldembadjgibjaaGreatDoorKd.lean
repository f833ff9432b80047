/-
  Readers: what a value of a plain type reads as, cell by cell; slices of such values.
-/
import Derived.Test.YtldembadjgibjaaGreatDoorKf
import Derived.Test.YtldembadjgibjaaGreatDoorKr
import Derived.Deep.Slices
import Derived.SliceStrings
set_option linter.unusedVariables false
namespace Go.K
open Go.RowKit Go.ChangeShapes Go.WideShapes Go.Deep

/-- every reading of type t is f a for an a with ok a; t lies in sz cells -/
def Rdr (P : Program) (t : TypeId) (sz : Nat) {α : Type} (f : α → List Value) (ok : α → Prop) : Prop :=
  ∀ {H : Type} {enc : TypeId × Value → H} {w : World} {base : Nat} {spare : Nat → Bool} {held : Bool} {fuel : Nat} {cs : List Value} {x : DataW H × List MemPlace},
    DataW.trod enc P w base spare held fuel t cs = some x → ∃ a, cs = f a ∧ ok a

theorem rdr_int {P : Program} {t : TypeId} {k : IntKind} (ht : P.underlying t = some (.int k)) : Rdr P t 1 (fun n : Int => [.int k n]) (fun n => (Lit.int k n).wf = true) := by
  intro H enc w base spare held fuel cs x h
  obtain ⟨a, e0, _, wa⟩ := DataW.trod_int ht h
  exact ⟨a, e0, wa⟩
theorem rdr_bool {P : Program} {t : TypeId} (ht : P.underlying t = some .bool) : Rdr P t 1 (fun b : Bool => [.bool b]) (fun _ => True) := by
  intro H enc w base spare held fuel cs x h
  obtain ⟨a, e0, _⟩ := DataW.trod_bool ht h
  exact ⟨a, e0, trivial⟩
theorem rdr_string {P : Program} {t : TypeId} (ht : P.underlying t = some .string) : Rdr P t 1 (fun s : ByteArray => [.string s]) (fun s => s.size ≤ maxLen) := by
  intro H enc w base spare held fuel cs x h
  obtain ⟨a, e0, _, wa⟩ := DataW.trod_string ht h
  exact ⟨a, e0, wa⟩

/-- what a slice that came in reads as -/
def IsRowF (w : World) {α : Type} (sz : Nat) (f : α → List Value) (ok : α → Prop) (a : Option Addr) (len cap : Nat) (l : List α) : Prop :=
  l.length = len ∧ len ≤ cap ∧ cap ≤ maxLen ∧ Rd w sz a len (flat f l) ∧ ∀ x ∈ l, ok x

theorem list_of {α : Type} {Q : Nat → α → Prop} : ∀ (n : Nat), (∀ i, i < n → ∃ a, Q i a) → ∃ l : List α, l.length = n ∧ ∀ i x, l[i]? = some x → Q i x
  | 0, _ => ⟨[], rfl, by simp⟩
  | n + 1, h => by
    obtain ⟨l, h1, h2⟩ := list_of n (fun i hi => h i (by omega))
    obtain ⟨a, ha⟩ := h n (by omega)
    refine ⟨l ++ [a], by simp [h1], fun i x hx => ?_⟩
    by_cases hi : i < n
    · exact h2 i x (by rwa [List.getElem?_append_left (by omega)] at hx)
    · rw [List.getElem?_append_right (by omega)] at hx
      obtain rfl : i = n := by
        have := (List.getElem?_eq_some_iff.1 hx).1
        simp at this; omega
      simp [h1] at hx
      exact hx ▸ ha

theorem flat_get {α : Type} {f : α → List Value} {sz : Nat} (hf : ∀ a, (f a).length = sz) (l : List α) (j : Nat) (u : Value) (h : (flat f l)[j]? = some u) :
    ∃ k i, k < l.length ∧ i < sz ∧ j = k * sz + i ∧ ∃ x, l[k]? = some x ∧ (f x)[i]? = some u := by
  have hj : j < l.length * sz := by have := (List.getElem?_eq_some_iff.1 h).1; rwa [flat_len hf] at this
  have hz : 0 < sz := Nat.pos_of_ne_zero (fun e => by subst e; simp at hj)
  have hk : j / sz < l.length := (Nat.div_lt_iff_lt_mul hz).2 hj
  have he : j = j / sz * sz + j % sz := by rw [Nat.mul_comm]; exact (Nat.div_add_mod j sz).symm
  refine ⟨j / sz, j % sz, hk, Nat.mod_lt _ hz, he, l[j / sz], List.getElem?_eq_getElem hk, ?_⟩
  rw [he, flat_at hf l _ _ hk (Nat.mod_lt _ hz)] at h
  exact h

theorem open_flat {H : Type} {enc : TypeId × Value → H} {P : Program} {w : World} {base : Nat} {spare : Nat → Bool} {held : Bool} {fuel : Nat} {x : DataW H × List MemPlace} {t e : TypeId} {sz : Nat} {α : Type} {f : α → List Value} {ok : α → Prop} {a : Option Addr} {len cap : Nat}
    (ht : P.underlying t = some (.slice e)) (hC : P.cellsOf e = sz) (hR : Rdr P e sz f ok) (hf : ∀ a, (f a).length = sz) (h1 : ∀ a, ∀ u ∈ f a, u.oneCell' = true)
    (h : DataW.trod enc P w base spare held fuel t [.slice a len cap] = some x) : ∃ l, IsRowF w sz f ok a len cap l := by
  rcases open_slice ht h with ⟨h0, _⟩ | ⟨ad, len', cap', m, n, D, Pl, hcs, hb, hl, hm, hmm, hx, hi⟩
  · simp at h0
    obtain ⟨rfl, rfl, rfl⟩ := h0
    exact ⟨[], rfl, Nat.le_refl _, by simp [maxLen], ⟨by simp [flat], by simp [flat], fun _ => rfl, by simp⟩, by simp⟩
  · simp at hcs
    obtain ⟨rfl, rfl, rfl⟩ := hcs
    have hlm : len ≤ m := by rw [hmm]; split <;> omega
    obtain ⟨l, hll, hall⟩ := list_of (Q := fun i a => ok a ∧ ∀ j, j < sz → w.cell? (ad.add (i * sz + j)) = (f a)[j]?) len (fun i hi' => by
      obtain ⟨cs', hc, ht'⟩ := hi i (by omega)
      rw [hC] at hc
      obtain ⟨_, _, hat⟩ := World.cells?_some hc
      obtain ⟨a, rfl, hok⟩ := hR ht'
      exact ⟨a, hok, fun j hj => by rw [← Go.Deep.add_add]; exact hat j hj⟩)
    refine ⟨l, hll, hl, hm, ⟨by rw [flat_len hf, hll], flat_one_cell h1 l, (fun h => by cases h), fun a' ha' j u hu => ?_⟩, fun y hy => ?_⟩
    · cases ha'
      obtain ⟨k, i, hk, hi', rfl, y, hy, hyu⟩ := flat_get hf l j u hu
      rw [(hall k y hy).2 i hi']; exact hyu
    · obtain ⟨i, hi'⟩ := List.getElem?_of_mem hy
      exact (hall i y hi').1

/-- a field of a struct that came in -/
theorem rdr_field {P : Program} {t : TypeId} {fs : Array Field} (ht : P.underlying t = some (.struct fs)) (i : Nat) (F : Field) (hF : fs[i]? = some F) {sz : Nat} (hC : P.cellsOf F.type = sz) {α : Type} {f : α → List Value} {ok : α → Prop} (R : Rdr P F.type sz f ok)
    {H : Type} {enc : TypeId × Value → H} {w : World} {base : Nat} {spare : Nat → Bool} {held : Bool} {fuel : Nat} {cs : List Value} {x : DataW H × List MemPlace} (h : DataW.trod enc P w base spare held fuel t cs = some x) :
    ∃ a, (cs.drop F.offset).take sz = f a ∧ ok a := by
  obtain ⟨xs, n, _, _, _, hlen, hf⟩ := DataW.trod_struct ht h
  have hi : i < xs.length := by rw [hlen]; exact (Array.getElem?_eq_some_iff.1 hF).1
  have h1 := hf i F hF
  rw [List.getElem?_eq_getElem hi, hC] at h1
  exact R h1
theorem rdr_cells {P : Program} {t : TypeId} {fs : Array Field} (ht : P.underlying t = some (.struct fs)) {sz : Nat} (hC : P.cellsOf t = sz)
    {H : Type} {enc : TypeId × Value → H} {w : World} {base : Nat} {spare : Nat → Bool} {held : Bool} {fuel : Nat} {cs : List Value} {x : DataW H × List MemPlace} (h : DataW.trod enc P w base spare held fuel t cs = some x) : cs.length = sz := by
  obtain ⟨xs, n, _, _, hl, _⟩ := DataW.trod_struct ht h
  rw [hl, hC]
end Go.K
