/-
  Plain lemmas: lists of structs laid flat into cells.
-/
import Derived.WalkKit
namespace Go.K

/-- the cells of a list of elements, each of sz cells -/
def flat {α : Type} (f : α → List Value) (l : List α) : List Value := l.flatMap f

section
variable {α : Type} {f : α → List Value} {sz : Nat}
theorem flat_nil : flat f [] = [] := rfl
theorem flat_cons (x : α) (l : List α) : flat f (x :: l) = f x ++ flat f l := by simp [flat]
theorem flat_append (a b : List α) : flat f (a ++ b) = flat f a ++ flat f b := by simp [flat]
theorem flat_one (x : α) : flat f [x] = f x := by simp [flat]
theorem flat_len (hf : ∀ x, (f x).length = sz) (l : List α) : (flat f l).length = l.length * sz := by
  induction l with
  | nil => simp [flat]
  | cons x l ih => rw [flat_cons, List.length_append, ih, hf, List.length_cons, Nat.add_mul]; omega
theorem flat_take (hf : ∀ x, (f x).length = sz) (l : List α) (k : Nat) : (flat f l).take (k * sz) = flat f (l.take k) := by
  induction l generalizing k with
  | nil => simp [flat]
  | cons x l ih =>
    cases k with
    | zero => simp [flat]
    | succ k =>
      rw [flat_cons, List.take_succ_cons, flat_cons, ← ih k, List.take_append, List.take_of_length_le (by rw [hf, Nat.add_mul]; omega), hf, Nat.add_mul]
      congr 2; omega
theorem flat_drop (hf : ∀ x, (f x).length = sz) (l : List α) (k : Nat) : (flat f l).drop (k * sz) = flat f (l.drop k) := by
  induction l generalizing k with
  | nil => simp [flat]
  | cons x l ih =>
    cases k with
    | zero => simp [flat]
    | succ k =>
      rw [flat_cons, List.drop_succ_cons, ← ih k, List.drop_append, List.drop_of_length_le (by rw [hf, Nat.add_mul]; omega), hf, Nat.add_mul]
      rw [List.nil_append]; congr 1; omega
theorem flat_at (hf : ∀ x, (f x).length = sz) (l : List α) (k j : Nat) (hk : k < l.length) (hj : j < sz) : (flat f l)[k * sz + j]? = (f l[k])[j]? := by
  have h1 : (flat f l)[k * sz + j]? = ((flat f l).drop (k * sz))[j]? := by rw [List.getElem?_drop]
  rw [h1, flat_drop hf, List.drop_eq_getElem_cons hk, flat_cons, List.getElem?_append_left (by rw [hf]; exact hj)]
theorem flat_one_cell (h1 : ∀ x, ∀ u ∈ f x, u.oneCell' = true) (l : List α) : ∀ u ∈ flat f l, u.oneCell' = true := by
  intro u hu
  simp only [flat, List.mem_flatMap] at hu
  obtain ⟨x, _, hx⟩ := hu
  exact h1 x u hx
theorem flat_map {β : Type} (g : β → α) (l : List β) : flat f (l.map g) = flat (fun x => f (g x)) l := by simp [flat, List.flatMap_map]
end
end Go.K
