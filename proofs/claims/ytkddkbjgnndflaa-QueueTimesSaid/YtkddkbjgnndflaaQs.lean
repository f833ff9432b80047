/-
  Plain facts: the chapter's set of timers, in the order in which they were added, beside the sorted list.
-/
import Derived.Test.YtkddkbjgnndflaaQp
set_option linter.unusedVariables false
namespace Go.Proofs.Ytkddkbjgnndflaa
open Go.RowKit Go.K

/-- the chapter's list holds the timers of the sorted list -/
structure Same (M ts : List Tm) : Prop where
  perm : M.Perm ts
  sorted : ts.Pairwise Tm.lt
  nd : (M.map Tm.id).Nodup

/-- a first timer: none is before it -/
def IsMin (M : List Tm) (x : Tm) : Prop := x ∈ M ∧ ∀ y ∈ M, ¬ y.lt x

theorem Same.min {M r : List Tm} {t x : Tm} (h : Same M (t :: r)) (hx : IsMin M x) : x = t := by
  have h1 := h.perm.mem_iff.1 hx.1
  rcases List.mem_cons.1 h1 with q | q
  · exact q
  · exact absurd ((List.pairwise_cons.1 h.sorted).1 x q) (hx.2 t (h.perm.mem_iff.2 (List.mem_cons_self)))
theorem Same.nil {ts : List Tm} (h : Same [] ts) : ts = [] := by
  have := h.perm.length_eq
  exact List.eq_nil_of_length_eq_zero (by simpa using this.symm)
theorem Same.nil' {M : List Tm} (h : Same M []) : M = [] := by
  have := h.perm.length_eq
  exact List.eq_nil_of_length_eq_zero (by simpa using this)

theorem nd_at {M : List Tm} (h : (M.map Tm.id).Nodup) {x y : Tm} (hx : x ∈ M) (hy : y ∈ M) (e : x.id = y.id) : x = y := by
  obtain ⟨i, hi, rfl⟩ := List.getElem_of_mem hx
  obtain ⟨j, hj, rfl⟩ := List.getElem_of_mem hy
  have hp := List.pairwise_iff_getElem.1 h
  rcases Nat.lt_trichotomy i j with q | q | q
  · exact absurd (by rw [List.getElem_map, List.getElem_map]; exact e) (hp i j (by simpa using hi) (by simpa using hj) q)
  · subst q; rfl
  · exact absurd (by rw [List.getElem_map, List.getElem_map]; exact e.symm) (hp j i (by simpa using hj) (by simpa using hi) q)

theorem perm_eraseIdx {l : List Tm} {i : Nat} (h : i < l.length) : (l[i] :: l.eraseIdx i).Perm l := by
  rw [List.eraseIdx_eq_take_drop_succ]
  refine (List.perm_middle.symm).trans ?_
  rw [List.getElem_cons_drop, List.take_append_drop]
theorem Same.erase {M ts : List Tm} (h : Same M ts) {k j : Nat} (hk : k < M.length) (hj : j < ts.length) (e : M[k].id = ts[j].id) : Same (M.eraseIdx k) (ts.eraseIdx j) := by
  have e2 : M[k] = ts[j] := nd_at h.nd (List.getElem_mem hk) (h.perm.mem_iff.2 (List.getElem_mem hj)) e
  refine ⟨?_, h.sorted.sublist (List.eraseIdx_sublist _ _), ?_⟩
  · have p1 := perm_eraseIdx hk
    have p2 := perm_eraseIdx hj
    have p3 := p1.trans (h.perm.trans p2.symm)
    rw [e2] at p3
    exact List.Perm.cons_inv p3
  · exact h.nd.sublist ((List.eraseIdx_sublist _ _).map _)
theorem Same.head {M r : List Tm} {t : Tm} (h : Same M (t :: r)) {k : Nat} (hk : k < M.length) (e : M[k].id = t.id) : Same (M.eraseIdx k) r := by
  have := h.erase hk (j := 0) (by simp) (by simpa using e)
  simpa using this
theorem Same.has {M ts : List Tm} (h : Same M ts) (id : Int) : (∃ t ∈ M, t.id = id) ↔ ∃ t ∈ ts, t.id = id := by
  constructor
  · rintro ⟨t, ht, e⟩; exact ⟨t, h.perm.mem_iff.1 ht, e⟩
  · rintro ⟨t, ht, e⟩; exact ⟨t, h.perm.mem_iff.2 ht, e⟩

/-- the two sets after k numbers -/
structure Both (M ts : List Tm) (nx : Int) : Prop where
  same : Same M ts
  ok : TOk ts nx
  id : ∀ t ∈ M, t.id ≤ nx

theorem Both.nil : Both [] [] 0 := ⟨⟨List.Perm.refl _, List.Pairwise.nil, List.nodup_nil⟩, TOk.nil, by simp⟩
theorem Both.len {M ts : List Tm} {nx : Int} (h : Both M ts nx) : M.length = ts.length := h.same.perm.length_eq
theorem Both.ins {M ts : List Tm} {nx id due : Int} {i : Nat} (h : Both M ts nx) (hf : Found ts ⟨id, due, nx + 1⟩ i) (hn : ∀ t ∈ M, t.id ≠ id) (hid : id ≤ nx + 1) : Both (M ++ [⟨id, due, nx + 1⟩]) (insAt ts i ⟨id, due, nx + 1⟩) (nx + 1) := by
  have h1 := ins_sorted h.ok hf rfl
  refine ⟨⟨?_, h1.sorted, ?_⟩, h1, fun t ht => ?_⟩
  · refine (List.perm_append_comm).trans ?_
    refine (List.Perm.cons _ h.same.perm).trans (insAt_perm ts i _).symm
  · rw [List.map_append, List.nodup_append]
    refine ⟨h.same.nd, by simp, ?_⟩
    intro a ha b hb
    simp at hb
    subst hb
    obtain ⟨t, ht, rfl⟩ := List.mem_map.1 ha
    exact hn t ht
  · rcases List.mem_append.1 ht with q | q
    · have := h.id t q; omega
    · simp at q; subst q; exact hid
theorem Both.add {M ts : List Tm} {nx due : Int} {i : Nat} (h : Both M ts nx) (hf : Found ts ⟨nx + 1, due, nx + 1⟩ i) : Both (M ++ [⟨nx + 1, due, nx + 1⟩]) (insAt ts i ⟨nx + 1, due, nx + 1⟩) (nx + 1) :=
  h.ins hf (fun t ht e => by have := h.id t ht; omega) (by omega)
theorem Both.erase {M ts : List Tm} {nx : Int} (h : Both M ts nx) {k j : Nat} (hk : k < M.length) (hj : j < ts.length) (e : M[k].id = ts[j].id) : Both (M.eraseIdx k) (ts.eraseIdx j) nx :=
  ⟨h.same.erase hk hj e, h.ok.erase j, fun t ht => h.id t (List.mem_of_mem_eraseIdx ht)⟩
end Go.Proofs.Ytkddkbjgnndflaa
