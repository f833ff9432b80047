/-
  Plain facts on sorted lists of timers.
-/
import Derived.Test.YtnamkckpgaopkaaLf
set_option linter.unusedVariables false
set_option linter.unusedSimpArgs false
namespace Go.Proofs.Ytnamkckpgaopkaa
open Go.RowKit Go.K


def Tm.lt (a b : Tm) : Prop := a.due < b.due ∨ (a.due = b.due ∧ a.ord < b.ord)

theorem cmpT_lt (a b : Tm) : cmpT a b < 0 ↔ a.lt b := by
  unfold cmpT orI cmpI Tm.lt
  by_cases h1 : a.due < b.due
  · simp [h1]
  · by_cases h2 : b.due < a.due
    · simp [h1, h2]; omega
    · have : a.due = b.due := by omega
      simp [this]
      by_cases h3 : a.ord < b.ord
      · simp [h3]
      · by_cases h4 : b.ord < a.ord <;> simp [h3, h4]

theorem Tm.lt_trans {a b c : Tm} (h : a.lt b) (k : b.lt c) : a.lt c := by
  unfold Tm.lt at *; omega

/-- a set of timers as the methods keep it -/
structure TOk (ts : List Tm) (nx : Int) : Prop where
  sorted : ts.Pairwise Tm.lt
  ord : ∀ t ∈ ts, t.ord ≤ nx

theorem insAt_perm (ts : List Tm) (i : Nat) (t : Tm) : (insAt ts i t).Perm (t :: ts) := by
  unfold insAt
  refine (List.perm_middle).trans ?_
  rw [List.take_append_drop]
theorem mem_insAt {ts : List Tm} {i : Nat} {t x : Tm} : x ∈ insAt ts i t ↔ x = t ∨ x ∈ ts := by
  rw [(insAt_perm ts i t).mem_iff]; simp

theorem ins_sorted {ts : List Tm} {nx : Int} {t : Tm} {i : Nat} (h : TOk ts nx) (hf : Found ts t i) (ht : t.ord = nx + 1) : TOk (insAt ts i t) (nx + 1) := by
  have ho : ∀ x ∈ ts, x.ord < t.ord := fun x hx => by have := h.ord x hx; omega
  obtain ⟨hi, h1, h2⟩ := hf
  have hs := h.sorted
  refine ⟨?_, fun x hx => ?_⟩
  · unfold insAt
    have hs' : (ts.take i ++ ts.drop i).Pairwise Tm.lt := by rw [List.take_append_drop]; exact hs
    rw [List.pairwise_append] at hs' ⊢
    obtain ⟨p1, p2, p3⟩ := hs'
    have hA : ∀ a ∈ ts.take i, a.lt t := by
      intro a ha
      obtain ⟨j, hj, rfl⟩ := List.getElem_of_mem ha
      simp at hj
      have hlast := (cmpT_lt _ _).1 (h1 ⟨by omega, by omega⟩)
      by_cases hji : j = i - 1
      · subst hji; simpa using hlast
      · have := (List.pairwise_iff_getElem.1 hs) j (i - 1) (by omega) (by omega) (by omega)
        rw [List.getElem_take]
        exact Tm.lt_trans this hlast
    have hB : ∀ b ∈ ts.drop i, t.lt b := by
      intro b hb
      obtain ⟨j, hj, rfl⟩ := List.getElem_of_mem hb
      simp at hj
      have hge := h2 (by omega)
      have hnl : ¬ (ts[i]'(by omega)).lt t := fun q => by have := (cmpT_lt _ _).2 q; omega
      have hoi := ho (ts[i]'(by omega)) (List.getElem_mem _)
      have hti : t.lt (ts[i]'(by omega)) := by unfold Tm.lt at hnl ⊢; omega
      rw [List.getElem_drop]
      by_cases hj0 : j = 0
      · subst hj0; simpa using hti
      · have := (List.pairwise_iff_getElem.1 hs) i (i + j) (by omega) (by omega) (by omega)
        exact Tm.lt_trans hti this
    refine ⟨p1, List.pairwise_cons.2 ⟨hB, p2⟩, fun a ha b hb => ?_⟩
    rcases List.mem_cons.1 hb with rfl | hb
    · exact hA a ha
    · exact p3 a ha b hb
  · rcases mem_insAt.1 hx with rfl | hx
    · omega
    · have := h.ord x hx; omega

theorem TOk.nil : TOk [] 0 := ⟨List.Pairwise.nil, by simp⟩
theorem TOk.tail {t : Tm} {ts : List Tm} {nx : Int} (h : TOk (t :: ts) nx) : TOk ts nx := ⟨(List.pairwise_cons.1 h.sorted).2, fun x hx => h.ord x (List.mem_cons_of_mem _ hx)⟩
theorem TOk.erase {ts : List Tm} {nx : Int} (h : TOk ts nx) (k : Nat) : TOk (ts.eraseIdx k) nx := ⟨h.sorted.sublist (List.eraseIdx_sublist _ _), fun x hx => h.ord x (List.mem_of_mem_eraseIdx hx)⟩

end Go.Proofs.Ytnamkckpgaopkaa
