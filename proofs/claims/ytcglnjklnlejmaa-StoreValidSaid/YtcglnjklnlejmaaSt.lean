/-
  Looking up in what changes leave.
-/
import Derived.Test.YtcglnjklnlejmaaSl
set_option linter.unusedVariables false
set_option linter.unusedSimpArgs false
namespace Go.Proofs.Ytcglnjklnlejmaa
open Go.RowKit Go.K Go.K.Sr

def lookP (l : List Pr) (q : ByteArray) : Option Pr := l.find? (fun p => decide (p.k = q))
theorem look_put (k v q : ByteArray) (l : List Pr) : lookP (putP k v l) q = if k = q then some ⟨k, v⟩ else lookP l q := by
  unfold lookP
  induction l with
  | nil =>
    simp only [putP, List.find?_cons, List.find?_nil]
    by_cases h : k = q <;> simp [h]
  | cons p l ih =>
    unfold putP
    split
    · rename_i h
      rw [List.find?_cons, ih, List.find?_cons]
      have hne := klt_ne h
      by_cases e : k = q
      · subst e; simp [hne]
      · simp [e]
    · split
      · rename_i h1 h2
        rw [List.find?_cons, List.find?_cons]
        by_cases e : k = q <;> simp [e, h2]
      · rw [List.find?_cons]
        by_cases e : k = q <;> simp [e]
theorem look_del (k q : ByteArray) (l : List Pr) : lookP (delP k l) q = if k = q then none else lookP l q := by
  unfold lookP delP
  rw [List.find?_filter]
  by_cases e : k = q
  · rw [if_pos e, List.find?_eq_none]
    intro x _
    subst e
    simp
  · rw [if_neg e]
    congr 1
    funext a
    by_cases h : a.k = q
    · have : a.k ≠ k := fun x => e (x.symm.trans h)
      have h2 : ¬ q = k := fun x => e x.symm
      simp [h, h2]
    · simp [h]
/-- what is removed bears no value -/
def Rv (cs : List Ch) : Prop := ∀ c ∈ cs, c.r = true → c.v = .empty
theorem getV_nil (l : List Pr) (q : ByteArray) : getV l [] q = match lookP l q with | some p => (p.v, true) | none => (.empty, false) := rfl
theorem getV_content {cs : List Ch} (q : ByteArray) (ha : Asc Ch.k cs) (hr : Rv cs) : ∀ l : List Pr, getV l cs q = getV (content l cs) [] q := by
  induction cs with
  | nil => intro l; rfl
  | cons c cs ih =>
    intro l
    have h1 := List.pairwise_cons.1 ha
    have hrv : Rv cs := fun x hx => hr x (List.mem_cons_of_mem _ hx)
    have e : content l (c :: cs) = content (appC l c) cs := rfl
    rw [e, ← ih h1.2 hrv (appC l c)]
    have hlook : lookP (appC l c) q = if c.k = q then (if c.r then none else some ⟨c.k, c.v⟩) else lookP l q := by
      unfold appC
      by_cases hcr : c.r = true
      · rw [if_pos hcr, look_del]; simp [hcr]
      · rw [if_neg hcr, look_put]; simp [hcr]
    by_cases hq : c.k = q
    · have hn : cs.find? (fun x => decide (x.k = q)) = none := by
        rw [List.find?_eq_none]
        intro x hx
        have := klt_ne (h1.1 x hx)
        simp only [decide_eq_true_eq]
        intro e2
        exact this (hq.trans e2.symm)
      unfold getV
      rw [List.find?_cons, hn]
      change _ = match lookP (appC l c) q with | some p => (p.v, true) | none => (.empty, false)
      rw [hlook]
      simp only [hq, decide_true, if_true]
      by_cases hcr : c.r = true
      · simp [hcr, hr c (by simp) hcr]
      · have : c.r = false := by simpa using hcr
        simp [this]
    · unfold getV
      rw [List.find?_cons]
      simp only [hq, decide_false]
      cases cs.find? (fun x => decide (x.k = q)) with
      | some x => rfl
      | none =>
        change (match lookP l q with | some p => (p.v, true) | none => (ByteArray.empty, false)) = match lookP (appC l c) q with | some p => (p.v, true) | none => (.empty, false)
        rw [hlook]
        simp [hq]
/-- the sign alone needs no more -/
theorem getV_sign {cs : List Ch} (q : ByteArray) (ha : Asc Ch.k cs) : ∀ l : List Pr, (getV l cs q).2 = (lookP (content l cs) q).isSome := by
  induction cs with
  | nil => intro l; rw [getV_nil]; show _ = (lookP l q).isSome; cases lookP l q <;> rfl
  | cons c cs ih =>
    intro l
    have h1 := List.pairwise_cons.1 ha
    have e : content l (c :: cs) = content (appC l c) cs := rfl
    rw [e, ← ih h1.2 (appC l c)]
    have hlook : lookP (appC l c) q = if c.k = q then (if c.r then none else some ⟨c.k, c.v⟩) else lookP l q := by
      unfold appC
      by_cases hcr : c.r = true
      · rw [if_pos hcr, look_del]; simp [hcr]
      · rw [if_neg hcr, look_put]; simp [hcr]
    by_cases hq : c.k = q
    · have hn : cs.find? (fun x => decide (x.k = q)) = none := by
        rw [List.find?_eq_none]
        intro x hx
        have := klt_ne (h1.1 x hx)
        simp only [decide_eq_true_eq]
        intro e2
        exact this (hq.trans e2.symm)
      unfold getV
      rw [List.find?_cons, hn]
      change _ = (match lookP (appC l c) q with | some p => (p.v, true) | none => (ByteArray.empty, false)).2
      rw [hlook]
      simp only [hq, decide_true, if_true]
      by_cases hcr : c.r = true
      · simp [hcr]
      · have : c.r = false := by simpa using hcr
        simp [this]
    · unfold getV
      rw [List.find?_cons]
      simp only [hq, decide_false]
      cases cs.find? (fun x => decide (x.k = q)) with
      | some x => rfl
      | none =>
        change (match lookP l q with | some p => (p.v, true) | none => (ByteArray.empty, false)).2 = (match lookP (appC l c) q with | some p => (p.v, true) | none => (ByteArray.empty, false)).2
        rw [hlook]
        simp [hq]
theorem look_any (l : List Pr) (q : ByteArray) : (lookP l q).isSome = l.any (fun p => decide (p.k = q)) := by
  unfold lookP
  induction l with
  | nil => rfl
  | cons p l ih =>
    rw [List.find?_cons, List.any_cons, ← ih]
    by_cases h : p.k = q <;> simp [h]
/-- all keys -/
theorem klt_empty (a : ByteArray) : klt a { data := #[] } = false := by
  unfold klt
  have : (({ data := #[] } : ByteArray)).toList = [] := by rw [ByteArray.toList_eq]
  rw [this]
  cases a.toList <;> rfl
theorem keysL_all (l : List Pr) : keysL l { data := #[] } { data := #[] } = l.map (·.k) := by
  unfold keysL
  have : l.filter (inR { data := #[] } { data := #[] }) = l := by
    refine List.filter_eq_self.2 (fun a _ => ?_)
    unfold inR
    rw [klt_empty]
    have : (({ data := #[] } : ByteArray)).toList = [] := by rw [ByteArray.toList_eq]
    rw [this]
    rfl
  rw [this]
end Go.Proofs.Ytcglnjklnlejmaa
