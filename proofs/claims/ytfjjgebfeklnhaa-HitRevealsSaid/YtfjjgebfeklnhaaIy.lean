/-
  Revealing twice is revealing once; plain.
-/
import Derived.Test.YtfjjgebfeklnhaaIx
import Derived.Test.YtfjjgebfeklnhaaIp
set_option linter.unusedVariables false
set_option linter.unusedSimpArgs false
namespace Go.Proofs.Ytfjjgebfeklnhaa
open Go.RowKit Go.K

theorem scFold_off (c : Sc) : ∀ (l o : List Sc), l.foldl (scStep c) (o, false) = (o ++ l.filter (fun y => y.n != c.n), false)
  | [], o => by simp
  | x :: l, o => by
    rw [List.foldl_cons]
    by_cases hx : x.n = c.n
    · rw [scStep, if_pos hx]
      simp only [Bool.false_eq_true, if_false]
      rw [scFold_off c l o, List.filter_cons]
      simp [hx]
    · rw [scStep, if_neg hx]
      simp only
      rw [scFold_off c l, List.filter_cons]
      simp [hx]
theorem scr_none (c : Sc) (l : List Sc) (h : ∀ x ∈ l, x.n ≠ c.n) : scrollL c l = if keptB c then l ++ [c] else l := by
  have e : scFold c (keptB c) l = (l, keptB c) := by
    rw [scFold, scFold_none c (keptB c) l _ h]; simp
  rw [scrollL, e]
theorem scr_some (c x : Sc) (pre post : List Sc) (h : ∀ x ∈ pre, x.n ≠ c.n) (hx : x.n = c.n) :
    scrollL c (pre ++ x :: post) = if keptB c then pre ++ c :: post.filter (fun y => y.n != c.n) else pre ++ post.filter (fun y => y.n != c.n) := by
  have e : scFold c (keptB c) (pre ++ x :: post) = (if keptB c then pre ++ c :: post.filter (fun y => y.n != c.n) else pre ++ post.filter (fun y => y.n != c.n), false) := by
    rw [scFold, List.foldl_append, scFold_none c (keptB c) pre _ h, List.foldl_cons, scStep, if_pos hx]
    cases keptB c with
    | true => simp only [if_true]; rw [scFold_off]; simp
    | false => simp only [Bool.false_eq_true, if_false]; rw [scFold_off]; simp
  rw [scrollL, e]
  simp
theorem split_at (c : Sc) (l : List Sc) : (∀ x ∈ l, x.n ≠ c.n) ∨ ∃ pre x post, l = pre ++ x :: post ∧ (∀ x ∈ pre, x.n ≠ c.n) ∧ x.n = c.n := by
  induction l with
  | nil => exact .inl (by simp)
  | cons a l ih =>
    by_cases ha : a.n = c.n
    · exact .inr ⟨[], a, l, rfl, by simp, ha⟩
    · rcases ih with h | ⟨pre, x, post, rfl, h1, h2⟩
      · exact .inl (fun x hx => by rcases List.mem_cons.1 hx with e | e; exact e ▸ ha; exact h x e)
      · exact .inr ⟨a :: pre, x, post, rfl, fun x hx => by rcases List.mem_cons.1 hx with e | e; exact e ▸ ha; exact h1 x e, h2⟩
theorem filt_ne (c : Sc) (l : List Sc) : ∀ x ∈ l.filter (fun y => y.n != c.n), x.n ≠ c.n := by
  intro x hx
  have := (List.mem_filter.1 hx).2
  simpa using this
theorem scroll_idem (c : Sc) (l : List Sc) : scrollL c (scrollL c l) = scrollL c l := by
  rcases split_at c l with h | ⟨pre, x, post, rfl, h1, h2⟩
  · rw [scr_none c l h]
    cases hk : keptB c with
    | true =>
      simp only [if_true]
      rw [scr_some c c l [] h rfl, hk]; simp
    | false =>
      simp only [Bool.false_eq_true, if_false]
      rw [scr_none c l h, hk]; simp
  · rw [scr_some c x pre post h1 h2]
    cases hk : keptB c with
    | true =>
      simp only [if_true]
      rw [scr_some c c pre _ h1 rfl, hk, List.filter_filter]; simp
    | false =>
      simp only [Bool.false_eq_true, if_false]
      rw [scr_none c _ (fun x hx => by rcases List.mem_append.1 hx with e | e; exact h1 x e; exact filt_ne c post x e), hk]; simp
theorem cutW (R o f s w : Int) (hR : 0 ≤ R) (ho : -1000000 ≤ o ∧ o ≤ 1000000) (hf : -1000000 ≤ f ∧ f ≤ 1000000) (hs : -1000000 ≤ s ∧ s ≤ 1000000) (hw : 0 ≤ w ∧ w ≤ 1000000) :
    min (max (intoT (min (max (intoT o f s w) 0) R) f s w) 0) R = min (max (intoT o f s w) 0) R := by
  have h1 : wr (o + w) = o + w := wr_id (by omega) (by omega)
  have h2 : wr (f + s) = f + s := wr_id (by omega) (by omega)
  have h3 : wr (f + s - w) = f + s - w := wr_id (by omega) (by omega)
  have e1 : intoT o f s w = if f < o then f else if o + w < f + s then min f (f + s - w) else o := by
    rw [intoT, h1, h2, h3]
  obtain ⟨p, hp⟩ : ∃ p, min (max (intoT o f s w) 0) R = p := ⟨_, rfl⟩
  have hp' := hp
  rw [e1] at hp'
  have hb : 0 ≤ p ∧ p ≤ 3000000 := by
    rw [← hp']
    split
    · omega
    · split <;> omega
  have h4 : wr (p + w) = p + w := wr_id (by omega) (by omega)
  have e2 : intoT p f s w = if f < p then f else if p + w < f + s then min f (f + s - w) else p := by
    rw [intoT, h4, h2, h3]
  rw [hp, e2, ← hp']
  exact cut_idem R o f s w hR
theorem reveal_idem (t : Ft) (ls : List Sc) (r : R4) (wd ht : Int) (hw : wd ≤ 1000000) (hh : ht ≤ 1000000)
    (ho : (-1000000 ≤ (getS ls t.a.nd).x ∧ (getS ls t.a.nd).x ≤ 1000000) ∧ (-1000000 ≤ (getS ls t.a.nd).y ∧ (getS ls t.a.nd).y ≤ 1000000))
    (hx : -1000000 ≤ wr (r.x - t.a.x) ∧ wr (r.x - t.a.x) ≤ 1000000) (hy : -1000000 ≤ wr (r.y - t.a.y) ∧ wr (r.y - t.a.y) ≤ 1000000)
    (hrw : -1000000 ≤ r.w ∧ r.w ≤ 1000000) (hrh : -1000000 ≤ r.h ∧ r.h ≤ 1000000) (R : List Sc) (hR : revealR t ls r wd ht = R) :
    revealR t R r wd ht = R := by
  obtain ⟨h1, h2⟩ := span_bd t t.a.nd wd ht
  obtain ⟨p, hp⟩ : ∃ p, (clampT t t.a.nd (wantX t ls r wd) (wantY t ls r ht) wd ht).1 = p := ⟨_, rfl⟩
  obtain ⟨q, hq⟩ : ∃ q, (clampT t t.a.nd (wantX t ls r wd) (wantY t ls r ht) wd ht).2 = q := ⟨_, rfl⟩
  rw [revealR, hp, hq] at hR
  have hg : getS R t.a.nd = ⟨t.a.nd, p, q⟩ := by rw [← hR]; exact get_scroll ⟨t.a.nd, p, q⟩ ls
  have e1 : (clampT t t.a.nd (wantX t R r wd) (wantY t R r ht) wd ht).1 = p := by
    rw [← hp, clampT, clampT]
    simp only [wantX, hg]
    rw [← hp, clampT]
    simp only [wantX]
    exact cutW _ _ _ _ _ h1 ho.1 hx hrw (by omega)
  have e2 : (clampT t t.a.nd (wantX t R r wd) (wantY t R r ht) wd ht).2 = q := by
    rw [← hq, clampT, clampT]
    simp only [wantY, hg]
    rw [← hq, clampT]
    simp only [wantY]
    exact cutW _ _ _ _ _ h2 ho.2 hy hrh (by omega)
  rw [revealR, e1, e2, ← hR]
  exact scroll_idem _ _
end Go.Proofs.Ytfjjgebfeklnhaa
