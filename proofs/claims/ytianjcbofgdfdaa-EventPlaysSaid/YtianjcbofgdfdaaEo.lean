/-
  Plain facts: what a step of a dispatch leaves.
-/
import Derived.Test.YtianjcbofgdfdaaEn
set_option linter.unusedVariables false
set_option linter.unusedSimpArgs false
namespace Go.Proofs.Ytianjcbofgdfdaa
open Go.RowKit Go.K Go.K.Ev

def mu (d : Dp) : Nat := (2 * d.path.length - d.st) * 10001 + d.q.length

/-- what stays of a dispatch while it goes on -/
structure Stays (d d' : Dp) : Prop where
  ty : d'.ty = d.ty
  bub : d'.bub = d.bub
  can : d'.can = d.can
  path : d'.path = d.path
  prev : d'.prev = d.prev
  stop : d'.stop = d.stop
  halt : d'.halt = d.halt
theorem Stays.refl (d : Dp) : Stays d d := ⟨rfl, rfl, rfl, rfl, rfl, rfl, rfl⟩
theorem Stays.trans {a b c : Dp} (h : Stays a b) (k : Stays b c) : Stays a c :=
  ⟨k.ty.trans h.ty, k.bub.trans h.bub, k.can.trans h.can, k.path.trans h.path, k.prev.trans h.prev, k.stop.trans h.stop, k.halt.trans h.halt⟩
theorem stays_begin (d : Dp) (l : List Li) : Stays d (d.begin l) ∧ (d.begin l).done = d.done ∧ (d.begin l).pas = d.pas := by
  unfold Dp.begin
  split <;> exact ⟨⟨rfl, rfl, rfl, rfl, rfl, rfl, rfl⟩, rfl, rfl⟩

/-- a call, or the end -/
def StepOf (d : Dp) (l : List Li) (o : Out) : Prop :=
  Stays d o.d ∧ o.d.st ≤ 2 * d.path.length ∧ o.d.q.length ≤ max d.q.length l.length ∧
  ((o.call = none ∧ o.d.done = true ∧ o.d.pas = d.pas ∧ o.l = l ∧ o.d.ph = 0) ∨
   ∃ (c : Cl) (i : Nat) (hi : i < l.length), o.call = some c ∧ l.findIdx? (fun x => x.id == c.id) = some i ∧ l[i].id = c.id ∧ c.cb = l[i].cb ∧ o.d.pas = l[i].pas ∧ o.d.cur = c.cur ∧ o.d.ph = c.ph ∧ o.d.done = d.done ∧ o.l = (if l[i].once then l.eraseIdx i else l) ∧ mu o.d < mu d)

theorem scan_some {l : List Li} : ∀ {q : List Int} {i : Nat} {id : Int} {r : List Int}, scan l q = some (i, id, r) → l.findIdx? (fun x => x.id == id) = some i ∧ r.length < q.length
  | [], _, _, _, h => by simp [scan] at h
  | a :: q, i, id, r, h => by
    unfold scan at h
    cases hf : l.findIdx? (fun x => x.id == a) with
    | some j =>
      rw [hf] at h
      simp at h
      obtain ⟨rfl, rfl, rfl⟩ := h
      exact ⟨hf, by simp⟩
    | none =>
      rw [hf] at h
      have := scan_some h
      exact ⟨this.1, by simp; omega⟩

theorem fire_step {d : Dp} {l : List Li} {i : Nat} {id : Int} {r : List Int} (hs : scan l d.q = some (i, id, r)) (hst : d.st ≤ 2 * d.path.length) : StepOf d l (fire d l i id r) := by
  obtain ⟨hf, hr⟩ := scan_some hs
  obtain ⟨hi, hp, -⟩ := List.findIdx?_eq_some_iff_getElem.1 hf
  have hg : l[i]? = some l[i] := List.getElem?_eq_getElem hi
  refine ⟨⟨rfl, rfl, rfl, rfl, rfl, rfl, rfl⟩, hst, by simp only [fire]; omega, .inr ⟨⟨id, l[i].cb, d.cur, d.ph⟩, i, hi, by simp [fire, hg], hf, by simpa using hp, rfl, by simp [fire, hg], rfl, rfl, rfl, by simp [fire, hg], ?_⟩⟩
  unfold mu fire
  simp only
  omega

theorem nextK_step : ∀ (k : Nat) (d : Dp) (l : List Li), l.length ≤ 10000 → d.st + k = 2 * d.path.length → StepOf d l (nextK k d l)
  | 0, d, l, hl, hk => by
    unfold nextK
    cases hs : scan l d.q with
    | some p => obtain ⟨i, id, r⟩ := p; exact fire_step hs (by omega)
    | none => exact ⟨⟨rfl, rfl, rfl, rfl, rfl, rfl, rfl⟩, by simp only [Dp.fin]; omega, by simp [Dp.fin], .inl ⟨rfl, rfl, rfl, rfl, rfl⟩⟩
  | k + 1, d, l, hl, hk => by
    unfold nextK
    cases hs : scan l d.q with
    | some p => obtain ⟨i, id, r⟩ := p; exact fire_step hs (by omega)
    | none =>
      simp only
      split
      · exact ⟨⟨rfl, rfl, rfl, rfl, rfl, rfl, rfl⟩, by simp only [Dp.fin]; omega, by simp [Dp.fin], .inl ⟨rfl, rfl, rfl, rfl, rfl⟩⟩
      · obtain ⟨b1, b2, b3⟩ := begin_facts { d with q := [] } l rfl
        obtain ⟨s1, s2, s3⟩ := stays_begin { d with q := [] } l
        have ih := nextK_step k (Dp.begin { d with q := [] } l) l hl (by rw [b1, b2]; simp only; omega)
        obtain ⟨h1, h2, h3, h4⟩ := ih
        have h3' : (nextK k (Dp.begin { d with q := [] } l) l).d.q.length ≤ max d.q.length l.length := by
          refine Nat.le_trans h3 (Nat.max_le.2 ⟨?_, Nat.le_max_right _ _⟩)
          have b3' : (Dp.begin { d with q := [] } l).q.length ≤ l.length := b3
          exact Nat.le_trans b3' (Nat.le_max_right _ _)
        refine ⟨?_, by rw [b2] at h2; exact h2, h3', ?_⟩
        · have := s1.trans h1
          exact ⟨this.ty, this.bub, this.can, this.path, this.prev, this.stop, this.halt⟩
        · rcases h4 with ⟨a1, a2, a3, a4, a5⟩ | ⟨c, i, hi, a1, a2, a3, a4, a5, a6, a7, a8, a9, a10⟩
          · exact .inl ⟨a1, a2, by rw [a3, s3], a4, a5⟩
          · refine .inr ⟨c, i, hi, a1, a2, a3, a4, a5, a6, a7, by rw [a8, s2], a9, ?_⟩
            have : mu (Dp.begin { d with q := [] } l) < mu d := by
              unfold mu
              rw [b1, b2]
              simp only
              omega
            omega

theorem next_step (d : Dp) (l : List Li) (hl : l.length ≤ 10000) (hst : d.st ≤ 2 * d.path.length) (hd : d.done = false) : StepOf { d with pas := false } l (d.next l) := by
  unfold Dp.next
  rw [if_neg (by simp [hd])]
  split
  · exact ⟨⟨rfl, rfl, rfl, rfl, rfl, rfl, rfl⟩, by simp only [Dp.fin]; omega, by simp [Dp.fin], .inl ⟨rfl, rfl, rfl, rfl, rfl⟩⟩
  · exact nextK_step _ _ _ hl (by simp only; omega)

/-- the numbers of the listeners that were made ascend -/
theorem made_ids (X : List Li) (k : Nat) : ((madeS (X.take k)).l.map Li.id).Pairwise (· < ·) ∧ ∀ x ∈ (madeS (X.take k)).l, 1 ≤ x.id ∧ x.id ≤ (madeS (X.take k)).nx := by
  induction k with
  | zero => simp [madeS]
  | succ k ih =>
    by_cases hk : k < X.length
    · rw [madeS_succ X k hk]
      obtain ⟨h1, h2⟩ := ih
      obtain ⟨-, h3, -⟩ := madeS_len X k
      unfold Ls.add
      split
      · exact ⟨h1, h2⟩
      · refine ⟨?_, fun x hx => ?_⟩
        · simp only [List.map_append, List.map_cons, List.map_nil]
          rw [List.pairwise_append]
          refine ⟨h1, by simp, fun a ha b hb => ?_⟩
          obtain ⟨x, hx, rfl⟩ := List.mem_map.1 ha
          simp at hb
          have := h2 x hx
          omega
        · rcases List.mem_append.1 hx with q | q
          · have := h2 x q; simp only; omega
          · simp at q; subst q; simp only; omega
    · rw [List.take_of_length_le (by omega)] at ih ⊢
      exact ih
theorem madeS_ids (X : List Li) : ((madeS X).l.map Li.id).Pairwise (· < ·) := by
  have := (made_ids X X.length).1
  rwa [List.take_length] at this
theorem found_of {ls : List Li} (h : (ls.map Li.id).Pairwise (· < ·)) {x : Li} (hx : x ∈ ls) : foundL ls x.id = x := by
  obtain ⟨k, hk, rfl⟩ := List.getElem_of_mem hx
  refine find_first hk (by simp) fun j hj hjk => ?_
  have := (List.pairwise_iff_getElem.1 h) j k (by simpa using hj) (by simpa using hk) hjk
  simp at this ⊢
  omega
end Go.Proofs.Ytianjcbofgdfdaa
