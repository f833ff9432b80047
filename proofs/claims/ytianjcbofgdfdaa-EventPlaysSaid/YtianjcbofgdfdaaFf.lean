/-
  Plain facts: a dispatch with actions during its calls.
-/
import Derived.Test.YtianjcbofgdfdaaFd
set_option linter.unusedVariables false
set_option linter.unusedSimpArgs false
namespace Go.Proofs.Ytianjcbofgdfdaa
open Go.RowKit Go.K Go.K.Ev

/-- how many actions are still to come -/
def left (acs : List Ac) (n : Int) : Nat := acs.countP (fun a => decide (n ≤ a.at'))
theorem left_le (acs : List Ac) (n : Int) : left acs n ≤ acs.length := List.countP_le_length
theorem left_succ (acs : List Ac) (n : Int) : left acs n = acs.countP (fun a => decide (a.at' = n)) + left acs (n + 1) := by
  unfold left
  induction acs with
  | nil => rfl
  | cons a acs ih =>
    simp only [List.countP_cons, ih, decide_eq_true_eq]
    split <;> split <;> split <;> omega
/-- what an action keeps of a dispatch -/
structure Same (d d' : Dp) : Prop where
  ty : d'.ty = d.ty
  bub : d'.bub = d.bub
  can : d'.can = d.can
  path : d'.path = d.path
  st : d'.st = d.st
  q : d'.q = d.q
  cur : d'.cur = d.cur
  ph : d'.ph = d.ph
  pas : d'.pas = d.pas
  done : d'.done = d.done
theorem Same.refl (d : Dp) : Same d d := ⟨rfl, rfl, rfl, rfl, rfl, rfl, rfl, rfl, rfl, rfl⟩
theorem Same.trans {a b c : Dp} (h : Same a b) (k : Same b c) : Same a c := ⟨k.ty.trans h.ty, k.bub.trans h.bub, k.can.trans h.can, k.path.trans h.path, k.st.trans h.st, k.q.trans h.q, k.cur.trans h.cur, k.ph.trans h.ph, k.pas.trans h.pas, k.done.trans h.done⟩
theorem act1_same (m : Int) (p : Dp × Ls) (a : Ac) : Same p.1 (act1 m p a).1 := by
  unfold act1
  repeat' split
  all_goals exact ⟨rfl, rfl, rfl, rfl, rfl, rfl, rfl, rfl, rfl, rfl⟩
theorem act1_cnt (m : Int) (p : Dp × Ls) (a : Ac) : (act1 m p a).2.l.length ≤ p.2.l.length + (if a.at' = m then 1 else 0) ∧ p.2.nx ≤ (act1 m p a).2.nx ∧ (act1 m p a).2.nx ≤ p.2.nx + (if a.at' = m then 1 else 0) := by
  by_cases h : a.at' = m
  · rw [if_pos h, if_pos h]
    exact act1_le m p a
  · rw [if_neg h, if_neg h]
    unfold act1
    rw [if_neg h]
    omega
theorem actF_fac (m : Int) : ∀ (acs : List Ac) (p : Dp × Ls), Same p.1 (actF m p acs).1 ∧ (actF m p acs).2.l.length ≤ p.2.l.length + acs.countP (fun a => decide (a.at' = m)) ∧ p.2.nx ≤ (actF m p acs).2.nx ∧ (actF m p acs).2.nx ≤ p.2.nx + acs.countP (fun a => decide (a.at' = m))
  | [], p => by simp [actF]; exact Same.refl _
  | a :: acs, p => by
    obtain ⟨h1, h2, h3, h4⟩ := actF_fac m acs (act1 m p a)
    obtain ⟨g2, g3, g4⟩ := act1_cnt m p a
    have e : actF m p (a :: acs) = actF m (act1 m p a) acs := rfl
    rw [e]
    refine ⟨(act1_same m p a).trans h1, ?_, by omega, ?_⟩
    · rw [List.countP_cons]; simp only [decide_eq_true_eq]
      by_cases ha : a.at' = m
      · rw [if_pos ha] at g2 ⊢; omega
      · rw [if_neg ha] at g2 ⊢; omega
    · rw [List.countP_cons]; simp only [decide_eq_true_eq]
      by_cases ha : a.at' = m
      · rw [if_pos ha] at g4 ⊢; push_cast; omega
      · rw [if_neg ha] at g4 ⊢; push_cast; omega

/-- a dispatch with actions under way, at its call n -/
structure Fz (acs : List Ac) (n : Nat) (d : Dp) (S : Ls) : Prop where
  st : d.st ≤ 2 * d.path.length
  path : d.path.length ≤ 12
  q : d.q.length ≤ 1000
  done : d.done = false
  len : S.l.length + left acs n ≤ 100
  nx0 : 0 ≤ S.nx
  nx1 : S.nx + left acs n ≤ 100
theorem Fz.lim {acs : List Ac} {n : Nat} {d : Dp} {S : Ls} (h : Fz acs n d S) : Lim d S.l := ⟨h.st, h.path, by have := h.q; omega, by have := h.len; omega⟩
theorem fz_next {acs : List Ac} {n : Nat} {d : Dp} {S : Ls} (h : Fz acs n d S) :
    ((d.next S.l).call = none ∧ (d.next S.l).d.done = true) ∨ ∃ c, (d.next S.l).call = some c ∧ mu (d.next S.l).d < mu d ∧
      Fz acs (n + 1) (actF n ((d.next S.l).d, ⟨(d.next S.l).l, S.nx⟩) acs).1 (actF n ((d.next S.l).d, ⟨(d.next S.l).l, S.nx⟩) acs).2 ∧
      mu (actF n ((d.next S.l).d, ⟨(d.next S.l).l, S.nx⟩) acs).1 < mu d ∧ (d.next S.l).l.length ≤ 100 := by
  obtain ⟨h1, h2, h2b, h3⟩ := next_step d S.l (by have := h.len; omega) h.st h.done
  rcases h3 with ⟨a1, a2, -⟩ | ⟨c', i, hi, a1, a2, a3, a4, a5, a6, a7, a8, a9, a10⟩
  · exact .inl ⟨a1, a2⟩
  · obtain ⟨g1, g2, g3, g4⟩ := actF_fac n acs ((d.next S.l).d, ⟨(d.next S.l).l, S.nx⟩)
    have hl : (d.next S.l).l.length ≤ S.l.length := by
      rw [a9]
      split
      · exact List.length_eraseIdx_le _ _
      · exact Nat.le_refl _
    have hs := left_succ acs n
    have hlen := h.len
    have hn0 := h.nx0
    have hn1 := h.nx1
    have hq := h.q
    simp only at g1 g2 g3 g4
    have e : mu { d with pas := false } = mu d := rfl
    have em : mu (actF n ((d.next S.l).d, ⟨(d.next S.l).l, S.nx⟩) acs).1 = mu (d.next S.l).d := by unfold mu; rw [g1.path, g1.st, g1.q]
    refine .inr ⟨c', a1, by omega, ⟨by rw [g1.path, g1.st, h1.path]; exact h2, by rw [g1.path, h1.path]; exact h.path, ?_, by rw [g1.done, a8]; exact h.done, ?_, by omega, ?_⟩, by omega, by omega⟩
    · rw [g1.q]
      have e2 : ({ d with pas := false } : Dp).q = d.q := rfl
      rw [e2] at h2b
      omega
    · push_cast; omega
    · push_cast; omega
theorem fz_new {acs : List Ac} (ha : acs.length ≤ 30) (ty : ByteArray) (bub can : Bool) (P : List Tg) (S : Ls) (hP : P.length ≤ 12) (hl : S.l.length ≤ 40) (hx : 0 ≤ S.nx) (hx2 : S.nx ≤ 40) : Fz acs 0 (dNew ty bub can P) S := by
  have := left_le acs ((0 : Nat) : Int)
  exact ⟨by simp [dNew], by simpa [dNew] using hP, by simp [dNew], rfl, by omega, hx, by omega⟩
end Go.Proofs.Ytianjcbofgdfdaa
