/-
  Plain facts: a listener that is registered during a call (EventLate).
-/
import Derived.Test.YtianjcbofgdfdaaEw
set_option linter.unusedVariables false
set_option linter.unusedSimpArgs false
namespace Go.Proofs.Ytianjcbofgdfdaa
open Go.RowKit Go.K Go.K.Ev

def lateK : Int := 987654321
def lateL (t : Tg) (ty : ByteArray) (c : Bool) : Li := ⟨0, t, ty, 987654321, c, false, false⟩

theorem made_le (X : List Li) (k : Nat) (hk : ∀ x ∈ X, x.cb ≠ 987654321) : ∀ x ∈ (madeS (X.take k)).l, x.cb ≠ 987654321 := by
  induction k with
  | zero => simp [madeS]
  | succ k ih =>
    by_cases h : k < X.length
    · rw [madeS_succ X k h]
      unfold Ls.add
      split
      · exact ih
      · intro x hx
        rcases List.mem_append.1 hx with q | q
        · exact ih x q
        · simp at q; subst q; exact hk X[k] (List.getElem_mem h)
    · rw [List.take_of_length_le (by omega)] at ih ⊢
      exact ih
theorem made_cb (X : List Li) (hk : ∀ x ∈ X, x.cb ≠ 987654321) : ∀ x ∈ (madeS X).l, x.cb ≠ 987654321 := by
  have := made_le X X.length hk
  rwa [List.take_length] at this
theorem made_nx (X : List Li) : ∀ x ∈ (madeS X).l, x.id ≤ (madeS X).nx := by
  have := (made_ids X X.length).2
  rw [List.take_length] at this
  exact fun x hx => (this x hx).2

/-- a run under way behind the registration -/
structure Lt (P : List Tg) (ty : ByteArray) (bub : Bool) (m want n : Nat) (d : Dp) (l : List Li) : Prop where
  inv : In P ty bub d l
  cb : ∀ x ∈ l, (x.cb = 987654321 ↔ x.id = (m : Int))
  rem : n + rem P ty bub (fun i => i == (m : Int)) d l = want
  len : l.length ≤ 41

theorem lt_next {P : List Tg} (hd : P.Nodup) {ty : ByteArray} {bub : Bool} {m want n : Nat} {d : Dp} {l : List Li} (h : Lt P ty bub m want n d l) :
    ((d.next l).call = none ∧ n = want) ∨ ∃ c, (d.next l).call = some c ∧ mu (d.next l).d < mu d ∧
      (c.cb = 987654321 → Lt P ty bub m want (n + 1) (d.next l).d (d.next l).l) ∧ (c.cb ≠ 987654321 → Lt P ty bub m want n (d.next l).d (d.next l).l) := by
  rcases next_in' hd (fun i => i == (m : Int)) h.inv with ⟨q1, q2⟩ | ⟨c, x, q1, q2⟩
  · exact .inl ⟨q1, by have := h.rem; omega⟩
  · have g : Go1 d l := ⟨h.inv.lim, h.inv.done, h.inv.halt, lt_nodup h.inv.ids⟩
    have hr := q2.rem
    have hh := h.rem
    have hlen := Nat.le_trans q2.sub.length_le h.len
    have hcb : ∀ x ∈ (d.next l).l, (x.cb = 987654321 ↔ x.id = (m : Int)) := fun y hy => h.cb y (q2.sub.subset hy)
    refine .inr ⟨c, q1, (go1_next g q1).2.1, fun e => ?_, fun e => ?_⟩
    · have : x.id = (m : Int) := (h.cb x q2.mem).1 (by rw [← q2.cb]; exact e)
      rw [if_pos (by simpa using this)] at hr
      exact ⟨q2.inv, hcb, by omega, hlen⟩
    · have : x.id ≠ (m : Int) := fun e2 => e (by rw [q2.cb]; exact (h.cb x q2.mem).2 e2)
      rw [if_neg (by simpa using this)] at hr
      exact ⟨q2.inv, hcb, by omega, hlen⟩

/-- the registration -/
theorem lt_start {P : List Tg} {ty : ByteArray} {bub : Bool} {d : Dp} {l : List Li} {m : Nat} (h : In P ty bub d l) (hid : ∀ x ∈ l, x.id < (m : Int)) (hcb : ∀ x ∈ l, x.cb ≠ 987654321) (hl : l.length ≤ 40) (t : Tg) (c : Bool) (want : Nat)
    (hw : (if (actv P ty bub (lateL t ty c) && decide ((d.st : Int) ≤ sgOf P (lateL t ty c))) = true then 1 else 0) = want) :
    Lt P ty bub m want 0 d (l ++ [{ lateL t ty c with id := (m : Int) }]) := by
  have h0 : ∀ x ∈ l, (x.id == (m : Int)) = false := fun x hx => by have := hid x hx; simp; omega
  refine ⟨⟨h.path, h.ty, h.bub, h.stop, h.halt, h.done, ⟨h.lim.st, h.lim.path, h.lim.q, by simp; omega⟩, ?_, h.qs, fun id hq => ?_⟩, fun x hx => ?_, ?_, by simp; omega⟩
  · rw [List.map_append, List.pairwise_append]
    refine ⟨h.ids, by simp, fun a ha b hb => ?_⟩
    obtain ⟨x, hx, rfl⟩ := List.mem_map.1 ha
    simp at hb
    subst hb
    exact hid x hx
  · obtain ⟨x, hx, r⟩ := h.q id hq
    exact ⟨x, List.mem_append_left _ hx, r⟩
  · rcases List.mem_append.1 hx with q | q
    · constructor
      · intro e; exact absurd e (hcb x q)
      · intro e; have := hid x q; omega
    · simp at q
      subst q
      exact ⟨fun _ => rfl, fun _ => rfl⟩
  · unfold rem
    have e1 : d.q.countP (fun i => i == (m : Int)) = 0 := by
      rw [List.countP_eq_zero]
      intro i hi
      obtain ⟨x, hx, rfl, -⟩ := h.q i hi
      simp [h0 x hx]
    have e2 : l.countP (fun x => (x.id == (m : Int)) && (actv P ty bub x && decide ((d.st : Int) ≤ sgOf P x))) = 0 := by
      rw [List.countP_eq_zero]
      intro x hx
      simp [h0 x hx]
    rw [List.countP_append, e1, e2, List.countP_singleton, ← hw]
    have : (actv P ty bub { lateL t ty c with id := (m : Int) } && decide ((d.st : Int) ≤ sgOf P { lateL t ty c with id := (m : Int) })) = (actv P ty bub (lateL t ty c) && decide ((d.st : Int) ≤ sgOf P (lateL t ty c))) := rfl
    rw [this]
    simp

theorem late_same {P : List Tg} {ty : ByteArray} {bub : Bool} {d : Dp} {x : Li} (hs : sgOf P x + 1 = d.st) : (if (actv P ty bub (lateL x.tg ty x.cap) && decide ((d.st : Int) ≤ sgOf P (lateL x.tg ty x.cap))) = true then 1 else 0) = 0 := by
  have : sgOf P (lateL x.tg ty x.cap) = sgOf P x := rfl
  rw [this, if_neg]
  simp; omega
theorem late_outer {P : List Tg} (hd : P.Nodup) {ty : ByteArray} {d : Dp} {x : Li} (hs : sgOf P x + 1 = d.st) (ha : actv P ty true x = true) (h2 : 2 ≤ P.length) (t : Tg) (ht : P[P.length - 1]'(by omega) = t) :
    (if (actv P ty true (lateL t ty false) && decide ((d.st : Int) ≤ sgOf P (lateL t ty false))) = true then 1 else 0) = (if (x.cap || !Tg.same x.tg t) = true then 1 else 0) := by
  have hp : plc P t = ((P.length - 1 : Nat) : Int) := (plc_get hd (by omega) t).1 ht
  have e1 : actv P ty true (lateL t ty false) = true := by
    unfold actv lateL
    simp only [hp]
    simp
  have e2 : sgOf P (lateL t ty false) = 2 * P.length - 1 := by
    unfold sgOf lateL
    simp only [hp]
    simp
    omega
  have hsx := sg_lt ha
  have e3 : Tg.same x.tg t = (plc P x.tg == ((P.length - 1 : Nat) : Int)) := by
    rw [Bool.eq_iff_iff, Tg.same_iff, beq_iff_eq, ← plc_get hd (show P.length - 1 < P.length by omega), ht]
    exact eq_comm
  rw [e1, e2, e3]
  unfold actv at ha
  simp only [Bool.and_eq_true, decide_eq_true_eq] at ha
  have hpl := plc_lt P x.tg
  unfold sgOf at hs
  cases hc : x.cap
  · rw [hc] at hs
    simp only [Bool.false_eq_true, if_false] at hs
    by_cases e : plc P x.tg = ((P.length - 1 : Nat) : Int)
    · simp [e]; omega
    · simp [e]; omega
  · rw [hc] at hs
    simp only [if_true] at hs
    simp; omega
theorem late_add {l : List Li} {nx : Int} (t : Tg) (ty : ByteArray) (c : Bool) (hcb : ∀ x ∈ l, x.cb ≠ 987654321) (m : Nat) (hm : nx + 1 = (m : Int)) :
    (⟨l, nx⟩ : Ls).add (lateL t ty c) = ⟨l ++ [{ lateL t ty c with id := (m : Int) }], (m : Int)⟩ ∧ (⟨l, nx⟩ : Ls).addId (lateL t ty c) = (m : Int) := by
  have : (⟨l, nx⟩ : Ls).has (lateL t ty c) = false := by
    unfold Ls.has
    rw [List.any_eq_false]
    intro x hx
    have := hcb x hx
    unfold eqL lateL
    simp only [Bool.and_eq_true, beq_iff_eq, not_and]
    rintro ⟨_, e⟩ _
    exact this e.symm
  unfold Ls.add Ls.addId
  rw [this]
  simp [hm]
end Go.Proofs.Ytianjcbofgdfdaa
