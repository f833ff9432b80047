/-
  Plain facts: on a path whose targets differ each listener stands in one stage (EventOrder, EventLate).
-/
import Derived.Test.YtianjcbofgdfdaaEu
set_option linter.unusedVariables false
set_option linter.unusedSimpArgs false
namespace Go.Proofs.Ytianjcbofgdfdaa
open Go.RowKit Go.K Go.K.Ev

/-- the place of a target on a path, -1 where it is not -/
def plc (P : List Tg) (t : Tg) : Int := idx (fun x => Tg.same x t) P
theorem plc_lt (P : List Tg) (t : Tg) : -1 ≤ plc P t ∧ plc P t < P.length ∨ plc P t = -1 := by
  unfold plc idx
  cases h : P.findIdx? (fun x => Tg.same x t) with
  | none => exact .inr rfl
  | some i => have := (List.findIdx?_eq_some_iff_getElem.1 h).1; exact .inl ⟨by simp only; omega, by simp only; omega⟩
theorem plc_get {P : List Tg} (hd : P.Nodup) {j : Nat} (hj : j < P.length) (t : Tg) : P[j] = t ↔ plc P t = j := by
  unfold plc idx
  constructor
  · intro e
    have : P.findIdx? (fun x => Tg.same x t) = some j := by
      rw [List.findIdx?_eq_some_iff_getElem]
      refine ⟨hj, Tg.same_iff.2 e, fun i hi => ?_⟩
      intro h
      have h2 := Tg.same_iff.1 h
      exact (List.pairwise_iff_getElem.1 hd) i j (by omega) hj hi (h2.trans e.symm)
    rw [this]
  · intro e
    cases h : P.findIdx? (fun x => Tg.same x t) with
    | none => rw [h] at e; simp only at e; omega
    | some i =>
      rw [h] at e
      simp only at e
      obtain ⟨h1, h2, -⟩ := List.findIdx?_eq_some_iff_getElem.1 h
      have : i = j := by omega
      subst this
      exact Tg.same_iff.1 h2

/-- the listener is on the path, and its stage is not left out -/
def actv (P : List Tg) (ty : ByteArray) (bub : Bool) (x : Li) : Bool := (x.ty.toList == ty.toList) && (decide (0 ≤ plc P x.tg) && ((plc P x.tg == 0) || x.cap || bub))
def sgOf (P : List Tg) (x : Li) : Int := if x.cap then P.length - 1 - plc P x.tg else P.length + plc P x.tg
theorem sg_lt {P : List Tg} {ty : ByteArray} {bub : Bool} {x : Li} (h : actv P ty bub x = true) : 0 ≤ sgOf P x ∧ sgOf P x < 2 * P.length := by
  unfold actv at h
  simp only [Bool.and_eq_true, decide_eq_true_eq] at h
  have := plc_lt P x.tg
  unfold sgOf
  split <;> omega
/-- who is called in a stage -/
theorem stage_iff {P : List Tg} (hd : P.Nodup) {ty : ByteArray} {bub : Bool} {s : Nat} (hs : s < 2 * P.length) (hk : ¬ (P.length < s ∧ bub = false)) (x : Li) :
    (Tg.same x.tg (stT P s) && (x.ty.toList == ty.toList) && (x.cap == decide (s < P.length))) = (actv P ty bub x && (sgOf P x == (s : Int))) := by
  have hj : (if s < P.length then P.length - 1 - s else s - P.length) < P.length := by split <;> omega
  have e1 : Tg.same x.tg (stT P s) = (plc P x.tg == ((if s < P.length then P.length - 1 - s else s - P.length : Nat) : Int)) := by
    rw [Bool.eq_iff_iff, Tg.same_iff, beq_iff_eq, ← plc_get hd hj]
    unfold stT
    rw [List.getD_eq_getElem?_getD, List.getElem?_eq_getElem hj, Option.getD_some]
    exact eq_comm
  rw [e1]
  unfold actv sgOf
  have hp := plc_lt P x.tg
  generalize plc P x.tg = p at *
  generalize (x.ty.toList == ty.toList) = T
  cases T
  · simp
  · simp only [Bool.and_true, Bool.true_and]
    rw [Bool.eq_iff_iff]
    cases hc : x.cap <;> cases bub <;> by_cases hsn : s < P.length <;> simp [hsn] at hk ⊢ <;> omega
theorem stage_skip {P : List Tg} {ty : ByteArray} {bub : Bool} {s : Nat} (hk : P.length < s ∧ bub = false) (x : Li) : (actv P ty bub x && (sgOf P x == (s : Int))) = false := by
  rw [Bool.eq_false_iff]
  intro h
  unfold actv sgOf at h
  have hp := plc_lt P x.tg
  generalize plc P x.tg = p at *
  rw [hk.2] at h
  cases hc : x.cap <;> simp [hc] at h <;> omega

def stage (P : List Tg) (ty : ByteArray) (bub : Bool) (s : Nat) (l : List Li) : List Int := (l.filter (fun x => actv P ty bub x && (sgOf P x == (s : Int)))).map Li.id
/-- begin, on a path whose targets differ -/
theorem begin_stage {d : Dp} (hd : d.path.Nodup) (hs : d.st < 2 * d.path.length) (l : List Li) (hq : d.q = []) :
    (d.begin l).q = stage d.path d.ty d.bub d.st l ∧ (∀ x ∈ l, x.id ∈ (d.begin l).q → True) ∧ ((d.begin l).q ≠ [] → (d.begin l).cur = stT d.path d.st) := by
  unfold Dp.begin
  by_cases hk : d.path.length < d.st ∧ d.bub = false
  · rw [if_pos hk]
    refine ⟨?_, fun _ _ _ => trivial, fun h => absurd hq h⟩
    simp only [hq]
    symm
    unfold stage
    rw [List.map_eq_nil_iff, List.filter_eq_nil_iff]
    intro x _
    rw [stage_skip hk x]
    simp
  · rw [if_neg hk]
    refine ⟨?_, fun _ _ _ => trivial, fun _ => rfl⟩
    simp only [hq, List.nil_append]
    unfold stI hits stage
    rw [List.filter_filter]
    congr 1
    refine List.filter_congr fun x _ => ?_
    rw [← stage_iff hd hs hk x]
    cases (x.cap == decide (d.st < d.path.length)) <;> simp

/-- a dispatch under way: what stands in the queue -/
structure In (P : List Tg) (T : ByteArray) (B : Bool) (d : Dp) (l : List Li) : Prop where
  path : d.path = P
  ty : d.ty = T
  bub : d.bub = B
  stop : d.stop = false
  halt : d.halt = false
  done : d.done = false
  lim : Lim d l
  ids : (l.map Li.id).Pairwise (· < ·)
  qs : d.q.Pairwise (· < ·)
  q : ∀ id ∈ d.q, ∃ x ∈ l, x.id = id ∧ actv P T B x = true ∧ sgOf P x + 1 = d.st ∧ x.tg = d.cur

/-- how many calls of those that p picks are still to come -/
def rem (P : List Tg) (ty : ByteArray) (bub : Bool) (p : Int → Bool) (d : Dp) (l : List Li) : Nat :=
  d.q.countP p + l.countP (fun x => p x.id && (actv P ty bub x && decide ((d.st : Int) ≤ sgOf P x)))

structure NxtOf (P : List Tg) (ty : ByteArray) (bub : Bool) (p : Int → Bool) (d : Dp) (l : List Li) (o : Out) (c : Cl) (x : Li) : Prop where
  mem : x ∈ l
  id : c.id = x.id
  cur : c.cur = x.tg
  cb : c.cb = x.cb
  act : actv P ty bub x = true
  inv : In P ty bub o.d o.l
  rem : rem P ty bub p o.d o.l + (if p x.id then 1 else 0) = rem P ty bub p d l
  st : sgOf P x + 1 = o.d.st
  q : ∀ id ∈ o.d.q, x.id < id
  ord : (d.st : Int) ≤ sgOf P x ∨ (sgOf P x + 1 = d.st ∧ x.id ∈ d.q)
  sub : o.l.Sublist l

theorem scan_first {l : List Li} {id : Int} {r : List Int} {i : Nat} (h : l.findIdx? (fun x => x.id == id) = some i) : scan l (id :: r) = some (i, id, r) := by
  unfold scan; rw [h]
theorem lt_nodup {l : List Int} (h : l.Pairwise (· < ·)) : l.Nodup := h.imp (fun h => Int.ne_of_lt h)
theorem find_of_mem {l : List Li} (hn : (l.map Li.id).Nodup) {x : Li} (hx : x ∈ l) : ∃ i, ∃ hi : i < l.length, l[i] = x ∧ l.findIdx? (fun y => y.id == x.id) = some i := by
  obtain ⟨i, hi, rfl⟩ := List.getElem_of_mem hx
  refine ⟨i, hi, rfl, ?_⟩
  rw [List.findIdx?_eq_some_iff_getElem]
  refine ⟨hi, by simp, fun j hj h => ?_⟩
  have h2 : l[j].id = l[i].id := by simpa using h
  exact nodup_ne hn j i (by omega) hi (by omega) h2
theorem countP_erase {l : List Li} {i : Nat} (hi : i < l.length) (f : Li → Bool) (h : f l[i] = false) : (l.eraseIdx i).countP f = l.countP f := by
  rw [List.eraseIdx_eq_take_drop_succ, List.countP_append]
  conv => rhs; rw [← List.take_append_drop i l, List.countP_append, List.drop_eq_getElem_cons hi, List.countP_cons, h]
  simp

theorem next_in {P : List Tg} (hd : P.Nodup) {ty : ByteArray} {bub : Bool} (p : Int → Bool) : ∀ (k : Nat) (d : Dp) (l : List Li), In P ty bub d l → d.st + k = 2 * P.length →
    ((nextK k d l).call = none ∧ rem P ty bub p d l = 0) ∨ ∃ c x, (nextK k d l).call = some c ∧ NxtOf P ty bub p d l (nextK k d l) c x := by
  intro k
  induction k with
  | zero =>
    intro d l h hk
    cases hq : d.q with
    | cons id r => exact .inr (next_fire hd p 0 d l h hq)
    | nil =>
      refine .inl ⟨by unfold nextK; rw [hq]; simp [scan], ?_⟩
      unfold rem
      rw [hq, List.countP_nil, Nat.zero_add, List.countP_eq_zero]
      intro x hx hh
      simp only [Bool.and_eq_true, decide_eq_true_eq] at hh
      have := sg_lt hh.2.1
      omega
  | succ k ih =>
    intro d l h hk
    cases hq : d.q with
    | cons id r => exact .inr (next_fire hd p (k + 1) d l h hq)
    | nil =>
      obtain ⟨D, hD⟩ : ∃ D, ({ d with q := [] } : Dp) = D := ⟨_, rfl⟩
      have e : nextK (k + 1) d l = nextK k (D.begin l) l := by
        rw [nextK, hq]
        simp only [scan, h.stop, Bool.false_eq_true, if_false]
        rw [← hD, h.stop]
      have hDp : D.path = P := by rw [← hD]; exact h.path
      have hDt : D.ty = ty := by rw [← hD]; exact h.ty
      have hDb : D.bub = bub := by rw [← hD]; exact h.bub
      have hDs : D.st = d.st := by rw [← hD]
      have hDq : D.q = [] := by rw [← hD]
      have hDstop : D.stop = false := by rw [← hD]; exact h.stop
      have hDhalt : D.halt = false := by rw [← hD]; exact h.halt
      have hDdone : D.done = false := by rw [← hD]; exact h.done
      obtain ⟨b1, b2, b3⟩ := begin_facts D l hDq
      obtain ⟨s1, s2, s3⟩ := stays_begin D l
      obtain ⟨g1, -, g3⟩ := begin_stage (d := D) (by rw [hDp]; exact hd) (by rw [hDs, hDp]; omega) l hDq
      rw [hDp, hDt, hDb, hDs] at g1
      rw [hDp, hDs] at g3
      rw [hDs] at b1
      rw [hDp] at b2
      clear hD
      have hin : In P ty bub (D.begin l) l := by
        refine ⟨b2, by rw [s1.ty]; exact hDt, by rw [s1.bub]; exact hDb, by rw [s1.stop]; exact hDstop, by rw [s1.halt]; exact hDhalt, by rw [s2]; exact hDdone, ?_, h.ids, ?_, ?_⟩
        · refine ⟨by rw [b1, b2]; omega, by rw [b2, ← h.path]; exact h.lim.path, ?_, h.lim.l⟩
          have := h.lim.l
          omega
        · rw [g1]
          exact h.ids.sublist ((List.filter_sublist).map _)
        · intro id hid
          have hne : (D.begin l).q ≠ [] := by intro e; rw [e] at hid; cases hid
          rw [g1] at hid
          obtain ⟨x, hx, rfl⟩ := List.mem_map.1 hid
          obtain ⟨hx1, hx2⟩ := List.mem_filter.1 hx
          simp only [Bool.and_eq_true, beq_iff_eq] at hx2
          refine ⟨x, hx1, rfl, hx2.1, by rw [b1, hx2.2]; omega, ?_⟩
          rw [g3 hne]
          have hk2 : ¬ (P.length < d.st ∧ bub = false) := by
            intro hk2
            have := stage_skip (ty := ty) hk2 x
            simp [hx2.1, hx2.2] at this
          have := stage_iff hd (ty := ty) (by omega) hk2 x
          rw [hx2.1, hx2.2] at this
          simp only [beq_self_eq_true, Bool.and_true, Bool.and_eq_true] at this
          exact Tg.same_iff.1 this.1.1
      have hrem : rem P ty bub p (D.begin l) l = rem P ty bub p d l := by
        unfold rem
        rw [g1, hq, b1]
        simp only [List.countP_nil, Nat.zero_add, stage, List.countP_map, List.countP_filter]
        have : ∀ (l : List Li), l.countP (fun a => (p ∘ Li.id) a && (actv P ty bub a && (sgOf P a == (d.st : Int)))) + l.countP (fun x => p x.id && (actv P ty bub x && decide (((d.st + 1 : Nat) : Int) ≤ sgOf P x))) = l.countP (fun x => p x.id && (actv P ty bub x && decide ((d.st : Int) ≤ sgOf P x))) := by
          intro l
          induction l with
          | nil => rfl
          | cons x l ih =>
            simp only [List.countP_cons, Function.comp] at ih ⊢
            rw [← ih]
            have : ∀ (A B : Bool) (s t : Int), (if (A && (B && (s == t))) = true then 1 else 0) + (if (A && (B && decide (t + 1 ≤ s))) = true then 1 else 0) = (if (A && (B && decide (t ≤ s))) = true then 1 else (0 : Nat)) := by
              intro A B s t
              cases A <;> cases B <;> simp
              by_cases h1 : s = t
              · subst h1; simp; omega
              · by_cases h2 : t + 1 ≤ s
                · rw [if_neg h1, if_pos h2, if_pos (by omega)]
                · rw [if_neg h1, if_neg h2, if_neg (by omega)]
            have := this (p x.id) (actv P ty bub x) (sgOf P x) d.st
            push_cast at this ⊢
            omega
        exact this l
      rw [e]
      rcases ih _ _ hin (by rw [b1]; omega) with ⟨r1, r2⟩ | ⟨c, x, r1, r2⟩
      · exact .inl ⟨r1, by rw [← hrem]; exact r2⟩
      · refine .inr ⟨c, x, r1, ⟨r2.mem, r2.id, r2.cur, r2.cb, r2.act, r2.inv, by rw [← hrem]; exact r2.rem, r2.st, r2.q, ?_, r2.sub⟩⟩
        rcases r2.ord with q | ⟨q, q2⟩
        · rw [b1] at q; exact .inl (by push_cast at q; omega)
        · rw [b1] at q; exact .inl (by push_cast at q; omega)
where
  next_fire {P : List Tg} (hd : P.Nodup) {ty : ByteArray} {bub : Bool} (p : Int → Bool) (k : Nat) (d : Dp) (l : List Li) (h : In P ty bub d l) {id : Int} {r : List Int} (hq : d.q = id :: r) :
      ∃ c x, (nextK k d l).call = some c ∧ NxtOf P ty bub p d l (nextK k d l) c x := by
    obtain ⟨x, hx, rfl, hxa, hxs, hxt⟩ := h.q id (by rw [hq]; exact List.mem_cons_self)
    have hnd := lt_nodup h.ids
    obtain ⟨i, hi, rfl, hf⟩ := find_of_mem hnd hx
    have hsc : scan l d.q = some (i, l[i].id, r) := by rw [hq]; exact scan_first hf
    have e : nextK k d l = fire d l i l[i].id r := by cases k <;> (unfold nextK; rw [hsc])
    rw [e]
    have hg : l.getD i Li.zero = l[i] := by rw [List.getD_eq_getElem?_getD, List.getElem?_eq_getElem hi]; rfl
    have hqs := h.qs
    rw [hq, List.pairwise_cons] at hqs
    have hcnt : ∀ m : List Li, m = (if l[i].once then l.eraseIdx i else l) → m.countP (fun x => p x.id && (actv P ty bub x && decide ((d.st : Int) ≤ sgOf P x))) = l.countP (fun x => p x.id && (actv P ty bub x && decide ((d.st : Int) ≤ sgOf P x))) := by
      intro m hm
      subst hm
      split
      · refine countP_erase hi _ ?_
        have : ¬ ((d.st : Int) ≤ sgOf P l[i]) := by omega
        simp [this]
      · rfl
    refine ⟨⟨l[i].id, l[i].cb, d.cur, d.ph⟩, l[i], by simp only [fire, hg], ⟨List.getElem_mem hi, rfl, hxt.symm, rfl, hxa, ?_, ?_, hxs, ?_, .inr ⟨hxs, by rw [hq]; exact List.mem_cons_self⟩, ?_⟩⟩
    · have hsub : (fire d l i l[i].id r).l.Sublist l := by
        simp only [fire, hg]
        split
        · exact List.eraseIdx_sublist l i
        · exact List.Sublist.refl _
      refine ⟨h.path, h.ty, h.bub, h.stop, h.halt, h.done, ?_, h.ids.sublist (hsub.map _), hqs.2, fun id' hid => ?_⟩
      · refine ⟨h.lim.st, h.lim.path, ?_, Nat.le_trans hsub.length_le h.lim.l⟩
        have := h.lim.q
        rw [hq] at this
        simp at this
        simp only [fire]; omega
      · obtain ⟨y, hy, rfl, hya, hys, hyt⟩ := h.q id' (by rw [hq]; exact List.mem_cons_of_mem _ hid)
        refine ⟨y, ?_, rfl, hya, hys, hyt⟩
        simp only [fire, hg]
        split
        · obtain ⟨j, hj, rfl⟩ := List.getElem_of_mem hy
          refine List.mem_eraseIdx_iff_getElem.2 ⟨j, hj, fun e => ?_, rfl⟩
          subst e
          have := hqs.1 _ hid
          omega
        · exact hy
    · have h2 := hcnt (fire d l i l[i].id r).l (by simp only [fire, hg])
      have h3 : rem P ty bub p (fire d l i l[i].id r).d (fire d l i l[i].id r).l = r.countP p + l.countP (fun x => p x.id && (actv P ty bub x && decide ((d.st : Int) ≤ sgOf P x))) := by
        rw [← h2]; rfl
      rw [h3]
      unfold rem
      rw [hq, List.countP_cons]
      omega
    · intro id' hid
      exact hqs.1 _ hid
    · simp only [fire, hg]
      split
      · exact List.eraseIdx_sublist l i
      · exact List.Sublist.refl _

theorem next_in' {P : List Tg} (hd : P.Nodup) {ty : ByteArray} {bub : Bool} (p : Int → Bool) {d : Dp} {l : List Li} (h : In P ty bub d l) :
    ((d.next l).call = none ∧ rem P ty bub p d l = 0) ∨ ∃ c x, (d.next l).call = some c ∧ NxtOf P ty bub p d l (d.next l) c x := by
  rw [next_nextK h.done h.halt]
  have hst := h.lim.st
  rw [h.path] at hst
  have hrem : rem P ty bub p { d with pas := false } l = rem P ty bub p d l := rfl
  have hN := next_in hd p (2 * d.path.length - d.st) { d with pas := false } l ⟨h.path, h.ty, h.bub, h.stop, h.halt, h.done, ⟨h.lim.st, h.lim.path, h.lim.q, h.lim.l⟩, h.ids, h.qs, h.q⟩ (by simp only [h.path]; omega)
  rcases hN with ⟨q1, q2⟩ | ⟨c, x, q1, q2⟩
  · exact .inl ⟨q1, q2⟩
  · exact .inr ⟨c, x, q1, ⟨q2.mem, q2.id, q2.cur, q2.cb, q2.act, q2.inv, q2.rem, q2.st, q2.q, q2.ord, q2.sub⟩⟩

theorem in_new {P : List Tg} {ty : ByteArray} {bub can : Bool} {l : List Li} (hP : P.length ≤ 12) (hl : l.length ≤ 1000) (h : (l.map Li.id).Pairwise (· < ·)) : In P ty bub (dNew ty bub can P) l :=
  ⟨rfl, rfl, rfl, rfl, rfl, rfl, ⟨by simp [dNew], by simpa [dNew] using hP, by simp [dNew], hl⟩, h, by simp [dNew], by simp [dNew]⟩
theorem rem_new (P : List Tg) (ty : ByteArray) (bub can : Bool) (l : List Li) : rem P ty bub (fun _ => true) (dNew ty bub can P) l = l.countP (actv P ty bub) := by
  unfold rem
  change List.countP _ [] + l.countP (fun x => true && (actv P ty bub x && decide (((0 : Nat) : Int) ≤ sgOf P x))) = _
  rw [List.countP_nil, Nat.zero_add]
  refine List.countP_congr fun x _ => ?_
  simp only [Bool.true_and, Bool.and_eq_true, decide_eq_true_eq]
  constructor
  · exact fun h => h.1
  · exact fun h => ⟨h, by have := (sg_lt h).1; omega⟩
end Go.Proofs.Ytianjcbofgdfdaa
