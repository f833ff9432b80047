/-
  Plain facts: a second dispatch over what a first one left (EventOnce); bounds of a dispatch under way.
-/
import Derived.Test.YtianjcbofgdfdaaEo
set_option linter.unusedVariables false
set_option linter.unusedSimpArgs false
namespace Go.Proofs.Ytianjcbofgdfdaa
open Go.RowKit Go.K Go.K.Ev

structure Lim (d : Dp) (l : List Li) : Prop where
  st : d.st ≤ 2 * d.path.length
  path : d.path.length ≤ 12
  q : d.q.length ≤ 10000
  l : l.length ≤ 1000

theorem lim_next {d : Dp} {l : List Li} (h : Lim d l) : Lim (d.next l).d (d.next l).l := by
  by_cases hd : d.done = true
  · unfold Dp.next
    rw [if_pos hd]
    exact ⟨h.st, h.path, h.q, h.l⟩
  · obtain ⟨h1, h2, h2b, h3⟩ := next_step d l (by have := h.l; omega) h.st (by simpa using hd)
    refine ⟨by rw [h1.path]; exact h2, by rw [h1.path]; exact h.path, ?_, ?_⟩
    · have e : ({ d with pas := false } : Dp).q = d.q := rfl
      rw [e] at h2b
      have := h.q
      have := h.l
      omega
    · rcases h3 with ⟨a1, a2, a3, a4, a5⟩ | ⟨c, i, hi, a1, a2, a3, a4, a5, a6, a7, a8, a9, a10⟩
      · rw [a4]; exact h.l
      · rw [a9]
        split
        · have := List.length_eraseIdx_le l i
          have := h.l
          omega
        · exact h.l

def hasId (F : List Li) (id : Int) : Bool := F.any (fun x => x.id == id)
def red (F : List Li) (q : List Int) : List Int := q.filter (hasId F)

theorem hasId_iff {F : List Li} {id : Int} : hasId F id = true ↔ ∃ x ∈ F, x.id = id := by simp [hasId]
theorem findIdx_none {F : List Li} {id : Int} : F.findIdx? (fun x => x.id == id) = none ↔ hasId F id = false := by
  rw [List.findIdx?_eq_none_iff]
  unfold hasId
  rw [List.any_eq_false]
  simp
theorem findIdx_some {F : List Li} {id : Int} (h : hasId F id = true) : ∃ i, F.findIdx? (fun x => x.id == id) = some i := by
  cases hf : F.findIdx? (fun x => x.id == id) with
  | some i => exact ⟨i, rfl⟩
  | none => rw [findIdx_none.1 hf] at h; cases h

theorem scan_none {F : List Li} : ∀ {q : List Int}, scan F q = none ↔ red F q = []
  | [] => by simp [scan, red]
  | a :: q => by
    unfold scan
    cases hf : F.findIdx? (fun x => x.id == a) with
    | some i =>
      have : hasId F a = true := by
        cases h : hasId F a with
        | true => rfl
        | false => rw [findIdx_none.2 h] at hf; cases hf
      simp [red, this]
    | none =>
      have := findIdx_none.1 hf
      simp only [red, List.filter_cons, this, Bool.false_eq_true, if_false]
      exact scan_none
theorem scan_cons {F : List Li} : ∀ {q : List Int} {i : Nat} {id : Int} {r : List Int}, scan F q = some (i, id, r) → red F q = id :: red F r ∧ hasId F id = true ∧ F.findIdx? (fun x => x.id == id) = some i
  | [], _, _, _, h => by simp [scan] at h
  | a :: q, i, id, r, h => by
    unfold scan at h
    cases hf : F.findIdx? (fun x => x.id == a) with
    | some j =>
      rw [hf] at h
      simp at h
      obtain ⟨rfl, rfl, rfl⟩ := h
      have : hasId F a = true := by
        cases h : hasId F a with
        | true => rfl
        | false => rw [findIdx_none.2 h] at hf; cases hf
      exact ⟨by simp [red, this], this, hf⟩
    | none =>
      rw [hf] at h
      have ih := scan_cons h
      have := findIdx_none.1 hf
      simp only [red, List.filter_cons, this, Bool.false_eq_true, if_false]
      exact ih
theorem scan_of {F : List Li} {q : List Int} {id : Int} {t : List Int} (h : red F q = id :: t) : ∃ i r, scan F q = some (i, id, r) ∧ red F r = t ∧ F.findIdx? (fun x => x.id == id) = some i := by
  cases hs : scan F q with
  | none => rw [scan_none.1 hs] at h; cases h
  | some p =>
    obtain ⟨i, id', r⟩ := p
    obtain ⟨h1, h2, h3⟩ := scan_cons hs
    rw [h] at h1
    cases h1
    exact ⟨i, r, rfl, rfl, h3⟩

/-- the same dispatch but for the queue, which agrees on what F holds -/
structure Eqd (F : List Li) (a b : Dp) : Prop where
  ty : a.ty = b.ty
  bub : a.bub = b.bub
  path : a.path = b.path
  st : a.st = b.st
  cur : a.cur = b.cur
  ph : a.ph = b.ph
  stop : a.stop = b.stop
  halt : a.halt = b.halt
  done : a.done = b.done
  q : red F a.q = red F b.q
theorem Eqd.refl (F : List Li) (a : Dp) : Eqd F a a := ⟨rfl, rfl, rfl, rfl, rfl, rfl, rfl, rfl, rfl, rfl⟩
theorem Eqd.symm {F : List Li} {a b : Dp} (h : Eqd F a b) : Eqd F b a := ⟨h.ty.symm, h.bub.symm, h.path.symm, h.st.symm, h.cur.symm, h.ph.symm, h.stop.symm, h.halt.symm, h.done.symm, h.q.symm⟩
theorem Eqd.trans {F : List Li} {a b c : Dp} (h : Eqd F a b) (k : Eqd F b c) : Eqd F a c := ⟨h.ty.trans k.ty, h.bub.trans k.bub, h.path.trans k.path, h.st.trans k.st, h.cur.trans k.cur, h.ph.trans k.ph, h.stop.trans k.stop, h.halt.trans k.halt, h.done.trans k.done, h.q.trans k.q⟩
structure Eqo (F : List Li) (a b : Out) : Prop where
  call : a.call = b.call
  l : a.l = b.l
  d : Eqd F a.d b.d
theorem Eqo.trans {F : List Li} {a b c : Out} (h : Eqo F a b) (k : Eqo F b c) : Eqo F a c := ⟨h.call.trans k.call, h.l.trans k.l, h.d.trans k.d⟩
theorem Eqo.symm {F : List Li} {a b : Out} (h : Eqo F a b) : Eqo F b a := ⟨h.call.symm, h.l.symm, h.d.symm⟩

theorem red_nil (F : List Li) : red F [] = [] := rfl
theorem eqd_begin {F l : List Li} {a b : Dp} (h : Eqd F a b) (hs : ∀ t k c, red F (stI l t k c) = red F (stI F t k c)) : Eqd F (Dp.begin { a with q := [] } l) (Dp.begin { b with q := [] } F) := by
  obtain ⟨h1, h2, h3, h4, h5, h6, h7, h8, h9, h10⟩ := h
  unfold Dp.begin
  simp only [h1, h2, h3, h4]
  split
  · constructor <;> first | rfl | assumption
  · constructor <;> first | rfl | assumption | simpa using hs _ _ _
theorem eqd_fin {F : List Li} {a b : Dp} (h : Eqd F a b) : Eqd F a.fin b.fin := ⟨h.ty, h.bub, h.path, h.st, rfl, rfl, h.stop, h.halt, rfl, rfl⟩

theorem nextK_congr {F : List Li} : ∀ (k : Nat) (a b : Dp), Eqd F a b → Eqo F (nextK k a F) (nextK k b F)
  | k, a, b, h => by
    cases hr : red F a.q with
    | cons id t =>
      obtain ⟨i, r, s1, s2, s3⟩ := scan_of hr
      obtain ⟨i', r', t1, t2, t3⟩ := scan_of (h.q ▸ hr)
      have : i = i' := by rw [s3] at t3; cases t3; rfl
      subst this
      have e : ∀ (k : Nat) (d : Dp) (r : List Int), scan F d.q = some (i, id, r) → nextK k d F = fire d F i id r := fun k d r hq => by cases k <;> (unfold nextK; rw [hq])
      rw [e k a r s1, e k b r' t1]
      refine ⟨?_, rfl, ⟨h.ty, h.bub, h.path, h.st, h.cur, h.ph, h.stop, h.halt, h.done, ?_⟩⟩
      · simp only [fire, h.cur, h.ph]
      · simp only [fire]; rw [s2, t2]
    | nil =>
      have s1 := scan_none.2 hr
      have t1 := scan_none.2 (h.q ▸ hr)
      cases k with
      | zero =>
        unfold nextK
        rw [s1, t1]
        exact ⟨rfl, rfl, eqd_fin h⟩
      | succ k =>
        unfold nextK
        rw [s1, t1]
        by_cases hb : b.stop = true
        · simp only [h.stop.trans hb, hb, if_true]
          exact ⟨rfl, rfl, eqd_fin h⟩
        · have hb' : b.stop = false := by simpa using hb
          have ha' := h.stop.trans hb'
          simp only [ha', hb', Bool.false_eq_true, if_false]
          have := nextK_congr k _ _ (eqd_begin (l := F) h (fun _ _ _ => rfl))
          simpa only [ha', hb'] using this

theorem filter_of_sub {l : List Li} : ∀ {F : List Li}, F.Sublist l → (l.map Li.id).Nodup → l.filter (fun x => hasId F x.id) = F := by
  induction l with
  | nil => intro F h _; cases h; rfl
  | cons a l ih =>
    intro F h hn
    rw [List.map_cons, List.nodup_cons] at hn
    cases h with
    | cons _ h =>
      have : hasId F a.id = false := by
        cases hh : hasId F a.id with
        | false => rfl
        | true =>
          obtain ⟨x, hx, hxe⟩ := hasId_iff.1 hh
          exact absurd (List.mem_map.2 ⟨x, h.subset hx, hxe⟩) hn.1
      rw [List.filter_cons, this]
      exact ih h hn.2
    | @cons_cons F' _ _ h =>
      have e1 : hasId (a :: F') a.id = true := by simp [hasId]
      rw [List.filter_cons, e1]
      simp only [if_true]
      congr 1
      rw [← ih h hn.2]
      refine List.filter_congr fun x hx => ?_
      rw [ih h hn.2]
      have : a.id ≠ x.id := fun e => hn.1 (List.mem_map.2 ⟨x, hx, e.symm⟩)
      simp [hasId, this]
theorem red_stI {F l : List Li} (h : F.Sublist l) (hn : (l.map Li.id).Nodup) (t : Tg) (k : ByteArray) (c : Bool) : red F (stI l t k c) = red F (stI F t k c) := by
  have e : ∀ m : List Li, red F (stI m t k c) = (((m.filter (fun x => hasId F x.id)).filter (fun x => Tg.same x.tg t && (x.ty.toList == k.toList))).filter (fun x => x.cap == c)).map Li.id := by
    intro m
    unfold red stI hits
    rw [List.filter_map, List.filter_filter, List.filter_filter, List.filter_filter, List.filter_filter]
    congr 1
    refine List.filter_congr fun x _ => ?_
    simp only [Function.comp]
    cases hasId F x.id <;> simp
  rw [e, e, filter_of_sub h hn]
  congr 3
  symm
  rw [List.filter_eq_self]
  intro x hx
  exact hasId_iff.2 ⟨x, hx, rfl⟩

theorem nodup_ne {l : List Li} (hn : (l.map Li.id).Nodup) (i j : Nat) (hi : i < l.length) (hj : j < l.length) (h : i ≠ j) : l[i].id ≠ l[j].id := by
  have hp := List.pairwise_iff_getElem.1 hn
  rcases Nat.lt_or_gt_of_ne h with q | q
  · have := hp i j (by simpa using hi) (by simpa using hj) q
    simpa using this
  · have := hp j i (by simpa using hj) (by simpa using hi) q
    intro e
    exact this (by simp [e])
theorem sub_at {F l : List Li} (h : F.Sublist l) (hn : (l.map Li.id).Nodup) {id : Int} {i j : Nat} (hi : l.findIdx? (fun x => x.id == id) = some i) (hj : F.findIdx? (fun x => x.id == id) = some j) : F.getD j Li.zero = l.getD i Li.zero := by
  obtain ⟨i1, i2, -⟩ := List.findIdx?_eq_some_iff_getElem.1 hi
  obtain ⟨j1, j2, -⟩ := List.findIdx?_eq_some_iff_getElem.1 hj
  have e : F[j] ∈ l := h.subset (List.getElem_mem j1)
  obtain ⟨m, m1, m2⟩ := List.getElem_of_mem e
  have : m = i := by
    have hp := nodup_ne hn
    have e1 : l[m].id = l[i].id := by
      have a1 : F[j].id = id := by simpa using j2
      have a2 : l[i].id = id := by simpa using i2
      rw [m2, a1, a2]
    rcases Nat.lt_trichotomy m i with q | q | q
    · exact absurd e1 (hp m i m1 i1 (by omega))
    · exact q
    · exact absurd e1 (hp m i m1 i1 (by omega))
  subst this
  rw [List.getD_eq_getElem?_getD, List.getD_eq_getElem?_getD, List.getElem?_eq_getElem j1, List.getElem?_eq_getElem i1, Option.getD_some, Option.getD_some, m2]

/-- a step of the first run, and the same dispatch over what is left at last -/
def Sim (F : List Li) (o : Out) (p : Out) : Prop :=
  (o.call = none → p.call = none) ∧
  ∀ c, o.call = some c → (hasId F c.id = true → p.call = some c ∧ Eqd F o.d p.d) ∧ (hasId F c.id = false → Eqo F p (nextK (2 * o.d.path.length - o.d.st) o.d F))

theorem sim_fire {F l : List Li} (h : F.Sublist l) (hn : (l.map Li.id).Nodup) (k : Nat) (a b : Dp) (hab : Eqd F a b) (hk : a.st + k = 2 * a.path.length) {i : Nat} {id : Int} {r : List Int} (hs : scan l a.q = some (i, id, r)) : Sim F (fire a l i id r) (nextK k b F) := by
  obtain ⟨s1, s2, s3⟩ := scan_cons hs
  have hrr : ∀ q : List Int, red F (red l q) = red F q := by
    intro q
    unfold red
    rw [List.filter_filter]
    refine List.filter_congr fun x _ => ?_
    cases hF : hasId F x with
    | false => simp
    | true =>
      obtain ⟨y, hy, e⟩ := hasId_iff.1 hF
      have : hasId l x = true := hasId_iff.2 ⟨y, h.subset hy, e⟩
      simp [this]
  have hq : red F a.q = if hasId F id then id :: red F r else red F r := by
    rw [← hrr, s1]
    unfold red
    rw [List.filter_cons]
    have := hrr r
    unfold red at this
    split <;> simp [this]
  refine ⟨fun e => (by simp [fire] at e), fun c hc => ?_⟩
  simp only [fire, Option.some.injEq] at hc
  subst hc
  simp only
  refine ⟨fun hF => ?_, fun hF => ?_⟩
  · rw [if_pos hF] at hq
    obtain ⟨j, r', t1, t2, t3⟩ := scan_of (hab.q ▸ hq)
    have e : nextK k b F = fire b F j id r' := by cases k <;> (unfold nextK; rw [t1])
    rw [e]
    refine ⟨?_, ⟨hab.ty, hab.bub, hab.path, hab.st, hab.cur, hab.ph, hab.stop, hab.halt, hab.done, ?_⟩⟩
    · simp only [fire, sub_at h hn s3 t3, hab.cur, hab.ph]
    · simp only [fire]; exact t2.symm
  · rw [if_neg (by simp [hF])] at hq
    have e : 2 * (fire a l i id r).d.path.length - (fire a l i id r).d.st = k := by simp only [fire]; omega
    rw [e]
    refine nextK_congr k b _ ⟨hab.ty.symm, hab.bub.symm, hab.path.symm, hab.st.symm, hab.cur.symm, hab.ph.symm, hab.stop.symm, hab.halt.symm, hab.done.symm, ?_⟩
    rw [← hab.q, hq]; rfl
theorem nextK_sim {F l : List Li} (h : F.Sublist l) (hn : (l.map Li.id).Nodup) : ∀ (k : Nat) (a b : Dp), Eqd F a b → a.st + k = 2 * a.path.length → Sim F (nextK k a l) (nextK k b F) := by
  intro k
  induction k with
  | zero =>
    intro a b hab hk
    cases hs : scan l a.q with
    | some p =>
      obtain ⟨i, id, r⟩ := p
      have e : nextK 0 a l = fire a l i id r := by unfold nextK; rw [hs]
      rw [e]
      exact sim_fire h hn 0 a b hab hk hs
    | none =>
      have e : nextK 0 a l = ⟨none, a.fin, l⟩ := by unfold nextK; rw [hs]
      have hb : red F b.q = [] := by
        rw [← hab.q]
        have := scan_none.1 hs
        unfold red at this ⊢
        rw [List.filter_eq_nil_iff] at this ⊢
        intro x hx hF
        obtain ⟨y, hy, e⟩ := hasId_iff.1 hF
        exact this x hx (hasId_iff.2 ⟨y, h.subset hy, e⟩)
      have e2 : nextK 0 b F = ⟨none, b.fin, F⟩ := by unfold nextK; rw [scan_none.2 hb]
      rw [e, e2]
      exact ⟨fun _ => rfl, fun c hc => by cases hc⟩
  | succ k ih =>
    intro a b hab hk
    cases hs : scan l a.q with
    | some p =>
      obtain ⟨i, id, r⟩ := p
      have e : nextK (k + 1) a l = fire a l i id r := by unfold nextK; rw [hs]
      rw [e]
      exact sim_fire h hn (k + 1) a b hab hk hs
    | none =>
      have hb : red F b.q = [] := by
        rw [← hab.q]
        have := scan_none.1 hs
        unfold red at this ⊢
        rw [List.filter_eq_nil_iff] at this ⊢
        intro x hx hF
        obtain ⟨y, hy, e⟩ := hasId_iff.1 hF
        exact this x hx (hasId_iff.2 ⟨y, h.subset hy, e⟩)
      have e : nextK (k + 1) a l = if a.stop then ⟨none, a.fin, l⟩ else nextK k (Dp.begin { a with q := [] } l) l := by rw [nextK, hs]
      have e2 : nextK (k + 1) b F = if b.stop then ⟨none, b.fin, F⟩ else nextK k (Dp.begin { b with q := [] } F) F := by rw [nextK, scan_none.2 hb]
      rw [e, e2]
      by_cases hb : b.stop = true
      · rw [if_pos (hab.stop.trans hb), if_pos hb]
        exact ⟨fun _ => rfl, fun c hc => by cases hc⟩
      · rw [if_neg (by rw [hab.stop]; exact hb), if_neg hb]
        obtain ⟨b1, b2, -⟩ := begin_facts { a with q := [] } l rfl
        exact ih _ _ (eqd_begin hab (red_stI h hn)) (by rw [b1, b2]; simp only; omega)

/-- the calls of a dispatch without changes, and what it leaves -/
inductive Tr : Dp → List Li → List Int → List Li → Prop
  | stop {d : Dp} {l : List Li} (h : (d.next l).call = none) (hl : (d.next l).l = l) : Tr d l [] l
  | step {d : Dp} {l : List Li} {c : Cl} {cs : List Int} {F : List Li} (h : (d.next l).call = some c) (ht : Tr (d.next l).d (d.next l).l cs F) : Tr d l (c.id :: cs) F

/-- a dispatch that goes on -/
structure Go1 (d : Dp) (l : List Li) : Prop where
  lim : Lim d l
  done : d.done = false
  halt : d.halt = false
  ids : (l.map Li.id).Nodup

theorem go1_next {d : Dp} {l : List Li} (h : Go1 d l) {c : Cl} (hc : (d.next l).call = some c) : Go1 (d.next l).d (d.next l).l ∧ mu (d.next l).d < mu d ∧
    ∃ i, ∃ hi : i < l.length, l[i].id = c.id ∧ l.findIdx? (fun x => x.id == c.id) = some i ∧ (d.next l).l = if l[i].once then l.eraseIdx i else l := by
  obtain ⟨h1, h2, h2b, h3⟩ := next_step d l (by have := h.lim.l; omega) h.lim.st h.done
  rcases h3 with ⟨a1, -⟩ | ⟨c', i, hi, a1, a2, a3, a4, a5, a6, a7, a8, a9, a10⟩
  · rw [a1] at hc; cases hc
  · rw [a1] at hc
    cases hc
    refine ⟨⟨lim_next h.lim, by rw [a8]; exact h.done, by rw [h1.halt]; exact h.halt, ?_⟩, a10, i, hi, a3, a2, a9⟩
    rw [a9]
    split
    · exact h.ids.sublist ((List.eraseIdx_sublist l i).map _)
    · exact h.ids
theorem tr_ex : ∀ (m : Nat) (d : Dp) (l : List Li), mu d ≤ m → Go1 d l → ∃ cs F, Tr d l cs F ∧ cs.length ≤ mu d := by
  intro m
  induction m with
  | zero =>
    intro d l hm h
    cases hc : (d.next l).call with
    | none =>
      obtain ⟨h1, h2, h2b, h3⟩ := next_step d l (by have := h.lim.l; omega) h.lim.st h.done
      rcases h3 with ⟨a1, a2, a3, a4, a5⟩ | ⟨c', i, hi, a1, -⟩
      · exact ⟨[], l, .stop hc a4, by simp⟩
      · rw [hc] at a1; cases a1
    | some c => have := (go1_next h hc).2.1; omega
  | succ m ih =>
    intro d l hm h
    cases hc : (d.next l).call with
    | none =>
      obtain ⟨h1, h2, h2b, h3⟩ := next_step d l (by have := h.lim.l; omega) h.lim.st h.done
      rcases h3 with ⟨a1, a2, a3, a4, a5⟩ | ⟨c', i, hi, a1, -⟩
      · exact ⟨[], l, .stop hc a4, by simp⟩
      · rw [hc] at a1; cases a1
    | some c =>
      obtain ⟨g1, g2, -⟩ := go1_next h hc
      obtain ⟨cs, F, ht, hl⟩ := ih _ _ (by omega) g1
      exact ⟨c.id :: cs, F, .step hc ht, by simp; omega⟩
theorem erase_sub_no {l : List Li} (hn : (l.map Li.id).Nodup) {i : Nat} (hi : i < l.length) : ∀ x ∈ l.eraseIdx i, x.id ≠ l[i].id := by
  intro x hx e
  obtain ⟨j, hj, hji, rfl⟩ := List.mem_eraseIdx_iff_getElem.1 hx
  exact nodup_ne hn j i hj hi hji e
theorem tr_sub {d : Dp} {l : List Li} {cs : List Int} {F : List Li} (ht : Tr d l cs F) : Go1 d l → F.Sublist l ∧ ∀ x ∈ l, x.once = false → x ∈ F := by
  induction ht with
  | stop h hl => intro _; exact ⟨List.Sublist.refl _, fun x hx _ => hx⟩
  | @step d l c cs F h ht ih =>
    intro g
    obtain ⟨g1, g2, i, hi, e1, e2, e3⟩ := go1_next g h
    obtain ⟨i1, i2⟩ := ih g1
    rw [e3] at i1 i2
    by_cases ho : l[i].once = true
    · rw [if_pos ho] at i1 i2
      refine ⟨i1.trans (List.eraseIdx_sublist l i), fun x hx hxo => i2 x ?_ hxo⟩
      obtain ⟨j, hj, rfl⟩ := List.getElem_of_mem hx
      refine List.mem_eraseIdx_iff_getElem.2 ⟨j, hj, fun e => ?_, rfl⟩
      subst e
      rw [ho] at hxo; cases hxo
    · rw [if_neg ho] at i1 i2
      exact ⟨i1, i2⟩

/-- the second run at a place of the first one's -/
def Mt (F : List Li) (d d' : Dp) : Prop := Eqo F (nextK (2 * d'.path.length - d'.st) d' F) (nextK (2 * d.path.length - d.st) d F)
theorem next_nextK {d : Dp} {l : List Li} (hd : d.done = false) (hh : d.halt = false) : d.next l = nextK (2 * d.path.length - d.st) { d with pas := false } l := by
  unfold Dp.next
  rw [if_neg (by simp [hd]), if_neg (by simp [hh])]
theorem mt_pas {F : List Li} {d : Dp} (b : Bool) : Eqd F { d with pas := b } d := ⟨rfl, rfl, rfl, rfl, rfl, rfl, rfl, rfl, rfl, rfl⟩
theorem mt_end {F l : List Li} {d d' : Dp} {cs : List Int} (g : Go1 d l) (g' : Go1 d' F) (hm : Mt F d d') (ht : Tr d l [] F) : (d'.next F).call = none := by
  cases ht with
  | stop h hl =>
    rw [next_nextK g'.done g'.halt, (nextK_congr _ _ _ (mt_pas false)).call, hm.call]
    rw [next_nextK g.done g.halt, (nextK_congr _ _ _ (mt_pas false)).call] at h
    exact h
theorem mt_step {F l : List Li} {d d' : Dp} {id : Int} {cs : List Int} (g : Go1 d l) (g' : Go1 d' F) (hm : Mt F d d') (ht : Tr d l (id :: cs) F) :
    ∃ (e : Dp) (l2 : List Li) (x : Li), Go1 e l2 ∧ Tr e l2 cs F ∧ l2.Sublist l ∧ x ∈ l ∧ x.id = id ∧
      (x.once = true → Mt F e d') ∧
      (x.once = false → ∃ c, (d'.next F).call = some c ∧ c.id = id ∧ (d'.next F).l = F ∧ Go1 (d'.next F).d F ∧ Mt F e (d'.next F).d) := by
  generalize hcs : id :: cs = CS at ht
  cases ht with
  | stop h hl => cases hcs
  | @step _ _ c cs' _ h ht =>
    cases hcs
    obtain ⟨g1, g2, i, hi, e1, e2, e3⟩ := go1_next g h
    obtain ⟨s1, s2⟩ := tr_sub ht g1
    have hsub : F.Sublist l := by
      refine s1.trans ?_
      rw [e3]
      split
      · exact List.eraseIdx_sublist l i
      · exact List.Sublist.refl _
    have hnk := next_nextK (l := l) g.done g.halt
    have hsim := nextK_sim hsub g.ids (2 * d.path.length - d.st) { d with pas := false } d (mt_pas false) (by have := g.lim.st; simp only; omega)
    rw [← hnk] at hsim
    obtain ⟨q1, q2⟩ := hsim.2 c h
    refine ⟨_, _, l[i], g1, ht, ?_, List.getElem_mem hi, e1, fun ho => ?_, fun ho => ?_⟩
    · rw [e3]
      split
      · exact List.eraseIdx_sublist l i
      · exact List.Sublist.refl _
    · have hno : hasId F c.id = false := by
        cases hh : hasId F c.id with
        | false => rfl
        | true =>
          obtain ⟨x, hx, hxe⟩ := hasId_iff.1 hh
          have := s1.subset hx
          rw [e3, if_pos ho] at this
          exact absurd (hxe.trans e1.symm) (erase_sub_no g.ids hi x this)
      exact hm.trans (q2 hno)
    · have hyes : hasId F c.id = true := by
        refine hasId_iff.2 ⟨l[i], s2 _ ?_ ho, e1⟩
        rw [e3, if_neg (by simp [ho])]
        exact List.getElem_mem hi
      obtain ⟨r1, r2⟩ := q1 hyes
      have hn' := next_nextK (l := F) g'.done g'.halt
      have hc1 := nextK_congr (F := F) (2 * d'.path.length - d'.st) _ _ (mt_pas (d := d') false)
      have hc : (d'.next F).call = some c := by rw [hn', hc1.call, hm.call, r1]
      obtain ⟨k1, k2, j, hj, f1, f2, f3⟩ := go1_next g' hc
      have hx : F[j].once = false := by
        have hl : F[j] ∈ l := hsub.subset (List.getElem_mem hj)
        have : F.getD j Li.zero = l.getD i Li.zero := sub_at hsub g.ids e2 f2
        rw [List.getD_eq_getElem?_getD, List.getD_eq_getElem?_getD, List.getElem?_eq_getElem hj, List.getElem?_eq_getElem hi, Option.getD_some, Option.getD_some] at this
        rw [this]; exact ho
      rw [if_neg (by simp [hx])] at f3
      rw [f3] at k1
      refine ⟨c, hc, rfl, f3, k1, ?_⟩
      have hd : Eqd F (d'.next F).d (d.next l).d := by
        rw [hn']
        exact (hc1.d.trans hm.d).trans r2.symm
      have hst : 2 * (d'.next F).d.path.length - (d'.next F).d.st = 2 * (d.next l).d.path.length - (d.next l).d.st := by rw [hd.path, hd.st]
      unfold Mt
      rw [hst]
      exact nextK_congr _ _ _ hd
end Go.Proofs.Ytianjcbofgdfdaa
