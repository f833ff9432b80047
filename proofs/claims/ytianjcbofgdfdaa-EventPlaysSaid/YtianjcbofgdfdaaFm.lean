/-
  The chapter's dispatch in plain words, and that it is the program's.
-/
import Derived.Test.YtianjcbofgdfdaaFf
set_option linter.unusedVariables false
set_option linter.unusedSimpArgs false
namespace Go.Proofs.Ytianjcbofgdfdaa
open Go.RowKit Go.K Go.K.Ev

/-- the chapter's run: its flags stand in a dispatch -/
structure Rn where
  d : Dp
  S : Ls
  calls : List Cl

def callR (acs : List Ac) (r : Rn) (x : Li) (i : Nat) (t : Tg) (ph : Int) : Rn :=
  ⟨(actF r.calls.length ({ r.d with pas := x.pas }, if x.once then ⟨r.S.l.eraseIdx i, r.S.nx⟩ else r.S) acs).1, (actF r.calls.length ({ r.d with pas := x.pas }, if x.once then ⟨r.S.l.eraseIdx i, r.S.nx⟩ else r.S) acs).2, r.calls ++ [⟨x.id, x.cb, t, ph⟩]⟩
/-- one number of a stage -/
def oneR (acs : List Ac) (t : Tg) (ph : Int) (r : Rn) (id : Int) : Rn :=
  if r.d.halt then r else match r.S.l.findIdx? (fun x => x.id == id) with
    | some i => callR acs r (r.S.l.getD i Li.zero) i t ph
    | none => r
def procQ (acs : List Ac) (t : Tg) (ph : Int) (r : Rn) (q : List Int) : Rn := q.foldl (oneR acs t ph) r
def stageR (acs : List Ac) (ty : ByteArray) (t : Tg) (c : Bool) (ph : Int) (r : Rn) : Rn :=
  if r.d.stop then r else procQ acs t ph r (stI r.S.l t ty c)
/-- the stages from s on -/
def stepR (acs : List Ac) (P : List Tg) (ty : ByteArray) (bub : Bool) (r : Rn) (s : Nat) : Rn :=
  if P.length < s ∧ bub = false then r else stageR acs ty (stT P s) (decide (s < P.length)) (stP P.length s) r
def restR (acs : List Ac) (P : List Tg) (ty : ByteArray) (bub : Bool) (r : Rn) (s : Nat) : Rn := (List.range' s (2 * P.length - s)).foldl (stepR acs P ty bub) r

theorem actF_flags (m : Int) : ∀ (acs : List Ac) (d e : Dp) (S : Ls), d.stop = e.stop → d.halt = e.halt → d.prev = e.prev → d.can = e.can → d.pas = e.pas →
    (actF m (d, S) acs).2 = (actF m (e, S) acs).2 ∧ (actF m (d, S) acs).1.stop = (actF m (e, S) acs).1.stop ∧ (actF m (d, S) acs).1.halt = (actF m (e, S) acs).1.halt ∧ (actF m (d, S) acs).1.prev = (actF m (e, S) acs).1.prev
  | [], d, e, S, h1, h2, h3, h4, h5 => ⟨rfl, h1, h2, h3⟩
  | a :: acs, d, e, S, h1, h2, h3, h4, h5 => by
    have q : ∀ d, actF m (d, S) (a :: acs) = actF m (act1 m (d, S) a) acs := fun _ => rfl
    rw [q, q]
    unfold act1
    split
    · split
      · exact actF_flags m acs _ _ _ h1 h2 h3 h4 h5
      · split
        · exact actF_flags m acs _ _ _ h1 h2 h3 h4 h5
        · split
          · exact actF_flags m acs _ _ _ rfl h2 h3 h4 h5
          · split
            · exact actF_flags m acs _ _ _ rfl rfl h3 h4 h5
            · split
              · exact actF_flags m acs _ _ _ h1 h2 (by simp only [prevB, h3, h4, h5]) h4 h5
              · exact actF_flags m acs _ _ _ h1 h2 h3 h4 h5
    · exact actF_flags m acs _ _ _ h1 h2 h3 h4 h5
/-- halted means stopped -/
theorem actF_hs (m : Int) : ∀ (acs : List Ac) (d : Dp) (S : Ls), (d.halt = true → d.stop = true) → ((actF m (d, S) acs).1.halt = true → (actF m (d, S) acs).1.stop = true)
  | [], d, S, h => h
  | a :: acs, d, S, h => by
    have q : actF m (d, S) (a :: acs) = actF m (act1 m (d, S) a) acs := rfl
    rw [q]
    unfold act1
    repeat' split
    all_goals first
      | exact actF_hs m acs _ _ h
      | exact actF_hs m acs _ _ (fun _ => rfl)

/-- equal but for what the chapter does not keep -/
structure Eqr (a b : Rn) : Prop where
  S : a.S = b.S
  calls : a.calls = b.calls
  stop : a.d.stop = b.d.stop
  halt : a.d.halt = b.d.halt
  prev : a.d.prev = b.d.prev
  can : a.d.can = b.d.can
theorem Eqr.refl (a : Rn) : Eqr a a := ⟨rfl, rfl, rfl, rfl, rfl, rfl⟩
theorem Eqr.trans {a b c : Rn} (h : Eqr a b) (k : Eqr b c) : Eqr a c := ⟨h.S.trans k.S, h.calls.trans k.calls, h.stop.trans k.stop, h.halt.trans k.halt, h.prev.trans k.prev, h.can.trans k.can⟩
theorem Eqr.symm {a b : Rn} (h : Eqr a b) : Eqr b a := ⟨h.S.symm, h.calls.symm, h.stop.symm, h.halt.symm, h.prev.symm, h.can.symm⟩
theorem actF_can (m : Int) (acs : List Ac) (p : Dp × Ls) : (actF m p acs).1.can = p.1.can := (actF_fac m acs p).1.can
theorem callR_congr {acs : List Ac} {a b : Rn} (h : Eqr a b) (x : Li) (i : Nat) (t : Tg) (ph : Int) : Eqr (callR acs a x i t ph) (callR acs b x i t ph) := by
  obtain ⟨h1, h2, h3, h4⟩ := actF_flags a.calls.length acs { a.d with pas := x.pas } { b.d with pas := x.pas } (if x.once then ⟨a.S.l.eraseIdx i, a.S.nx⟩ else a.S) h.stop h.halt h.prev h.can rfl
  have e1 := h.S
  have e2 := h.calls
  unfold callR
  refine ⟨?_, ?_, ?_, ?_, ?_, ?_⟩
  · simp only [← e1, ← e2]; exact h1
  · simp only [e2]
  · simp only [← e1, ← e2]; exact h2
  · simp only [← e1, ← e2]; exact h3
  · simp only [← e1, ← e2]; exact h4
  · simp only [actF_can]; exact h.can
theorem oneR_congr {acs : List Ac} {a b : Rn} (h : Eqr a b) (t : Tg) (ph : Int) (id : Int) : Eqr (oneR acs t ph a id) (oneR acs t ph b id) := by
  unfold oneR
  rw [h.halt, h.S]
  split
  · exact h
  · cases b.S.l.findIdx? (fun x => x.id == id) with
    | none => exact h
    | some i => exact callR_congr h _ _ _ _
theorem procQ_congr {acs : List Ac} (t : Tg) (ph : Int) : ∀ (q : List Int) {a b : Rn}, Eqr a b → Eqr (procQ acs t ph a q) (procQ acs t ph b q)
  | [], _, _, h => h
  | id :: q, _, _, h => procQ_congr t ph q (oneR_congr h t ph id)
theorem stepR_congr {acs : List Ac} {P : List Tg} {ty : ByteArray} {bub : Bool} {a b : Rn} (h : Eqr a b) (s : Nat) : Eqr (stepR acs P ty bub a s) (stepR acs P ty bub b s) := by
  unfold stepR stageR
  split
  · exact h
  · rw [h.stop]
    split
    · exact h
    · rw [h.S]; exact procQ_congr _ _ _ h
theorem fold_congr {acs : List Ac} {P : List Tg} {ty : ByteArray} {bub : Bool} : ∀ (l : List Nat) {a b : Rn}, Eqr a b → Eqr (l.foldl (stepR acs P ty bub) a) (l.foldl (stepR acs P ty bub) b)
  | [], _, _, h => h
  | s :: l, _, _, h => fold_congr l (stepR_congr h s)
theorem restR_congr {acs : List Ac} {P : List Tg} {ty : ByteArray} {bub : Bool} {a b : Rn} (h : Eqr a b) (s : Nat) : Eqr (restR acs P ty bub a s) (restR acs P ty bub b s) := fold_congr _ h

theorem procQ_halt {acs : List Ac} {t : Tg} {ph : Int} : ∀ (q : List Int) {r : Rn}, r.d.halt = true → procQ acs t ph r q = r
  | [], _, _ => rfl
  | id :: q, r, h => by
    have : oneR acs t ph r id = r := by unfold oneR; rw [if_pos h]
    show procQ acs t ph (oneR acs t ph r id) q = r
    rw [this]; exact procQ_halt q h
theorem fold_stop {acs : List Ac} {P : List Tg} {ty : ByteArray} {bub : Bool} : ∀ (l : List Nat) {r : Rn}, r.d.stop = true → l.foldl (stepR acs P ty bub) r = r
  | [], _, _ => rfl
  | s :: l, r, h => by
    have : stepR acs P ty bub r s = r := by unfold stepR stageR; split <;> first | rfl | rw [if_pos h]
    show l.foldl (stepR acs P ty bub) (stepR acs P ty bub r s) = r
    rw [this]; exact fold_stop l h

/-- what the chapter still does at a place of the program's run -/
def Todo (acs : List Ac) (d : Dp) (S : Ls) (calls : List Cl) : Rn := restR acs d.path d.ty d.bub (procQ acs d.cur d.ph ⟨d, S, calls⟩ d.q) d.st

theorem oneR_none {acs : List Ac} {t : Tg} {ph : Int} {r : Rn} {id : Int} (h : r.S.l.findIdx? (fun x => x.id == id) = none) : oneR acs t ph r id = r := by
  unfold oneR; rw [h]; split <;> rfl
theorem procQ_scan {acs : List Ac} {t : Tg} {ph : Int} {r : Rn} (hh : r.d.halt = false) : ∀ (q : List Int),
    (scan r.S.l q = none → procQ acs t ph r q = r) ∧ ∀ i id q', scan r.S.l q = some (i, id, q') → procQ acs t ph r q = procQ acs t ph (callR acs r (r.S.l.getD i Li.zero) i t ph) q'
  | [] => ⟨fun _ => rfl, fun i id q' h => by simp [scan] at h⟩
  | a :: q => by
    obtain ⟨h1, h2⟩ := procQ_scan hh q
    unfold scan
    cases hf : r.S.l.findIdx? (fun x => x.id == a) with
    | some j =>
      refine ⟨(fun h => by cases h), fun i id q' h => ?_⟩
      simp at h
      obtain ⟨rfl, rfl, rfl⟩ := h
      show procQ acs t ph (oneR acs t ph r a) q = _
      unfold oneR
      rw [if_neg (by simp [hh]), hf]
    | none =>
      have e : procQ acs t ph r (a :: q) = procQ acs t ph r q := by
        show procQ acs t ph (oneR acs t ph r a) q = _
        rw [oneR_none hf]
      rw [e]
      exact ⟨h1, h2⟩
theorem scan_id {l : List Li} {q : List Int} {i : Nat} {id : Int} {r : List Int} (h : scan l q = some (i, id, r)) : (l.getD i Li.zero).id = id := by
  obtain ⟨hf, -⟩ := scan_some h
  obtain ⟨hi, hp, -⟩ := List.findIdx?_eq_some_iff_getElem.1 hf
  rw [List.getD_eq_getElem?_getD, List.getElem?_eq_getElem hi]
  simpa using hp

structure Nx (acs : List Ac) (S : Ls) (calls : List Cl) (T : Rn) (o : Out) : Prop where
  none : o.call = none → Eqr T ⟨o.d, S, calls⟩ ∧ o.l = S.l
  some : ∀ c, o.call = some c → Eqr T (Todo acs (actF calls.length (o.d, ⟨o.l, S.nx⟩) acs).1 (actF calls.length (o.d, ⟨o.l, S.nx⟩) acs).2 (calls ++ [c]))

theorem nx_fire {acs : List Ac} {S : Ls} {calls : List Cl} {d : Dp} {i : Nat} {id : Int} {r : List Int} (hh : d.halt = false) (hs : scan S.l d.q = some (i, id, r)) : Nx acs S calls (Todo acs d S calls) (fire d S.l i id r) := by
  refine ⟨fun h => by simp [fire] at h, fun c hc => ?_⟩
  simp only [fire, Option.some.injEq] at hc
  subst hc
  have hid := scan_id hs
  have e := (procQ_scan (acs := acs) (t := d.cur) (ph := d.ph) (r := ⟨d, S, calls⟩) hh d.q).2 i id r hs
  unfold Todo
  rw [e]
  obtain ⟨g1, -⟩ := actF_fac calls.length acs ((fire d S.l i id r).d, ⟨(fire d S.l i id r).l, S.nx⟩)
  rw [g1.path, g1.ty, g1.bub, g1.cur, g1.ph, g1.q, g1.st]
  simp only [fire]
  refine restR_congr (procQ_congr _ _ _ ?_) _
  unfold callR
  simp only
  have hS : (if (S.l.getD i Li.zero).once then (⟨S.l.eraseIdx i, S.nx⟩ : Ls) else S) = ⟨if (S.l.getD i Li.zero).once then S.l.eraseIdx i else S.l, S.nx⟩ := by split <;> rfl
  rw [hS, hid]
  obtain ⟨h1, h2, h3, h4⟩ := actF_flags calls.length acs { d with pas := (S.l.getD i Li.zero).pas } { d with q := r, pas := (S.l.getD i Li.zero).pas } ⟨if (S.l.getD i Li.zero).once then S.l.eraseIdx i else S.l, S.nx⟩ rfl rfl rfl rfl rfl
  exact ⟨h1, rfl, h2, h3, h4, by simp only [actF_can]⟩
theorem nx_go {acs : List Ac} {S : Ls} {calls : List Cl} : ∀ (k : Nat) (d : Dp), d.halt = false → d.st + k = 2 * d.path.length → Nx acs S calls (Todo acs d S calls) (nextK k d S.l)
  | 0, d, hh, hk => by
    cases hs : scan S.l d.q with
    | some p =>
      obtain ⟨i, id, r⟩ := p
      have e : nextK 0 d S.l = fire d S.l i id r := by unfold nextK; rw [hs]
      rw [e]; exact nx_fire hh hs
    | none =>
      have e : nextK 0 d S.l = ⟨none, d.fin, S.l⟩ := by unfold nextK; rw [hs]
      rw [e]
      refine ⟨fun _ => ⟨?_, rfl⟩, fun c hc => by cases hc⟩
      have e2 := (procQ_scan (acs := acs) (t := d.cur) (ph := d.ph) (r := ⟨d, S, calls⟩) hh d.q).1 hs
      unfold Todo restR
      rw [e2, show 2 * d.path.length - d.st = 0 by omega]
      exact ⟨rfl, rfl, rfl, rfl, rfl, rfl⟩
  | k + 1, d, hh, hk => by
    cases hs : scan S.l d.q with
    | some p =>
      obtain ⟨i, id, r⟩ := p
      have e : nextK (k + 1) d S.l = fire d S.l i id r := by unfold nextK; rw [hs]
      rw [e]; exact nx_fire hh hs
    | none =>
      have e : nextK (k + 1) d S.l = if d.stop then ⟨none, d.fin, S.l⟩ else nextK k (Dp.begin { d with q := [] } S.l) S.l := by rw [nextK, hs]
      have e2 := (procQ_scan (acs := acs) (t := d.cur) (ph := d.ph) (r := ⟨d, S, calls⟩) hh d.q).1 hs
      rw [e]
      by_cases hst : d.stop = true
      · rw [if_pos hst]
        refine ⟨fun _ => ⟨?_, rfl⟩, fun c hc => by cases hc⟩
        unfold Todo restR
        rw [e2, fold_stop _ hst]
        exact ⟨rfl, rfl, rfl, rfl, rfl, rfl⟩
      · rw [if_neg hst]
        obtain ⟨b1, b2, b3⟩ := begin_facts { d with q := [] } S.l rfl
        obtain ⟨s1, s2, s3⟩ := stays_begin { d with q := [] } S.l
        have ih := nx_go (acs := acs) (S := S) (calls := calls) k (Dp.begin { d with q := [] } S.l) (by rw [s1.halt]; exact hh) (by rw [b1, b2]; simp only; omega)
        have hT : Eqr (Todo acs d S calls) (Todo acs (Dp.begin { d with q := [] } S.l) S calls) := by
          unfold Todo
          rw [e2, b1, b2, s1.ty, s1.bub]
          simp only
          unfold restR
          rw [show 2 * d.path.length - d.st = (2 * d.path.length - (d.st + 1)) + 1 by omega, List.range'_succ, List.foldl_cons]
          refine fold_congr _ ?_
          unfold stepR Dp.begin
          simp only
          by_cases hc : d.path.length < d.st ∧ d.bub = false
          · rw [if_pos hc, if_pos hc]
            exact ⟨rfl, rfl, rfl, rfl, rfl, rfl⟩
          · rw [if_neg hc, if_neg hc]
            unfold stageR
            rw [if_neg hst]
            simp only [List.nil_append]
            exact procQ_congr _ _ _ ⟨rfl, rfl, rfl, rfl, rfl, rfl⟩
        refine ⟨fun h => ?_, fun c hc => ?_⟩
        · obtain ⟨q1, q2⟩ := ih.none h
          exact ⟨hT.trans q1, q2⟩
        · exact hT.trans (ih.some c hc)

theorem nx_next {acs : List Ac} {S : Ls} {calls : List Cl} {d : Dp} (hd : d.done = false) (hs : d.st ≤ 2 * d.path.length) (hhs : d.halt = true → d.stop = true) : Nx acs S calls (Todo acs d S calls) (d.next S.l) := by
  unfold Dp.next
  rw [if_neg (by simp [hd])]
  by_cases hh : d.halt = true
  · rw [if_pos (by simpa using hh)]
    refine ⟨fun _ => ⟨?_, rfl⟩, fun c hc => by cases hc⟩
    unfold Todo restR
    rw [procQ_halt _ hh, fold_stop _ (hhs hh)]
    exact ⟨rfl, rfl, rfl, rfl, rfl, rfl⟩
  · rw [if_neg (by simpa using hh)]
    have := nx_go (acs := acs) (S := S) (calls := calls) (2 * d.path.length - d.st) { d with pas := false } (by simpa using hh) (by simp only; omega)
    have hT : Eqr (Todo acs d S calls) (Todo acs { d with pas := false } S calls) := by
      have e : Eqr (⟨d, S, calls⟩ : Rn) ⟨{ d with pas := false }, S, calls⟩ := ⟨rfl, rfl, rfl, rfl, rfl, rfl⟩
      exact restR_congr (P := d.path) (ty := d.ty) (bub := d.bub) (procQ_congr d.cur d.ph d.q e) d.st
    exact ⟨fun h => ⟨hT.trans (this.none h).1, (this.none h).2⟩, fun c hc => hT.trans (this.some c hc)⟩

/-- the calls of the chapter only grow -/
theorem oneR_pre (acs : List Ac) (t : Tg) (ph : Int) (r : Rn) (id : Int) : r.calls <+: (oneR acs t ph r id).calls ∧ (oneR acs t ph r id).d.path = r.d.path := by
  unfold oneR
  split
  · exact ⟨List.prefix_rfl, rfl⟩
  · split
    · unfold callR
      refine ⟨List.prefix_append _ _, ?_⟩
      exact (actF_fac _ acs _).1.path
    · exact ⟨List.prefix_rfl, rfl⟩
theorem procQ_pre (acs : List Ac) (t : Tg) (ph : Int) : ∀ (q : List Int) (r : Rn), r.calls <+: (procQ acs t ph r q).calls
  | [], _ => List.prefix_rfl
  | id :: q, r => (oneR_pre acs t ph r id).1.trans (procQ_pre acs t ph q _)
theorem fold_pre (acs : List Ac) (P : List Tg) (ty : ByteArray) (bub : Bool) : ∀ (l : List Nat) (r : Rn), r.calls <+: (l.foldl (stepR acs P ty bub) r).calls
  | [], _ => List.prefix_rfl
  | s :: l, r => by
    refine List.IsPrefix.trans ?_ (fold_pre acs P ty bub l _)
    unfold stepR stageR
    split
    · exact List.prefix_rfl
    · split
      · exact List.prefix_rfl
      · exact procQ_pre _ _ _ _ _
theorem todo_pre (acs : List Ac) (d : Dp) (S : Ls) (calls : List Cl) : calls <+: (Todo acs d S calls).calls := (procQ_pre acs d.cur d.ph d.q ⟨d, S, calls⟩).trans (fold_pre _ _ _ _ _ _)
end Go.Proofs.Ytianjcbofgdfdaa
