/-
  The program's event loop beside the chapter's: the relation, pushing, firing. The program's event loop beside the chapter's: which task is taken. The program's event loop beside the chapter's: what is taken next. The chapter's loop in memory: a field of a timer is written; bounds.
-/
import Derived.Test.YtnamkckpgaopkaaXp
import Derived.Test.YtnamkckpgaopkaaLr
import Derived.Test.YtnamkckpgaopkaaXl
import Derived.Test.YtnamkckpgaopkaaXj
import Derived.Test.YtnamkckpgaopkaaXg
set_option linter.unusedVariables false
set_option linter.unusedSimpArgs false
namespace Go.Proofs.Ytnamkckpgaopkaa
section
open Go.RowKit Go.K
def RM.tm (t : RM) : Tm := ⟨t.id, t.due, t.ord⟩
/-- the timers that wait -/
def wl (M : List RM) : List Tm := (M.filter (fun t => t.w)).map RM.tm
def ck (c : Cl) : Int × Int × Int := (c.id, c.ev, c.fn)
def rmk (t : RM) : Int × Int × Int := (t.id, t.ev, t.fn)
def qt (t : RT) : Qt := ⟨t.ord, t.k, t.n⟩
def qof (T : List RT) (i : Nat) : List Qt := (T.filter (fun t => t.src == (i : Int))).map qt
structure Wt (M : List RM) (ts : List Tm) (nx : Int) : Prop where
  perm : (wl M).Perm ts
  ok : TOk ts nx
  nd : (M.map RM.id).Nodup
  id : ∀ t ∈ M, 1 ≤ t.id ∧ t.id ≤ nx
structure Rl (S : LS) (R : RL) : Prop where
  now : S.now = R.now
  ord : S.ord = R.ord
  nx : S.nx = R.next
  last : S.last = R.last
  shown : S.shown = R.shown
  users : S.users = R.users
  dirty : S.dirty = R.dirty
  jobs : S.jobs.map Jb.k = R.jobs
  jan : ∀ j ∈ S.jobs, j.an = 1
  shots : S.shots = R.shots.map (fun n => ⟨n, -n⟩)
  q : ∀ i, S.q i = qof R.tasks i
  src : ∀ t ∈ R.tasks, 0 ≤ t.src ∧ t.src < 5
  asc : R.tasks.Pairwise (fun a b => a.ord < b.ord)
  tle : ∀ t ∈ R.tasks, t.ord ≤ R.ord
  calls : S.calls.map ck = R.tms.map rmk
  wt : Wt R.tms S.tm R.next

theorem wl_mem {M : List RM} {x : Tm} : x ∈ wl M ↔ ∃ j, ∃ h : j < M.length, M[j].w = true ∧ M[j].tm = x := by
  simp only [wl, List.mem_map, List.mem_filter]
  constructor
  · rintro ⟨a, ⟨ha, hw⟩, rfl⟩
    obtain ⟨j, hj, rfl⟩ := List.getElem_of_mem ha
    exact ⟨j, hj, hw, rfl⟩
  · rintro ⟨j, hj, hw, rfl⟩
    exact ⟨_, ⟨List.getElem_mem hj, hw⟩, rfl⟩
theorem ltM_tm (x y : RM) : ltM x y ↔ x.tm.lt y.tm := Iff.rfl
theorem wt_nil {M : List RM} {nx : Int} (h : Wt M [] nx) : bestM M M.length = -1 := by
  rcases bestM_spec M M.length with ⟨h1, -⟩ | ⟨b, h1, h2, h3, -⟩
  · exact h1
  · rw [nthM_eq h2] at h3
    have := h.perm.mem_iff.1 (wl_mem.2 ⟨b, h2, h3, rfl⟩)
    cases this
theorem wt_best {M : List RM} {t : Tm} {r : List Tm} {nx : Int} (h : Wt M (t :: r) nx) : ∃ b, ∃ hb : b < M.length, bestM M M.length = b ∧ M[b].w = true ∧ M[b].tm = t := by
  obtain ⟨j, hj, hw, he⟩ := wl_mem.1 (h.perm.mem_iff.2 List.mem_cons_self)
  rcases bestM_spec M M.length with ⟨-, h2⟩ | ⟨b, h1, h2, h3, h4⟩
  · have := h2 j hj
    rw [nthM_eq hj, hw] at this
    cases this
  · rw [nthM_eq h2] at h3 h4
    refine ⟨b, h2, h1, h3, ?_⟩
    rcases List.mem_cons.1 (h.perm.mem_iff.1 (wl_mem.2 ⟨b, h2, h3, rfl⟩)) with q | q
    · exact q
    · have h5 := (List.pairwise_cons.1 h.ok.sorted).1 _ q
      have h6 := h4 j hj (by rw [nthM_eq hj]; exact hw)
      rw [nthM_eq hj, ltM_tm, he] at h6
      exact absurd h5 h6
theorem wl_cons (x : RM) (M : List RM) : wl (x :: M) = (if x.w then [x.tm] else []) ++ wl M := by
  unfold wl
  rw [List.filter_cons]
  split <;> simp
theorem wl_off : ∀ (M : List RM) (b : Nat) (hb : b < M.length), M[b].w = true → (wl M).Perm (M[b].tm :: wl (M.set b { M[b] with w := false }))
  | x :: M, 0, _, hw => by
    simp only [List.getElem_cons_zero] at hw ⊢
    rw [List.set_cons_zero, wl_cons, wl_cons, hw]
    simp
  | x :: M, b + 1, hb, hw => by
    simp only [List.getElem_cons_succ] at hw ⊢
    rw [List.set_cons_succ, wl_cons, wl_cons]
    refine (List.Perm.append_left _ (wl_off M b (by simpa using hb) hw)).trans ?_
    exact List.perm_middle
theorem wl_on : ∀ (M : List RM) (b : Nat) (hb : b < M.length) (d o : Int), M[b].w = false → (wl (M.set b { M[b] with w := true, due := d, ord := o })).Perm (⟨M[b].id, d, o⟩ :: wl M)
  | x :: M, 0, _, d, o, hw => by
    simp only [List.getElem_cons_zero] at hw ⊢
    rw [List.set_cons_zero, wl_cons, wl_cons, hw]
    simp [RM.tm]
  | x :: M, b + 1, hb, d, o, hw => by
    simp only [List.getElem_cons_succ] at hw ⊢
    rw [List.set_cons_succ, wl_cons, wl_cons]
    refine (List.Perm.append_left _ (wl_on M b (by simpa using hb) d o hw)).trans ?_
    exact List.perm_middle
theorem wl_erase : ∀ (M : List RM) (b : Nat) (hb : b < M.length), (wl M).Perm ((if M[b].w then [M[b].tm] else []) ++ wl (M.eraseIdx b))
  | x :: M, 0, _ => by
    simp only [List.getElem_cons_zero]
    rw [List.eraseIdx_cons_zero, wl_cons]
  | x :: M, b + 1, hb => by
    simp only [List.getElem_cons_succ]
    rw [List.eraseIdx_cons_succ, wl_cons, wl_cons]
    refine (List.Perm.append_left _ (wl_erase M b (by simpa using hb))).trans ?_
    rw [← List.append_assoc, ← List.append_assoc]
    exact List.Perm.append_right _ List.perm_append_comm

theorem qof_append (T T' : List RT) (i : Nat) : qof (T ++ T') i = qof T i ++ qof T' i := by simp [qof]
theorem Rl.push {S : LS} {R : RL} (h : Rl S R) (src k n : Int) : Rl (pushS S src k n) (rpushS R src k n) := by
  have hs := srcN_lt src
  refine ⟨h.now, ?_, h.nx, h.last, h.shown, h.users, h.dirty, h.jobs, h.jan, h.shots, fun i => ?_, fun t ht => ?_, ?_, fun t ht => ?_, h.calls, h.wt⟩
  · show S.ord + 1 = R.ord + 1
    rw [h.ord]
  · show upd S.q (srcN src) (S.q (srcN src) ++ [⟨S.ord + 1, k, n⟩]) i = qof (R.tasks ++ [⟨(srcN src : Int), R.ord + 1, k, n⟩]) i
    rw [qof_append, ← h.q i]
    by_cases e : i = srcN src
    · subst e
      rw [upd_same, h.ord]
      simp [qof, qt]
    · rw [upd_other _ _ _ _ e]
      have e2 : ((srcN src : Int) == (i : Int)) = false := by simp; omega
      simp [qof, e2]
  · rcases List.mem_append.1 (show t ∈ R.tasks ++ [⟨(srcN src : Int), R.ord + 1, k, n⟩] from ht) with q | q
    · exact h.src t q
    · rw [List.mem_singleton.1 q]
      show 0 ≤ (srcN src : Int) ∧ (srcN src : Int) < 5
      omega
  · show (R.tasks ++ [(⟨(srcN src : Int), R.ord + 1, k, n⟩ : RT)]).Pairwise (fun a b => a.ord < b.ord)
    rw [List.pairwise_append]
    refine ⟨h.asc, List.pairwise_singleton _ _, fun a ha b hb => ?_⟩
    rw [List.mem_singleton.1 hb]
    have := h.tle a ha
    show a.ord < R.ord + 1
    omega
  · rcases List.mem_append.1 (show t ∈ R.tasks ++ [⟨(srcN src : Int), R.ord + 1, k, n⟩] from ht) with q | q
    · have := h.tle t q
      show _ ≤ R.ord + 1
      omega
    · rw [List.mem_singleton.1 q]
      exact Int.le_refl _
theorem map_set_same {α β : Type} (f : α → β) (l : List α) (i : Nat) (x : α) (hi : i < l.length) (h : f x = f l[i]) : (l.set i x).map f = l.map f := by
  rw [List.map_set, h]
  have h2 : i < (l.map f).length := by simpa using hi
  have : (l.map f).set i (l.map f)[i] = l.map f := List.set_getElem_self h2
  rw [List.getElem_map] at this
  exact this
theorem Wt.off {M : List RM} {t : Tm} {r : List Tm} {nx : Int} (h : Wt M (t :: r) nx) {b : Nat} (hb : b < M.length) (hw : M[b].w = true) (he : M[b].tm = t) : Wt (M.set b { M[b] with w := false }) r nx := by
  refine ⟨?_, h.ok.tail, ?_, fun x hx => ?_⟩
  · have := (wl_off M b hb hw).symm.trans h.perm
    rw [he] at this
    exact this.cons_inv
  · rw [map_set_same RM.id M b { M[b] with w := false } hb rfl]
    exact h.nd
  · rcases List.mem_or_eq_of_mem_set hx with q | q
    · exact h.id x q
    · rw [q]; exact h.id M[b] (List.getElem_mem hb)
theorem rl_fire1 {S : LS} {R : RL} {t : Tm} {r : List Tm} (h : Rl S R) (ht : S.tm = t :: r) (hd : t.due ≤ S.now) : dueR R ∧ Rl (pushS { S with tm := r } 2 0 t.id) (fire1 R (bestR R).toNat) := by
  have hw := h.wt
  rw [ht] at hw
  obtain ⟨b, hb, h1, h2, h3⟩ := wt_best hw
  have e : bestR R = b := h1
  have eb : (bestR R).toNat = b := by rw [e, Int.toNat_natCast]
  have hdue : R.tms[b].due = t.due := by rw [← h3]; rfl
  have hid : R.tms[b].id = t.id := by rw [← h3]; rfl
  refine ⟨⟨by rw [e]; omega, ?_⟩, ?_⟩
  · rw [eb, nthM_eq hb, hdue, ← h.now]; exact hd
  · rw [eb, fire1, nthM_eq hb, hid]
    refine Rl.push ?_ 2 0 t.id
    refine ⟨h.now, h.ord, h.nx, h.last, h.shown, h.users, h.dirty, h.jobs, h.jan, h.shots, h.q, h.src, h.asc, h.tle, ?_, hw.off hb h2 h3⟩
    show S.calls.map ck = _
    rw [h.calls]
    exact (map_set_same rmk R.tms b { R.tms[b] with w := false } hb rfl).symm
theorem rl_fireL : ∀ (ts : List Tm) (S : LS) (R : RL), S.tm = ts → Rl S R → Rl (fireL ts S) (rfireS R)
  | [], S, R, ht, h => by
    have hn : ¬ dueR R := fun q => by
      have hw := h.wt
      rw [ht] at hw
      have := q.1
      rw [bestR, wt_nil hw] at this
      omega
    rw [rfireS_stop hn, fireL, ← ht]
    exact h
  | t :: r, S, R, ht, h => by
    by_cases hd : t.due ≤ S.now
    · obtain ⟨h1, h2⟩ := rl_fire1 h ht hd
      rw [fireL, if_pos hd, rfireS_step h1]
      exact rl_fireL r _ _ rfl h2
    · have hn : ¬ dueR R := fun q => by
        have hw := h.wt
        rw [ht] at hw
        obtain ⟨b, hb, h1, h2, h3⟩ := wt_best hw
        have e : bestR R = b := h1
        have q2 := q.2
        rw [e, Int.toNat_natCast, nthM_eq hb] at q2
        have hdue : R.tms[b].due = t.due := by rw [← h3]; rfl
        rw [hdue, ← h.now] at q2
        exact hd q2
      rw [rfireS_stop hn, fireL, if_neg hd, ← ht]
      exact h
theorem Rl.fire {S : LS} {R : RL} (h : Rl S R) : Rl (fireS S) (rfireS R) := rl_fireL _ _ _ rfl h
end
section
open Go.RowKit Go.K
theorem qof_cons (t : RT) (T : List RT) (i : Nat) : qof (t :: T) i = (if t.src == (i : Int) then [qt t] else []) ++ qof T i := by
  unfold qof
  rw [List.filter_cons]
  split <;> simp
/-- the first task of its source is taken out of the one list -/
theorem qof_pop : ∀ (T : List RT) (i : Nat) (hi : i < T.length) (s : Nat), T[i].src = s → (∀ j (hj : j < i), T[j].src ≠ s) →
    qof T s = qt T[i] :: qof (T.eraseIdx i) s ∧ ∀ s' : Nat, s' ≠ s → qof (T.eraseIdx i) s' = qof T s'
  | t :: T, 0, _, s, hs, _ => by
    simp only [List.getElem_cons_zero] at hs ⊢
    rw [List.eraseIdx_cons_zero]
    refine ⟨by rw [qof_cons, hs]; simp, fun s' hn => ?_⟩
    have e : ((s : Int) == (s' : Int)) = false := by simp; omega
    rw [qof_cons, hs, e]
    simp
  | t :: T, i + 1, hi, s, hs, hf => by
    simp only [List.getElem_cons_succ] at hs ⊢
    have h0 := hf 0 (by omega)
    simp only [List.getElem_cons_zero] at h0
    obtain ⟨h1, h2⟩ := qof_pop T i (by simpa using hi) s hs (fun j hj => by have := hf (j + 1) (by omega); simpa using this)
    rw [List.eraseIdx_cons_succ]
    have e : (t.src == (s : Int)) = false := by simp; exact h0
    refine ⟨?_, fun s' hn => ?_⟩
    · rw [qof_cons, qof_cons, e, h1]; simp
    · rw [qof_cons, qof_cons, h2 s' hn]
theorem ixP_found {α : Type} {P : α → Bool} {l : List α} (h : 0 ≤ ixP P l l.length) : ∃ i, ∃ hi : i < l.length, ixP P l l.length = i ∧ P l[i] = true ∧ ∀ j (hj : j < i), P l[j] = false := by
  unfold ixP at *
  rw [List.take_length] at *
  cases hf : l.findIdx? P with
  | none => rw [hf] at h; simp at h
  | some i =>
    obtain ⟨h1, h2, h3⟩ := List.findIdx?_eq_some_iff_getElem.1 hf
    exact ⟨i, h1, rfl, h2, fun j hj => by simpa using h3 j hj⟩
theorem ixP_none {α : Type} {P : α → Bool} {l : List α} (h : ixP P l l.length < 0) : ∀ x ∈ l, P x = false := by
  unfold ixP at *
  rw [List.take_length] at *
  cases hf : l.findIdx? P with
  | none => simpa using hf
  | some i => rw [hf] at h; simp at h; omega
theorem bestN_none {S : LS} (h : ∀ i, i < 5 → i ≠ 0 → S.q i = []) : ∀ k, k ≤ 5 → bestN S k = (-1, 0)
  | 0, _ => rfl
  | k + 1, hk => by
    rw [bestN_succ, bestN_none h k (by omega)]
    unfold stepB
    by_cases e : k = 0
    · subst e
      cases S.q 0 <;> simp
    · rw [h k (by omega) e]
theorem bestN_at {S : LS} {s : Nat} {x : Qt} {r : List Qt} (hs : s < 5) (h0 : s ≠ 0) (hq : S.q s = x :: r) (hm : ∀ i y l, i < 5 → i ≠ 0 → i ≠ s → S.q i = y :: l → x.o < y.o) :
    ∀ k, k ≤ 5 → (k ≤ s → (bestN S k).1 < 0 ∨ x.o < (bestN S k).2) ∧ (s < k → bestN S k = ((s : Int), x.o))
  | 0, _ => ⟨fun _ => .inl (show (-1 : Int) < 0 by decide), fun h => by omega⟩
  | k + 1, hk => by
    obtain ⟨h1, h2⟩ := bestN_at hs h0 hq hm k (by omega)
    rw [bestN_succ]
    rcases Nat.lt_trichotomy k s with q | q | q
    · refine ⟨fun _ => ?_, fun h => by omega⟩
      have h3 := h1 (by omega)
      unfold stepB
      cases hk' : S.q k with
      | nil => exact h3
      | cons y l =>
        simp only
        split
        · rename_i hc
          exact .inr (hm k y l (by omega) hc.1 (by omega) hk')
        · exact h3
    · subst q
      refine ⟨fun h => by omega, fun _ => ?_⟩
      have h3 := h1 (Nat.le_refl _)
      unfold stepB
      rw [hq]
      simp only
      rw [if_pos ⟨h0, h3⟩]
    · refine ⟨fun h => by omega, fun _ => ?_⟩
      have h3 := h2 q
      unfold stepB
      cases hk' : S.q k with
      | nil => exact h3
      | cons y l =>
        simp only
        rw [h3]
        split
        · rename_i hc
          have := hm k y l (by omega) hc.1 (by omega) hk'
          rcases hc.2 with c | c
          · simp only at c; omega
          · simp only at c; omega
        · rfl
theorem qof_head {T : List RT} {s : Nat} {y : Qt} {l : List Qt} (h : qof T s = y :: l) : ∃ j, ∃ hj : j < T.length, T[j].src = s ∧ T[j].ord = y.o := by
  have hm : y ∈ qof T s := by rw [h]; exact List.mem_cons_self
  simp only [qof, List.mem_map, List.mem_filter, beq_iff_eq] at hm
  obtain ⟨t, ⟨ht, hs⟩, rfl⟩ := hm
  obtain ⟨j, hj, rfl⟩ := List.getElem_of_mem ht
  exact ⟨j, hj, hs, rfl⟩
theorem qof_nil {T : List RT} {s : Nat} (h : ∀ t ∈ T, t.src ≠ s) : qof T s = [] := by
  simp only [qof, List.map_eq_nil_iff, List.filter_eq_nil_iff, beq_iff_eq]
  exact h
theorem qof_pos {T : List RT} {s : Nat} {j : Nat} (hj : j < T.length) (h : T[j].src = s) : 0 < (qof T s).length := by
  have : qt T[j] ∈ qof T s := List.mem_map.2 ⟨_, List.mem_filter.2 ⟨List.getElem_mem hj, by simp [h]⟩, rfl⟩
  exact List.length_pos_of_mem this
/-- both take the same task, or none -/
theorem rl_src {S : LS} {R : RL} (h : Rl S R) : (srcR S < 0 ∧ chooseR R < 0) ∨
    ∃ i s : Nat, ∃ hi : i < R.tasks.length, s < 5 ∧ chooseR R = i ∧ srcR S = s ∧ R.tasks[i].src = s ∧ ∀ j (hj : j < i), R.tasks[j].src ≠ s := by
  -- the others
  have hoth : (ixP (fun t : RT => t.src != 0) R.tasks R.tasks.length < 0 ∧ (bestN S 5).1 < 0) ∨
      ∃ i s : Nat, ∃ hi : i < R.tasks.length, s < 5 ∧ s ≠ 0 ∧ ixP (fun t : RT => t.src != 0) R.tasks R.tasks.length = i ∧ (bestN S 5).1 = s ∧ R.tasks[i].src = s ∧ ∀ j (hj : j < i), R.tasks[j].src ≠ s := by
    by_cases hx : 0 ≤ ixP (fun t : RT => t.src != 0) R.tasks R.tasks.length
    · obtain ⟨i, hi, h1, h2, h3⟩ := ixP_found hx
      obtain ⟨g1, g2⟩ := h.src _ (List.getElem_mem hi)
      obtain ⟨s, hs⟩ : ∃ s : Nat, R.tasks[i].src = s := ⟨R.tasks[i].src.toNat, by omega⟩
      have hs0 : s ≠ 0 := fun e => by subst e; rw [hs] at h2; simp at h2
      have hbef : ∀ j (hj : j < i), R.tasks[j].src ≠ s := fun j hj e => by
        have := h3 j hj
        simp at this
        omega
      obtain ⟨p1, -⟩ := qof_pop R.tasks i hi s hs hbef
      have hb := (bestN_at (S := S) (s := s) (x := qt R.tasks[i]) (by omega) hs0 (by rw [h.q s]; exact p1) (fun i' y l hi' h0' hne hq => by
        rw [h.q i'] at hq
        obtain ⟨j, hj, q1, q2⟩ := qof_head hq
        have hij : i < j := by
          rcases Nat.lt_trichotomy j i with c | c | c
          · have := h3 j c
            simp at this
            omega
          · subst c; omega
          · exact c
        have := (List.pairwise_iff_getElem.1 h.asc) i j hi hj hij
        rw [← q2]
        exact this) 5 (by omega)).2 (by omega)
      exact .inr ⟨i, s, hi, by omega, hs0, h1, by rw [hb], hs, hbef⟩
    · have hno := ixP_none (by omega : ixP (fun t : RT => t.src != 0) R.tasks R.tasks.length < 0)
      refine .inl ⟨by omega, ?_⟩
      rw [bestN_none (fun i hi h0 => by
        rw [h.q i]
        refine qof_nil (fun t ht e => ?_)
        have := hno t ht
        simp at this
        omega) 5 (by omega)]
      decide
  by_cases hu : 0 ≤ ixP (fun t : RT => t.src == 0) R.tasks R.tasks.length
  · obtain ⟨i, hi, h1, h2, h3⟩ := ixP_found hu
    have hs : R.tasks[i].src = ((0 : Nat) : Int) := by simpa using h2
    have hl : 0 < (S.q 0).length := by rw [h.q 0]; exact qof_pos hi hs
    have hbef : ∀ j (hj : j < i), R.tasks[j].src ≠ ((0 : Nat) : Int) := fun j hj => by simpa using h3 j hj
    rcases hoth with ⟨o1, o2⟩ | ⟨i', s', hi', o1, o2, o3, o4, o5, o6⟩
    · refine .inr ⟨i, 0, hi, by omega, ?_, ?_, hs, hbef⟩
      · rw [chooseR, if_pos ⟨hu, .inl o1⟩, h1]
      · rw [srcR, if_pos ⟨hl, .inl o2⟩]; rfl
    · by_cases hus : R.users < 4
      · refine .inr ⟨i, 0, hi, by omega, ?_, ?_, hs, hbef⟩
        · rw [chooseR, if_pos ⟨hu, .inr hus⟩, h1]
        · rw [srcR, if_pos ⟨hl, .inr (by rw [h.users]; exact hus)⟩]; rfl
      · refine .inr ⟨i', s', hi', o1, ?_, ?_, o5, o6⟩
        · rw [chooseR, if_neg (by rintro ⟨-, c⟩; omega), o3]
        · rw [srcR, if_neg (by rintro ⟨-, c⟩; rw [h.users] at c; omega), o4]
  · have hno := ixP_none (by omega : ixP (fun t : RT => t.src == 0) R.tasks R.tasks.length < 0)
    have hl : S.q 0 = [] := by
      rw [h.q 0]
      refine qof_nil (fun t ht e => ?_)
      have := hno t ht
      simp at this
      exact this e
    rcases hoth with ⟨o1, o2⟩ | ⟨i', s', hi', o1, o2, o3, o4, o5, o6⟩
    · refine .inl ⟨?_, ?_⟩
      · rw [srcR, if_neg (by rw [hl]; simp)]; exact o2
      · rw [chooseR, if_neg (fun c => hu c.1)]; exact o1
    · refine .inr ⟨i', s', hi', o1, ?_, ?_, o5, o6⟩
      · rw [chooseR, if_neg (fun c => hu c.1), o3]
      · rw [srcR, if_neg (by rw [hl]; simp), o4]
end
section
open Go.RowKit Go.K
/-- what the chapter chooses: kind, number, source, function -/
structure RC where
  kd : Int
  n : Int
  src : Int
  fn : Int
/-- task i is taken out -/
def rpop (R : RL) (i : Nat) (t : RT) : RL := { R with tasks := R.tasks.eraseIdx i, users := if t.src = 0 then R.users + 1 else 0 }
def ragain (R : RL) (j : Nat) (m : RM) : RL := { R with next := R.next + 1, tms := R.tms.set j { m with w := true, ord := R.next + 1, due := R.now + m.ev } }
inductive RTaskR : RL → RL → RC → Prop where
  | none {R : RL} (h : chooseR R < 0) : RTaskR R R ⟨0, 0, 0, 0⟩
  | plain {R : RL} {i : Nat} {t : RT} (h : chooseR R = (i : Int)) (ht : R.tasks[i]? = some t) (hp : ¬ (t.src = 2 ∧ t.k = 0)) : RTaskR R (rpop R i t) ⟨2, t.n, t.src, 0⟩
  | skip {R R' : RL} {i : Nat} {t : RT} {d : RC} (h : chooseR R = (i : Int)) (ht : R.tasks[i]? = some t) (hs : t.src = 2) (hk : t.k = 0) (hf : R.tms.findIdx? (fun c => c.id == t.n) = none) (hr : RTaskR (rpop R i t) R' d) : RTaskR R R' d
  | once {R : RL} {i j : Nat} {t : RT} {m : RM} (h : chooseR R = (i : Int)) (ht : R.tasks[i]? = some t) (hs : t.src = 2) (hk : t.k = 0) (hf : R.tms.findIdx? (fun c => c.id == t.n) = some j) (hm : R.tms[j]? = some m) (he : m.ev = 0) :
      RTaskR R (rclearS (rpop R i t) t.n) ⟨2, t.n, 2, m.fn⟩
  | wait {R : RL} {i j : Nat} {t : RT} {m : RM} (h : chooseR R = (i : Int)) (ht : R.tasks[i]? = some t) (hs : t.src = 2) (hk : t.k = 0) (hf : R.tms.findIdx? (fun c => c.id == t.n) = some j) (hm : R.tms[j]? = some m) (he : m.ev ≠ 0) (hw : m.w = true) :
      RTaskR R (rpop R i t) ⟨2, t.n, 2, m.fn⟩
  | again {R : RL} {i j : Nat} {t : RT} {m : RM} (h : chooseR R = (i : Int)) (ht : R.tasks[i]? = some t) (hs : t.src = 2) (hk : t.k = 0) (hf : R.tms.findIdx? (fun c => c.id == t.n) = some j) (hm : R.tms[j]? = some m) (he : m.ev ≠ 0) (hw : m.w = false) :
      RTaskR R (ragain (rpop R i t) j m) ⟨2, t.n, 2, m.fn⟩
/-- what the chapter does next -/
inductive RTakeR : RL → RL → RC → List Int → Prop where
  | job {R : RL} {n : Int} {r : List Int} (h : R.jobs = n :: r) : RTakeR R { R with jobs := r } ⟨1, n, 0, 0⟩ []
  | frame {R : RL} (h : R.jobs = []) (hf : rframe R) : RTakeR R { R with shots := [], dirty := false, shown := R.now } ⟨3, 0, 0, 0⟩ R.shots
  | task {R R' : RL} {d : RC} (h : R.jobs = []) (hf : ¬ rframe R) (ht : RTaskR (rfireS R) R' d) : RTakeR R R' d []

theorem Rl.pop {S : LS} {R : RL} (h : Rl S R) {i s : Nat} (hi : i < R.tasks.length) (hs5 : s < 5) (hs : R.tasks[i].src = s) (hb : ∀ j (hj : j < i), R.tasks[j].src ≠ s) :
    ∃ r, S.q s = qt R.tasks[i] :: r ∧ Rl (popS S s r) (rpop R i R.tasks[i]) := by
  obtain ⟨h1, h2⟩ := qof_pop R.tasks i hi s hs hb
  refine ⟨_, (h.q s).trans h1, ?_⟩
  refine ⟨h.now, h.ord, h.nx, h.last, h.shown, ?_, h.dirty, h.jobs, h.jan, h.shots, fun i' => ?_, fun t ht => ?_, ?_, fun t ht => ?_, h.calls, h.wt⟩
  · show (if s = 0 then S.users + 1 else 0) = (if R.tasks[i].src = 0 then R.users + 1 else 0)
    rw [hs, h.users]
    by_cases e : s = 0
    · subst e; rfl
    · rw [if_neg e, if_neg (by omega)]
  · show upd S.q s (qof (R.tasks.eraseIdx i) s) i' = qof (R.tasks.eraseIdx i) i'
    by_cases e : i' = s
    · subst e; rw [upd_same]
    · rw [upd_other _ _ _ _ e, h2 i' e, h.q i']
  · exact h.src t (List.mem_of_mem_eraseIdx ht)
  · exact h.asc.sublist (List.eraseIdx_sublist _ _)
  · exact h.tle t (List.mem_of_mem_eraseIdx ht)
theorem find_map {α β : Type} (f : α → β) (p : β → Bool) (l : List α) : l.findIdx? (fun a => p (f a)) = (l.map f).findIdx? p := by
  rw [List.findIdx?_map]; rfl
/-- the call of an identifier in both -/
theorem Rl.find {S : LS} {R : RL} (h : Rl S R) (n : Int) : S.calls.findIdx? (fun c => c.id == n) = R.tms.findIdx? (fun c => c.id == n) := by
  have e1 : S.calls.findIdx? (fun c => c.id == n) = (S.calls.map ck).findIdx? (fun x => x.1 == n) := find_map ck (fun x => x.1 == n) _
  have e2 : R.tms.findIdx? (fun c => c.id == n) = (R.tms.map rmk).findIdx? (fun x => x.1 == n) := find_map rmk (fun x => x.1 == n) _
  rw [e1, e2, h.calls]
theorem Rl.at {S : LS} {R : RL} (h : Rl S R) {j : Nat} {c : Cl} {m : RM} (hc : S.calls[j]? = some c) (hm : R.tms[j]? = some m) : c.id = m.id ∧ c.ev = m.ev ∧ c.fn = m.fn := by
  have e1 : (S.calls.map ck)[j]? = some (ck c) := by rw [List.getElem?_map, hc]; rfl
  have e2 : (R.tms.map rmk)[j]? = some (rmk m) := by rw [List.getElem?_map, hm]; rfl
  rw [h.calls, e2] at e1
  simp only [ck, rmk, Option.some.injEq, Prod.mk.injEq] at e1
  exact ⟨e1.1.symm, e1.2.1.symm, e1.2.2.symm⟩
theorem nd_idx {M : List RM} (h : (M.map RM.id).Nodup) {i j : Nat} (hi : i < M.length) (hj : j < M.length) (e : M[i].id = M[j].id) : i = j := by
  have hp := List.pairwise_iff_getElem.1 h
  rcases Nat.lt_trichotomy i j with q | q | q
  · exact absurd (by rw [List.getElem_map, List.getElem_map]; exact e) (hp i j (by simpa using hi) (by simpa using hj) q)
  · exact q
  · exact absurd (by rw [List.getElem_map, List.getElem_map]; exact e.symm) (hp j i (by simpa using hj) (by simpa using hi) q)
/-- a timer waits exactly if it is in the set -/
theorem Wt.has {M : List RM} {ts : List Tm} {nx : Int} (h : Wt M ts nx) {j : Nat} (hj : j < M.length) : (∃ t ∈ ts, t.id = M[j].id) ↔ M[j].w = true := by
  constructor
  · rintro ⟨t, ht, e⟩
    obtain ⟨i, hi, hw, rfl⟩ := wl_mem.1 (h.perm.mem_iff.2 ht)
    have := nd_idx h.nd hi hj e
    subst this
    exact hw
  · intro hw
    exact ⟨M[j].tm, h.perm.mem_iff.1 (wl_mem.2 ⟨j, hj, hw, rfl⟩), rfl⟩
theorem Wt.erase {M : List RM} {ts : List Tm} {nx : Int} (h : Wt M ts nx) {j : Nat} (hj : j < M.length) {n : Int} (e : M[j].id = n) : Wt (M.eraseIdx j) (remT ts n) nx := by
  have hp := wl_erase M j hj
  have hok : TOk (remT ts n) nx := by
    unfold remT
    split
    · exact h.ok
    · exact h.ok.erase _
  refine ⟨?_, hok, h.nd.sublist ((List.eraseIdx_sublist _ _).map _), fun t ht => h.id t (List.mem_of_mem_eraseIdx ht)⟩
  by_cases hw : M[j].w = true
  · rw [if_pos hw] at hp
    obtain ⟨t, ht, et⟩ := (h.has hj).2 hw
    unfold remT
    cases hf : ts.findIdx? (fun t => t.id == n) with
    | none =>
      rw [List.findIdx?_eq_none_iff] at hf
      have := hf t ht
      simp at this
      exact absurd (et.trans e) this
    | some k =>
      obtain ⟨k1, k2, -⟩ := List.findIdx?_eq_some_iff_getElem.1 hf
      simp only [beq_iff_eq] at k2
      obtain ⟨i, hi, hwi, hei⟩ := wl_mem.1 (h.perm.mem_iff.2 (List.getElem_mem k1))
      have hij : i = j := nd_idx h.nd hi hj (by rw [e, ← k2, ← hei]; rfl)
      subst hij
      have p2 : (ts[k] :: ts.eraseIdx k).Perm ts := by
        rw [List.eraseIdx_eq_take_drop_succ]
        refine (List.perm_middle.symm).trans ?_
        rw [List.getElem_cons_drop, List.take_append_drop]
      have p3 := hp.symm.trans (h.perm.trans p2.symm)
      rw [← hei] at p3
      exact List.Perm.cons_inv p3
  · rw [if_neg hw] at hp
    have hno : ∀ t ∈ ts, t.id ≠ n := fun t ht et => hw ((h.has hj).1 ⟨t, ht, et.trans e.symm⟩)
    have hr : remT ts n = ts := by
      unfold remT
      have : ts.findIdx? (fun t => t.id == n) = none := by
        rw [List.findIdx?_eq_none_iff]
        intro t ht
        simpa using hno t ht
      rw [this]
    rw [hr]
    exact hp.symm.trans h.perm
theorem Wt.on {M : List RM} {ts : List Tm} {nx : Int} (h : Wt M ts nx) {j : Nat} (hj : j < M.length) (hw : M[j].w = false) {d : Int} {k : Nat} (hf : Found ts ⟨M[j].id, d, nx + 1⟩ k) :
    Wt (M.set j { M[j] with w := true, ord := nx + 1, due := d }) (insAt ts k ⟨M[j].id, d, nx + 1⟩) (nx + 1) := by
  refine ⟨?_, ins_sorted h.ok hf rfl, ?_, fun x hx => ?_⟩
  · exact (wl_on M j hj d (nx + 1) hw).trans ((List.Perm.cons _ h.perm).trans (insAt_perm ts k _).symm)
  · rw [map_set_same RM.id M j { M[j] with w := true, ord := nx + 1, due := d } hj rfl]
    exact h.nd
  · rcases List.mem_or_eq_of_mem_set hx with q | q
    · have := h.id x q; omega
    · have := h.id M[j] (List.getElem_mem hj)
      rw [q]
      simp only
      omega
theorem er_map {α β : Type} (f : α → β) : ∀ (l : List α) (j : Nat), (l.eraseIdx j).map f = (l.map f).eraseIdx j
  | [], _ => rfl
  | x :: l, 0 => rfl
  | x :: l, j + 1 => by simp only [List.eraseIdx_cons_succ, List.map_cons]; rw [er_map f l j]
theorem Rl.clear {S : LS} {R : RL} (h : Rl S R) (n : Int) : Rl (clearS S n) (rclearS R n) ∧ clearB S n = rclearB R n := by
  unfold clearS rclearS clearB rclearB
  have hx := h.find n
  rw [hx]
  refine ⟨?_, rfl⟩
  cases hf : R.tms.findIdx? (fun c => c.id == n) with
  | none => exact h
  | some j =>
    obtain ⟨k1, k2, -⟩ := List.findIdx?_eq_some_iff_getElem.1 hf
    simp only [beq_iff_eq] at k2
    refine ⟨h.now, h.ord, h.nx, h.last, h.shown, h.users, h.dirty, h.jobs, h.jan, h.shots, h.q, h.src, h.asc, h.tle, ?_, h.wt.erase k1 k2⟩
    show (S.calls.eraseIdx j).map ck = (R.tms.eraseIdx j).map rmk
    rw [er_map, er_map, h.calls]
/-- what both choose is the same -/
def Cho (x : Ch) (d : RC) : Prop := x.k = d.kd ∧ x.src = d.src ∧ (x.k = 1 → x.j.k = d.n ∧ x.j.an = 1) ∧ (x.k = 2 → x.tn = d.n ∧ x.c.fn = d.fn)
theorem rl_task {S S' : LS} {x : Ch} (ht : TaskR S S' x) : ∀ {R R' : RL} {d : RC}, Rl S R → RTaskR R R' d → Rl S' R' ∧ Cho x d := by
  have key : ∀ {S : LS} {R : RL} {i : Nat} {t : RT}, Rl S R → chooseR R = (i : Int) → R.tasks[i]? = some t →
      ∃ s : Nat, s < 5 ∧ srcR S = s ∧ t.src = s ∧ ∃ r, S.q s = qt t :: r ∧ Rl (popS S s r) (rpop R i t) := by
    intro S R i t h hc ht
    rcases rl_src h with ⟨-, q⟩ | ⟨i', s, hi, hs5, h1, h2, h3, h4⟩
    · omega
    · have : i' = i := by omega
      subst this
      have e : R.tasks[i'] = t := by rw [List.getElem?_eq_getElem hi] at ht; exact Option.some.inj ht
      obtain ⟨r, hq, hr⟩ := h.pop hi hs5 h3 h4
      rw [e] at hq hr h3
      exact ⟨s, hs5, h2, h3, r, hq, hr⟩
  have noneS : ∀ {S : LS} {R : RL}, Rl S R → srcR S < 0 → chooseR R < 0 := by
    intro S R h hs
    rcases rl_src h with ⟨-, q⟩ | ⟨i', s, hi, hs5, h1, h2, h3, h4⟩
    · exact q
    · omega
  induction ht with
  | none h =>
    intro R R' d hr hd
    have hc := noneS hr h
    cases hd with
    | none _ => exact ⟨hr, rfl, rfl, fun q => absurd q (by decide), fun q => absurd q (by decide)⟩
    | plain hc' => omega
    | skip hc' => omega
    | once hc' => omega
    | wait hc' => omega
    | again hc' => omega
  | @plain S i x r hs hi hq hp =>
    intro R R' d hr hd
    have inv : ∀ {i' : Nat} {t : RT}, chooseR R = (i' : Int) → R.tasks[i']? = some t → t.src = i ∧ qt t = x ∧ Rl (popS S i r) (rpop R i' t) := by
      intro i' t h1 h2
      obtain ⟨s, g1, g2, g3, r', g4, g5⟩ := key hr h1 h2
      have : s = i := by omega
      subst this
      rw [hq] at g4
      injection g4 with g6 g7
      subst g7
      exact ⟨g3, g6.symm, g5⟩
    cases hd with
    | none hc => obtain q | ⟨i', s, -, -, h1, -⟩ := rl_src hr <;> omega
    | plain h1 h2 hp' =>
      obtain ⟨g1, g2, g3⟩ := inv h1 h2
      refine ⟨g3, rfl, g1.symm, fun q => absurd q (by simp [chP]), fun _ => ⟨by rw [← g2]; rfl, rfl⟩⟩
    | skip h1 h2 h3 h4 => obtain ⟨g1, g2, g3⟩ := inv h1 h2; exact absurd ⟨by omega, by rw [← g2]; exact h4⟩ hp
    | once h1 h2 h3 h4 => obtain ⟨g1, g2, g3⟩ := inv h1 h2; exact absurd ⟨by omega, by rw [← g2]; exact h4⟩ hp
    | wait h1 h2 h3 h4 => obtain ⟨g1, g2, g3⟩ := inv h1 h2; exact absurd ⟨by omega, by rw [← g2]; exact h4⟩ hp
    | again h1 h2 h3 h4 => obtain ⟨g1, g2, g3⟩ := inv h1 h2; exact absurd ⟨by omega, by rw [← g2]; exact h4⟩ hp
  | @skip S S' x r ch hs hq hk hf ht ih =>
    intro R R' d hr hd
    have inv : ∀ {i' : Nat} {t : RT}, chooseR R = (i' : Int) → R.tasks[i']? = some t → t.src = 2 ∧ qt t = x ∧ Rl (popS S 2 r) (rpop R i' t) := by
      intro i' t h1 h2
      obtain ⟨s, g1, g2, g3, r', g4, g5⟩ := key hr h1 h2
      have : s = 2 := by omega
      subst this
      rw [hq] at g4
      injection g4 with g6 g7
      subst g7
      exact ⟨g3, g6.symm, g5⟩
    rw [hr.find] at hf
    cases hd with
    | none hc => obtain q | ⟨i', s, -, -, h1, -⟩ := rl_src hr <;> omega
    | plain h1 h2 hp' => obtain ⟨g1, g2, g3⟩ := inv h1 h2; exact absurd ⟨g1, by rw [← g2] at hk; exact hk⟩ hp'
    | skip h1 h2 h3 h4 h5 h6 => obtain ⟨g1, g2, g3⟩ := inv h1 h2; exact ih g3 h6
    | once h1 h2 h3 h4 h5 => obtain ⟨g1, g2, g3⟩ := inv h1 h2; rw [← g2] at hf; have q := hf.symm.trans h5; cases q
    | wait h1 h2 h3 h4 h5 => obtain ⟨g1, g2, g3⟩ := inv h1 h2; rw [← g2] at hf; have q := hf.symm.trans h5; cases q
    | again h1 h2 h3 h4 h5 => obtain ⟨g1, g2, g3⟩ := inv h1 h2; rw [← g2] at hf; have q := hf.symm.trans h5; cases q
  | @again S S' x r j c a ac hs hq hk hf hc he ha =>
    intro R R' d hr hd
    have inv : ∀ {i' : Nat} {t : RT}, chooseR R = (i' : Int) → R.tasks[i']? = some t → t.src = 2 ∧ qt t = x ∧ Rl (popS S 2 r) (rpop R i' t) := by
      intro i' t h1 h2
      obtain ⟨s, g1, g2, g3, r', g4, g5⟩ := key hr h1 h2
      have : s = 2 := by omega
      subst this
      rw [hq] at g4
      injection g4 with g6 g7
      subst g7
      exact ⟨g3, g6.symm, g5⟩
    rw [hr.find] at hf
    cases hd with
    | none hcc => obtain q | ⟨i', s, -, -, h1, -⟩ := rl_src hr <;> omega
    | plain h1 h2 hp' => obtain ⟨g1, g2, g3⟩ := inv h1 h2; exact absurd ⟨g1, by rw [← g2] at hk; exact hk⟩ hp'
    | skip h1 h2 h3 h4 h5 h6 => obtain ⟨g1, g2, g3⟩ := inv h1 h2; rw [← g2] at hf; have q := hf.symm.trans h5; cases q
    | @once _ i' j' t m h1 h2 h3 h4 h5 h6 h7 =>
      obtain ⟨g1, g2, g3⟩ := inv h1 h2
      rw [← g2] at hf
      have hf := h5.symm.trans hf
      injection hf with hf
      subst hf
      have := hr.at hc h6
      exact absurd (by rw [this.2.1]; exact h7) he
    | @wait _ i' j' t m h1 h2 h3 h4 h5 h6 h7 h8 =>
      obtain ⟨g1, g2, g3⟩ := inv h1 h2
      rw [← g2] at hf
      have hf := h5.symm.trans hf
      injection hf with hf
      subst hf
      obtain ⟨a1, a2, a3⟩ := hr.at hc h6
      obtain ⟨k1, k2, -⟩ := List.findIdx?_eq_some_iff_getElem.1 h5
      have em : R.tms[j'] = m := by rw [List.getElem?_eq_getElem k1] at h6; exact Option.some.inj h6
      have hin := (hr.wt.has k1).2 (by rw [em]; exact h8)
      rw [em] at hin
      have hS : S' = popS S 2 r := by
        rcases ha with ⟨-, -, hno, -⟩ | ⟨-, e⟩
        · obtain ⟨t', ht', et⟩ := hin
          exact absurd (et.trans a1.symm) (hno t' ht')
        · exact e
      rw [hS]
      exact ⟨g3, rfl, rfl, fun q => absurd q (by simp [chP]), fun _ => ⟨by show x.n = t.n; rw [← g2]; rfl, a3⟩⟩
    | @again _ i' j' t m h1 h2 h3 h4 h5 h6 h7 h8 =>
      obtain ⟨g1, g2, g3⟩ := inv h1 h2
      rw [← g2] at hf
      have hf := h5.symm.trans hf
      injection hf with hf
      subst hf
      obtain ⟨a1, a2, a3⟩ := hr.at hc h6
      obtain ⟨k1, k2, -⟩ := List.findIdx?_eq_some_iff_getElem.1 h5
      have em : R.tms[j'] = m := by rw [List.getElem?_eq_getElem k1] at h6; exact Option.some.inj h6
      have hid := hr.wt.id m (by rw [← em]; exact List.getElem_mem k1)
      have hnx : (popS S 2 r).nx = R.next := hr.nx
      have hnow : (popS S 2 r).now = R.now := hr.now
      rcases ha with ⟨-, -, hno, k, hk', e⟩ | ⟨hno, -⟩
      · rw [e]
        refine ⟨?_, rfl, rfl, fun q => absurd q (by simp [chP]), fun _ => ⟨by show x.n = t.n; rw [← g2]; rfl, a3⟩⟩
        rw [a1, a2, hnx, hnow] at hk' ⊢
        have hw2 : Wt (R.tms.set j' { R.tms[j'] with w := true, ord := R.next + 1, due := R.now + m.ev }) (insAt S.tm k ⟨R.tms[j'].id, R.now + m.ev, R.next + 1⟩) (R.next + 1) := by
          refine hr.wt.on k1 (by rw [em]; exact h8) ?_
          rw [em]
          exact hk'
        rw [em] at hw2
        refine ⟨rfl, g3.ord, rfl, g3.last, g3.shown, g3.users, g3.dirty, g3.jobs, g3.jan, g3.shots, g3.q, g3.src, g3.asc, g3.tle, ?_, hw2⟩
        show S.calls.map ck = (R.tms.set j' { m with w := true, ord := R.next + 1, due := R.now + m.ev }).map rmk
        rw [map_set_same rmk R.tms j' { m with w := true, ord := R.next + 1, due := R.now + m.ev } k1 (by rw [em]; rfl), hr.calls]
      · exfalso
        rcases hno with q | q | ⟨t', ht', et⟩
        · omega
        · rw [hnx] at q; omega
        · have := (hr.wt.has k1).1 ⟨t', ht', by rw [em]; exact et.trans a1⟩
          rw [em, h8] at this
          cases this
  | @once S x r j c a ac hs hq hk hf hc he =>
    intro R R' d hr hd
    have inv : ∀ {i' : Nat} {t : RT}, chooseR R = (i' : Int) → R.tasks[i']? = some t → t.src = 2 ∧ qt t = x ∧ Rl (popS S 2 r) (rpop R i' t) := by
      intro i' t h1 h2
      obtain ⟨s, g1, g2, g3, r', g4, g5⟩ := key hr h1 h2
      have : s = 2 := by omega
      subst this
      rw [hq] at g4
      injection g4 with g6 g7
      subst g7
      exact ⟨g3, g6.symm, g5⟩
    rw [hr.find] at hf
    cases hd with
    | none hcc => obtain q | ⟨i', s, -, -, h1, -⟩ := rl_src hr <;> omega
    | plain h1 h2 hp' => obtain ⟨g1, g2, g3⟩ := inv h1 h2; exact absurd ⟨g1, by rw [← g2] at hk; exact hk⟩ hp'
    | skip h1 h2 h3 h4 h5 h6 => obtain ⟨g1, g2, g3⟩ := inv h1 h2; rw [← g2] at hf; have q := hf.symm.trans h5; cases q
    | @once _ i' j' t m h1 h2 h3 h4 h5 h6 h7 =>
      obtain ⟨g1, g2, g3⟩ := inv h1 h2
      rw [← g2] at hf
      have hf := h5.symm.trans hf
      injection hf with hf
      subst hf
      obtain ⟨a1, a2, a3⟩ := hr.at hc h6
      obtain ⟨k1, k2, -⟩ := List.findIdx?_eq_some_iff_getElem.1 h5
      have em : R.tms[j'] = m := by rw [List.getElem?_eq_getElem k1] at h6; exact Option.some.inj h6
      have ei : c.id = t.n := by rw [a1, ← em]; simpa using k2
      rw [ei]
      exact ⟨(g3.clear t.n).1, rfl, rfl, fun q => absurd q (by simp [chP]), fun _ => ⟨by show x.n = t.n; rw [← g2]; rfl, a3⟩⟩
    | @wait _ i' j' t m h1 h2 h3 h4 h5 h6 h7 h8 =>
      obtain ⟨g1, g2, g3⟩ := inv h1 h2
      rw [← g2] at hf
      have hf := h5.symm.trans hf
      injection hf with hf
      subst hf
      have := hr.at hc h6
      exact absurd (by rw [← this.2.1]; exact he) h7
    | @again _ i' j' t m h1 h2 h3 h4 h5 h6 h7 h8 =>
      obtain ⟨g1, g2, g3⟩ := inv h1 h2
      rw [← g2] at hf
      have hf := h5.symm.trans hf
      injection hf with hf
      subst hf
      have := hr.at hc h6
      exact absurd (by rw [← this.2.1]; exact he) h7
theorem Rl.shows {S : LS} {R : RL} (h : Rl S R) : Shows S ↔ rframe R := by
  unfold Shows rframe
  rw [h.dirty, h.shown, h.now, h.shots, List.length_map, List.length_pos_iff]
/-- both do the same next -/
theorem rl_next {S S' : LS} {R R' : RL} {x : Ch} {l : List Hs} {d : RC} {ls : List Int} (h : Rl S R) (hn : NextR S S' x l) (ht : RTakeR R R' d ls) : Rl S' R' ∧ Cho x d ∧ l = ls.map (fun n => ⟨n, -n⟩) := by
  cases hn with
  | @job j r hj =>
    have e := h.jobs
    rw [hj, List.map_cons] at e
    cases ht with
    | @job n r' hj' =>
      rw [hj'] at e
      injection e with e1 e2
      refine ⟨⟨h.now, h.ord, h.nx, h.last, h.shown, h.users, h.dirty, e2, fun y hy => h.jan y (by rw [hj]; exact List.mem_cons_of_mem _ hy), h.shots, h.q, h.src, h.asc, h.tle, h.calls, h.wt⟩, ⟨rfl, rfl, fun _ => ⟨e1, ?_⟩, fun q => absurd q (by simp [chJ])⟩, rfl⟩
      exact h.jan j (by rw [hj]; exact List.mem_cons_self)
    | frame hj' => rw [hj'] at e; cases e
    | task hj' => rw [hj'] at e; cases e
  | shows hj hs =>
    have e := h.jobs
    rw [hj] at e
    cases ht with
    | job hj' => rw [hj'] at e; cases e
    | frame hj' hf =>
      refine ⟨⟨h.now, h.ord, h.nx, h.last, h.now, h.users, rfl, h.jobs, h.jan, rfl, h.q, h.src, h.asc, h.tle, h.calls, h.wt⟩, ⟨rfl, rfl, fun q => absurd q (by simp [chH]), fun q => absurd q (by simp [chH])⟩, h.shots⟩
    | task hj' hf => exact absurd (h.shows.1 hs) hf
  | task hj hs htk =>
    have e := h.jobs
    rw [hj] at e
    cases ht with
    | job hj' => rw [hj'] at e; cases e
    | frame hj' hf => exact absurd (h.shows.2 hf) hs
    | task hj' hf htk' =>
      obtain ⟨g1, g2⟩ := rl_task htk h.fire htk'
      exact ⟨g1, g2, rfl⟩
end
section
open Go.RowKit Go.K
theorem _root_.Go.put_some (l : List Value) (d) (k : Nat) (v : Value) : Act.put { tmps := l.toArray, defers := d } (some k) v = { tmps := (l.set k v).toArray, defers := d } := by
  simp [Act.put]
theorem _root_.Go.put_none (a : Act) (v : Value) : Act.put a none v = a := rfl
theorem flat_set {α : Type} (f : α → List Value) {sz : Nat} (hf : ∀ a, (f a).length = sz) : ∀ (l : List α) (k j : Nat) (hk : k < l.length) (hj : j < sz) (x : α) (u : Value), f x = (f l[k]).set j u → flat f (l.set k x) = (flat f l).set (k * sz + j) u
  | y :: l, 0, j, _, hj, x, u, hx => by
    simp only [List.getElem_cons_zero] at hx
    rw [List.set_cons_zero, flat_cons, flat_cons, hx, Nat.zero_mul, Nat.zero_add, List.set_append_left _ _ (by rw [hf]; exact hj)]
  | y :: l, k + 1, j, hk, hj, x, u, hx => by
    simp only [List.getElem_cons_succ] at hx
    rw [List.set_cons_succ, flat_cons, flat_cons, flat_set f hf l k j (by simpa using hk) hj x u hx, List.set_append_right _ _ (by rw [hf, Nat.succ_mul]; omega)]
    have e : (k + 1) * sz + j - (f y).length = k * sz + j := by rw [hf, Nat.succ_mul]; omega
    rw [e]
section
variable {w0 w : World} {L : List As} {b : Nat} {R : RL} {p : Pt}
/-- a field of timer k is written -/
theorem rm_set {g off : Nat} (h : St w0 w (rlL b R p ++ L)) (hp : (p 3).1 = some ⟨g, off, none⟩) (k : Nat) (hk : k < R.tms.length) (j : Nat) (hj : j < 6) (u : Value) (hu : u.oneCell' = true) (x : RM) (hx : x.cells = (R.tms[k].cells).set j u) :
    St w0 (w.setCell ⟨g, off + k * 6 + j, none⟩ u) (rlL b { R with tms := R.tms.set k x } p ++ L) := by
  have h1 := (foc_rrm h).swap
  unfold rrm at h1
  rw [hp] at h1
  have h2 := h1.row_set (k * 6 + j) (by omega) u hu
  rw [← Nat.add_assoc, ← flat_set RM.cells lenRM R.tms k j hk hj x u hx, ← hp] at h2
  have h3 := h2.swap
  have e : rlL b { R with tms := R.tms.set k x } p = [As.cells b (rlc R p) 69, rrt R p, rrj R p, rrh R p, As.row 107 6 (p 3).1 R.tms.length (p 3).2 (flat RM.cells (R.tms.set k x))] := by
    simp [rlL, rlc, rrt, rrj, rrh, rrm]
  rw [e]
  exact St.sh [_, _, _, _, _] [0, 2, 3, 4, 1] (by decide) h3
/-- where timer k lies, and what its cells hold -/
theorem rm_at2 (h : St w0 w (rlL b R p ++ L)) (k : Nat) (hk : k < R.tms.length) : ∃ g off, (p 3).1 = some ⟨g, off, none⟩ ∧ g ≠ b ∧ (∀ j, w.frozen? ⟨g, j, none⟩ = false) ∧ Rd w 6 (some ⟨g, off, none⟩) R.tms.length (flat RM.cells R.tms) := by
  have h1 := foc_rrm h
  unfold rrm at h1
  have hs := h1.swap.sl
  obtain ⟨g, off, hga, -⟩ := hs.rd.addr (by omega)
  have hne : g ≠ b := by rw [hga] at h1; exact h1.apart
  refine ⟨g, off, hga, hne, ?_, ?_⟩
  · rw [hga] at hs
    rcases hs.row with ⟨q, _⟩ | ⟨g', off', cur, q, hb, _⟩
    · cases q
    · cases q
      intro j
      exact hb.free j
  · have := hs.rd
    rwa [hga] at this
end
/-- what keeps the chapter's numbers in bounds -/
structure RBn (R : RL) : Prop where
  t : R.tasks.length + waitN R.tms ≤ 50000
  m : R.tms.length ≤ 50000
  ord0 : 0 ≤ R.ord
  ord1 : R.ord + waitN R.tms ≤ 1000000000000
  us0 : 0 ≤ R.users
  us1 : R.users ≤ 1000000000000
  nx0 : 0 ≤ R.next
  nx1 : R.next ≤ 4294967296
  now0 : 0 ≤ R.now
  now1 : R.now ≤ 1152921504606846976
  ev : ∀ t ∈ R.tms, 0 ≤ t.ev ∧ t.ev ≤ 1099511627776
  sh0 : 0 ≤ R.shown
  sh1 : R.shown ≤ 1152921504606846976
  jobs : R.jobs.length ≤ 50000
  shots : R.shots.length ≤ 50000
  last0 : 0 ≤ R.last
  last1 : R.last ≤ 1000000000000
theorem best_lt {R : RL} (h : 0 ≤ bestR R) : ∃ k : Nat, bestR R = k ∧ k < R.tms.length := by
  rcases bestM_cases R.tms R.tms.length with q | ⟨q1, q2⟩
  · rw [bestR, q] at h; omega
  · exact ⟨(bestR R).toNat, by omega, by unfold bestR at *; omega⟩
theorem RBn.fire1 {R : RL} (h : RBn R) (hd : dueR R) : RBn (fire1 R (bestR R).toNat) := by
  have hw := fire1_wait hd
  obtain ⟨k, hk, hkl⟩ := best_lt hd.1
  have hlt : (Go.Proofs.Ytnamkckpgaopkaa.fire1 R (bestR R).toNat).tasks.length = R.tasks.length + 1 := by simp [Go.Proofs.Ytnamkckpgaopkaa.fire1, rpushS]
  have hm : (Go.Proofs.Ytnamkckpgaopkaa.fire1 R (bestR R).toNat).tms.length = R.tms.length := by simp [Go.Proofs.Ytnamkckpgaopkaa.fire1, rpushS]
  have ho : (Go.Proofs.Ytnamkckpgaopkaa.fire1 R (bestR R).toNat).ord = R.ord + 1 := rfl
  have := h.t
  have := h.m
  have := h.ord0
  have := h.ord1
  refine ⟨by omega, by omega, by omega, by omega, h.us0, h.us1, h.nx0, h.nx1, h.now0, h.now1, fun t ht => ?_, h.sh0, h.sh1, h.jobs, h.shots, h.last0, h.last1⟩
  rcases List.mem_or_eq_of_mem_set (show t ∈ R.tms.set (bestR R).toNat { nthM R.tms (bestR R).toNat with w := false } from ht) with q | q
  · exact h.ev t q
  · rw [q]
    have e : (bestR R).toNat = k := by omega
    have := h.ev (nthM R.tms (bestR R).toNat) (by rw [e, nthM_eq hkl]; exact List.getElem_mem hkl)
    exact this
theorem RBn.pop {R : RL} (h : RBn R) {i : Nat} {t : RT} (hs : t.src ≠ 0) : RBn (rpop R i t) := by
  have h1 : (rpop R i t).tasks.length ≤ R.tasks.length := by
    show (R.tasks.eraseIdx i).length ≤ _
    rw [List.length_eraseIdx]
    split <;> omega
  have := h.t
  have := h.us0
  refine ⟨by show (rpop R i t).tasks.length + waitN R.tms ≤ _; omega, h.m, h.ord0, h.ord1, ?_, ?_, h.nx0, h.nx1, h.now0, h.now1, h.ev, h.sh0, h.sh1, h.jobs, h.shots, h.last0, h.last1⟩
  · show 0 ≤ if t.src = 0 then R.users + 1 else 0
    rw [if_neg hs]; omega
  · show (if t.src = 0 then R.users + 1 else 0) ≤ _
    rw [if_neg hs]; omega

section
variable {w0 w : World} {L : List As} {b : Nat} {R : RL} {p : Pt} {A B : As}
theorem rl_out1 (h : St w0 w (rlL b R p ++ (A :: L))) : St w0 w (A :: (rlL b R p ++ L)) := St.sh [_, _, _, _, _, _] [5, 0, 1, 2, 3, 4] (by decide) h
theorem rl_out2 (h : St w0 w (rlL b R p ++ L)) : St w0 w (rlL b R p ++ L) := h
theorem rl_drop2 (h : St w0 w (rlL b R p ++ (A :: B :: L))) : St w0 w (rlL b R p ++ L) := (rl_out1 (rl_out1 h).drop).drop
theorem rl_out2' (h : St w0 w (rlL b R p ++ (A :: B :: L))) : St w0 w (rlL b R p ++ L) := rl_drop2 h
theorem rt_at2 (h : St w0 w (rlL b R p ++ L)) (k : Nat) (hk : k < R.tasks.length) : ∃ g off, (p 0).1 = some ⟨g, off, none⟩ ∧ Rd w 4 (some ⟨g, off, none⟩) R.tasks.length (flat RT.cells R.tasks) := by
  have h1 := foc_rrt h
  unfold rrt at h1
  have hs := h1.swap.sl
  obtain ⟨g, off, hga, -⟩ := hs.rd.addr (by omega)
  refine ⟨g, off, hga, ?_⟩
  have := hs.rd
  rwa [hga] at this
theorem rt_cells {w : World} {g off : Nat} {n : Nat} {M : List RT} (h : Rd w 4 (some ⟨g, off, none⟩) n (flat RT.cells M)) {k : Nat} (hk : k < M.length) :
    w.cell? ⟨g, off + k * 4, none⟩ = some (.int .i64 M[k].src) ∧ w.cell? ⟨g, off + k * 4 + 1, none⟩ = some (.int .i64 M[k].ord) ∧ w.cell? ⟨g, off + k * 4 + 2, none⟩ = some (.int .i64 M[k].k) ∧
    w.cell? ⟨g, off + k * 4 + 3, none⟩ = some (.int .i64 M[k].n) := by
  have key : ∀ j v, j < 4 → (M[k].cells)[j]? = some v → w.cell? ⟨g, off + k * 4 + j, none⟩ = some v := fun j v hj hv => by
    have h2 := h.cells _ rfl _ _ ((rt_at M k hk j hj).trans hv)
    rwa [Addr.add_lit, ← Nat.add_assoc] at h2
  exact ⟨key 0 _ (by omega) rfl, key 1 _ (by omega) rfl, key 2 _ (by omega) rfl, key 3 _ (by omega) rfl⟩
theorem rt_take (M : List RT) (k : Nat) : (flat RT.cells M).take (k * 4) = flat RT.cells (M.take k) := flat_take lenRT M k
theorem rt_drop (M : List RT) (k : Nat) : (flat RT.cells M).drop (k * 4) = flat RT.cells (M.drop k) := flat_drop lenRT M k
end
end
end Go.Proofs.Ytnamkckpgaopkaa
