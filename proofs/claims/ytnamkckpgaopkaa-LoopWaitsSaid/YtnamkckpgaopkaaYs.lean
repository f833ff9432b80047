/-
  When something happens next in the chapter's loop.
-/
import Derived.Test.YtnamkckpgaopkaaYr
set_option linter.unusedVariables false
set_option linter.unusedSimpArgs false
namespace Go.Proofs.Ytnamkckpgaopkaa
open Go.RowKit Go.K

def hasF (R : RL) : Prop := R.dirty = true ∨ R.shots ≠ []
def dueAt (R : RL) : Int := (nthM R.tms (bestR R).toNat).due
theorem choose_nil {R : RL} (h : chooseR R < 0) : R.tasks = [] := by
  have h1 : ¬ 0 ≤ ixP (fun t : RT => t.src != 0) R.tasks R.tasks.length := by
    intro q
    unfold chooseR at h
    split at h
    · rename_i hc; omega
    · omega
  have h2 : ¬ 0 ≤ ixP (fun t : RT => t.src == 0) R.tasks R.tasks.length := by
    intro q
    unfold chooseR at h
    rw [if_pos ⟨q, .inl (by omega)⟩] at h
    omega
  have n1 := ixP_none (by omega : ixP (fun t : RT => t.src != 0) R.tasks R.tasks.length < 0)
  have n2 := ixP_none (by omega : ixP (fun t : RT => t.src == 0) R.tasks R.tasks.length < 0)
  cases ht : R.tasks with
  | nil => rfl
  | cons t r =>
    have q1 := n1 t (by rw [ht]; exact List.mem_cons_self)
    have q2 := n2 t (by rw [ht]; exact List.mem_cons_self)
    simp at q1 q2
    exact absurd q1 q2
theorem mem_erase {α : Type} {l : List α} {i : Nat} (hi : i < l.length) {x : α} (hx : x ∈ l) : x = l[i] ∨ x ∈ l.eraseIdx i := by
  have p : (l[i] :: l.eraseIdx i).Perm l := by
    rw [List.eraseIdx_eq_take_drop_succ]
    refine (List.perm_middle.symm).trans ?_
    rw [List.getElem_cons_drop, List.take_append_drop]
  rcases List.mem_cons.1 (p.mem_iff.2 hx) with q | q
  · exact .inl q
  · exact .inr q
theorem rl_eta (R : RL) (h : R.tasks = []) : R = { R with tasks := [], users := R.users } := by
  cases R
  simp only at h
  rw [h]
theorem task0 {R R' : RL} {d : RC} (h : RTaskR R R' d) : d.kd = 0 → (∀ t ∈ R.tasks, ∀ m ∈ R.tms, m.id ≠ t.n) ∧ R' = { R with tasks := [], users := R'.users } := by
  induction h with
  | @none R h =>
    intro _
    have e := choose_nil h
    refine ⟨by rw [e]; simp, ?_⟩
    exact rl_eta R e
  | plain => intro h; cases h
  | @skip R R' i t d h ht hs hk hf hr ih =>
    intro hd
    obtain ⟨g1, g2⟩ := ih hd
    obtain ⟨hi, et⟩ := List.getElem?_eq_some_iff.1 ht
    refine ⟨fun t' ht' m hm => ?_, g2⟩
    rcases mem_erase hi ht' with q | q
    · rw [q, et]
      have := List.findIdx?_eq_none_iff.1 hf m hm
      simpa using this
    · exact g1 t' q m hm
  | once => intro h; cases h
  | wait => intro h; cases h
  | again => intro h; cases h
theorem fireN_mono : ∀ (n : Nat) (R : RL), (∀ t ∈ R.tasks, t ∈ (rfireN n R).tasks) ∧ (rfireN n R).tms.map RM.id = R.tms.map RM.id
  | 0, _ => ⟨fun _ h => h, rfl⟩
  | n + 1, R => by
    unfold rfireN
    split
    · rename_i hd
      obtain ⟨h1, h2⟩ := fireN_mono n (fire1 R (bestR R).toNat)
      obtain ⟨b, hb, hbl⟩ := best_lt hd.1
      have e : (bestR R).toNat = b := by omega
      refine ⟨fun t ht => h1 t ?_, h2.trans ?_⟩
      · exact List.mem_append_left _ ht
      · rw [e]
        show (R.tms.set b { nthM R.tms b with w := false }).map RM.id = _
        exact map_set_same RM.id R.tms b _ hbl (by rw [nthM_eq hbl])
    · exact ⟨fun _ h => h, rfl⟩
theorem due_task {R : RL} (hd : dueR R) : ∃ t ∈ (rfireS R).tasks, ∃ m ∈ (rfireS R).tms, m.id = t.n := by
  obtain ⟨b, hb, hbl⟩ := best_lt hd.1
  have e : (bestR R).toNat = b := by omega
  rw [rfireS_step hd]
  obtain ⟨h1, h2⟩ := fireN_mono (waitN (fire1 R (bestR R).toNat).tms) (fire1 R (bestR R).toNat)
  refine ⟨⟨2, R.ord + 1, 0, (nthM R.tms b).id⟩, h1 _ (by rw [e]; exact List.mem_append_right _ (by simp [srcN])), ?_⟩
  have h3 : (nthM R.tms b).id ∈ (rfireN (waitN (fire1 R (bestR R).toNat).tms) (fire1 R (bestR R).toNat)).tms.map RM.id := by
    rw [h2, e]
    show _ ∈ (R.tms.set b { nthM R.tms b with w := false }).map RM.id
    rw [map_set_same RM.id R.tms b _ hbl (by rw [nthM_eq hbl]), nthM_eq hbl]
    exact List.mem_map.2 ⟨_, List.getElem_mem hbl, rfl⟩
  obtain ⟨m, hm, e3⟩ := List.mem_map.1 h3
  exact ⟨m, hm, e3⟩
/-- where nothing is chosen -/
theorem take0 {R R' : RL} {d : RC} {ls : List Int} (h : RTakeR R R' d ls) (h0 : d.kd = 0) : R.jobs = [] ∧ ¬ rframe R ∧ ¬ dueR R ∧ R' = { R with tasks := [], users := R'.users } := by
  cases h with
  | job => cases h0
  | frame => cases h0
  | task hj hf ht =>
    obtain ⟨g1, g2⟩ := task0 ht h0
    have hd : ¬ dueR R := fun q => by
      obtain ⟨t, ht, m, hm, e⟩ := due_task q
      exact g1 t ht m hm e
    rw [rfireS_stop hd] at g2
    exact ⟨hj, hf, hd, g2⟩
theorem take_idle {R R' : RL} {d : RC} {ls : List Int} (hj : R.jobs = []) (hf : ¬ rframe R) (hd : ¬ dueR R) (ht : R.tasks = []) (h : RTakeR R R' d ls) : d.kd = 0 := by
  cases h with
  | job q => rw [hj] at q; cases q
  | frame q qf => exact absurd qf hf
  | task q qf qt =>
    rw [rfireS_stop hd] at qt
    cases qt with
    | none => rfl
    | plain _ q => rw [ht] at q; cases q
    | skip _ q => rw [ht] at q; cases q
    | once _ q => rw [ht] at q; cases q
    | wait _ q => rw [ht] at q; cases q
    | again _ q => rw [ht] at q; cases q
theorem take_busy {R R' : RL} {d : RC} {ls : List Int} (h : RTakeR R R' d ls) (hb : rframe R ∨ dueR R) : d.kd ≠ 0 := fun h0 => by
  obtain ⟨-, h1, h2, -⟩ := take0 h h0
  exact hb.elim h1 h2
theorem take_det_d {R R1 R2 : RL} {d1 d2 : RC} {l1 l2 : List Int} (h1 : RTakeR R R1 d1 l1) (h2 : RTakeR R R2 d2 l2) : d1 = d2 := by
  cases h1 with
  | job h =>
    cases h2 with
    | job q => rw [h] at q; injection q with q1 q2; subst q1; rfl
    | frame q => rw [h] at q; cases q
    | task q => rw [h] at q; cases q
  | frame h hf =>
    cases h2 with
    | job q => rw [h] at q; cases q
    | frame q => rfl
    | task q qf => exact absurd hf qf
  | task h hf ht =>
    cases h2 with
    | job q => rw [h] at q; cases q
    | frame q qf => exact absurd qf hf
    | task q qf qt => exact (task_det ht qt).2
/-- the moment that Due names where nothing is chosen -/
def DueA (R : RL) (a : Int) (ok : Bool) : Prop :=
  (hasF R ∧ ok = true ∧ ((bestR R < 0 ∧ a = R.shown + 16) ∨ (0 ≤ bestR R ∧ a = min (dueAt R) (R.shown + 16)))) ∨
  (¬ hasF R ∧ ((bestR R < 0 ∧ ok = false) ∨ (0 ≤ bestR R ∧ ok = true ∧ a = dueAt R)))
theorem due_later {R : RL} {a : Int} (h : DueA R a true) (hf : ¬ rframe R) (hd : ¬ dueR R) : R.now < a := by
  have h1 : hasF R → R.now < R.shown + 16 := fun q => by
    have : ¬ R.shown + 16 ≤ R.now := fun z => hf ⟨q, z⟩
    omega
  have h2 : 0 ≤ bestR R → R.now < dueAt R := fun q => by
    have : ¬ dueAt R ≤ R.now := fun z => hd ⟨q, z⟩
    omega
  rcases h with ⟨q, -, ⟨q1, q2⟩ | ⟨q1, q2⟩⟩ | ⟨q, ⟨q1, q2⟩ | ⟨q1, -, q2⟩⟩
  · have := h1 q; omega
  · have := h1 q; have := h2 q1; omega
  · cases q2
  · have := h2 q1; omega
/-- before it there is nothing to do -/
theorem due_before {R : RL} {a n : Int} {u : Int} (h : DueA R a true) (hn : n < a) : ¬ rframe { R with tasks := [], users := u, now := n } ∧ ¬ dueR { R with tasks := [], users := u, now := n } := by
  constructor
  · rintro ⟨q, z⟩
    have z2 : R.shown + 16 ≤ n := z
    have q' : hasF R := q
    rcases h with ⟨-, -, ⟨-, q2⟩ | ⟨-, q2⟩⟩ | ⟨q1, -⟩
    · omega
    · omega
    · exact q1 q'
  · rintro ⟨q, z⟩
    have z2 : dueAt R ≤ n := z
    have q' : 0 ≤ bestR R := q
    rcases h with ⟨-, -, ⟨q1, -⟩ | ⟨-, q2⟩⟩ | ⟨-, ⟨q1, -⟩ | ⟨-, -, q2⟩⟩ <;> omega
/-- at it there is -/
theorem due_there {R : RL} {a n : Int} {u : Int} (h : DueA R a true) (hn : a ≤ n) : rframe { R with tasks := [], users := u, now := n } ∨ dueR { R with tasks := [], users := u, now := n } := by
  rcases h with ⟨q, -, ⟨-, q2⟩ | ⟨q1, q2⟩⟩ | ⟨-, ⟨-, q2⟩ | ⟨q1, -, q2⟩⟩
  · exact .inl ⟨q, by show R.shown + 16 ≤ n; omega⟩
  · by_cases z : R.shown + 16 ≤ n
    · exact .inl ⟨q, z⟩
    · exact .inr ⟨q1, by show dueAt R ≤ n; omega⟩
  · cases q2
  · exact .inr ⟨q1, by show dueAt R ≤ n; omega⟩
theorem due_never {R : RL} {a n : Int} {u : Int} (h : DueA R a false) : ¬ rframe { R with tasks := [], users := u, now := n } ∧ ¬ dueR { R with tasks := [], users := u, now := n } := by
  rcases h with ⟨-, q, -⟩ | ⟨q, ⟨q1, -⟩ | ⟨-, q2, -⟩⟩
  · cases q
  · refine ⟨fun z => q z.1, fun z => ?_⟩
    have z1 : 0 ≤ bestR R := z.1
    omega
  · cases q2

end Go.Proofs.Ytnamkckpgaopkaa
