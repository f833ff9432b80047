/-
  The two loops beside each other: each operation, and bounds. What Take takes grows less: the measure of the last loop of LoopPlays; Take is a function.
-/
import Derived.Test.YtnamkckpgaopkaaYd
import Derived.Test.YtnamkckpgaopkaaXh
import Derived.Test.YtnamkckpgaopkaaXe
set_option linter.unusedVariables false
set_option linter.unusedSimpArgs false
namespace Go.Proofs.Ytnamkckpgaopkaa
section
open Go.RowKit Go.K
structure Bk (k : Nat) (N : Int) (R : RL) : Prop where
  t : R.tasks.length + waitN R.tms ≤ k
  m : R.tms.length ≤ k
  ord0 : 0 ≤ R.ord
  ord1 : R.ord + waitN R.tms ≤ k
  us0 : 0 ≤ R.users
  us1 : R.users ≤ k
  nx0 : 0 ≤ R.next
  nx1 : R.next ≤ k
  now0 : 0 ≤ R.now
  now1 : R.now ≤ N
  ev : ∀ t ∈ R.tms, 0 ≤ t.ev ∧ t.ev ≤ 1099511627776
  sh0 : 0 ≤ R.shown
  sh1 : R.shown ≤ N
  jobs : R.jobs.length ≤ k
  shots : R.shots.length ≤ k
  last0 : 0 ≤ R.last
  last1 : R.last ≤ k
  sb : ∀ x ∈ R.shots, 0 ≤ x ∧ x ≤ R.last
theorem bk0 : Bk 0 0 RL.zero := by
  refine ⟨by simp [RL.zero, waitN], by simp [RL.zero], by simp [RL.zero], by simp [RL.zero, waitN], by simp [RL.zero], by simp [RL.zero], by simp [RL.zero], by simp [RL.zero], by simp [RL.zero], by simp [RL.zero], by simp [RL.zero], by simp [RL.zero], by simp [RL.zero], by simp [RL.zero], by simp [RL.zero], by simp [RL.zero], by simp [RL.zero], by simp [RL.zero]⟩
theorem rl0 : Rl LS.zero RL.zero := by
  refine ⟨rfl, rfl, rfl, rfl, rfl, rfl, rfl, rfl, by simp [LS.zero], rfl, fun i => by simp [LS.zero, RL.zero, qof], by simp [RL.zero], by simp [RL.zero], by simp [RL.zero], rfl, ⟨by simp [wl, RL.zero, LS.zero], TOk.nil, by simp [RL.zero], by simp [RL.zero]⟩⟩
section
variable {k : Nat} {N : Int} {R R' : RL} {S S' : LS}
theorem Bk.mono {k' : Nat} {N' : Int} (h : Bk k N R) (hk : k ≤ k') (hN : N ≤ N') : Bk k' N' R := by
  have h1 := h.t; have h2 := h.m; have h3 := h.ord1; have h4 := h.us1; have h5 := h.nx1; have h6 := h.now1; have h7 := h.sh1; have h8 := h.jobs; have h9 := h.shots; have h10 := h.last1
  exact ⟨by omega, by omega, h.ord0, by omega, h.us0, by omega, h.nx0, by omega, h.now0, by omega, h.ev, h.sh0, by omega, by omega, by omega, h.last0, by omega, h.sb⟩
theorem Bk.rbn (h : Bk k N R) (hk : k ≤ 40000) (hN : N ≤ 576460752303423488) : RBn R := by
  have h1 := h.t; have h2 := h.m; have h3 := h.ord1; have h4 := h.us1; have h5 := h.nx1; have h6 := h.now1; have h7 := h.sh1; have h8 := h.jobs; have h9 := h.shots; have h10 := h.last1
  exact ⟨by omega, by omega, h.ord0, by omega, h.us0, by omega, h.nx0, by omega, h.now0, by omega, h.ev, h.sh0, by omega, by omega, by omega, h.last0, by omega⟩
theorem waitN_le (M : List RM) : waitN M ≤ M.length := List.countP_le_length
theorem waitN_erase (M : List RM) (j : Nat) : waitN (M.eraseIdx j) ≤ waitN M := (List.eraseIdx_sublist M j).countP_le
theorem waitN_on : ∀ (M : List RM) (j : Nat) (x : RM), waitN (M.set j x) ≤ waitN M + 1
  | [], _, _ => by simp [waitN]
  | y :: M, 0, x => by
    rw [List.set_cons_zero]
    unfold waitN
    rw [List.countP_cons, List.countP_cons]
    split <;> split <;> omega
  | y :: M, j + 1, x => by
    rw [List.set_cons_succ]
    have := waitN_on M j x
    unfold waitN at *
    rw [List.countP_cons, List.countP_cons]
    omega
theorem Bk.pop (h : Bk k N R) {i : Nat} {t : RT} : Bk (k + 1) N (rpop R i t) ∧ (t.src ≠ 0 → Bk k N (rpop R i t)) := by
  have e1 : (rpop R i t).tasks.length ≤ R.tasks.length := by
    show (R.tasks.eraseIdx i).length ≤ _
    rw [List.length_eraseIdx]; split <;> omega
  have e2 : (rpop R i t).tms = R.tms := rfl
  have h1 := h.t; have h2 := h.m; have h3 := h.ord1; have h4 := h.us1; have h5 := h.nx1; have h8 := h.jobs; have h9 := h.shots; have h10 := h.last1; have h11 := h.us0
  have e3 : (rpop R i t).users = if t.src = 0 then R.users + 1 else 0 := rfl
  have e4 : (rpop R i t).ord = R.ord := rfl
  have e5 : (rpop R i t).next = R.next := rfl
  have e6 : (rpop R i t).jobs = R.jobs := rfl
  have e7 : (rpop R i t).shots = R.shots := rfl
  have e8 : (rpop R i t).last = R.last := rfl
  constructor
  · refine ⟨by rw [e2]; omega, by rw [e2]; omega, h.ord0, by rw [e2, e4]; omega, by rw [e3]; split <;> omega, by rw [e3]; split <;> omega, h.nx0, by rw [e5]; omega, h.now0, h.now1, h.ev, h.sh0, h.sh1, by rw [e6]; omega, by rw [e7]; omega, h.last0, by rw [e8]; omega, h.sb⟩
  · intro hs
    rw [if_neg hs] at e3
    exact ⟨by rw [e2]; omega, h.m, h.ord0, h.ord1, by rw [e3]; omega, by rw [e3]; omega, h.nx0, h.nx1, h.now0, h.now1, h.ev, h.sh0, h.sh1, h.jobs, h.shots, h.last0, h.last1, h.sb⟩
theorem Bk.clear (h : Bk k N R) (n : Int) : Bk k N (rclearS R n) := by
  unfold rclearS
  split
  · exact h
  · rename_i i _
    have h0 := waitN_erase R.tms i
    have h1 := h.t; have h2 := h.m; have h3 := h.ord1
    have e : (R.tms.eraseIdx i).length ≤ R.tms.length := by rw [List.length_eraseIdx]; split <;> omega
    exact ⟨by show R.tasks.length + waitN (R.tms.eraseIdx i) ≤ k; omega, by show (R.tms.eraseIdx i).length ≤ k; omega, h.ord0, by show R.ord + waitN (R.tms.eraseIdx i) ≤ k; omega, h.us0, h.us1, h.nx0, h.nx1, h.now0, h.now1, fun t ht => h.ev t (List.mem_of_mem_eraseIdx ht), h.sh0, h.sh1, h.jobs, h.shots, h.last0, h.last1, h.sb⟩
theorem Bk.task {d : RC} (ht : RTaskR R R' d) : ∀ {k : Nat}, Bk k N R → Bk (k + 1) N R' := by
  induction ht with
  | none h => intro k hb; exact hb.mono (by omega) (Int.le_refl _)
  | plain h ht hp => intro k hb; exact hb.pop.1
  | skip h ht hs hk hf hr ih => intro k hb; exact ih (hb.pop.2 (by rw [hs]; decide))
  | once h ht hs hk hf hm he => intro k hb; exact (hb.pop.1).clear _
  | wait h ht hs hk hf hm he hw => intro k hb; exact hb.pop.1
  | @again R i j t m h ht hs hk hf hm he hw =>
    intro k hb
    have hp : Bk k N (rpop R i t) := hb.pop.2 (by rw [hs]; decide)
    have hi : i < R.tasks.length := (List.getElem?_eq_some_iff.1 ht).1
    have e1 : (rpop R i t).tasks.length + 1 = R.tasks.length := by
      show (R.tasks.eraseIdx i).length + 1 = _
      rw [List.length_eraseIdx, if_pos hi]; omega
    have h1 := hb.t; have h2 := hp.m; have h3 := hp.ord1; have h4 := hp.us1; have h5 := hp.nx1; have h8 := hp.jobs; have h9 := hp.shots; have h10 := hp.last1; have h11 := hp.nx0
    have hw2 := waitN_on (rpop R i t).tms j { m with w := true, ord := (rpop R i t).next + 1, due := (rpop R i t).now + m.ev }
    have e2 : (rpop R i t).tms = R.tms := rfl
    have e3 : (ragain (rpop R i t) j m).tms = (rpop R i t).tms.set j { m with w := true, ord := (rpop R i t).next + 1, due := (rpop R i t).now + m.ev } := rfl
    have e4 : (ragain (rpop R i t) j m).ord = (rpop R i t).ord := rfl
    have e5 : (ragain (rpop R i t) j m).tasks = (rpop R i t).tasks := rfl
    have e6 : (ragain (rpop R i t) j m).next = (rpop R i t).next + 1 := rfl
    have e7 : (ragain (rpop R i t) j m).users = (rpop R i t).users := rfl
    refine ⟨by rw [e3, e5]; rw [e2] at hw2 ⊢; omega, by rw [e3, List.length_set]; omega, hp.ord0, by rw [e3, e4]; omega, hp.us0, by rw [e7]; omega, by rw [e6]; omega, by rw [e6]; omega, hp.now0, hp.now1, fun x hx => ?_, hp.sh0, hp.sh1, ?_, ?_, hp.last0, ?_, hp.sb⟩
    · rw [e3] at hx
      rcases List.mem_or_eq_of_mem_set hx with q | q
      · exact hp.ev x q
      · rw [q]
        exact hb.ev m (List.mem_of_getElem? hm)
    · show (rpop R i t).jobs.length ≤ k + 1; omega
    · show (rpop R i t).shots.length ≤ k + 1; omega
    · show (rpop R i t).last ≤ ((k + 1 : Nat) : Int); omega
theorem Bk.fire1 (h : Bk k N R) (hd : dueR R) : Bk k N (Go.Proofs.Ytnamkckpgaopkaa.fire1 R (bestR R).toNat) := by
  have hw := fire1_wait hd
  obtain ⟨b, hb, hbl⟩ := best_lt hd.1
  have hlt : (Go.Proofs.Ytnamkckpgaopkaa.fire1 R (bestR R).toNat).tasks.length = R.tasks.length + 1 := by simp [Go.Proofs.Ytnamkckpgaopkaa.fire1, rpushS]
  have hm : (Go.Proofs.Ytnamkckpgaopkaa.fire1 R (bestR R).toNat).tms.length = R.tms.length := by simp [Go.Proofs.Ytnamkckpgaopkaa.fire1, rpushS]
  have ho : (Go.Proofs.Ytnamkckpgaopkaa.fire1 R (bestR R).toNat).ord = R.ord + 1 := rfl
  have := h.t; have := h.m; have := h.ord0; have := h.ord1
  refine ⟨by omega, by omega, by omega, by omega, h.us0, h.us1, h.nx0, h.nx1, h.now0, h.now1, fun t ht => ?_, h.sh0, h.sh1, h.jobs, h.shots, h.last0, h.last1, h.sb⟩
  rcases List.mem_or_eq_of_mem_set (show t ∈ R.tms.set (bestR R).toNat { nthM R.tms (bestR R).toNat with w := false } from ht) with q | q
  · exact h.ev t q
  · rw [q]
    have e : (bestR R).toNat = b := by omega
    have := h.ev (nthM R.tms (bestR R).toNat) (by rw [e, nthM_eq hbl]; exact List.getElem_mem hbl)
    exact this
theorem Bk.fireN : ∀ (n : Nat) {R : RL}, Bk k N R → Bk k N (rfireN n R)
  | 0, _, h => h
  | n + 1, R, h => by
    unfold rfireN
    split
    · rename_i hd
      exact Bk.fireN n (h.fire1 hd)
    · exact h
theorem Bk.fire (h : Bk k N R) : Bk k N (rfireS R) := Bk.fireN _ h
theorem Bk.take {d : RC} {ls : List Int} (h : Bk k N R) (ht : RTakeR R R' d ls) : Bk (k + 1) N R' ∧ ls.length ≤ k ∧ ∀ x ∈ ls, 0 ≤ x ∧ x ≤ k := by
  have h1 := h.t; have h2 := h.m; have h3 := h.ord1; have h4 := h.us1; have h5 := h.nx1; have h8 := h.jobs; have h9 := h.shots; have h10 := h.last1
  cases ht with
  | @job n r hj =>
    have hl : r.length ≤ k := by rw [hj, List.length_cons] at h8; omega
    have hb := h.mono (Nat.le_succ k) (Int.le_refl N)
    exact ⟨⟨hb.t, hb.m, hb.ord0, hb.ord1, hb.us0, hb.us1, hb.nx0, hb.nx1, hb.now0, hb.now1, hb.ev, hb.sh0, hb.sh1, by show r.length ≤ k + 1; omega, hb.shots, hb.last0, hb.last1, hb.sb⟩, by simp, by simp⟩
  | frame hj hf =>
    have hb := h.mono (Nat.le_succ k) (Int.le_refl N)
    exact ⟨⟨hb.t, hb.m, hb.ord0, hb.ord1, hb.us0, hb.us1, hb.nx0, hb.nx1, hb.now0, hb.now1, hb.ev, hb.now0, hb.now1, hb.jobs, by simp, hb.last0, hb.last1, by simp⟩, h9, fun x hx => by have := h.sb x hx; omega⟩
  | task hj hf ht => exact ⟨h.fire.task ht, by simp, by simp⟩
theorem qof_len (T : List RT) (i : Nat) : (qof T i).length ≤ T.length := by
  unfold qof
  rw [List.length_map]
  exact List.length_filter_le _ _
theorem Rl.bnd (h : Rl S R) (hb : Bk k N R) (hk : k ≤ 40000) (hN : N ≤ 576460752303423488) : Bnd S := by
  have h1 := hb.t; have h2 := hb.m; have h3 := hb.ord1; have h4 := hb.us1; have h5 := hb.nx1; have h6 := hb.now1; have h7 := hb.sh1; have h8 := hb.jobs; have h9 := hb.shots; have h10 := hb.last1
  have e5 : S.jobs.length = R.jobs.length := by rw [← h.jobs, List.length_map]
  have e8 : S.shots.length = R.shots.length := by rw [h.shots, List.length_map]
  have e7 : S.calls.length = R.tms.length := by have := congrArg List.length h.calls; simpa using this
  have e6 : S.tm.length = waitN R.tms := by rw [← h.wt.perm.length_eq, wl, List.length_map, waitN, List.countP_eq_length_filter]
  refine ⟨fun i => ?_, by omega, by omega, by omega, by omega, by rw [h.nx]; exact hb.nx0, by rw [h.nx]; omega, by rw [h.ord]; exact hb.ord0, by rw [h.ord]; omega, by rw [h.now]; exact hb.now0, by rw [h.now]; omega, by rw [h.last]; exact hb.last0, by rw [h.last]; omega, by rw [h.users]; exact hb.us0, by rw [h.users]; omega, fun c hc => ?_, by rw [h.shown]; exact hb.sh0, by rw [h.shown]; omega⟩
  · rw [h.q]
    have := qof_len R.tasks i
    omega
  · obtain ⟨j, hj, rfl⟩ := List.getElem_of_mem hc
    have hj2 : j < R.tms.length := by omega
    obtain ⟨-, e, -⟩ := h.at (List.getElem?_eq_getElem hj) (List.getElem?_eq_getElem hj2)
    rw [e]
    exact hb.ev _ (List.getElem_mem hj2)
theorem Rl.room (h : Rl S R) (hb : Bk k N R) (hk : k ≤ 40000) (hN : N ≤ 576460752303423488) : Room S ∧ Bnd (fireS S) := by
  have e6 : S.tm.length = waitN R.tms := by rw [← h.wt.perm.length_eq, wl, List.length_map, waitN, List.countP_eq_length_filter]
  have h1 := hb.t
  have h3 := hb.ord1
  refine ⟨⟨h.bnd hb hk hN, fun i => ?_, ?_⟩, h.fire.bnd hb.fire hk hN⟩
  · rw [h.q]
    have := qof_len R.tasks i
    omega
  · rw [h.ord]; omega
theorem Rl.set (h : Rl S R) (hx : 0 ≤ R.next) (d e fn : Int) {i : Nat} {a : Option Addr} {an c : Nat} (hf : Found S.tm ⟨S.nx + 1, S.now + bound d, S.nx + 1⟩ i) :
    Rl { S with tm := insAt S.tm i ⟨S.nx + 1, S.now + bound d, S.nx + 1⟩, nx := S.nx + 1, calls := S.calls ++ [⟨S.nx + 1, bound e, 3, fn, a, an, c⟩] } (rsetS R d e fn) := by
  have hw := h.wt
  have hnx := h.nx
  have hnow := h.now
  rw [hnx, hnow] at hf ⊢
  refine ⟨rfl, h.ord, rfl, h.last, h.shown, h.users, h.dirty, h.jobs, h.jan, h.shots, h.q, h.src, h.asc, h.tle, ?_, ?_, ins_sorted hw.ok hf rfl, ?_, fun t ht => ?_⟩
  · show (S.calls ++ [_]).map ck = (R.tms ++ [_]).map rmk
    rw [List.map_append, List.map_append, h.calls]
    rfl
  · show (wl (R.tms ++ [_])).Perm _
    have e : wl (R.tms ++ [⟨R.next + 1, R.now + bound d, R.next + 1, bound e, fn, true⟩]) = wl R.tms ++ [⟨R.next + 1, R.now + bound d, R.next + 1⟩] := by
      unfold wl
      rw [List.filter_append, List.map_append]
      rfl
    rw [e]
    refine (List.perm_append_comm).trans ?_
    exact (List.Perm.cons _ hw.perm).trans (insAt_perm _ i _).symm
  · show ((R.tms ++ [_]).map RM.id).Nodup
    rw [List.map_append, List.nodup_append]
    refine ⟨hw.nd, by simp, fun a ha b hb => ?_⟩
    simp at hb
    subst hb
    obtain ⟨t, ht, rfl⟩ := List.mem_map.1 ha
    have := hw.id t ht
    omega
  · rcases List.mem_append.1 (show t ∈ R.tms ++ [⟨R.next + 1, R.now + bound d, R.next + 1, bound e, fn, true⟩] from ht) with q | q
    · have := hw.id t q
      show 1 ≤ t.id ∧ t.id ≤ R.next + 1
      omega
    · rw [List.mem_singleton.1 q]
      show 1 ≤ R.next + 1 ∧ R.next + 1 ≤ R.next + 1
      omega
theorem Rl.req (h : Rl S R) (hl : 0 ≤ R.last) : Rl (reqS S (-(R.last + 1))) (rreqS R) := by
  refine ⟨h.now, h.ord, h.nx, ?_, h.shown, h.users, h.dirty, h.jobs, h.jan, ?_, h.q, h.src, h.asc, h.tle, h.calls, h.wt⟩
  · show S.last + 1 = R.last + 1
    rw [h.last]
  · show S.shots ++ [⟨S.last + 1, -(R.last + 1)⟩] = (R.shots ++ [R.last + 1]).map _
    rw [List.map_append, h.shots, h.last]
    rfl
theorem Rl.cancel (h : Rl S R) (id : Int) : Rl (cancelS S id) (rcanS R id) ∧ cancelB S id = rcanB R id := by
  have e : S.shots.findIdx? (fun c => c.id == id) = R.shots.findIdx? (fun c => c == id) := by
    rw [h.shots, List.findIdx?_map]
    rfl
  unfold cancelS rcanS cancelB rcanB
  rw [e]
  refine ⟨?_, rfl⟩
  cases hf : R.shots.findIdx? (fun c => c == id) with
  | none => exact h
  | some i =>
    refine ⟨h.now, h.ord, h.nx, h.last, h.shown, h.users, h.dirty, h.jobs, h.jan, ?_, h.q, h.src, h.asc, h.tle, h.calls, h.wt⟩
    show S.shots.eraseIdx i = (R.shots.eraseIdx i).map _
    rw [er_map, h.shots]
theorem Rl.tick (h : Rl S R) (n : Int) : Rl { S with now := max S.now n } { R with now := max R.now n } :=
  ⟨by show max S.now n = max R.now n; rw [h.now], h.ord, h.nx, h.last, h.shown, h.users, h.dirty, h.jobs, h.jan, h.shots, h.q, h.src, h.asc, h.tle, h.calls, h.wt⟩
theorem Rl.mark (h : Rl S R) : Rl { S with dirty := true } { R with dirty := true } :=
  ⟨h.now, h.ord, h.nx, h.last, h.shown, h.users, rfl, h.jobs, h.jan, h.shots, h.q, h.src, h.asc, h.tle, h.calls, h.wt⟩
theorem Rl.job (h : Rl S R) (n : Int) (a : Option Addr) (c : Nat) : Rl { S with jobs := S.jobs ++ [⟨n, a, 1, c⟩] } { R with jobs := R.jobs ++ [n] } := by
  refine ⟨h.now, h.ord, h.nx, h.last, h.shown, h.users, h.dirty, ?_, fun j hj => ?_, h.shots, h.q, h.src, h.asc, h.tle, h.calls, h.wt⟩
  · show (S.jobs ++ [_]).map Jb.k = R.jobs ++ [n]
    rw [List.map_append, h.jobs]
    rfl
  · rcases List.mem_append.1 (show j ∈ S.jobs ++ [⟨n, a, 1, c⟩] from hj) with q | q
    · exact h.jan j q
    · rw [List.mem_singleton.1 q]
/-- an operation that is no Next -/
def playF (kd a b : Int) (R : RL) : RL :=
  if kd % 9 = 0 then rpushS R (a.tmod 7 - 1) (b.tmod 3) b
  else if kd % 9 = 1 then rsetS R a (b.tmod 40) (a + b)
  else if kd % 9 = 2 then rclearS R a
  else if kd % 9 = 3 then rreqS R
  else if kd % 9 = 4 then rcanS R a
  else if kd % 9 = 5 then { R with now := max R.now (R.now + a) }
  else if kd % 9 = 6 then { R with dirty := true }
  else { R with jobs := R.jobs ++ [b] }
inductive PlayR (kd a b : Int) : RL → RL → Prop where
  | other {R : RL} (h : kd % 9 ≠ 8) : PlayR kd a b R (playF kd a b R)
  | next {R R' : RL} {d : RC} {ls : List Int} (h : kd % 9 = 8) (ht : RTakeR R R' d ls) : PlayR kd a b R R'
theorem Bk.push (h : Bk k N R) (src q n : Int) : Bk (k + 1) N (rpushS R src q n) := by
  have hb := h.mono (Nat.le_succ k) (Int.le_refl N)
  have h1 := h.t; have h3 := h.ord1; have h0 := h.ord0
  refine ⟨?_, hb.m, ?_, ?_, hb.us0, hb.us1, hb.nx0, hb.nx1, hb.now0, hb.now1, hb.ev, hb.sh0, hb.sh1, hb.jobs, hb.shots, hb.last0, hb.last1, hb.sb⟩
  · show (R.tasks ++ [_]).length + waitN R.tms ≤ k + 1
    rw [List.length_append, List.length_singleton]; omega
  · show 0 ≤ R.ord + 1; omega
  · show R.ord + 1 + waitN R.tms ≤ ((k + 1 : Nat) : Int); omega
theorem bound_rng (n : Int) : 0 ≤ bound n ∧ bound n ≤ 1099511627776 := by unfold bound; omega
theorem Bk.set (h : Bk k N R) (d e fn : Int) : Bk (k + 1) N (rsetS R d e fn) := by
  have hb := h.mono (Nat.le_succ k) (Int.le_refl N)
  have h1 := h.t; have h2 := h.m; have h3 := h.ord1; have h5 := h.nx1; have h6 := h.nx0
  have ew : waitN (R.tms ++ [⟨R.next + 1, R.now + bound d, R.next + 1, bound e, fn, true⟩]) = waitN R.tms + 1 := by
    unfold waitN; rw [List.countP_append]; rfl
  refine ⟨?_, ?_, hb.ord0, ?_, hb.us0, hb.us1, ?_, ?_, hb.now0, hb.now1, fun t ht => ?_, hb.sh0, hb.sh1, hb.jobs, hb.shots, hb.last0, hb.last1, hb.sb⟩
  · show R.tasks.length + waitN (R.tms ++ [_]) ≤ k + 1
    rw [ew]; omega
  · show (R.tms ++ [_]).length ≤ k + 1
    rw [List.length_append, List.length_singleton]; omega
  · show R.ord + waitN (R.tms ++ [_]) ≤ ((k + 1 : Nat) : Int)
    rw [ew]; omega
  · show 0 ≤ R.next + 1; omega
  · show R.next + 1 ≤ ((k + 1 : Nat) : Int); omega
  · rcases List.mem_append.1 (show t ∈ R.tms ++ [⟨R.next + 1, R.now + bound d, R.next + 1, bound e, fn, true⟩] from ht) with q | q
    · exact h.ev t q
    · rw [List.mem_singleton.1 q]; exact bound_rng e
theorem Bk.play {kd a b : Int} (h : Bk k N R) (ha : -32768 ≤ a ∧ a ≤ 32767) (hN : 0 ≤ N) (hp : PlayR kd a b R R') : Bk (k + 1) (N + 32768) R' := by
  cases hp with
  | next _ ht => exact (h.take ht).1.mono (Nat.le_refl _) (by omega)
  | other hne =>
    have hm := h.mono (Nat.le_succ k) (show N ≤ N + 32768 by omega)
    unfold playF
    split
    · exact (h.push _ _ _).mono (Nat.le_refl _) (by omega)
    split
    · exact (h.set _ _ _).mono (Nat.le_refl _) (by omega)
    split
    · exact (h.clear _).mono (Nat.le_succ k) (by omega)
    split
    · have h9 := h.shots; have h10 := h.last1; have h11 := h.last0
      refine ⟨hm.t, hm.m, hm.ord0, hm.ord1, hm.us0, hm.us1, hm.nx0, hm.nx1, hm.now0, hm.now1, hm.ev, hm.sh0, hm.sh1, hm.jobs, ?_, ?_, ?_, fun x hx => ?_⟩
      · show (R.shots ++ [_]).length ≤ k + 1
        rw [List.length_append, List.length_singleton]; omega
      · show 0 ≤ R.last + 1; omega
      · show R.last + 1 ≤ ((k + 1 : Nat) : Int); omega
      · show 0 ≤ x ∧ x ≤ R.last + 1
        rcases List.mem_append.1 (show x ∈ R.shots ++ [R.last + 1] from hx) with q | q
        · have := h.sb x q; omega
        · rw [List.mem_singleton.1 q]; omega
    split
    · unfold rcanS
      split
      · exact hm
      · rename_i i _
        have e : (R.shots.eraseIdx i).length ≤ R.shots.length := by rw [List.length_eraseIdx]; split <;> omega
        have h9 := hm.shots
        exact ⟨hm.t, hm.m, hm.ord0, hm.ord1, hm.us0, hm.us1, hm.nx0, hm.nx1, hm.now0, hm.now1, hm.ev, hm.sh0, hm.sh1, hm.jobs, by show (R.shots.eraseIdx i).length ≤ k + 1; omega, hm.last0, hm.last1, fun x hx => h.sb x (List.mem_of_mem_eraseIdx hx)⟩
    split
    · have h6 := h.now0; have h7 := h.now1
      exact ⟨hm.t, hm.m, hm.ord0, hm.ord1, hm.us0, hm.us1, hm.nx0, hm.nx1, by show 0 ≤ max R.now (R.now + a); omega, by show max R.now (R.now + a) ≤ N + 32768; omega, hm.ev, hm.sh0, hm.sh1, hm.jobs, hm.shots, hm.last0, hm.last1, hm.sb⟩
    split
    · exact ⟨hm.t, hm.m, hm.ord0, hm.ord1, hm.us0, hm.us1, hm.nx0, hm.nx1, hm.now0, hm.now1, hm.ev, hm.sh0, hm.sh1, hm.jobs, hm.shots, hm.last0, hm.last1, hm.sb⟩
    · have h8 := h.jobs
      exact ⟨hm.t, hm.m, hm.ord0, hm.ord1, hm.us0, hm.us1, hm.nx0, hm.nx1, hm.now0, hm.now1, hm.ev, hm.sh0, hm.sh1, by show (R.jobs ++ [b]).length ≤ k + 1; rw [List.length_append, List.length_singleton]; omega, hm.shots, hm.last0, hm.last1, hm.sb⟩
end
end
section
open Go.RowKit Go.K
/-- the timers that are due -/
def dueN (M : List RM) (now : Int) : Nat := M.countP (fun t => t.w && decide (t.due ≤ now))
def mu (R : RL) : Nat := R.jobs.length + (if R.dirty = true ∨ R.shots ≠ [] then 1 else 0) + R.tasks.length + dueN R.tms R.now
theorem dueN_le (M : List RM) (now : Int) : dueN M now ≤ M.length := List.countP_le_length
theorem dueN_erase (M : List RM) (j : Nat) (now : Int) : dueN (M.eraseIdx j) now ≤ dueN M now := (List.eraseIdx_sublist M j).countP_le
theorem dueN_same : ∀ (M : List RM) (j : Nat) (x : RM) (now : Int) (hj : j < M.length), (x.w && decide (x.due ≤ now)) = (M[j].w && decide (M[j].due ≤ now)) → dueN (M.set j x) now = dueN M now
  | y :: M, 0, x, now, _, h => by
    simp only [List.getElem_cons_zero] at h
    rw [List.set_cons_zero]
    unfold dueN
    rw [List.countP_cons, List.countP_cons, h]
  | y :: M, j + 1, x, now, hj, h => by
    simp only [List.getElem_cons_succ] at h
    rw [List.set_cons_succ]
    have := dueN_same M j x now (by simpa using hj) h
    unfold dueN at *
    rw [List.countP_cons, List.countP_cons, this]
theorem dueN_off : ∀ (M : List RM) (j : Nat) (x : RM) (now : Int) (hj : j < M.length), (x.w && decide (x.due ≤ now)) = false → (M[j].w && decide (M[j].due ≤ now)) = true → dueN (M.set j x) now + 1 = dueN M now
  | y :: M, 0, x, now, _, h, h2 => by
    simp only [List.getElem_cons_zero] at h2
    rw [List.set_cons_zero]
    unfold dueN
    rw [List.countP_cons, List.countP_cons, h, h2]
    simp
  | y :: M, j + 1, x, now, hj, h, h2 => by
    simp only [List.getElem_cons_succ] at h2
    rw [List.set_cons_succ]
    have := dueN_off M j x now (by simpa using hj) h h2
    unfold dueN at *
    rw [List.countP_cons, List.countP_cons]
    omega
theorem mu_fire1 {R : RL} (hd : dueR R) : mu (fire1 R (bestR R).toNat) = mu R := by
  rcases bestM_spec R.tms R.tms.length with ⟨h1, -⟩ | ⟨b, h1, h2, h3, -⟩
  · have := hd.1
    rw [bestR, h1] at this
    omega
  · have e : (bestR R).toNat = b := by rw [bestR, h1, Int.toNat_natCast]
    have hdue := hd.2
    rw [e] at hdue ⊢
    rw [nthM_eq h2] at hdue h3
    have hc : dueN (R.tms.set b { R.tms[b] with w := false }) R.now + 1 = dueN R.tms R.now := dueN_off _ _ _ _ h2 (by simp) (by simp [h3, hdue])
    have e2 : (fire1 R b).tasks.length = R.tasks.length + 1 := by simp [fire1, rpushS]
    have e3 : (fire1 R b).tms = R.tms.set b { R.tms[b] with w := false } := by simp [fire1, rpushS, nthM_eq h2]
    have e4 : (fire1 R b).jobs = R.jobs := rfl
    have e5 : (fire1 R b).dirty = R.dirty := rfl
    have e6 : (fire1 R b).shots = R.shots := rfl
    have e7 : (fire1 R b).now = R.now := rfl
    unfold mu
    rw [e2, e3, e4, e5, e6, e7]
    omega
theorem mu_fireN : ∀ (n : Nat) (R : RL), mu (rfireN n R) = mu R
  | 0, _ => rfl
  | n + 1, R => by
    unfold rfireN
    split
    · rename_i hd
      rw [mu_fireN n, mu_fire1 hd]
    · rfl
theorem mu_fire (R : RL) : mu (rfireS R) = mu R := mu_fireN _ R
theorem mu_pop {R : RL} {i : Nat} {t : RT} (ht : R.tasks[i]? = some t) : mu (rpop R i t) + 1 = mu R := by
  have hi : i < R.tasks.length := (List.getElem?_eq_some_iff.1 ht).1
  have e : (R.tasks.eraseIdx i).length + 1 = R.tasks.length := by rw [List.length_eraseIdx, if_pos hi]; omega
  show R.jobs.length + (if R.dirty = true ∨ R.shots ≠ [] then 1 else 0) + (R.tasks.eraseIdx i).length + dueN R.tms R.now + 1 = _
  unfold mu
  omega
theorem mu_clear (R : RL) (n : Int) : mu (rclearS R n) ≤ mu R := by
  unfold rclearS
  split
  · omega
  · rename_i i _
    have := dueN_erase R.tms i R.now
    show R.jobs.length + (if R.dirty = true ∨ R.shots ≠ [] then 1 else 0) + R.tasks.length + dueN (R.tms.eraseIdx i) R.now ≤ _
    unfold mu
    omega
theorem mu_task {R R' : RL} {d : RC} (ht : RTaskR R R' d) : (∀ t ∈ R.tms, 0 ≤ t.ev) → d.kd ≠ 0 → mu R' < mu R := by
  induction ht with
  | none h => intro _ hk; exact absurd rfl hk
  | plain h ht hp => intro _ _; have := mu_pop ht; omega
  | skip h ht hs hk hf hr ih => intro he hd; have h1 := mu_pop ht; have h2 := ih he hd; omega
  | @once R i j t m h ht hs hk hf hm he => intro _ _; have h1 := mu_pop ht; have h2 := mu_clear (rpop R i t) t.n; omega
  | wait h ht hs hk hf hm he hw => intro _ _; have := mu_pop ht; omega
  | @again R i j t m h ht hs hk hf hm he hw =>
    intro hev _
    have h1 := mu_pop ht
    obtain ⟨hj, ej⟩ := List.getElem?_eq_some_iff.1 hm
    have h0 := hev m (List.mem_of_getElem? hm)
    have h2 : dueN (R.tms.set j { m with w := true, ord := R.next + 1, due := R.now + m.ev }) R.now = dueN R.tms R.now := dueN_same _ _ _ _ hj (by rw [ej, hw]; simp; omega)
    have h3 : mu (ragain (rpop R i t) j m) = mu (rpop R i t) := by
      show R.jobs.length + (if R.dirty = true ∨ R.shots ≠ [] then 1 else 0) + (R.tasks.eraseIdx i).length + dueN (R.tms.set j { m with w := true, ord := R.next + 1, due := R.now + m.ev }) R.now = R.jobs.length + (if R.dirty = true ∨ R.shots ≠ [] then 1 else 0) + (R.tasks.eraseIdx i).length + dueN R.tms R.now
      rw [h2]
    omega
theorem fire_ev {R : RL} (h : ∀ t ∈ R.tms, 0 ≤ t.ev) : ∀ t ∈ (rfireS R).tms, 0 ≤ t.ev := by
  have key : ∀ (n : Nat) (R : RL), (∀ t ∈ R.tms, 0 ≤ t.ev) → ∀ t ∈ (rfireN n R).tms, 0 ≤ t.ev := by
    intro n
    induction n with
    | zero => intro R h; exact h
    | succ n ih =>
      intro R h
      unfold rfireN
      split
      · rename_i hd
        refine ih _ (fun t ht => ?_)
        obtain ⟨b, hb, hbl⟩ := best_lt hd.1
        rcases List.mem_or_eq_of_mem_set (show t ∈ R.tms.set (bestR R).toNat { nthM R.tms (bestR R).toNat with w := false } from ht) with q | q
        · exact h t q
        · rw [q]
          have e : (bestR R).toNat = b := by omega
          exact h (nthM R.tms (bestR R).toNat) (by rw [e, nthM_eq hbl]; exact List.getElem_mem hbl)
      · exact h
  exact key _ R h
theorem mu_take {R R' : RL} {d : RC} {ls : List Int} (hev : ∀ t ∈ R.tms, 0 ≤ t.ev) (ht : RTakeR R R' d ls) (hk : d.kd ≠ 0) : mu R' < mu R := by
  cases ht with
  | @job n r hj =>
    show r.length + (if R.dirty = true ∨ R.shots ≠ [] then 1 else 0) + R.tasks.length + dueN R.tms R.now < _
    unfold mu
    rw [hj, List.length_cons]
    omega
  | frame hj hf =>
    show R.jobs.length + (if (false : Bool) = true ∨ ([] : List Int) ≠ [] then 1 else 0) + R.tasks.length + dueN R.tms R.now < _
    unfold mu
    rw [if_neg (by simp), if_pos hf.1]
    omega
  | task hj hf ht =>
    have := mu_task ht (fire_ev hev) hk
    rw [mu_fire] at this
    exact this

/-- Take is a function -/
theorem task_det {R R1 : RL} {d1 : RC} (h1 : RTaskR R R1 d1) : ∀ {R2 : RL} {d2 : RC}, RTaskR R R2 d2 → R1 = R2 ∧ d1 = d2 := by
  have tk : ∀ {R : RL} {i i' : Nat} {t t' : RT}, chooseR R = (i : Int) → chooseR R = (i' : Int) → R.tasks[i]? = some t → R.tasks[i']? = some t' → i = i' ∧ t = t' := by
    intro R i i' t t' a b c d
    have : i = i' := by omega
    subst this
    rw [c] at d
    exact ⟨rfl, Option.some.inj d⟩
  have tm : ∀ {R : RL} {n : Int} {j j' : Nat} {m m' : RM}, R.tms.findIdx? (fun c => c.id == n) = some j → R.tms.findIdx? (fun c => c.id == n) = some j' → R.tms[j]? = some m → R.tms[j']? = some m' → j = j' ∧ m = m' := by
    intro R n j j' m m' a b c d
    rw [a] at b
    have := Option.some.inj b
    subst this
    rw [c] at d
    exact ⟨rfl, Option.some.inj d⟩
  induction h1 with
  | none h =>
    intro R2 d2 h2
    cases h2 with
    | none => exact ⟨rfl, rfl⟩
    | plain q => omega
    | skip q => omega
    | once q => omega
    | wait q => omega
    | again q => omega
  | plain h ht hp =>
    intro R2 d2 h2
    cases h2 with
    | none q => omega
    | plain q qt qp => obtain ⟨rfl, rfl⟩ := tk h q ht qt; exact ⟨rfl, rfl⟩
    | skip q qt qs qk => obtain ⟨rfl, rfl⟩ := tk h q ht qt; exact absurd ⟨qs, qk⟩ hp
    | once q qt qs qk => obtain ⟨rfl, rfl⟩ := tk h q ht qt; exact absurd ⟨qs, qk⟩ hp
    | wait q qt qs qk => obtain ⟨rfl, rfl⟩ := tk h q ht qt; exact absurd ⟨qs, qk⟩ hp
    | again q qt qs qk => obtain ⟨rfl, rfl⟩ := tk h q ht qt; exact absurd ⟨qs, qk⟩ hp
  | skip h ht hs hk hf hr ih =>
    intro R2 d2 h2
    cases h2 with
    | none q => omega
    | plain q qt qp => obtain ⟨rfl, rfl⟩ := tk h q ht qt; exact absurd ⟨hs, hk⟩ qp
    | skip q qt qs qk qf qr => obtain ⟨rfl, rfl⟩ := tk h q ht qt; exact ih qr
    | once q qt qs qk qf => obtain ⟨rfl, rfl⟩ := tk h q ht qt; rw [hf] at qf; cases qf
    | wait q qt qs qk qf => obtain ⟨rfl, rfl⟩ := tk h q ht qt; rw [hf] at qf; cases qf
    | again q qt qs qk qf => obtain ⟨rfl, rfl⟩ := tk h q ht qt; rw [hf] at qf; cases qf
  | once h ht hs hk hf hm he =>
    intro R2 d2 h2
    cases h2 with
    | none q => omega
    | plain q qt qp => obtain ⟨rfl, rfl⟩ := tk h q ht qt; exact absurd ⟨hs, hk⟩ qp
    | skip q qt qs qk qf => obtain ⟨rfl, rfl⟩ := tk h q ht qt; rw [hf] at qf; cases qf
    | once q qt qs qk qf qm => obtain ⟨rfl, rfl⟩ := tk h q ht qt; obtain ⟨rfl, rfl⟩ := tm hf qf hm qm; exact ⟨rfl, rfl⟩
    | wait q qt qs qk qf qm qe => obtain ⟨rfl, rfl⟩ := tk h q ht qt; obtain ⟨rfl, rfl⟩ := tm hf qf hm qm; exact absurd he qe
    | again q qt qs qk qf qm qe => obtain ⟨rfl, rfl⟩ := tk h q ht qt; obtain ⟨rfl, rfl⟩ := tm hf qf hm qm; exact absurd he qe
  | wait h ht hs hk hf hm he hw =>
    intro R2 d2 h2
    cases h2 with
    | none q => omega
    | plain q qt qp => obtain ⟨rfl, rfl⟩ := tk h q ht qt; exact absurd ⟨hs, hk⟩ qp
    | skip q qt qs qk qf => obtain ⟨rfl, rfl⟩ := tk h q ht qt; rw [hf] at qf; cases qf
    | once q qt qs qk qf qm qe => obtain ⟨rfl, rfl⟩ := tk h q ht qt; obtain ⟨rfl, rfl⟩ := tm hf qf hm qm; exact absurd qe he
    | wait q qt qs qk qf qm qe => obtain ⟨rfl, rfl⟩ := tk h q ht qt; obtain ⟨rfl, rfl⟩ := tm hf qf hm qm; exact ⟨rfl, rfl⟩
    | again q qt qs qk qf qm qe qw => obtain ⟨rfl, rfl⟩ := tk h q ht qt; obtain ⟨rfl, rfl⟩ := tm hf qf hm qm; rw [hw] at qw; cases qw
  | again h ht hs hk hf hm he hw =>
    intro R2 d2 h2
    cases h2 with
    | none q => omega
    | plain q qt qp => obtain ⟨rfl, rfl⟩ := tk h q ht qt; exact absurd ⟨hs, hk⟩ qp
    | skip q qt qs qk qf => obtain ⟨rfl, rfl⟩ := tk h q ht qt; rw [hf] at qf; cases qf
    | once q qt qs qk qf qm qe => obtain ⟨rfl, rfl⟩ := tk h q ht qt; obtain ⟨rfl, rfl⟩ := tm hf qf hm qm; exact absurd qe he
    | wait q qt qs qk qf qm qe qw => obtain ⟨rfl, rfl⟩ := tk h q ht qt; obtain ⟨rfl, rfl⟩ := tm hf qf hm qm; rw [hw] at qw; cases qw
    | again q qt qs qk qf qm qe => obtain ⟨rfl, rfl⟩ := tk h q ht qt; obtain ⟨rfl, rfl⟩ := tm hf qf hm qm; exact ⟨rfl, rfl⟩
theorem take_det {R R1 R2 : RL} {d1 d2 : RC} {l1 l2 : List Int} (h1 : RTakeR R R1 d1 l1) (h2 : RTakeR R R2 d2 l2) : R1 = R2 := by
  cases h1 with
  | job h =>
    cases h2 with
    | job q => rw [h] at q; injection q with q1 q2; subst q2; rfl
    | frame q => rw [h] at q; cases q
    | task q => rw [h] at q; cases q
  | frame h hf =>
    cases h2 with
    | job q => rw [h] at q; cases q
    | frame q => rfl
    | task q qf => exact absurd hf qf
  | task h hf ht =>
    cases h2 with
    | job q => rw [h] at q; cases q
    | frame q qf => exact absurd qf hf
    | task q qf qt => exact (task_det ht qt).1
theorem play_det {kd a b : Int} {R R1 R2 : RL} (h1 : PlayR kd a b R R1) (h2 : PlayR kd a b R R2) : R1 = R2 := by
  cases h1 with
  | other h =>
    cases h2 with
    | other => rfl
    | next q => exact absurd q h
  | next h ht =>
    cases h2 with
    | other q => exact absurd h q
    | next q qt => exact take_det ht qt
end
end Go.Proofs.Ytnamkckpgaopkaa
