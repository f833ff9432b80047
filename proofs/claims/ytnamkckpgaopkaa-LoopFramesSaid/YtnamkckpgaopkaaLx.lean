/-
  The plain law of LoopRepeats.
-/
import Derived.Test.YtnamkckpgaopkaaLu
set_option linter.unusedVariables false
set_option linter.unusedSimpArgs false
namespace Go.Proofs.Ytnamkckpgaopkaa
open Go.RowKit Go.K

/-- one timer that is called again and again: what the state is -/
structure RpI (n : Int) (S : LS) (nxt : Int) (k : Nat) : Prop where
  bnd : Bnd S
  idle : S.jobs = [] ∧ S.shots = [] ∧ S.dirty = false
  q : ∀ j, S.q j = []
  calls : ∃ a an c, S.calls = [⟨1, n, 3, 5, a, an, c⟩]
  tm : ∃ o, S.tm = [⟨1, nxt, o⟩]
  nx : 1 ≤ S.nx ∧ S.nx ≤ 1 + k
  ord : S.ord ≤ k
theorem RpI.no {n nxt : Int} {S : LS} {k : Nat} (h : RpI n S nxt k) : ¬ Shows S := by
  obtain ⟨-, h2, h3⟩ := h.idle
  rintro ⟨q | q, -⟩
  · rw [h3] at q; cases q
  · rw [h2] at q; cases q
theorem RpI.room {n nxt : Int} {S : LS} {k : Nat} (h : RpI n S nxt k) (hk : k ≤ 1000) : Room S := by
  obtain ⟨o, ho⟩ := h.tm
  exact ⟨h.bnd, fun i => by rw [h.q i, ho]; simp, by rw [ho]; have := h.ord; simp; omega⟩
theorem src_nil {S : LS} (h : ∀ j, S.q j = []) : srcR S < 0 := by
  rcases src_cases S with q | ⟨i, x, r, -, -, q⟩
  · exact q
  · rw [h i] at q; cases q
/-- a state whose queues are empty and whose timers are not due does nothing -/
theorem next_none {S S' : LS} {x : Ch} {l : List Hs} (h : NextR S S' x l) (hj : S.jobs = []) (hs : ¬ Shows S) (hq : ∀ j, S.q j = []) (hf : fireS S = S) : x = Ch.z ∧ S' = S := by
  obtain ⟨ht, -⟩ := next_task h hj hs
  rw [hf] at ht
  have hsrc := src_nil hq
  cases ht with
  | none => exact ⟨rfl, rfl⟩
  | plain h => omega
  | skip h => omega
  | again h => omega
  | once h => omega
theorem fire_late {S : LS} {t : Tm} {r : List Tm} (h : S.tm = t :: r) (hd : S.now < t.due) : fireS S = S := by
  unfold fireS
  rw [h, fireL, if_neg (by omega), ← h]
theorem rp_late {n nxt : Int} {S S' : LS} {k : Nat} {x : Ch} {l : List Hs} (h : RpI n S nxt k) (hd : S.now < nxt) (hn : NextR S S' x l) : x = Ch.z ∧ S' = S := by
  obtain ⟨o, ho⟩ := h.tm
  exact next_none hn h.idle.1 h.no h.q (fire_late ho hd)
theorem rp_fire {n nxt : Int} {S : LS} {k : Nat} (h : RpI n S nxt k) (hd : nxt ≤ S.now) : fireS S = pushS { S with tm := [] } 2 0 1 := by
  obtain ⟨o, ho⟩ := h.tm
  unfold fireS
  rw [ho, fireL, if_pos hd]
  rfl
theorem rp_bfire {n nxt : Int} {S : LS} {k : Nat} (h : RpI n S nxt k) (hk : k ≤ 1000) : Bnd (fireS S) := by
  obtain ⟨o, ho⟩ := h.tm
  by_cases hd : nxt ≤ S.now
  · have hp : popTm S = (⟨1, nxt, o⟩, true, { S with tm := [] }) := by unfold popTm; rw [ho]; simp [hd]
    obtain ⟨h1, -, -⟩ := room_step hp (h.room hk)
    rw [rp_fire h hd]
    exact h1.bnd
  · rw [fire_late ho (show S.now < nxt by omega)]; exact h.bnd
theorem rp_due {n nxt : Int} {S S' : LS} {k : Nat} {x : Ch} {l : List Hs} (h : RpI n S nxt k) (hn1 : 1 ≤ n) (hn2 : n ≤ 100) (hk : k ≤ 1000) (hd : nxt ≤ S.now) (hn : NextR S S' x l) : x.k = 2 ∧ x.c.id = 1 ∧ x.c.ev = n ∧ RpI n S' (S.now + n) (k + 1) ∧ S'.now = S.now := by
  obtain ⟨ht, -⟩ := next_task hn h.idle.1 h.no
  have hbf := rp_bfire h hk
  rw [rp_fire h hd] at ht hbf
  obtain ⟨F, hF⟩ : ∃ F, pushS { S with tm := [] } 2 0 1 = F := ⟨_, rfl⟩
  have hq2 : F.q 2 = [⟨S.ord + 1, 0, 1⟩] := by rw [← hF]; simp [pushS, LS.setQ, srcN, upd, h.q]
  have hqj : ∀ j, j ≠ 2 → F.q j = [] := fun j hj => by rw [← hF]; simp [pushS, LS.setQ, srcN, upd, hj, h.q]
  have hcal : F.calls = S.calls := by rw [← hF]; rfl
  have htm : F.tm = [] := by rw [← hF]; rfl
  have hnx : F.nx = S.nx := by rw [← hF]; rfl
  have hnow : F.now = S.now := by rw [← hF]; rfl
  have hord : F.ord = S.ord + 1 := by rw [← hF]; rfl
  have hidl : F.jobs = [] ∧ F.shots = [] ∧ F.dirty = false := by rw [← hF]; exact h.idle
  rw [hF] at ht hbf
  clear hF
  obtain ⟨a, an, c, hc⟩ := h.calls
  have hfi : F.calls.findIdx? (fun c => c.id == 1) = some 0 := by rw [hcal, hc]; rfl
  obtain ⟨n0, n1⟩ := h.nx
  cases ht with
  | none hs => have := src_none hs 2 (by omega); rw [hq2] at this; cases this
  | plain hs hi hq hp =>
    rename_i i y r
    exfalso
    by_cases e : i = 2
    · subst e; rw [hq2] at hq; cases hq; exact hp ⟨rfl, rfl⟩
    · rw [hqj i e] at hq; cases hq
  | skip hs hq hk0 hf => rw [hq2] at hq; cases hq; rw [hfi] at hf; cases hf
  | once hs hq hk0 hf hcc he =>
    rw [hq2] at hq
    cases hq
    rw [hfi] at hf
    cases hf
    rw [hcal, hc] at hcc
    cases hcc
    simp only at he
    omega
  | again hs hq hk0 hf hcc he ha =>
    rw [hq2] at hq
    cases hq
    rw [hfi] at hf
    cases hf
    rw [hcal, hc] at hcc
    cases hcc
    have hB := bnd_pop hbf 2 (r := []) (by simp) (by omega)
    rcases ha with ⟨-, -, -, i, hf, rfl⟩ | ⟨hb, -⟩
    · have hpt : (popS F 2 []).tm = [] := htm
      have hi0 : i = 0 := by have := hf.1; rw [hpt] at this; simpa using this
      subst hi0
      refine ⟨rfl, rfl, rfl, ⟨⟨hB.q, ?_, hB.calls, hB.shots, hB.jobs, ?_, ?_, hB.ord0, hB.ord1, hB.now0, hB.now1, hB.last0, hB.last1, hB.us0, hB.us1, hB.ev, hB.sh0, hB.sh1⟩, hidl, fun j => ?_, ⟨a, an, c, by rw [← hc, ← hcal]; rfl⟩, ⟨F.nx + 1, ?_⟩, ?_, ?_⟩, ?_⟩
      · show (insAt (popS F 2 []).tm 0 _).length ≤ 100000; rw [hpt]; simp [insAt]
      · show 0 ≤ F.nx + 1; omega
      · show F.nx + 1 < 4294967296; omega
      · show (popS F 2 []).q j = []
        by_cases e : j = 2
        · subst e; simp [popS, LS.setQ, upd]
        · simp [popS, LS.setQ, upd, e, hqj j e]
      · show insAt (popS F 2 []).tm 0 ⟨1, F.now + n, F.nx + 1⟩ = _; rw [hpt, hnow]; rfl
      · show 1 ≤ F.nx + 1 ∧ F.nx + 1 ≤ 1 + ((k + 1 : Nat) : Int); omega
      · show F.ord ≤ ((k + 1 : Nat) : Int); have := h.ord; omega
      · show F.now = S.now; exact hnow
    · exfalso
      have hpt : (popS F 2 []).tm = [] := htm
      have hpn : (popS F 2 []).nx = F.nx := rfl
      rcases hb with q | q | ⟨t, q, -⟩
      · simp only at q; omega
      · simp only at q; rw [hpn] at q; omega
      · rw [hpt] at q; cases q
/-- the timer is set -/
theorem rp_set {d n : Int} (hd : 0 ≤ d ∧ d ≤ 255) (hn : 1 ≤ n ∧ n ≤ 50) {i : Nat} {a : Option Addr} {c : Nat} (hf : Found LS.zero.tm ⟨1, d, 1⟩ i) : RpI n { LS.zero with tm := insAt LS.zero.tm i ⟨1, d, 1⟩, nx := 1, calls := LS.zero.calls ++ [⟨1, n, 3, 5, a, 0, c⟩] } d 0 := by
  have hi0 : i = 0 := by have := hf.1; simpa [LS.zero] using this
  subst hi0
  refine ⟨?_, ⟨rfl, rfl, rfl⟩, fun _ => rfl, ⟨a, 0, c, rfl⟩, ⟨1, rfl⟩, by simp, by simp [LS.zero]⟩
  constructor <;> simp [LS.zero, insAt]
  omega
theorem rp_tick {n nxt : Int} {S : LS} {k : Nat} (h : RpI n S nxt k) (x : Int) (hx : x ≤ 1000000) : RpI n { S with now := max S.now x } nxt k :=
  ⟨⟨h.bnd.q, h.bnd.tm, h.bnd.calls, h.bnd.shots, h.bnd.jobs, h.bnd.nx0, h.bnd.nx1, h.bnd.ord0, h.bnd.ord1, by have := h.bnd.now0; simp only; omega, by have := h.bnd.now1; simp only; omega, h.bnd.last0, h.bnd.last1, h.bnd.us0, h.bnd.us1, h.bnd.ev, h.bnd.sh0, h.bnd.sh1⟩, h.idle, h.q, h.calls, h.tm, h.nx, h.ord⟩
theorem rp_clear {n nxt : Int} {S : LS} {k : Nat} (h : RpI n S nxt k) : clearB S 1 = true ∧ clearB (clearS S 1) 1 = false ∧ (clearS S 1).tm = [] ∧ (clearS S 1).calls = [] ∧ clearS S 1 = { S with calls := [], tm := [] } := by
  obtain ⟨a, an, c, hc⟩ := h.calls
  obtain ⟨o, ho⟩ := h.tm
  have e : clearS S 1 = { S with calls := [], tm := [] } := by
    unfold clearS remT
    rw [hc, ho]
    rfl
  refine ⟨by unfold clearB; rw [hc]; rfl, by rw [e]; rfl, by rw [e], by rw [e], e⟩

end Go.Proofs.Ytnamkckpgaopkaa
