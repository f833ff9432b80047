/-
  Which task comes next; the plain law of LoopFair.
-/
import Derived.Test.YtnamkckpgaopkaaLt
set_option linter.unusedVariables false
set_option linter.unusedSimpArgs false
namespace Go.Proofs.Ytnamkckpgaopkaa
open Go.RowKit Go.K

theorem best_min (S : LS) (k : Nat) : ((bestN S k).1 < 0 → ∀ i, 1 ≤ i → i < k → S.q i = []) ∧ (∀ i x r, 1 ≤ i → i < k → S.q i = x :: r → 0 ≤ (bestN S k).1 ∧ (bestN S k).2 ≤ x.o) := by
  induction k with
  | zero => exact ⟨fun _ i h1 h2 => by omega, fun i x r h1 h2 => by omega⟩
  | succ k ih =>
    obtain ⟨ih1, ih2⟩ := ih
    rw [bestN_succ]
    unfold stepB
    cases hq : S.q k with
    | nil =>
      refine ⟨fun hb i h1 h2 => ?_, fun i x r h1 h2 h3 => ?_⟩
      · rcases Nat.lt_or_ge i k with q | q
        · exact ih1 hb i h1 q
        · obtain rfl : i = k := by omega
          exact hq
      · rcases Nat.lt_or_ge i k with q | q
        · exact ih2 i x r h1 q h3
        · obtain rfl : i = k := by omega
          rw [hq] at h3; cases h3
    | cons y l =>
      simp only
      by_cases hc : k ≠ 0 ∧ ((bestN S k).1 < 0 ∨ y.o < (bestN S k).2)
      · rw [if_pos hc]
        refine ⟨fun hb => by simp only at hb; omega, fun i x r h1 h2 h3 => ⟨by simp only; omega, ?_⟩⟩
        simp only
        rcases Nat.lt_or_ge i k with q | q
        · obtain ⟨a1, a2⟩ := ih2 i x r h1 q h3
          rcases hc.2 with b | b <;> omega
        · obtain rfl : i = k := by omega
          rw [hq] at h3; cases h3; omega
      · rw [if_neg hc]
        refine ⟨fun hb i h1 h2 => ?_, fun i x r h1 h2 h3 => ?_⟩
        · rcases Nat.lt_or_ge i k with q | q
          · exact ih1 hb i h1 q
          · obtain rfl : i = k := by omega
            exact absurd ⟨by omega, .inl hb⟩ hc
        · rcases Nat.lt_or_ge i k with q | q
          · exact ih2 i x r h1 q h3
          · obtain rfl : i = k := by omega
            rw [hq] at h3; cases h3
            by_cases hb : (bestN S i).1 < 0
            · exact absurd ⟨by omega, .inl hb⟩ hc
            · refine ⟨by omega, ?_⟩
              by_cases ho : y.o < (bestN S i).2
              · exact absurd ⟨by omega, .inr ho⟩ hc
              · omega
/-- which source is taken, and what follows of it -/
theorem src_user {S : LS} (h : srcR S = 0) (h1 : ∃ i, 1 ≤ i ∧ i < 5 ∧ S.q i ≠ []) : S.users < 4 := by
  unfold srcR at h
  split at h
  · rename_i hc
    rcases hc.2 with hb | hb
    · obtain ⟨i, a, b, c⟩ := h1
      exact absurd ((best_min S 5).1 hb i a b) c
    · exact hb
  · rcases best_ok S 5 with hb | ⟨i, x, r, -, h0, hb, -⟩
    · rw [hb] at h; cases h
    · rw [hb] at h
      simp only at h
      omega
theorem src_min {S : LS} {i : Nat} {x : Qt} {r : List Qt} (h : srcR S = (i : Int)) (hi : i ≠ 0) (hq : S.q i = x :: r) : ∀ j y l, 1 ≤ j → j < 5 → S.q j = y :: l → x.o ≤ y.o := by
  unfold srcR at h
  split at h
  · omega
  · rcases best_ok S 5 with hb | ⟨i', x', r', h5, h0, hb, hq'⟩
    · rw [hb] at h; simp only at h; omega
    · rw [hb] at h
      simp only at h
      obtain rfl : i' = i := by omega
      rw [hq] at hq'
      cases hq'
      intro j y l h1 h2 h3
      have := ((best_min S 5).2 j y l h1 h2 h3).2
      rw [hb] at this
      exact this
theorem src_none {S : LS} (h : srcR S < 0) : ∀ i, i < 5 → S.q i = [] := by
  unfold srcR at h
  split at h
  · omega
  · rename_i hc
    intro i hi
    rcases Nat.eq_zero_or_pos i with rfl | hp
    · cases hq : S.q 0 with
      | nil => rfl
      | cons x r => exact absurd ⟨by rw [hq]; simp, .inl h⟩ hc
    · exact (best_min S 5).1 h i hp hi

/-! LoopFair -/
/-- nothing but tasks waits -/
structure Idle (S : LS) : Prop where
  jobs : S.jobs = []
  tm : S.tm = []
  sh : S.shots = []
  di : S.dirty = false
theorem Idle.no {S : LS} (h : Idle S) : ¬ Shows S := by
  rintro ⟨q | q, -⟩
  · rw [h.di] at q; cases q
  · rw [h.sh] at q; cases q
def oth (S : LS) : Nat := (S.q 1).length + (S.q 2).length + (S.q 3).length + (S.q 4).length
def tk (i : Nat) : Qt := ⟨(i : Int) + 1, 1, i⟩
structure FairP (zs : List Int) (k : Nat) (S : LS) : Prop where
  bnd : Bnd S
  idle : Idle S
  ord : S.ord = k
  us : S.users = 0
  mem : ∀ j y, y ∈ S.q j → ∃ i, i < k ∧ y = tk i ∧ (zs.getD i 0) % 5 = (j : Int)
  pw : ∀ j, (S.q j).Pairwise (fun a b => a.n < b.n)
  tot : tot S = k
theorem fair0 (zs : List Int) : FairP zs 0 LS.zero :=
  ⟨bnd_zero, ⟨rfl, rfl, rfl, rfl⟩, rfl, rfl, fun j y h => (by cases h), fun j => List.Pairwise.nil, rfl⟩
theorem tot_push (S : LS) (i : Nat) (hi : i < 5) (x : Qt) : tot (S.setQ i (S.q i ++ [x])) = tot S + 1 := by
  unfold tot LS.setQ upd
  obtain rfl | rfl | rfl | rfl | rfl : i = 0 ∨ i = 1 ∨ i = 2 ∨ i = 3 ∨ i = 4 := by omega
  all_goals simp; omega
theorem oth_push (S : LS) (i : Nat) (hi : i < 5) (x : Qt) : oth (S.setQ i (S.q i ++ [x])) = oth S + if i = 0 then 0 else 1 := by
  unfold oth LS.setQ upd
  obtain rfl | rfl | rfl | rfl | rfl : i = 0 ∨ i = 1 ∨ i = 2 ∨ i = 3 ∨ i = 4 := by omega
  all_goals simp; try omega
theorem len_le_tot (S : LS) (i : Nat) (hi : i < 5) : (S.q i).length ≤ tot S := by
  unfold tot
  obtain rfl | rfl | rfl | rfl | rfl : i = 0 ∨ i = 1 ∨ i = 2 ∨ i = 3 ∨ i = 4 := by omega
  all_goals omega
theorem fair_push {zs : List Int} {k : Nat} {S : LS} (h : FairP zs k S) (hk : k < 80) (i : Nat) (hi : i < 5) (hz : (zs.getD k 0) % 5 = (i : Int)) : FairP zs (k + 1) (pushS S i 1 k) := by
  have hs : srcN (i : Int) = i := by unfold srcN; rw [if_neg (by omega)]; omega
  have e : pushS S i 1 k = { S.setQ i (S.q i ++ [tk k]) with ord := S.ord + 1 } := by
    unfold pushS
    rw [hs, h.ord]
    rfl
  have hl := len_le_tot S i hi
  have ht := h.tot
  have hB := h.bnd
  have ho := h.ord
  rw [e]
  refine ⟨⟨fun j => ?_, hB.tm, hB.calls, hB.shots, hB.jobs, hB.nx0, hB.nx1, ?_, ?_, hB.now0, hB.now1, hB.last0, hB.last1, hB.us0, hB.us1, hB.ev, hB.sh0, hB.sh1⟩, ⟨h.idle.jobs, h.idle.tm, h.idle.sh, h.idle.di⟩, ?_, h.us, fun j y hy => ?_, fun j => ?_, ?_⟩
  · simp only [LS.setQ, upd]
    split
    · simp; omega
    · exact hB.q j
  · simp only; omega
  · simp only; omega
  · simp only; omega
  · simp only [LS.setQ, upd] at hy
    split at hy
    · rename_i hj
      subst hj
      rcases List.mem_append.1 hy with q | q
      · obtain ⟨a, h1, h2, h3⟩ := h.mem j y q
        exact ⟨a, by omega, h2, h3⟩
      · exact ⟨k, by omega, List.mem_singleton.1 q, hz⟩
    · obtain ⟨a, h1, h2, h3⟩ := h.mem j y hy
      exact ⟨a, by omega, h2, h3⟩
  · simp only [LS.setQ, upd]
    split
    · rename_i hj
      subst hj
      rw [List.pairwise_append]
      refine ⟨h.pw j, List.pairwise_singleton _ _, fun a ha b hb => ?_⟩
      obtain ⟨c, h1, rfl, -⟩ := h.mem j a ha
      rw [List.mem_singleton.1 hb]
      show (c : Int) < (k : Int)
      omega
    · exact h.pw j
  · have := tot_push S i hi (tk k)
    show tot (S.setQ i (S.q i ++ [tk k])) = k + 1
    omega
structure FairL (zs : List Int) (S : LS) (n row other others : Int) (last : Nat → Int) : Prop where
  bnd : Bnd S
  idle : Idle S
  mem : ∀ j y, y ∈ S.q j → ∃ i, i < zs.length ∧ y = tk i ∧ (zs.getD i 0) % 5 = (j : Int)
  pw : ∀ j, (S.q j).Pairwise (fun a b => a.n < b.n)
  nt : n + tot S = zs.length
  n0 : 0 ≤ n
  oth : others = oth S
  row : row = S.users
  us : S.users ≤ n
  lst : ∀ j y, y ∈ S.q j → last j < y.n
  ot : ∀ j y, 1 ≤ j → j < 5 → y ∈ S.q j → other < y.n
  lo : ∀ j, j < 5 → -1 ≤ last j ∧ last j ≤ 1000
  oo : -1 ≤ other ∧ other ≤ 1000
theorem fair_start {zs : List Int} {S : LS} (h : FairP zs zs.length S) : FairL zs S 0 0 (-1) (oth S) (fun _ => -1) := by
  have key : ∀ j y, y ∈ S.q j → (-1 : Int) < y.n := fun j y hy => by
    obtain ⟨i, -, rfl, -⟩ := h.mem j y hy
    show (-1 : Int) < (i : Int)
    omega
  refine ⟨h.bnd, h.idle, h.mem, h.pw, by have := h.tot; omega, by omega, rfl, h.us.symm, by rw [h.us]; omega, fun j y hy => key j y hy, fun j y _ _ hy => key j y hy, fun j _ => by simp, by omega⟩
theorem tot_pop (S : LS) (i : Nat) (hi : i < 5) {y : Qt} {r : List Qt} (hq : S.q i = y :: r) : tot (popS S i r) + 1 = tot S := by
  unfold tot popS LS.setQ upd
  obtain rfl | rfl | rfl | rfl | rfl : i = 0 ∨ i = 1 ∨ i = 2 ∨ i = 3 ∨ i = 4 := by omega
  all_goals (simp [hq]; try omega)
theorem oth_pop (S : LS) (i : Nat) (hi : i < 5) {y : Qt} {r : List Qt} (hq : S.q i = y :: r) : (oth (popS S i r) : Int) = oth S - if i = 0 then 0 else 1 := by
  unfold oth popS LS.setQ upd
  obtain rfl | rfl | rfl | rfl | rfl : i = 0 ∨ i = 1 ∨ i = 2 ∨ i = 3 ∨ i = 4 := by omega
  all_goals (simp [hq]; try omega)
/-- a step of the loop -/
theorem fair_step {zs : List Int} {S : LS} {n row other others : Int} {last : Nat → Int} (h : FairL zs S n row other others last) (hz : zs.length ≤ 80) {S' : LS} {x : Ch} {l : List Hs} (hn : NextR S S' x l) :
    (x = Ch.z ∧ n = zs.length) ∨ ∃ (i a : Nat), i < 5 ∧ a < zs.length ∧ (zs.getD a 0) % 5 = (i : Int) ∧ x = chP i (tk a) ∧ last i < (a : Int) ∧ n < zs.length ∧
      ((i = 0 ∧ (others = 0 ∨ row + 1 ≤ 4) ∧ FairL zs S' (n + 1) (row + 1) other others (upd last i a)) ∨ (i ≠ 0 ∧ other < (a : Int) ∧ FairL zs S' (n + 1) 0 a (others - 1) (upd last i a))) := by
  obtain ⟨ht, -⟩ := next_task hn h.idle.jobs h.idle.no
  rw [fire_nil h.idle.tm] at ht
  have hk : ∀ y ∈ S.q 2, y.k ≠ 0 := fun y hy => by
    obtain ⟨i, -, rfl, -⟩ := h.mem 2 y hy
    simp [tk]
  rcases task_plain ht hk with ⟨h1, -, rfl⟩ | ⟨i, y, r, hi, h1, hq, rfl, rfl⟩
  · left
    refine ⟨rfl, ?_⟩
    have e := src_none h1
    have : tot S = 0 := by unfold tot; rw [e 0 (by omega), e 1 (by omega), e 2 (by omega), e 3 (by omega), e 4 (by omega)]; rfl
    have := h.nt
    omega
  · right
    obtain ⟨a, ha, rfl, hza⟩ := h.mem i y (by rw [hq]; exact List.mem_cons_self)
    have hmem : tk a ∈ S.q i := by rw [hq]; exact List.mem_cons_self
    have hpw := h.pw i
    rw [hq] at hpw
    have hp1 := (List.pairwise_cons.1 hpw).1
    have hp2 := (List.pairwise_cons.1 hpw).2
    have hla := h.lst i (tk a) hmem
    have htp := tot_pop S i hi hq
    have hop := oth_pop S i hi hq
    have hnn := h.nt
    have hsub : ∀ j z, z ∈ (popS S i r).q j → z ∈ S.q j := fun j z hz => by
      simp only [popS, LS.setQ, upd] at hz
      split at hz
      · rename_i e; subst e; rw [hq]; exact List.mem_cons_of_mem _ hz
      · exact hz
    have hne : ∀ j z, z ∈ (popS S i r).q j → j = i → z ∈ r := fun j z hz e => by
      subst e
      simpa [popS, LS.setQ, upd] using hz
    have hB := h.bnd
    have hB' : Bnd (popS S i r) := by
      refine ⟨fun j => ?_, hB.tm, hB.calls, hB.shots, hB.jobs, hB.nx0, hB.nx1, hB.ord0, hB.ord1, hB.now0, hB.now1, hB.last0, hB.last1, ?_, ?_, hB.ev, hB.sh0, hB.sh1⟩
      · simp only [popS, LS.setQ, upd]
        split
        · have := hB.q i; rw [hq] at this; simp at this; omega
        · exact hB.q j
      · simp only [popS]; split <;> (have := hB.us0; omega)
      · simp only [popS]; split <;> (have := hB.us1; have := h.us; omega)
    have hid : Idle (popS S i r) := ⟨h.idle.jobs, h.idle.tm, h.idle.sh, h.idle.di⟩
    have hlast : ∀ j z, z ∈ (popS S i r).q j → upd last i a j < z.n := fun j z hz => by
      simp only [upd]
      split
      · rename_i e
        have := hp1 z (hne j z hz e)
        exact this
      · exact h.lst j z (hsub j z hz)
    have hpw' : ∀ j, ((popS S i r).q j).Pairwise (fun a b => a.n < b.n) := fun j => by
      simp only [popS, LS.setQ, upd]
      split
      · exact hp2
      · exact h.pw j
    have hlo : ∀ j, j < 5 → -1 ≤ upd last i a j ∧ upd last i a j ≤ 1000 := fun j hj => by
      simp only [upd]
      split
      · omega
      · exact h.lo j hj
    refine ⟨i, a, hi, ha, hza, rfl, hla, by omega, ?_⟩
    by_cases h0 : i = 0
    · left
      subst h0
      refine ⟨rfl, ?_, hB', hid, fun j z hz => h.mem j z (hsub j z hz), hpw', by omega, by have := h.n0; omega, by rw [hop, h.oth]; simp, ?_, ?_, hlast, fun j z h1 h2 hz => h.ot j z h1 h2 (hsub j z hz), hlo, h.oo⟩
      · by_cases ho : others = 0
        · exact .inl ho
        · right
          have : S.users < 4 := by
            refine src_user h1 ?_
            have := h.oth
            by_cases e1 : S.q 1 = []
            · by_cases e2 : S.q 2 = []
              · by_cases e3 : S.q 3 = []
                · by_cases e4 : S.q 4 = []
                  · unfold Go.Proofs.Ytnamkckpgaopkaa.oth at this; rw [e1, e2, e3, e4] at this; simp at this; omega
                  · exact ⟨4, by omega, by omega, e4⟩
                · exact ⟨3, by omega, by omega, e3⟩
              · exact ⟨2, by omega, by omega, e2⟩
            · exact ⟨1, by omega, by omega, e1⟩
          rw [h.row]; omega
      · simp [popS, h.row]
      · simp only [popS]; have := h.us; simp; omega
    · right
      have hoa := h.ot i (tk a) (by omega) hi hmem
      refine ⟨h0, hoa, hB', hid, fun j z hz => h.mem j z (hsub j z hz), hpw', by omega, by have := h.n0; omega, by rw [hop, h.oth, if_neg h0], by simp [popS, h0], by simp [popS, h0]; have := h.n0; omega, hlast, fun j z h2 h3 hz => ?_, hlo, by omega⟩
      by_cases hji : j = i
      · exact hp1 z (hne j z hz hji)
      · have hzj := hsub j z hz
        cases hqj : S.q j with
        | nil => rw [hqj] at hzj; cases hzj
        | cons y l =>
          have hmin := src_min h1 h0 hq j y l h2 h3 hqj
          obtain ⟨c, -, hc, hcz⟩ := h.mem j y (by rw [hqj]; exact List.mem_cons_self)
          have hca : c ≠ a := fun e => by subst e; rw [hza] at hcz; omega
          have hac : (a : Int) < y.n := by
            rw [hc] at hmin ⊢
            simp only [tk] at hmin ⊢
            omega
          rw [hqj] at hzj
          rcases List.mem_cons.1 hzj with rfl | q
          · exact hac
          · have hp := h.pw j
            rw [hqj] at hp
            have := (List.pairwise_cons.1 hp).1 z q
            omega

end Go.Proofs.Ytnamkckpgaopkaa
