/-
  StoreSerial: the plain law, second part.
-/
import Derived.Test.YtcglnjklnlejmaaUa
set_option linter.unusedVariables false
set_option linter.unusedSimpArgs false
namespace Go.Proofs.Ytcglnjklnlejmaa
open Go.RowKit Go.K Go.K.Sr

def chO (o : Op') : Ch := if o.kd % 9 = 2 then ⟨o.key, o.val, false⟩ else ⟨o.key, .empty, true⟩
theorem cnd_iff {o : Op'} {R : Rs} : cnd o R = true ↔ R.err = 0 ∧ o.kd % 9 ≠ 0 ∧ o.kd % 9 ≠ 8 ∧ o.kd % 9 ≠ 7 := by
  unfold cnd
  simp only [Bool.and_eq_true, decide_eq_true_eq, Bool.not_eq_true', decide_eq_false_iff_not]
  constructor
  · rintro ⟨a, ⟨b, c⟩, d⟩; exact ⟨a, b, c, d⟩
  · rintro ⟨a, b, c, d⟩; exact ⟨a, ⟨b, c⟩, d⟩
def zR : Rs := ⟨0, .empty, false, [], 0⟩
/-- what an operation does -/
inductive Ef (S : SS) (o : Op') (id : Int) : SS → Rs → Prop
  | opn (R : Rs) : o.kd % 9 = 0 → Ef S o id (openS S o.key o.wr) R
  | lea (R : Rs) : o.kd % 9 = 8 → Ef S o id (remS S S.pairs (fun x => !isOw o.key x)) R
  | nop (R : Rs) : cnd o R = false → Ef S o id S R
  | get (A B : List Tx) (t : Tx) : o.kd % 9 = 1 → S.txs = A ++ t :: B → t.id = id → tu A t → Ef S o id S ⟨0, (getV S.pairs (if A = [] then S.cs else []) o.key).1, (getV S.pairs (if A = [] then S.cs else []) o.key).2, [], 0⟩
  | keys (A B : List Tx) (t : Tx) : o.kd % 9 = 4 → S.txs = A ++ t :: B → t.id = id → tu A t → Ef S o id S ⟨0, .empty, false, keysL (content S.pairs (if A = [] then S.cs else [])) o.key o.val, 0⟩
  | chg (B : List Tx) (t : Tx) : (o.kd % 9 = 2 ∧ ¬ 1048576 < sizeP (content S.pairs (withC ⟨o.key, o.val, false⟩ S.cs))) ∨ o.kd % 9 = 3 → S.txs = t :: B → t.id = id → t.wr = true → Ef S o id { S with cs := withC (chO o) S.cs } zR
  | com (A B : List Tx) (t : Tx) : o.kd % 9 = 5 → S.txs = A ++ t :: B → t.id = id → tu A t → Ef S o id (remS S (content S.pairs (if A = [] then S.cs else [])) (fun x => decide (x.id ≠ id))) zR
  | abo (A B : List Tx) (t : Tx) : o.kd % 9 = 6 → S.txs = A ++ t :: B → t.id = id → Ef S o id (remS S S.pairs (fun x => decide (x.id ≠ id))) zR
theorem alt_ef {S : SS} {id : Int} {c : Ch} (h : (altS S id c).2 = 0) : ∃ t B, S.txs = t :: B ∧ t.id = id ∧ t.wr = true ∧ altS S id c = ({ S with cs := withC c S.cs }, 0) ∧ (c.r = false → ¬ 1048576 < sizeP (content S.pairs (withC c S.cs))) := by
  unfold altS at h ⊢
  cases hf : fnd id S.txs with
  | none => rw [hf] at h; simp at h
  | some k =>
    rw [hf] at h
    simp only at h ⊢
    obtain ⟨A, t, B, hs, hl, hid, -⟩ := fnd_split hf
    have hg : S.txs[k]? = some t := by rw [hs, ← hl]; simp
    by_cases ht : turnB S.txs k = false
    · rw [if_pos ht] at h; simp at h
    · have ht' : turnB S.txs k = true := by simpa using ht
      rw [if_neg ht, hg] at h ⊢
      simp only at h ⊢
      by_cases hw : t.wr = false
      · rw [if_pos hw] at h; simp at h
      · have hw' : t.wr = true := by simpa using hw
        rw [if_neg hw] at h ⊢
        have h0 : A = [] := by
          rw [hs, ← hl, turn_split] at ht'
          unfold tu at ht'
          rwa [if_pos hw'] at ht'
        subst h0
        by_cases hz : c.r = false ∧ 1048576 < sizeP (content S.pairs (withC c S.cs))
        · rw [if_pos hz] at h; simp at h
        · rw [if_neg hz]
          exact ⟨t, B, hs, hid, hw', rfl, fun a b => hz ⟨a, b⟩⟩
theorem alt_no {S : SS} {id : Int} {c : Ch} (h : (altS S id c).2 ≠ 0) : (altS S id c).1 = S := by
  unfold altS at h ⊢
  split
  · rfl
  · rename_i k hf
    simp only [hf] at h
    split
    · rfl
    · rename_i h1
      rw [if_neg h1] at h
      split
      · rename_i t hg
        simp only [hg] at h
        split
        · rfl
        · rename_i h2
          rw [if_neg h2] at h
          split
          · rfl
          · rename_i h3
            rw [if_neg h3] at h
            simp at h
      · rfl
theorem nop_err {o : Op'} {R : Rs} (h : R.err ≠ 0) : cnd o R = false := by
  cases hc : cnd o R with
  | false => rfl
  | true => exact absurd (cnd_iff.1 hc).1 h
theorem do_ef (S : SS) (o : Op') (id : Int) (hk : 0 ≤ o.kd) (hi : Ids S) : Ef S o id (doS S o id).1 (doS S o id).2 := by
  have hm : o.kd % 9 = 0 ∨ o.kd % 9 = 1 ∨ o.kd % 9 = 2 ∨ o.kd % 9 = 3 ∨ o.kd % 9 = 4 ∨ o.kd % 9 = 5 ∨ o.kd % 9 = 6 ∨ o.kd % 9 = 7 ∨ o.kd % 9 = 8 := by omega
  rcases hm with h | h | h | h | h | h | h | h | h
  · have e : doS S o id = (openS S o.key o.wr, ⟨S.nx + 1, .empty, false, [], 0⟩) := by simp [doS, h]
    rw [e]
    exact .opn _ h
  · have e : doS S o id = (S, ⟨0, (getS S id o.key).1, (getS S id o.key).2.1, [], (getS S id o.key).2.2⟩) := by simp [doS, h]
    rw [e]
    cases hf : fnd id S.txs with
    | none =>
      have e2 : getS S id o.key = (.empty, false, 6) := by unfold getS; rw [hf]
      rw [e2]
      exact .nop _ (nop_err (by simp))
    | some k =>
      cases ht : turnB S.txs k with
      | false =>
        have e2 : getS S id o.key = (.empty, false, 19) := by unfold getS; rw [hf]; simp [ht]
        rw [e2]
        exact .nop _ (nop_err (by simp))
      | true =>
        have e2 : getS S id o.key = ((getV S.pairs (chs S k) o.key).1, (getV S.pairs (chs S k) o.key).2, 0) := by unfold getS; rw [hf]; simp [ht]
        obtain ⟨A, t, B, hs, hl, hid, -⟩ := fnd_split hf
        rw [e2, ← hl, chs_split]
        exact .get A B t h hs hid (turn_split.1 (by rw [← hs, hl]; exact ht))
  · have e : doS S o id = ((altS S id ⟨o.key, o.val, false⟩).1, ⟨0, .empty, false, [], (altS S id ⟨o.key, o.val, false⟩).2⟩) := by simp [doS, h]
    rw [e]
    by_cases he : (altS S id ⟨o.key, o.val, false⟩).2 = 0
    · obtain ⟨t, B, h1, h2, h3, h4, h5⟩ := alt_ef he
      rw [h4]
      have h6 := Ef.chg (S := S) (o := o) (id := id) B t (.inl ⟨h, h5 rfl⟩) h1 h2 h3
      have h7 : chO o = ⟨o.key, o.val, false⟩ := by simp [chO, h]
      rw [h7] at h6
      exact h6
    · rw [alt_no he]
      exact .nop _ (nop_err he)
  · have e : doS S o id = ((altS S id ⟨o.key, .empty, true⟩).1, ⟨0, .empty, false, [], (altS S id ⟨o.key, .empty, true⟩).2⟩) := by simp [doS, h]
    rw [e]
    by_cases he : (altS S id ⟨o.key, .empty, true⟩).2 = 0
    · obtain ⟨t, B, h1, h2, h3, h4, h5⟩ := alt_ef he
      rw [h4]
      have h6 := Ef.chg (S := S) (o := o) (id := id) B t (.inr h) h1 h2 h3
      have h7 : chO o = ⟨o.key, .empty, true⟩ := by simp [chO, h]
      rw [h7] at h6
      exact h6
    · rw [alt_no he]
      exact .nop _ (nop_err he)
  · have e : doS S o id = (S, ⟨0, .empty, false, (keysS S id o.key o.val).1, (keysS S id o.key o.val).2⟩) := by simp [doS, h]
    rw [e]
    cases hf : fnd id S.txs with
    | none =>
      have e2 : keysS S id o.key o.val = ([], 6) := by unfold keysS; rw [hf]
      rw [e2]
      exact .nop _ (nop_err (by simp))
    | some k =>
      cases ht : turnB S.txs k with
      | false =>
        have e2 : keysS S id o.key o.val = ([], 19) := by unfold keysS; rw [hf]; simp [ht]
        rw [e2]
        exact .nop _ (nop_err (by simp))
      | true =>
        have e2 : keysS S id o.key o.val = (keysL (content S.pairs (chs S k)) o.key o.val, 0) := by unfold keysS; rw [hf]; simp [ht]
        obtain ⟨A, t, B, hs, hl, hid, -⟩ := fnd_split hf
        rw [e2, ← hl, chs_split]
        exact .keys A B t h hs hid (turn_split.1 (by rw [← hs, hl]; exact ht))
  · have e : doS S o id = ((commitS S id).1, ⟨0, .empty, false, [], (commitS S id).2⟩) := by simp [doS, h]
    rw [e]
    cases hf : fnd id S.txs with
    | none =>
      have e2 : commitS S id = (S, 6) := by unfold commitS; rw [hf]
      rw [e2]
      exact .nop _ (nop_err (by simp))
    | some k =>
      cases ht : turnB S.txs k with
      | false =>
        have e2 : commitS S id = (S, 19) := by unfold commitS; rw [hf]; simp [ht]
        rw [e2]
        exact .nop _ (nop_err (by simp))
      | true =>
        have e2 : commitS S id = (dropS { S with pairs := content S.pairs (chs S k) } k, 0) := by unfold commitS; rw [hf]; simp [ht]
        obtain ⟨A, t, B, hs, hl, hid, -⟩ := fnd_split hf
        rw [e2, ← hl, chs_split, rem_drop hi hs, hid]
        exact .com A B t h hs hid (turn_split.1 (by rw [← hs, hl]; exact ht))
  · have e : doS S o id = (abortS S id, ⟨0, .empty, false, [], errN (fnd id S.txs)⟩) := by simp [doS, h]
    rw [e]
    cases hf : fnd id S.txs with
    | none =>
      have e2 : abortS S id = S := by unfold abortS; rw [hf]
      rw [e2]
      exact .nop _ (nop_err (by simp [errN]))
    | some k =>
      have e2 : abortS S id = dropS S k := by unfold abortS; rw [hf]
      obtain ⟨A, t, B, hs, hl, hid, -⟩ := fnd_split hf
      have e3 := rem_drop hi hs S.pairs
      rw [e2, ← hl]
      rw [show dropS S A.length = remS S S.pairs (fun x => decide (x.id ≠ t.id)) from e3, hid]
      exact .abo A B t h hs hid
  · have e : doS S o id = (S, ⟨0, .empty, turnE id S.txs, [], errN (fnd id S.txs)⟩) := by simp [doS, h]
    rw [e]
    refine .nop _ ?_
    cases hc : cnd o ⟨0, .empty, turnE id S.txs, [], errN (fnd id S.txs)⟩ with
    | false => rfl
    | true => exact absurd h (cnd_iff.1 hc).2.2.2
  · have e : doS S o id = (leaveS S o.key, ⟨(S.txs.length : Int) - ((leaveS S o.key).txs.length : Int), .empty, false, [], 0⟩) := by simp [doS, h]
    rw [e, rem_leave]
    exact .lea _ h
/-- one that was looked at is open -/
theorem ef_open {S S' : SS} {o : Op'} {id : Int} {R : Rs} (h : Ef S o id S' R) (hc : cnd o R = true) : ∃ A t B, S.txs = A ++ t :: B ∧ t.id = id ∧ (t.wr = false → ¬ (o.kd % 9 = 2 ∨ o.kd % 9 = 3)) ∧ (o.kd % 9 ≠ 6 → tu A t) := by
  obtain ⟨c1, c2, c3, c4⟩ := cnd_iff.1 hc
  cases h with
  | opn _ h => exact absurd h c2
  | lea _ h => exact absurd h c3
  | nop _ h => rw [hc] at h; cases h
  | get A B t h1 h2 h3 h4 => exact ⟨A, t, B, h2, h3, fun _ => by omega, fun _ => h4⟩
  | keys A B t h1 h2 h3 h4 => exact ⟨A, t, B, h2, h3, fun _ => by omega, fun _ => h4⟩
  | chg B t h1 h2 h3 h4 => exact ⟨[], t, B, h2, h3, fun q => (by rw [h4] at q; cases q), fun _ => by unfold tu; rw [if_pos h4]⟩
  | com A B t h1 h2 h3 h4 => exact ⟨A, t, B, h2, h3, fun _ => by omega, fun _ => h4⟩
  | abo A B t h1 h2 h3 => exact ⟨A, t, B, h2, h3, fun _ => by omega, fun q => absurd h1 q⟩
structure Si (l : List Op') : Prop where
  ids : Ids (fin l)
  nx0 : 0 ≤ (fin l).nx
  nil : (fin l).txs = [] → (fin l).cs = []
  fw : ∀ t B, (fin l).txs = t :: B → t.wr = false → (fin l).cs = []
  j0 : ∀ t P, (fin l).nx < t → X t P l = AO P t []
  j : ∀ A t B, (fin l).txs = A ++ t :: B → ∀ P, (tu A t → P = (fin l).pairs) → X t.id P l = AO P t.id (if A = [] then (fin l).cs else [])
  nr : ∀ A t B, (fin l).txs = A ++ t :: B → t.wr = false → ∀ P, X t.id P l = AO P t.id []
  m : ∀ u P, fo (fin l) ≤ u → (X u P l).pairs = P
  k : G l (fo (fin l) - 1).toNat = (fin l).pairs
theorem G_succ (l : List Op') (n : Nat) : G l (n + 1) = (X ((n : Int) + 1) (G l n) l).pairs := rfl
/-- where nothing changes from a place on -/
theorem G_flat {l : List Op'} {a : Nat} (h : ∀ u P, (a : Int) < u → (X u P l).pairs = P) : ∀ n, a ≤ n → G l n = G l a := by
  intro n hn
  induction n with
  | zero => rw [show a = 0 by omega]
  | succ n ih =>
    by_cases e : a = n + 1
    · rw [e]
    · rw [G_succ, h _ _ (by omega), ih (by omega)]
theorem Si.flat {l : List Op'} (h : Si l) (n : Nat) (hn : fo (fin l) - 1 ≤ n) : G l n = (fin l).pairs := by
  have hb := fo_bd h.ids h.nx0
  rw [← h.k]
  exact G_flat (fun u P hu => h.m u P (by omega)) n (by omega)
theorem X_same {l : List Op'} {o : Op'} {t : Int} {P : List Pr} (h : numF o (fin l).nx = t → cnd o (rsl (fin l) o) = false) : X t P (l ++ [o]) = X t P l := by
  rw [X_snoc]
  by_cases e : numF o (fin l).nx = t
  · rw [h e]; simp
  · simp [e]
theorem X_exec {l : List Op'} {o : Op'} {P : List Pr} (h : cnd o (rsl (fin l) o) = true) : X (numF o (fin l).nx) P (l ++ [o]) = (doS (X (numF o (fin l).nx) P l) o (numF o (fin l).nx)).1 := by
  rw [X_snoc, h]; simp
theorem G_lt {l : List Op'} {o : Op'} : ∀ n : Nat, (cnd o (rsl (fin l) o) = true → (n : Int) < numF o (fin l).nx) → G (l ++ [o]) n = G l n
  | 0, _ => rfl
  | n + 1, h => by
    rw [G_succ, G_succ, G_lt n (fun q => by have := h q; omega), X_same]
    intro e
    cases hc : cnd o (rsl (fin l) o) with
    | false => rfl
    | true => have := h hc; omega
theorem content_nil (P : List Pr) : content P [] = P := rfl
/-- pairs stay but for a writer's commit -/
theorem Si.m' {l : List Op'} (h : Si l) (o : Op') (hk : 0 ≤ o.kd) (u : Int) (P : List Pr) (hu : fo (fin l) ≤ u) (hn : ∀ t B, (fin l).txs = t :: B → t.wr = true → t.id = u → cnd o (rsl (fin l) o) = true → numF o (fin l).nx = u → o.kd % 9 ≠ 5) : (X u P (l ++ [o])).pairs = P := by
  have hef := do_ef (fin l) o (numF o (fin l).nx) hk h.ids
  by_cases hx : numF o (fin l).nx = u ∧ cnd o (rsl (fin l) o) = true
  · obtain ⟨rfl, hc⟩ := hx
    rw [X_exec hc]
    by_cases h5 : o.kd % 9 = 5
    · obtain ⟨A, t, B, h1, h2, h3, h4⟩ := ef_open hef hc
      have ht := h4 (by omega)
      cases hw : t.wr with
      | true =>
        unfold tu at ht
        rw [if_pos hw] at ht
        subst ht
        exact absurd h5 (hn t B h1 hw h2 hc rfl)
      | false =>
        have hx := h.nr A t B h1 hw P
        rw [h2] at hx
        rw [hx, (ao_com P _ [] o h5).1, content_nil]
    · rw [do_pairs _ _ _ h5]
      exact h.m _ P hu
  · rw [X_same (fun e => by
      cases hc : cnd o (rsl (fin l) o) with
      | false => rfl
      | true => exact absurd ⟨e, hc⟩ hx)]
    exact h.m u P hu
theorem si_nil : Si [] where
  ids := ids0
  nx0 := Int.le_refl _
  nil := fun _ => rfl
  fw := fun _ _ _ _ => rfl
  j0 := fun _ _ _ => rfl
  j := fun A t B h => by cases A <;> cases h
  nr := fun A t B h => by cases A <;> cases h
  m := fun _ _ _ => rfl
  k := rfl

end Go.Proofs.Ytcglnjklnlejmaa
