/-
  StoreSerial: the plain law, first part.
-/
import Derived.Test.YtcglnjklnlejmaaSo
import Derived.Test.YtcglnjklnlejmaaSp
import Derived.Test.YtcglnjklnlejmaaTa
set_option linter.unusedVariables false
set_option linter.unusedSimpArgs false
namespace Go.Proofs.Ytcglnjklnlejmaa
open Go.RowKit Go.K Go.K.Sr

/-- the transaction at work alone, open or ended -/
def AO (P : List Pr) (t : Int) (cs : List Ch) : SS := ⟨P, [⟨t, { data := #[] }, true⟩], cs, t⟩
def stp (S : SS) (o : Op') : SS := (doS S o (numF o S.nx)).1
def rsl (S : SS) (o : Op') : Rs := (doS S o (numF o S.nx)).2
def fin (l : List Op') : SS := l.foldl stp S0
/-- what is looked at: it went well, and is no opening, leaving or asking -/
def cnd (o : Op') (R : Rs) : Bool := decide (R.err = 0) && (!decide (o.kd % 9 = 0) && !decide (o.kd % 9 = 8) && !decide (o.kd % 9 = 7))
def xst (t : Int) (a : SS × SS) (o : Op') : SS × SS := (stp a.1 o, if decide (numF o a.1.nx = t) && cnd o (rsl a.1 o) then (doS a.2 o t).1 else a.2)
def X (t : Int) (P : List Pr) (l : List Op') : SS := (l.foldl (xst t) (S0, AO P t [])).2
theorem fin_snoc (l : List Op') (o : Op') : fin (l ++ [o]) = stp (fin l) o := by unfold fin; rw [List.foldl_append]; rfl
theorem xst_fst (t : Int) (l : List Op') : ∀ a : SS × SS, (l.foldl (xst t) a).1 = l.foldl stp a.1 := by
  induction l with
  | nil => intro a; rfl
  | cons o l ih => intro a; rw [List.foldl_cons, List.foldl_cons, ih]; rfl
theorem X_nil (t : Int) (P : List Pr) : X t P [] = AO P t [] := rfl
theorem X_snoc (t : Int) (P : List Pr) (l : List Op') (o : Op') : X t P (l ++ [o]) = if decide (numF o (fin l).nx = t) && cnd o (rsl (fin l) o) then (doS (X t P l) o t).1 else X t P l := by
  unfold X
  rw [List.foldl_append]
  have e : (l.foldl (xst t) (S0, AO P t [])).1 = fin l := xst_fst t l _
  have e2 : ∀ a : SS × SS, (xst t a o).2 = if decide (numF o a.1.nx = t) && cnd o (rsl a.1 o) then (doS a.2 o t).1 else a.2 := fun a => rfl
  rw [List.foldl_cons, List.foldl_nil, e2, e]
def G (l : List Op') : Nat → List Pr
  | 0 => []
  | t + 1 => (X ((t : Int) + 1) (G l t) l).pairs
/-- those that may stay -/
def remS (S : SS) (P : List Pr) (p : Tx → Bool) : SS := { S with pairs := P, txs := S.txs.filter p, cs := match S.txs with | [] => S.cs | t :: _ => if p t then S.cs else [] }
def tu (A : List Tx) (t : Tx) : Prop := if t.wr = true then A = [] else A.any (·.wr) = false
theorem fnd_split {id : Int} {txs : List Tx} {k : Nat} (h : fnd id txs = some k) : ∃ A t B, txs = A ++ t :: B ∧ A.length = k ∧ t.id = id ∧ (∀ x ∈ A, x.id ≠ id) := by
  unfold fnd at h
  rw [List.findIdx?_eq_some_iff_getElem] at h
  obtain ⟨hk, h1, h2⟩ := h
  refine ⟨txs.take k, txs[k], txs.drop (k + 1), by rw [← List.drop_eq_getElem_cons hk, List.take_append_drop], by rw [List.length_take]; omega, by simpa using h1, ?_⟩
  intro x hx
  rw [List.mem_take_iff_getElem] at hx
  obtain ⟨j, hj, rfl⟩ := hx
  simpa using h2 j (by omega)
theorem turn_split {A B : List Tx} {t : Tx} : turnB (A ++ t :: B) A.length = true ↔ tu A t := by
  unfold turnB tu
  have e : (A ++ t :: B)[A.length]? = some t := by simp
  rw [e]
  cases h : t.wr with
  | true => simp [h]
  | false => simp [h]
theorem chs_split (S : SS) (A : List Tx) : chs S A.length = if A = [] then S.cs else [] := by
  unfold chs
  cases A with
  | nil => simp
  | cons a A => simp
theorem rem_drop {S : SS} (hi : Ids S) {A B : List Tx} {t : Tx} (h : S.txs = A ++ t :: B) (P : List Pr) : dropS { S with pairs := P } A.length = remS S P (fun x => decide (x.id ≠ t.id)) := by
  have hA : ∀ x ∈ A, x.id ≠ t.id := by
    intro x hx
    have h1 := hi.asc
    rw [h] at h1
    have := (List.pairwise_append.1 h1).2.2 x hx t (by simp)
    omega
  have hB : ∀ x ∈ B, x.id ≠ t.id := by
    intro x hx
    have h1 := hi.asc
    rw [h] at h1
    have := (List.pairwise_cons.1 (List.pairwise_append.1 h1).2.1).1 x hx
    omega
  unfold dropS remS
  have e1 : S.txs.eraseIdx A.length = S.txs.filter (fun x => decide (x.id ≠ t.id)) := by
    rw [h, List.eraseIdx_append_of_length_le (Nat.le_refl _), Nat.sub_self, List.filter_append, List.filter_eq_self.2 (fun x hx => by simpa using hA x hx), List.filter_cons, if_neg (by simp), List.filter_eq_self.2 (fun x hx => by simpa using hB x hx)]
    rfl
  have e2 : (if A.length = 0 then [] else S.cs) = (match S.txs with | [] => S.cs | x :: _ => if decide (x.id ≠ t.id) then S.cs else []) := by
    rw [h]
    cases A with
    | nil => simp
    | cons a A => simp [hA a (by simp)]
  simp only
  rw [e1, e2]
theorem rem_leave (S : SS) (ow : ByteArray) : leaveS S ow = remS S S.pairs (fun x => !isOw ow x) := by
  unfold leaveS remS headC
  cases h : S.txs with
  | nil => rfl
  | cons t r =>
    simp only
    congr 1
    by_cases h : isOw ow t = true <;> simp [h]
theorem filter_split {p : Tx → Bool} : ∀ {l A' B' : List Tx} {t : Tx}, l.filter p = A' ++ t :: B' → ∃ A B, l = A ++ t :: B ∧ A.filter p = A' ∧ p t = true
  | [], A', B', t, h => by cases A' <;> simp at h
  | x :: l, A', B', t, h => by
    rw [List.filter_cons] at h
    by_cases hp : p x = true
    · rw [if_pos hp] at h
      cases A' with
      | nil =>
        simp only [List.nil_append, List.cons.injEq] at h
        obtain ⟨rfl, h2⟩ := h
        exact ⟨[], l, rfl, rfl, hp⟩
      | cons a A' =>
        simp only [List.cons_append, List.cons.injEq] at h
        obtain ⟨rfl, h2⟩ := h
        obtain ⟨A, B, h3, h4, h5⟩ := filter_split h2
        exact ⟨x :: A, B, by rw [h3]; rfl, by rw [List.filter_cons, if_pos hp, h4], h5⟩
    · rw [if_neg hp] at h
      obtain ⟨A, B, h3, h4, h5⟩ := filter_split h
      exact ⟨x :: A, B, by rw [h3]; rfl, by rw [List.filter_cons, if_neg hp, h4], h5⟩
/-- the first identifier that is open, or the next -/
def fo (S : SS) : Int := match S.txs with | [] => S.nx + 1 | t :: _ => t.id
theorem fo_le {S : SS} (hi : Ids S) {t : Tx} (ht : t ∈ S.txs) : fo S ≤ t.id := by
  unfold fo
  cases h : S.txs with
  | nil => rw [h] at ht; cases ht
  | cons a r =>
    rw [h] at ht
    rcases List.mem_cons.1 ht with rfl | hm
    · exact Int.le_refl _
    · have h1 := hi.asc
      rw [h] at h1
      have := (List.pairwise_cons.1 h1).1 t hm
      show a.id ≤ t.id
      omega
theorem fo_bd {S : SS} (hi : Ids S) (hx : 0 ≤ S.nx) : 1 ≤ fo S ∧ fo S ≤ S.nx + 1 := by
  unfold fo
  cases h : S.txs with
  | nil => exact ⟨by show (1 : Int) ≤ S.nx + 1; omega, Int.le_refl _⟩
  | cons a r =>
    have := hi.bd a (by rw [h]; simp)
    exact ⟨by show (1 : Int) ≤ a.id; omega, by show a.id ≤ S.nx + 1; omega⟩
theorem fo_rem {S : SS} (hi : Ids S) (P : List Pr) (p : Tx → Bool) : fo S ≤ fo (remS S P p) := by
  cases h : (remS S P p).txs with
  | nil =>
    have e : fo (remS S P p) = S.nx + 1 := by unfold fo; rw [h]; rfl
    rw [e]
    unfold fo
    cases h2 : S.txs with
    | nil => exact Int.le_refl _
    | cons a r => have := (hi.bd a (by rw [h2]; simp)).2; show a.id ≤ S.nx + 1; omega
  | cons a r =>
    have e : fo (remS S P p) = a.id := by unfold fo; rw [h]
    rw [e]
    have hm : a ∈ S.txs.filter p := by
      have : (remS S P p).txs = S.txs.filter p := rfl
      rw [← this, h]; simp
    exact fo_le hi (List.mem_filter.1 hm).1
/-- the operations on a transaction alone -/
theorem ao_get (P : List Pr) (t : Int) (cs : List Ch) (o : Op') (hk : o.kd % 9 = 1) : doS (AO P t cs) o t = (AO P t cs, ⟨0, (getV P cs o.key).1, (getV P cs o.key).2, [], 0⟩) := by
  have hf : fnd t (AO P t cs).txs = some 0 := by simp [fnd, AO, List.findIdx?_cons]
  have ht : turnB (AO P t cs).txs 0 = true := by simp [turnB, AO]
  have e : getS (AO P t cs) t o.key = ((getV P cs o.key).1, (getV P cs o.key).2, 0) := by unfold getS; rw [hf]; simp [ht]; exact ⟨rfl, rfl⟩
  simp [doS, hk, e]
theorem ao_keys (P : List Pr) (t : Int) (cs : List Ch) (o : Op') (hk : o.kd % 9 = 4) : doS (AO P t cs) o t = (AO P t cs, ⟨0, .empty, false, keysL (content P cs) o.key o.val, 0⟩) := by
  have hf : fnd t (AO P t cs).txs = some 0 := by simp [fnd, AO, List.findIdx?_cons]
  have ht : turnB (AO P t cs).txs 0 = true := by simp [turnB, AO]
  have e : keysS (AO P t cs) t o.key o.val = (keysL (content P cs) o.key o.val, 0) := by unfold keysS; rw [hf]; simp [ht]; rfl
  simp [doS, hk, e]
theorem ao_alt (P : List Pr) (t : Int) (cs : List Ch) (c : Ch) : altS (AO P t cs) t c = if c.r = false ∧ 1048576 < sizeP (content P (withC c cs)) then (AO P t cs, 20) else (AO P t (withC c cs), 0) := by
  have hf : fnd t (AO P t cs).txs = some 0 := by simp [fnd, AO, List.findIdx?_cons]
  rw [alt_one (t := ⟨t, { data := #[] }, true⟩) hf rfl rfl]
  rfl
theorem ao_put (P : List Pr) (t : Int) (cs : List Ch) (o : Op') (hk : o.kd % 9 = 2) (hz : ¬ 1048576 < sizeP (content P (withC ⟨o.key, o.val, false⟩ cs))) : doS (AO P t cs) o t = (AO P t (withC ⟨o.key, o.val, false⟩ cs), ⟨0, .empty, false, [], 0⟩) := by
  have e := ao_alt P t cs ⟨o.key, o.val, false⟩
  rw [if_neg (fun q => hz q.2)] at e
  simp [doS, hk, e]
theorem ao_rm (P : List Pr) (t : Int) (cs : List Ch) (o : Op') (hk : o.kd % 9 = 3) : doS (AO P t cs) o t = (AO P t (withC ⟨o.key, .empty, true⟩ cs), ⟨0, .empty, false, [], 0⟩) := by
  have e := ao_alt P t cs ⟨o.key, .empty, true⟩
  rw [if_neg (fun q => by cases q.1)] at e
  simp [doS, hk, e]
theorem ao_com (P : List Pr) (t : Int) (cs : List Ch) (o : Op') (hk : o.kd % 9 = 5) : (doS (AO P t cs) o t).1.pairs = content P cs ∧ (doS (AO P t cs) o t).2 = ⟨0, .empty, false, [], 0⟩ := by
  have hf : fnd t (AO P t cs).txs = some 0 := by simp [fnd, AO, List.findIdx?_cons]
  have ht : turnB (AO P t cs).txs 0 = true := by simp [turnB, AO]
  have e : commitS (AO P t cs) t = (dropS { AO P t cs with pairs := content P cs } 0, 0) := by unfold commitS; rw [hf]; simp [ht]; rfl
  simp [doS, hk, e, dropS]
theorem ao_abo (P : List Pr) (t : Int) (cs : List Ch) (o : Op') (hk : o.kd % 9 = 6) : (doS (AO P t cs) o t).2 = ⟨0, .empty, false, [], 0⟩ := by
  have hf : fnd t (AO P t cs).txs = some 0 := by simp [fnd, AO, List.findIdx?_cons]
  simp [doS, hk, hf, errN]
theorem alt_pairs (S : SS) (id : Int) (c : Ch) : (altS S id c).1.pairs = S.pairs := by
  unfold altS
  split
  · rfl
  · split
    · rfl
    · split
      · split
        · rfl
        · split <;> rfl
      · rfl
theorem do_pairs (S : SS) (o : Op') (id : Int) (h : o.kd % 9 ≠ 5) : (doS S o id).1.pairs = S.pairs := by
  unfold doS
  split
  · rfl
  · split
    · rfl
    · split
      · exact alt_pairs _ _ _
      · split
        · exact alt_pairs _ _ _
        · split
          · rfl
          · split
            · unfold abortS
              split <;> rfl
            · split <;> rfl

end Go.Proofs.Ytcglnjklnlejmaa
