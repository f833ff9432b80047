/-
  The reference: Do, of any operation.
-/
import Derived.Test.YtcglnjklnlejmaaTk
import Derived.Test.YtcglnjklnlejmaaSp
set_option linter.unusedVariables false
set_option linter.unusedSimpArgs false
namespace Go.Proofs.Ytcglnjklnlejmaa
open Go.RowKit Go.K Go.K.Sr

theorem kd9 (x : Int) (h : 0 ≤ x) : x % 9 = 0 ∨ x % 9 = 1 ∨ x % 9 = 2 ∨ x % 9 = 3 ∨ x % 9 = 4 ∨ x % 9 = 5 ∨ x % 9 = 6 ∨ x % 9 = 7 ∨ x % 9 = 8 := by omega
theorem alt_none {S : SS} {id : Int} (hf : fnd id S.txs = none) (c : Ch) : altS S id c = (S, 6) := by unfold altS; rw [hf]
theorem alt_lock {S : SS} {id : Int} {k : Nat} (hf : fnd id S.txs = some k) (ht : turnB S.txs k = false) (c : Ch) : altS S id c = (S, 19) := by unfold altS; rw [hf]; simp [ht]
theorem alt_ro {S : SS} {id : Int} {k : Nat} (hf : fnd id S.txs = some k) (ht : turnB S.txs k = true) (hw : (S.txs[k]'(fnd_lt hf)).wr = false) (c : Ch) : altS S id c = (S, 7) := by
  unfold altS; rw [hf]; simp [ht, List.getElem?_eq_getElem (fnd_lt hf), hw]
theorem alt_wr {S : SS} {id : Int} {k : Nat} (hf : fnd id S.txs = some k) (ht : turnB S.txs k = true) (hw : (S.txs[k]'(fnd_lt hf)).wr = true) (c : Ch) : altS S id c = if c.r = false ∧ 1048576 < sizeP (content S.pairs (withC c S.cs)) then (S, 20) else ({ S with cs := withC c S.cs }, 0) := by
  unfold altS; rw [hf]; simp [ht, List.getElem?_eq_getElem (fnd_lt hf), hw]
theorem rv_with {c : Ch} {l : List Ch} (h : Rv l) (hc : c.r = true → c.v = .empty) : Rv (withC c l) := by
  intro x hx hr
  rcases mem_withC hx with rfl | hx
  · exact hc hr
  · exact h x hx hr
theorem rv_alt {S : SS} (h : Rv S.cs) (id : Int) {c : Ch} (hc : c.r = true → c.v = .empty) : Rv (altS S id c).1.cs := by
  unfold altS
  split
  · exact h
  · split
    · exact h
    · split
      · split
        · exact h
        · split
          · exact h
          · exact rv_with h hc
      · exact h
theorem rv_drop {S : SS} (h : Rv S.cs) (k : Nat) : Rv (dropS S k).cs := by
  show Rv (if k = 0 then [] else S.cs)
  split
  · intro c hc; cases hc
  · exact h
theorem rv_do {S : SS} (h : Rv S.cs) (o : Op') (id : Int) : Rv (doS S o id).1.cs := by
  unfold doS
  split
  · exact h
  · split
    · exact h
    · split
      · exact rv_alt h id (fun q => by cases q)
      · split
        · exact rv_alt h id (fun _ => rfl)
        · split
          · exact h
          · split
            · unfold commitS
              split
              · exact h
              · split
                · exact h
                · exact rv_drop (S := { S with pairs := _ }) h _
            · split
              · unfold abortS
                split
                · exact rv_drop h _
                · exact h
              · split
                · exact h
                · show Rv (headC o.key S.txs S.cs)
                  unfold headC
                  split
                  · exact h
                  · split
                    · intro c hc; cases hc
                    · exact h

theorem do_ref (S : SS) (p : Sp) (o : Op') (id : Int) (w : World) (n : Nat) (h : Rw w S p) (ho : o.ok) (hs : o.key.size ≤ 100 ∧ o.val.size ≤ 100) (hi : Iv n S) (hn : n ≤ 60) (hrv : Rv S.cs) :
    Calls Try.prog 20 #[rv p S, .agg #[.int .u8 o.kd, .int .u8 o.tx, .string o.key, .string o.val, .bool o.wr], .int .i64 id] w (RdPost (doS S o id).1 (doS S o id).2 p w) := by
  have hsz : ∀ c : Ch, (c.k.size ≤ 100 ∧ c.v.size ≤ 100) → sizeP (content S.pairs (withC c S.cs)) ≤ 4611686018427387904 := by
    intro c hc
    have h1 := sizeP_bd (M := 100) _ (bd_content (withC c S.cs) (fun x hx => by rcases mem_withC hx with rfl | hx; exact hc; exact hi.bc x hx) S.pairs hi.bp)
    have h2 := content_len (withC c S.cs) S.pairs
    have h3 := withC_len c S.cs
    have h4 := hi.ln
    omega
  have hwr : ∀ {k : Nat} (hf : fnd id S.txs = some k) (b : Bool), (S.txs[k]'(fnd_lt hf)).wr = b → ∀ t, S.txs[k]? = some t → t.wr = b := by
    intro k hf b hb t ht
    rw [List.getElem?_eq_getElem (fnd_lt hf)] at ht
    rw [← Option.some.inj ht]
    exact hb
  rcases kd9 o.kd ho.1 with hk | hk | hk | hk | hk | hk | hk | hk | hk
  · have e : doS S o id = (openS S o.key o.wr, ⟨S.nx + 1, .empty, false, [], 0⟩) := by simp [doS, hk]
    rw [e]
    exact d_open S p o id w n h ho hi hn hk
  · have e : doS S o id = (S, ⟨0, (getS S id o.key).1, (getS S id o.key).2.1, [], (getS S id o.key).2.2⟩) := by simp [doS, hk]
    rw [e]
    cases hf : fnd id S.txs with
    | none =>
      have e2 : getS S id o.key = (.empty, false, 6) := by unfold getS; rw [hf]
      rw [e2]
      exact d_none S p o id w n h ho hi hn (by omega) hf
    | some k =>
      cases ht : turnB S.txs k with
      | false =>
        have e2 : getS S id o.key = (.empty, false, 19) := by unfold getS; rw [hf]; simp [ht]
        rw [e2]
        exact d_lock S p o id w n h ho hi hn (by omega) k hf ht
      | true =>
        have e2 : getS S id o.key = ((getV S.pairs (chs S k) o.key).1, (getV S.pairs (chs S k) o.key).2, 0) := by unfold getS; rw [hf]; simp [ht]
        rw [e2]
        exact d_get S p o id w n h ho hi hn hk k hf ht hrv
  · have e : doS S o id = ((altS S id ⟨o.key, o.val, false⟩).1, ⟨0, .empty, false, [], (altS S id ⟨o.key, o.val, false⟩).2⟩) := by simp [doS, hk]
    rw [e]
    cases hf : fnd id S.txs with
    | none => rw [alt_none hf]; exact d_none S p o id w n h ho hi hn (by omega) hf
    | some k =>
      cases ht : turnB S.txs k with
      | false => rw [alt_lock hf ht]; exact d_lock S p o id w n h ho hi hn (by omega) k hf ht
      | true =>
        cases hw : (S.txs[k]'(fnd_lt hf)).wr with
        | false => rw [alt_ro hf ht hw]; exact d_ro S p o id w n h ho hi hn (by omega) k hf ht (hwr hf false hw)
        | true =>
          refine d_put S p o id w n h ho hi hn hk k hf ht (hwr hf true hw) (turnB_wr (fnd_lt hf) ht hw) ?_ (hsz _ hs)
          rw [alt_wr hf ht hw]
          by_cases hz : 1048576 < sizeP (content S.pairs (withC ⟨o.key, o.val, false⟩ S.cs))
          · rw [if_pos ⟨rfl, hz⟩, if_pos hz]
          · rw [if_neg (fun q => hz q.2), if_neg hz]
  · have e : doS S o id = ((altS S id ⟨o.key, .empty, true⟩).1, ⟨0, .empty, false, [], (altS S id ⟨o.key, .empty, true⟩).2⟩) := by simp [doS, hk]
    rw [e]
    cases hf : fnd id S.txs with
    | none => rw [alt_none hf]; exact d_none S p o id w n h ho hi hn (by omega) hf
    | some k =>
      cases ht : turnB S.txs k with
      | false => rw [alt_lock hf ht]; exact d_lock S p o id w n h ho hi hn (by omega) k hf ht
      | true =>
        cases hw : (S.txs[k]'(fnd_lt hf)).wr with
        | false => rw [alt_ro hf ht hw]; exact d_ro S p o id w n h ho hi hn (by omega) k hf ht (hwr hf false hw)
        | true =>
          refine d_rm S p o id w n h ho hi hn hk k hf ht (hwr hf true hw) (turnB_wr (fnd_lt hf) ht hw) ?_
          rw [alt_wr hf ht hw, if_neg (fun q => by cases q.1)]
  · have e : doS S o id = (S, ⟨0, .empty, false, (keysS S id o.key o.val).1, (keysS S id o.key o.val).2⟩) := by simp [doS, hk]
    rw [e]
    cases hf : fnd id S.txs with
    | none =>
      have e2 : keysS S id o.key o.val = ([], 6) := by unfold keysS; rw [hf]
      rw [e2]
      exact d_none S p o id w n h ho hi hn (by omega) hf
    | some k =>
      cases ht : turnB S.txs k with
      | false =>
        have e2 : keysS S id o.key o.val = ([], 19) := by unfold keysS; rw [hf]; simp [ht]
        rw [e2]
        exact d_lock S p o id w n h ho hi hn (by omega) k hf ht
      | true =>
        have e2 : keysS S id o.key o.val = (keysL (content S.pairs (chs S k)) o.key o.val, 0) := by unfold keysS; rw [hf]; simp [ht]
        rw [e2]
        exact d_keys S p o id w n h ho hi hn hk k hf ht
  · have e : doS S o id = ((commitS S id).1, ⟨0, .empty, false, [], (commitS S id).2⟩) := by simp [doS, hk]
    rw [e]
    cases hf : fnd id S.txs with
    | none =>
      have e2 : commitS S id = (S, 6) := by unfold commitS; rw [hf]
      rw [e2]
      exact d_none S p o id w n h ho hi hn (by omega) hf
    | some k =>
      cases ht : turnB S.txs k with
      | false =>
        have e2 : commitS S id = (S, 19) := by unfold commitS; rw [hf]; simp [ht]
        rw [e2]
        exact d_lock S p o id w n h ho hi hn (by omega) k hf ht
      | true =>
        have e2 : commitS S id = (dropS { S with pairs := content S.pairs (chs S k) } k, 0) := by unfold commitS; rw [hf]; simp [ht]
        rw [e2]
        exact d_commit S p o id w n h ho hi hn hk k hf ht
  · have e : doS S o id = (abortS S id, ⟨0, .empty, false, [], errN (fnd id S.txs)⟩) := by simp [doS, hk]
    rw [e]
    cases hf : fnd id S.txs with
    | none =>
      have e2 : abortS S id = S := by unfold abortS; rw [hf]
      rw [e2]
      exact d_none S p o id w n h ho hi hn (by omega) hf
    | some k =>
      have e2 : abortS S id = dropS S k := by unfold abortS; rw [hf]
      rw [e2]
      exact d_abort S p o id w n h ho hi hn hk k hf
  · have e : doS S o id = (S, ⟨0, .empty, turnE id S.txs, [], errN (fnd id S.txs)⟩) := by simp [doS, hk]
    rw [e]
    cases hf : fnd id S.txs with
    | none =>
      have e2 : turnE id S.txs = false := by unfold turnE; rw [hf]
      rw [e2]
      exact d_none S p o id w n h ho hi hn (by omega) hf
    | some k =>
      have e2 : turnE id S.txs = turnB S.txs k := by unfold turnE; rw [hf]
      rw [e2]
      exact d_ready S p o id w n h ho hi hn hk k hf
  · have e : doS S o id = (leaveS S o.key, ⟨(S.txs.length : Int) - ((leaveS S o.key).txs.length : Int), .empty, false, [], 0⟩) := by simp [doS, hk]
    rw [e]
    exact d_leave S p o id w n h ho hi hn hk

end Go.Proofs.Ytcglnjklnlejmaa
