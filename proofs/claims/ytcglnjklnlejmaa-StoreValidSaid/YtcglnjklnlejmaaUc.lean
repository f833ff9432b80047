/-
  StoreSerial: the plain law.
-/
import Derived.Test.YtcglnjklnlejmaaUb
import Derived.Test.YtcglnjklnlejmaaSx
set_option linter.unusedVariables false
set_option linter.unusedSimpArgs false
namespace Go.Proofs.Ytcglnjklnlejmaa
open Go.RowKit Go.K Go.K.Sr

/-- txs that share identifiers are one -/
theorem ids_uniq {S : SS} (hi : Ids S) {A A' B B' : List Tx} {t t' : Tx} (h : S.txs = A ++ t :: B) (h' : S.txs = A' ++ t' :: B') (e : t.id = t'.id) : A = A' ∧ t = t' := by
  have hlt : ∀ (A B : List Tx) (t x : Tx), S.txs = A ++ t :: B → x ∈ A → x.id < t.id := by
    intro A B t x h hx
    have h1 := hi.asc
    rw [h] at h1
    exact (List.pairwise_append.1 h1).2.2 x hx t (by simp)
  have key : ∀ (A A' B B' : List Tx) (l : List Tx), l = A ++ t :: B → l = A' ++ t' :: B' → (∀ x ∈ A, x.id < t.id) → (∀ x ∈ A', x.id < t'.id) → A = A' ∧ t = t' := by
    intro A
    induction A with
    | nil =>
      intro A' B B' l h h' _ h2
      cases A' with
      | nil =>
        rw [h] at h'
        simp only [List.nil_append, List.cons.injEq] at h'
        exact ⟨rfl, h'.1⟩
      | cons a A' =>
        rw [h] at h'
        simp only [List.nil_append, List.cons_append, List.cons.injEq] at h'
        have := h2 a (by simp)
        rw [← h'.1] at this
        omega
    | cons b A ih =>
      intro A' B B' l h h' h1 h2
      cases A' with
      | nil =>
        rw [h] at h'
        simp only [List.nil_append, List.cons_append, List.cons.injEq] at h'
        have := h1 b (by simp)
        rw [h'.1] at this
        omega
      | cons a A' =>
        rw [h] at h'
        simp only [List.cons_append, List.cons.injEq] at h'
        obtain ⟨e1, e2⟩ := ih A' B B' _ h'.2.symm rfl (fun x hx => h1 x (by simp [hx])) (fun x hx => h2 x (by simp [hx]))
        exact ⟨by rw [h'.1, e1], e2⟩
  exact key A A' B B' S.txs h h' (fun x hx => hlt A B t x h hx) (fun x hx => hlt A' B' t' x h' hx)
/-- a step that takes some away -/
theorem si_rem {l : List Op'} {o : Op'} (h : Si l) {P' : List Pr} {p : Tx → Bool} (he : fin (l ++ [o]) = remS (fin l) P' p)
    (hc : cnd o (rsl (fin l) o) = true → (∃ A t B, (fin l).txs = A ++ t :: B ∧ t.id = numF o (fin l).nx) ∧ (∀ t ∈ (fin l).txs, p t = true → t.id ≠ numF o (fin l).nx))
    (hP : ∀ A t B, (fin l).txs = A ++ t :: B → p t = true → tu A t → P' = (fin l).pairs)
    (hm : ∀ u P, fo (fin (l ++ [o])) ≤ u → (X u P (l ++ [o])).pairs = P)
    (hk : G (l ++ [o]) (fo (fin (l ++ [o])) - 1).toNat = P') : Si (l ++ [o]) := by
  have htx : (fin (l ++ [o])).txs = (fin l).txs.filter p := by rw [he]; rfl
  have hnx : (fin (l ++ [o])).nx = (fin l).nx := by rw [he]; rfl
  have hpp : (fin (l ++ [o])).pairs = P' := by rw [he]; rfl
  have hcs : (fin (l ++ [o])).cs = match (fin l).txs with | [] => (fin l).cs | t :: _ => if p t then (fin l).cs else [] := by rw [he]; rfl
  have hX : ∀ t ∈ (fin l).txs, p t = true → ∀ P, X t.id P (l ++ [o]) = X t.id P l := by
    intro t ht hp P
    refine X_same (fun e => ?_)
    cases hcc : cnd o (rsl (fin l) o) with
    | false => rfl
    | true => exact absurd e.symm ((hc hcc).2 t ht hp)
  refine ⟨ids_sub h.ids (by rw [htx]; exact List.filter_sublist) hnx, by rw [hnx]; exact h.nx0, fun q => ?_, fun t B q hw => ?_, fun t P ht => ?_, fun A' t B' q P hq => ?_, fun A' t B' q hw P => ?_, hm, by rw [hpp]; exact hk⟩
  · rw [hcs]
    cases hl : (fin l).txs with
    | nil => exact h.nil hl
    | cons a r =>
      rw [htx, hl, List.filter_cons] at q
      by_cases ha : p a = true
      · rw [if_pos ha] at q; cases q
      · simp [ha]
  · rw [hcs]
    cases hl : (fin l).txs with
    | nil => exact h.nil hl
    | cons a r =>
      rw [htx, hl, List.filter_cons] at q
      by_cases ha : p a = true
      · rw [if_pos ha] at q
        simp only [List.cons.injEq] at q
        simp only [ha, if_true]
        exact h.fw a r hl (by rw [q.1]; exact hw)
      · simp [ha]
  · rw [X_same, h.j0 t P (by omega)]
    intro e
    cases hcc : cnd o (rsl (fin l) o) with
    | false => rfl
    | true =>
      obtain ⟨⟨A, t', B, h1, h2⟩, -⟩ := hc hcc
      have := (h.ids.bd t' (by rw [h1]; simp)).2
      omega
  · rw [htx] at q
    obtain ⟨A, B, h1, h2, h3⟩ := filter_split q
    rw [hX t (by rw [h1]; simp) h3, h.j A t B h1 P ?_]
    · cases A with
      | nil =>
        simp only [List.filter_nil] at h2
        subst h2
        rw [hcs, h1]
        simp [h3]
      | cons a A =>
        have e1 : (if a :: A = [] then (fin l).cs else []) = ([] : List Ch) := by simp
        rw [e1]
        by_cases hA : A' = []
        · rw [if_pos hA, hcs, h1]
          have ha : ¬ p a = true := by
            intro ha
            rw [List.filter_cons, if_pos ha, hA] at h2
            cases h2
          simp [ha]
        · rw [if_neg hA]
    · intro ht
      have ht' : tu A' t := by
        unfold tu at ht ⊢
        by_cases hw : t.wr = true
        · rw [if_pos hw] at ht ⊢
          rw [ht] at h2
          exact h2.symm
        · rw [if_neg hw] at ht ⊢
          rw [← h2, List.any_eq_false]
          intro x hx
          exact List.any_eq_false.1 ht x (List.mem_filter.1 hx).1
      rw [hq ht', hpp]
      exact hP A t B h1 h3 ht
  · rw [htx] at q
    obtain ⟨A, B, h1, h2, h3⟩ := filter_split q
    rw [hX t (by rw [h1]; simp) h3]
    exact h.nr A t B h1 hw P
theorem fin_ef {l : List Op'} {o : Op'} (h : Si l) (hk : 0 ≤ o.kd) : Ef (fin l) o (numF o (fin l).nx) (fin (l ++ [o])) (rsl (fin l) o) := by
  rw [fin_snoc]
  exact do_ef (fin l) o _ hk h.ids
theorem si_step {l : List Op'} (h : Si l) (o : Op') (hk : 0 ≤ o.kd) : Si (l ++ [o]) := by
  have hef := fin_ef h hk
  have hop := ef_open hef
  have hm' := fun u P hu => h.m' o hk u P hu
  have hb := fo_bd h.ids h.nx0
  -- what holds where the first pairs stay
  have hkk : (∀ t B, (fin l).txs = t :: B → t.wr = true → cnd o (rsl (fin l) o) = true → numF o (fin l).nx = t.id → o.kd % 9 ≠ 5) → ∀ n : Nat, fo (fin l) - 1 ≤ n → G (l ++ [o]) n = (fin l).pairs := by
    intro hw n hn
    have h0 : G (l ++ [o]) (fo (fin l) - 1).toNat = (fin l).pairs := by
      rw [G_lt, h.k]
      intro hc
      obtain ⟨A, t, B, h1, h2, -⟩ := hop hc
      have := fo_le h.ids (show t ∈ (fin l).txs by rw [h1]; simp)
      omega
    rw [← h0]
    refine G_flat (fun u P hu => hm' u P (by omega) (fun t B q hwr e hc ei => ?_)) n (by omega)
    exact hw t B q hwr hc (by rw [ei, e])
  generalize hR : rsl (fin l) o = R at hef hop hkk
  generalize hS' : fin (l ++ [o]) = S' at hef
  cases hef with
  | opn _ h0 =>
    have hcf : cnd o (rsl (fin l) o) = false := by
      cases hc : cnd o (rsl (fin l) o) with
      | false => rfl
      | true => exact absurd h0 (cnd_iff.1 hc).2.1
    have hX : ∀ t P, X t P (l ++ [o]) = X t P l := fun t P => X_same (fun _ => hcf)
    have hG : ∀ n, G (l ++ [o]) n = G l n := fun n => G_lt n (fun q => by rw [hcf] at q; cases q)
    have hfo : fo (fin (l ++ [o])) = fo (fin l) := by
      rw [hS']
      cases hl : (fin l).txs with
      | nil => simp [fo, openS, hl]
      | cons a r => simp [fo, openS, hl]
    have htx : (fin (l ++ [o])).txs = (fin l).txs ++ [⟨(fin l).nx + 1, o.key, o.wr⟩] := by rw [hS']; rfl
    have hnx : (fin (l ++ [o])).nx = (fin l).nx + 1 := by rw [hS']; rfl
    have hcs : (fin (l ++ [o])).cs = (fin l).cs := by rw [hS']; rfl
    have hpp : (fin (l ++ [o])).pairs = (fin l).pairs := by rw [hS']; rfl
    have hsp : ∀ {A B t}, (fin (l ++ [o])).txs = A ++ t :: B → (∃ B', (fin l).txs = A ++ t :: B') ∨ ((fin l).txs = A ∧ t = ⟨(fin l).nx + 1, o.key, o.wr⟩) := by
      intro A B t q
      rw [htx] at q
      rcases List.eq_nil_or_concat B with rfl | ⟨B', x, rfl⟩
      · have := List.append_inj' q rfl
        refine .inr ⟨this.1, ?_⟩
        have h2 := this.2
        simp only [List.cons.injEq] at h2
        exact h2.1.symm
      · refine .inl ⟨B', ?_⟩
        rw [List.concat_eq_append] at q
        rw [show A ++ t :: (B' ++ [x]) = (A ++ t :: B') ++ [x] by simp] at q
        exact (List.append_inj' q rfl).1
    refine ⟨by rw [hS']; exact ids_open h.ids h.nx0 _ _, by rw [hnx]; have := h.nx0; omega, fun q => by rw [htx] at q; simp at q, fun t B q hw => ?_, fun t P ht => by rw [hX]; exact h.j0 t P (by rw [hnx] at ht; omega), fun A t B q P hq => ?_, fun A t B q hw P => ?_, fun u P hu => by rw [hX]; exact h.m u P (by rw [← hfo]; exact hu), by rw [hfo, hG, hpp]; exact h.k⟩
    · rw [hcs]
      rcases hsp (A := []) q with ⟨B', h1⟩ | ⟨h1, h2⟩
      · exact h.fw t B' h1 hw
      · exact h.nil h1
    · rw [hX]
      rcases hsp q with ⟨B', h1⟩ | ⟨h1, rfl⟩
      · rw [h.j A t B' h1 P (fun ht => (hq ht).trans hpp), hcs]
      · rw [h.j0 _ P (by show (fin l).nx < (fin l).nx + 1; omega)]
        by_cases hA : A = []
        · rw [if_pos hA, hcs, h.nil (h1.trans hA)]
        · rw [if_neg hA]
    · rw [hX]
      rcases hsp q with ⟨B', h1⟩ | ⟨h1, rfl⟩
      · exact h.nr A t B' h1 hw P
      · exact h.j0 _ P (by show (fin l).nx < (fin l).nx + 1; omega)
  | lea _ h0 =>
    have hcf : cnd o (rsl (fin l) o) = false := by
      cases hc : cnd o (rsl (fin l) o) with
      | false => rfl
      | true => exact absurd h0 (cnd_iff.1 hc).2.2.1
    have hfr := fo_rem h.ids (fin l).pairs (fun x => !isOw o.key x)
    refine si_rem h hS' (fun q => by rw [hcf] at q; cases q) (fun _ _ _ _ _ _ => rfl) (fun u P hu => hm' u P (by rw [hS'] at hu; omega) (fun _ _ _ _ _ q => by rw [hcf] at q; cases q)) ?_
    rw [hS']
    exact hkk (fun _ _ _ _ q => by rw [← hR, hcf] at q; cases q) _ (by omega)
  | nop _ h0 =>
    have hcf : cnd o (rsl (fin l) o) = false := by rw [hR]; exact h0
    have hX : ∀ t P, X t P (l ++ [o]) = X t P l := fun t P => X_same (fun _ => hcf)
    have hG : ∀ n, G (l ++ [o]) n = G l n := fun n => G_lt n (fun q => by rw [hcf] at q; cases q)
    refine ⟨by rw [hS']; exact h.ids, by rw [hS']; exact h.nx0, by rw [hS']; exact h.nil, by rw [hS']; exact h.fw, fun t P ht => by rw [hX]; rw [hS'] at ht; exact h.j0 t P ht, fun A t B q P hq => ?_, fun A t B q hw P => ?_, fun u P hu => by rw [hX]; rw [hS'] at hu; exact h.m u P hu, by rw [hS', hG]; exact h.k⟩
    · rw [hX]; rw [hS'] at q hq ⊢; exact h.j A t B q P hq
    · rw [hX]; rw [hS'] at q; exact h.nr A t B q hw P
  | get A0 B0 t0 h0 h1 h2 h3 =>
    have h5 : o.kd % 9 ≠ 5 := by omega
    have hc : cnd o (rsl (fin l) o) = true := by rw [hR]; exact cnd_iff.2 ⟨rfl, by omega, by omega, by omega⟩
    have hap : ∀ P cs, (doS (AO P (numF o (fin l).nx) cs) o (numF o (fin l).nx)).1 = AO P (numF o (fin l).nx) cs := fun P cs => by rw [ao_get P _ cs o h0]
    have hj : ∀ t P cs, X t P l = AO P t cs → X t P (l ++ [o]) = AO P t cs := by
      intro t P cs q
      by_cases e : numF o (fin l).nx = t
      · subst e
        rw [X_exec hc, q, hap]
      · rw [X_same (fun x => absurd x e), q]
    refine ⟨by rw [hS']; exact h.ids, by rw [hS']; exact h.nx0, by rw [hS']; exact h.nil, by rw [hS']; exact h.fw, fun t P ht => hj t P [] (h.j0 t P (by rw [hS'] at ht; exact ht)), fun A t B q P hq => ?_, fun A t B q hw P => hj _ P [] (h.nr A t B (by rw [hS'] at q; exact q) hw P), fun u P hu => hm' u P (by rw [hS'] at hu; exact hu) (fun _ _ _ _ _ _ _ => h5), ?_⟩
    · rw [hS'] at q hq ⊢
      exact hj _ P _ (h.j A t B q P hq)
    · rw [hS']
      exact hkk (fun _ _ _ _ _ _ => h5) _ (by omega)
  | keys A0 B0 t0 h0 h1 h2 h3 =>
    have h5 : o.kd % 9 ≠ 5 := by omega
    have hc : cnd o (rsl (fin l) o) = true := by rw [hR]; exact cnd_iff.2 ⟨rfl, by omega, by omega, by omega⟩
    have hap : ∀ P cs, (doS (AO P (numF o (fin l).nx) cs) o (numF o (fin l).nx)).1 = AO P (numF o (fin l).nx) cs := fun P cs => by rw [ao_keys P _ cs o h0]
    have hj : ∀ t P cs, X t P l = AO P t cs → X t P (l ++ [o]) = AO P t cs := by
      intro t P cs q
      by_cases e : numF o (fin l).nx = t
      · subst e
        rw [X_exec hc, q, hap]
      · rw [X_same (fun x => absurd x e), q]
    refine ⟨by rw [hS']; exact h.ids, by rw [hS']; exact h.nx0, by rw [hS']; exact h.nil, by rw [hS']; exact h.fw, fun t P ht => hj t P [] (h.j0 t P (by rw [hS'] at ht; exact ht)), fun A t B q P hq => ?_, fun A t B q hw P => hj _ P [] (h.nr A t B (by rw [hS'] at q; exact q) hw P), fun u P hu => hm' u P (by rw [hS'] at hu; exact hu) (fun _ _ _ _ _ _ _ => h5), ?_⟩
    · rw [hS'] at q hq ⊢
      exact hj _ P _ (h.j A t B q P hq)
    · rw [hS']
      exact hkk (fun _ _ _ _ _ _ => h5) _ (by omega)
  | chg B0 t0 h0 h1 h2 h3 =>
    have h5 : o.kd % 9 ≠ 5 := by omega
    have hc : cnd o (rsl (fin l) o) = true := by rw [hR]; exact cnd_iff.2 ⟨rfl, by omega, by omega, by omega⟩
    have htx : (fin (l ++ [o])).txs = (fin l).txs := by rw [hS']
    have hnx : (fin (l ++ [o])).nx = (fin l).nx := by rw [hS']
    have hcs : (fin (l ++ [o])).cs = withC (chO o) (fin l).cs := by rw [hS']
    have hpp : (fin (l ++ [o])).pairs = (fin l).pairs := by rw [hS']
    have hfo : fo (fin (l ++ [o])) = fo (fin l) := by unfold fo; rw [htx, hnx]
    have hne : ∀ A t B, (fin l).txs = A ++ t :: B → A ≠ [] → ∀ P, X t.id P (l ++ [o]) = X t.id P l := by
      intro A t B q hA P
      refine X_same (fun e => ?_)
      have := (ids_uniq h.ids (A := []) (B := B0) h1 q (h2.trans e)).1
      exact absurd this.symm hA
    refine ⟨⟨by rw [htx]; exact h.ids.asc, by rw [htx, hnx]; exact h.ids.bd⟩, by rw [hnx]; exact h.nx0, (fun q => by rw [htx, h1] at q; cases q), fun t B q hw => ?_, fun t P ht => ?_, fun A t B q P hq => ?_, fun A t B q hw P => ?_, fun u P hu => hm' u P (by rw [← hfo]; exact hu) (fun _ _ _ _ _ _ _ => h5), ?_⟩
    · rw [htx, h1] at q
      simp only [List.cons.injEq] at q
      rw [← q.1, h3] at hw
      cases hw
    · rw [X_same, h.j0 t P (by rw [← hnx]; exact ht)]
      intro e
      have := (h.ids.bd t0 (by rw [h1]; simp)).2
      rw [hnx] at ht
      omega
    · rw [htx] at q
      by_cases hA : A = []
      · subst hA
        have e := q
        rw [h1] at e
        simp only [List.nil_append, List.cons.injEq] at e
        have ht0 : t = t0 := e.1.symm
        subst ht0
        have hP : P = (fin l).pairs := (hq (by unfold tu; rw [if_pos h3])).trans hpp
        have hx := h.j [] t B q P (fun _ => hP)
        rw [if_pos rfl] at hx
        rw [if_pos rfl, hcs, h2, X_exec hc, ← h2, hx]
        rcases h0 with ⟨k2, hz⟩ | k3
        · rw [ao_put P t.id _ o k2 (by rw [hP]; exact hz)]
          simp [chO, k2]
        · rw [ao_rm P t.id _ o k3]
          simp [chO, k3]
      · rw [hne A t B q hA, h.j A t B q P (fun ht => (hq ht).trans hpp), if_neg hA, if_neg hA]
    · rw [htx] at q
      have hA : A ≠ [] := by
        rintro rfl
        rw [h1] at q
        simp only [List.nil_append, List.cons.injEq] at q
        rw [← q.1, h3] at hw
        cases hw
      rw [hne A t B q hA]
      exact h.nr A t B q hw P
    · rw [hfo, hpp]
      exact hkk (fun _ _ _ _ _ _ => h5) _ (by omega)
  | com A0 B0 t0 h0 h1 h2 h3 =>
    have hc : cnd o (rsl (fin l) o) = true := by rw [hR]; exact cnd_iff.2 ⟨rfl, by omega, by omega, by omega⟩
    have hsub : cnd o (rsl (fin l) o) = true → (∃ A t B, (fin l).txs = A ++ t :: B ∧ t.id = numF o (fin l).nx) ∧ (∀ t ∈ (fin l).txs, decide (t.id ≠ numF o (fin l).nx) = true → t.id ≠ numF o (fin l).nx) := fun _ => ⟨⟨A0, t0, B0, h1, h2⟩, fun t _ q => by simpa using q⟩
    have hfr := fo_rem h.ids (content (fin l).pairs (if A0 = [] then (fin l).cs else [])) (fun x => decide (x.id ≠ numF o (fin l).nx))
    cases hw0 : t0.wr with
    | false =>
      have hC : content (fin l).pairs (if A0 = [] then (fin l).cs else []) = (fin l).pairs := by
        by_cases hA : A0 = []
        · subst hA
          rw [if_pos rfl, h.fw t0 B0 h1 hw0, content_nil]
        · rw [if_neg hA, content_nil]
      have hnw : ∀ t B, (fin l).txs = t :: B → t.wr = true → t.id ≠ numF o (fin l).nx := by
        intro t B q hw e
        have := (ids_uniq h.ids (A := []) (B := B) q h1 (e.trans h2.symm)).2
        rw [this, hw0] at hw
        cases hw
      refine si_rem h hS' hsub (fun _ _ _ _ _ _ => hC) (fun u P hu => hm' u P (by rw [hS'] at hu; omega) (fun t B q hw e _ ei => absurd (by rw [e, ei]) (hnw t B q hw))) ?_
      rw [hS', hC]
      rw [hC] at hfr
      exact hkk (fun t B q hw _ e => absurd e.symm (hnw t B q hw)) _ (by omega)
    | true =>
      have hA : A0 = [] := by
        unfold tu at h3
        rwa [if_pos hw0] at h3
      subst hA
      have hfi : fo (fin l) = numF o (fin l).nx := by unfold fo; rw [h1]; exact h2
      have hfg : numF o (fin l).nx < fo (fin (l ++ [o])) := by
        rw [hS']
        have hbd := h.ids.bd t0 (by rw [h1]; simp)
        cases hl : ((fin l).txs.filter (fun x => decide (x.id ≠ numF o (fin l).nx))) with
        | nil =>
          have e : fo (remS (fin l) (content (fin l).pairs (if ([] : List Tx) = [] then (fin l).cs else [])) (fun x => decide (x.id ≠ numF o (fin l).nx))) = (fin l).nx + 1 := by
            unfold fo
            have : (remS (fin l) (content (fin l).pairs (if ([] : List Tx) = [] then (fin l).cs else [])) (fun x => decide (x.id ≠ numF o (fin l).nx))).txs = [] := hl
            rw [this]
            rfl
          rw [e]
          omega
        | cons a r =>
          have e : fo (remS (fin l) (content (fin l).pairs (if ([] : List Tx) = [] then (fin l).cs else [])) (fun x => decide (x.id ≠ numF o (fin l).nx))) = a.id := by
            unfold fo
            have : (remS (fin l) (content (fin l).pairs (if ([] : List Tx) = [] then (fin l).cs else [])) (fun x => decide (x.id ≠ numF o (fin l).nx))).txs = a :: r := hl
            rw [this]
          rw [e]
          have hm : a ∈ (fin l).txs.filter (fun x => decide (x.id ≠ numF o (fin l).nx)) := by rw [hl]; simp
          have h7 := List.mem_filter.1 hm
          have h8 : a.id ≠ numF o (fin l).nx := by simpa using h7.2
          have h9 := fo_le h.ids h7.1
          omega
      have hmm : ∀ u P, numF o (fin l).nx < u → (X u P (l ++ [o])).pairs = P := fun u P hu => hm' u P (by omega) (fun _ _ _ _ _ _ ei => absurd ei (by omega))
      have hpos := (h.ids.bd t0 (by rw [h1]; simp)).1
      refine si_rem h hS' hsub (fun A t B q hp ht => ?_) (fun u P hu => hmm u P (by omega)) ?_
      · exfalso
        have hp' : t.id ≠ numF o (fin l).nx := by simpa using hp
        have hA : A ≠ [] := by
          rintro rfl
          rw [h1] at q
          simp only [List.nil_append, List.cons.injEq] at q
          rw [← q.1] at hp'
          exact hp' h2
        unfold tu at ht
        by_cases hw : t.wr = true
        · rw [if_pos hw] at ht; exact hA ht
        · rw [if_neg hw] at ht
          cases A with
          | nil => exact hA rfl
          | cons a A =>
            rw [h1] at q
            simp only [List.nil_append, List.cons_append, List.cons.injEq] at q
            have := List.any_eq_false.1 ht t0 (by rw [← q.1]; simp)
            exact this hw0
      · obtain ⟨i, hi⟩ : ∃ i : Nat, numF o (fin l).nx = (i : Int) + 1 := ⟨(numF o (fin l).nx - 1).toNat, by omega⟩
        have hg0 : G (l ++ [o]) i = (fin l).pairs := by
          rw [G_lt i (fun _ => by omega)]
          exact h.flat i (by omega)
        have hg1 : G (l ++ [o]) (i + 1) = content (fin l).pairs (if ([] : List Tx) = [] then (fin l).cs else []) := by
          rw [G_succ, hg0, ← hi, X_exec hc]
          have hx := h.j [] t0 B0 h1 (fin l).pairs (fun _ => rfl)
          rw [h2] at hx
          rw [hx, (ao_com _ _ _ o h0).1]
        rw [← hg1]
        exact G_flat (fun u P hu => hmm u P (by omega)) _ (by omega)
  | abo A0 B0 t0 h0 h1 h2 =>
    have h5 : o.kd % 9 ≠ 5 := by omega
    have hfr := fo_rem h.ids (fin l).pairs (fun x => decide (x.id ≠ numF o (fin l).nx))
    refine si_rem h hS' (fun _ => ⟨⟨A0, t0, B0, h1, h2⟩, fun t _ q => by simpa using q⟩) (fun _ _ _ _ _ _ => rfl) (fun u P hu => hm' u P (by rw [hS'] at hu; omega) (fun _ _ _ _ _ _ _ => h5)) ?_
    rw [hS']
    exact hkk (fun _ _ _ _ _ _ => h5) _ (by omega)

theorem si_all (l : List Op') (h : ∀ o ∈ l, 0 ≤ o.kd) : Si l := by
  induction l using snoc_ind with
  | h0 => exact si_nil
  | h1 l o ih => exact si_step (ih (fun x hx => h x (by simp [hx]))) o (h o (by simp))
/-- no earlier writer is open -/
def St0 (S : SS) (T : Int) : Prop := T ≤ S.nx ∧ ∀ x ∈ S.txs, x.wr = true → T ≤ x.id
theorem st_step {l : List Op'} (h : Si l) (o : Op') (hk : 0 ≤ o.kd) {T : Int} (hs : St0 (fin l) T) : St0 (fin (l ++ [o])) T ∧ ∀ n : Nat, (n : Int) < T → G (l ++ [o]) n = G l n := by
  have hef := fin_ef h hk
  have hop := ef_open hef
  constructor
  · generalize rsl (fin l) o = R at hef
    generalize fin (l ++ [o]) = S' at hef
    have hsub : ∀ S' : SS, S'.nx = (fin l).nx → (∀ x ∈ S'.txs, x ∈ (fin l).txs) → St0 S' T := fun S' h1 h2 => ⟨by rw [h1]; exact hs.1, fun x hx hw => hs.2 x (h2 x hx) hw⟩
    cases hef with
    | opn _ h0 =>
      refine ⟨by show T ≤ (fin l).nx + 1; have := hs.1; omega, fun x hx hw => ?_⟩
      have hx' : x ∈ (fin l).txs ++ [⟨(fin l).nx + 1, o.key, o.wr⟩] := hx
      rcases List.mem_append.1 hx' with q | q
      · exact hs.2 x q hw
      · rw [List.mem_singleton.1 q]
        have := hs.1
        show T ≤ (fin l).nx + 1
        omega
    | lea _ h0 => exact hsub _ rfl (fun x hx => (List.mem_filter.1 hx).1)
    | nop _ h0 => exact hs
    | get A0 B0 t0 h0 h1 h2 h3 => exact hs
    | keys A0 B0 t0 h0 h1 h2 h3 => exact hs
    | chg B0 t0 h0 h1 h2 h3 => exact hsub _ rfl (fun x hx => hx)
    | com A0 B0 t0 h0 h1 h2 h3 => exact hsub _ rfl (fun x hx => (List.mem_filter.1 hx).1)
    | abo A0 B0 t0 h0 h1 h2 => exact hsub _ rfl (fun x hx => (List.mem_filter.1 hx).1)
  · intro n
    induction n with
    | zero => intro _; rfl
    | succ n ih =>
      intro hn
      rw [G_succ, G_succ, ih (by omega)]
      by_cases hx : numF o (fin l).nx = (n : Int) + 1 ∧ cnd o (rsl (fin l) o) = true
      · obtain ⟨e, hc⟩ := hx
        rw [← e, X_exec hc]
        by_cases h5 : o.kd % 9 = 5
        · obtain ⟨A, t, B, h1, h2, h3, h4⟩ := hop hc
          have hw : t.wr = false := by
            cases hw : t.wr with
            | false => rfl
            | true =>
              have := hs.2 t (by rw [h1]; simp) hw
              omega
          have hx := h.nr A t B h1 hw (G l n)
          rw [h2] at hx
          rw [hx, (ao_com _ _ [] o h5).1, content_nil]
          rfl
        · rw [do_pairs _ _ _ h5]
      · rw [X_same (fun e => by
          cases hc : cnd o (rsl (fin l) o) with
          | false => rfl
          | true => exact absurd ⟨e, hc⟩ hx)]
theorem st_all {l : List Op'} (r : List Op') (hall : ∀ o ∈ l ++ r, 0 ≤ o.kd) {T : Int} (hs : St0 (fin l) T) : St0 (fin (l ++ r)) T ∧ ∀ n : Nat, (n : Int) < T → G (l ++ r) n = G l n := by
  induction r using snoc_ind with
  | h0 => rw [List.append_nil]; exact ⟨hs, fun _ _ => rfl⟩
  | h1 r o ih =>
    have h1 := ih (fun x hx => hall x (by
      rcases List.mem_append.1 hx with q | q
      · simp [q]
      · simp [q]))
    have h2 := st_step (si_all (l ++ r) (fun x hx => hall x (by
      rcases List.mem_append.1 hx with q | q
      · simp [q]
      · simp [q]))) o (hall o (by simp)) h1.1
    rw [← List.append_assoc]
    exact ⟨h2.1, fun n hn => (h2.2 n hn).trans (h1.2 n hn)⟩
/-- what is looked at has the same result alone -/
theorem ser_res (l r : List Op') (o : Op') (hall : ∀ x ∈ l ++ o :: r, 0 ≤ x.kd) (hc : cnd o (rsl (fin l) o) = true) (n : Nat) (hn : numF o (fin l).nx = (n : Int) + 1) :
    (doS (X ((n : Int) + 1) (G (l ++ o :: r) n) l) o ((n : Int) + 1)).2 = rsl (fin l) o := by
  have hsi := si_all l (fun x hx => hall x (by simp [hx]))
  have hko := hall o (by simp)
  have hef := fin_ef hsi hko
  have hst : ∀ A t B, (fin l).txs = A ++ t :: B → t.id = (n : Int) + 1 → tu A t → G (l ++ o :: r) n = (fin l).pairs := by
    intro A t B h1 h2 h3
    have hs : St0 (fin l) ((n : Int) + 1) := by
      refine ⟨by rw [← h2]; exact (hsi.ids.bd t (by rw [h1]; simp)).2, fun x hx hw => ?_⟩
      rw [h1] at hx
      rcases List.mem_append.1 hx with q | q
      · exfalso
        unfold tu at h3
        by_cases hwt : t.wr = true
        · rw [if_pos hwt] at h3; rw [h3] at q; cases q
        · rw [if_neg hwt] at h3; exact List.any_eq_false.1 h3 x q hw
      · rcases List.mem_cons.1 q with rfl | q
        · omega
        · have h4 := hsi.ids.asc
          rw [h1] at h4
          have := (List.pairwise_cons.1 (List.pairwise_append.1 h4).2.1).1 x q
          omega
    rw [(st_all (o :: r) hall hs).2 n (by omega)]
    exact hsi.flat n (by have := fo_le hsi.ids (show t ∈ (fin l).txs by rw [h1]; simp); omega)
  rw [← hn] at hst ⊢
  generalize hR : rsl (fin l) o = R at hef hc
  generalize fin (l ++ [o]) = S' at hef
  have hj : ∀ A t B, (fin l).txs = A ++ t :: B → t.id = numF o (fin l).nx → ∀ P, (tu A t → P = (fin l).pairs) → X (numF o (fin l).nx) P l = AO P (numF o (fin l).nx) (if A = [] then (fin l).cs else []) := fun A t B h1 h2 P hP => by rw [← h2]; exact hsi.j A t B h1 P hP
  obtain ⟨c1, c2, c3, c4⟩ := cnd_iff.1 hc
  cases hef with
  | opn _ h0 => exact absurd h0 c2
  | lea _ h0 => exact absurd h0 c3
  | nop _ h0 => rw [hc] at h0; cases h0
  | get A B t h0 h1 h2 h3 =>
    have hP := hst A t B h1 h2 h3
    rw [hP, hj A t B h1 h2 _ (fun _ => rfl), ao_get _ _ _ o h0]
  | keys A B t h0 h1 h2 h3 =>
    have hP := hst A t B h1 h2 h3
    rw [hP, hj A t B h1 h2 _ (fun _ => rfl), ao_keys _ _ _ o h0]
  | chg B t h0 h1 h2 h3 =>
    have hP := hst [] t B h1 h2 (by unfold tu; rw [if_pos h3])
    rw [hP, hj [] t B h1 h2 _ (fun _ => rfl), if_pos rfl]
    rcases h0 with ⟨k2, hz⟩ | k3
    · rw [ao_put _ _ _ o k2 hz]; rfl
    · rw [ao_rm _ _ _ o k3]; rfl
  | com A B t h0 h1 h2 h3 =>
    have hP := hst A t B h1 h2 h3
    rw [hP, hj A t B h1 h2 _ (fun _ => rfl), (ao_com _ _ _ o h0).2]
    rfl
  | abo A B t h0 h1 h2 =>
    rw [hj A t B h1 h2 _ (fun q => hst A t B h1 h2 q), ao_abo _ _ _ o h0]
    rfl
theorem ser_pairs (l : List Op') (hall : ∀ x ∈ l, 0 ≤ x.kd) : G l (fin l).nx.toNat = (fin l).pairs := by
  have hsi := si_all l hall
  have := fo_bd hsi.ids hsi.nx0
  exact hsi.flat _ (by omega)

end Go.Proofs.Ytcglnjklnlejmaa
