/-
  Cascade: the declarations of a text are bounded.
-/
import Derived.Test.YtldembadjgibjaaGreatDoorBe
set_option linter.unusedVariables false
set_option linter.unusedSimpArgs false
namespace Go.Proofs.YtldembadjgibjaaGreatDoor
open Go.RowKit Go.K Go.PlainAid Go.Lib Go.Maps Go.WideMaps

theorem zero_ok : VOk ⟨0, 0, []⟩ := ⟨by decide, by decide, by decide, by decide, Nat.zero_le _⟩
theorem trimP_le (a b : List UInt8) : (Lib.trimPrefix a b).length ≤ a.length := by
  unfold Lib.trimPrefix
  split
  · simp
  · exact Nat.le_refl _
theorem seekC_le (s : List UInt8) : ∀ (l : List (List UInt8)), (∀ y ∈ l, y.length ≤ 10) → ∀ c, seekC s l = some c → c.length ≤ 10
  | [], _, c, h => by cases h
  | [_], _, c, h => by cases h
  | a :: b :: r, hl, c, h => by
    unfold seekC at h
    split at h
    · cases h; exact hl _ (by simp)
    · exact seekC_le s r (fun y hy => hl y (by simp [hy])) c h
theorem col_ok (c : List UInt8) (h : c.length ≤ 99999) : VOk ⟨6, 0, 35 :: c⟩ := ⟨by simp, by simp, by simp, by simp, by simp; omega⟩
theorem key_ok (c : List UInt8) (h : c.length ≤ 99999) : VOk ⟨1, 0, c⟩ := ⟨by simp, by simp, by simp, by simp, by simp; omega⟩
theorem word_ok (l : List UInt8) : VOk (wordM l).1 := by
  unfold wordM
  split
  · rename_i c hc
    have := seekC_le l colF (by decide) c hc
    exact col_ok c (by omega)
  · exact zero_ok
theorem paint_ok (l : List UInt8) (hl : l.length ≤ 50000) : VOk (paintM l).1 := by
  have h := trimP_le l [35]
  unfold paintM
  split
  · split
    · rename_i h3
      refine col_ok _ ?_
      have key : ∀ q : List UInt8, q.length = 3 → (dblL q).length ≤ 99999 := by
        intro q hq
        match q, hq with
        | [a, b, c], _ => simp [dblL, Lib.repeatL]
      exact key _ h3
    · exact col_ok _ (by omega)
  · exact word_ok l
theorem sg_one (l : List UInt8) : (splitSg l).1 = 1 ∨ (splitSg l).1 = -1 := by
  unfold splitSg
  repeat' split
  all_goals first
    | exact .inl rfl
    | exact .inr rfl
theorem dec_b (l : List UInt8) (h : (decM l).2.2 = true) : -1048576000 ≤ (decM l).1 ∧ (decM l).1 ≤ 1048576000 := by
  unfold decM at h ⊢
  split at h
  · cases h
  · rename_i hr
    rw [if_neg hr]
    split at h
    · cases h
    · rename_i f r hf
      simp only [hf]
      simp only [decide_eq_true_eq] at h
      rcases sg_one l with e | e <;> rw [e] <;> omega
theorem num_ok (kd n : Int) (h0 : -1048576000 ≤ n) (h1 : n ≤ 1048576000) (k0 : -1000 ≤ kd) (k1 : kd ≤ 1000) : VOk ⟨kd, n, []⟩ := ⟨k0, k1, by simp only; omega, by simp only; omega, Nat.zero_le _⟩
theorem meas_ok (T : Int) (l : List UInt8) : VOk (measM T l).1 := by
  unfold measM
  split
  · exact zero_ok
  · rename_i h
    have hd : (decM l).2.2 = true := by
      cases e : (decM l).2.2 with
      | true => rfl
      | false => exact absurd (Or.inl e) h
    obtain ⟨h0, h1⟩ := dec_b l hd
    repeat' split
    all_goals first
      | exact zero_ok
      | exact num_ok _ _ h0 h1 (by decide) (by decide)
theorem row_ok (u : List UInt8) (hu : u.length ≤ 50000) (T : Int) (ws : List UInt8) : VOk (rowM u T ws).1 := by
  unfold rowM
  repeat' split
  · exact key_ok u (by omega)
  · exact paint_ok u hu
  · exact meas_ok T u
  · exact zero_ok
theorem find_ok (n u : List UInt8) (hu : u.length ≤ 50000) : ∀ tb, VOk (findM n u tb).1
  | [] => zero_ok
  | x :: r => by
    unfold findM
    split
    · exact row_ok u hu _ _
    · exact find_ok n u hu r
theorem parse_ok (n v : List UInt8) (hv : v.length ≤ 50000) : VOk (parseM n v).1 := by
  unfold parseM
  exact find_ok n _ (Nat.le_trans (trimL_le _) (by rw [low_len]; exact hv)) _
theorem eachA_ok : ∀ (ps : List (List UInt8 × List UInt8)) (acc d : List De), (∀ q ∈ ps, q.1.length ≤ 100000 ∧ q.2.length ≤ 50000) → (∀ x ∈ acc, DOk x) → eachA acc ps = some d → ∀ x ∈ d, DOk x := by
  intro ps
  induction ps with
  | nil => intro acc d _ ha h; cases h; exact ha
  | cons q ps ih =>
    intro acc d hp ha h
    unfold eachA at h
    split at h
    · refine ih _ _ (fun y hy => hp y (.tail _ hy)) ?_ h
      intro x hx
      rcases List.mem_append.1 hx with hx | hx
      · exact ha x hx
      · rw [List.mem_singleton.1 hx]
        obtain ⟨h1, h2⟩ := hp q (.head _)
        exact ⟨parse_ok _ _ h2, h1⟩
    · cases h
theorem eachM_ok (ns vs : List (List UInt8)) (hn : ∀ x ∈ ns, x.length ≤ 100000) (hv : ∀ x ∈ vs, x.length ≤ 50000) : ∀ x ∈ (eachM ns vs).1, DOk x := by
  unfold eachM
  cases h : eachA [] (ns.zip vs) with
  | none => intro x hx; cases hx
  | some d =>
    exact eachA_ok _ _ _ (fun q hq => ⟨hn _ (List.of_mem_zip hq).1, hv _ (List.of_mem_zip hq).2⟩) (fun x hx => by cases hx) h
theorem flexN_ok (vs : List (List UInt8)) (hv : ∀ x ∈ vs, x.length ≤ 50000) : ∀ x ∈ (eachM flexN vs).1, DOk x := eachM_ok flexN vs (by decide) hv
theorem three_ok {a b c : List UInt8} (ha : a.length ≤ 50000) (hb : b.length ≤ 50000) (hc : c.length ≤ 50000) : ∀ x ∈ [a, b, c], x.length ≤ 50000 := by
  intro x hx
  simp only [List.mem_cons, List.not_mem_nil, or_false] at hx
  rcases hx with rfl | rfl | rfl <;> assumption
theorem flexM_ok (s : List UInt8) (hs : s.length ≤ 50000) (l : List (List UInt8)) (hl : ∀ x ∈ l, x.length ≤ 50000) : ∀ x ∈ (flexM s l).1, DOk x := by
  have hr : ∀ vs l, (∀ x ∈ vs, x.length ≤ 50000) → ∀ x ∈ (restM vs l).1, DOk x := by
    intro vs l h
    cases l with
    | nil => exact flexN_ok vs h
    | cons _ _ => intro x hx; cases hx
  have hz : ∀ x ∈ (([], false) : List De × Bool).1, DOk x := fun x hx => by cases hx
  unfold flexM
  split
  · exact flexN_ok _ (by decide)
  split
  · exact flexN_ok _ (by decide)
  split
  · exact flexN_ok _ (three_ok hs hs hs)
  unfold flexR
  split
  · exact hz
  rename_i x l
  have hx := hl x (by simp)
  split
  · split
    · exact flexN_ok _ (three_ok hx (by decide) (by decide))
    · rename_i y l2
      have hy := hl y (by simp)
      split
      · split
        · exact flexN_ok _ (three_ok hx hy (by decide))
        · rename_i z l3
          have hz2 := hl z (by simp)
          split
          · exact hr _ _ (three_ok hx hy hz2)
          · exact hz
      · split
        · exact hr _ _ (three_ok hx (by decide) hy)
        · exact hz
  · exact hz
theorem fill_mem : ∀ (n : Nat) (l : List (List UInt8)), l ≠ [] → ∀ x ∈ fillI n l, x ∈ l
  | 0, l, _, x, h => h
  | n + 1, l, hl, x, h => fill1_mem hl (fill_mem n (fill1 l) (by unfold fill1; simp) x h)
theorem expand_ok (n s : List UInt8) (hn : n.length ≤ 100000) (hs : s.length ≤ 50000) : ∀ x ∈ (expandM n s).1, DOk x := by
  have hf : ∀ x ∈ fldU s, x.length ≤ 50000 := fun x hx => Nat.le_trans (fldU_le s x hx) hs
  unfold expandM
  split
  · exact flexM_ok s hs _ hf
  · cases h : sidesM n with
    | none => exact eachM_ok _ _ (by intro x hx; rw [List.mem_singleton.1 hx]; exact hn) (by intro x hx; rw [List.mem_singleton.1 hx]; exact hs)
    | some ns =>
      have h4 := (sides_len h).2
      simp only
      split
      · exact eachM_ok _ _ (fun x hx => Nat.le_trans (h4 x hx) (by decide)) (by intro x hx; simp only [List.mem_cons, List.not_mem_nil, or_false, or_self] at hx; rw [hx]; exact hs)
      split
      · intro x hx; cases hx
      · rename_i hne
        refine eachM_ok _ _ (fun x hx => Nat.le_trans (h4 x hx) (by decide)) (fun x hx => hf x (fill_mem _ _ ?_ x hx))
        intro e
        exact hne (.inl (by rw [e]; decide))
theorem imp_le (v : List UInt8) : (impM v).1.length ≤ v.length := by
  unfold impM
  split
  · split
    · exact Nat.le_trans (trimL_le _) (Nat.le_trans (suf_le _ _) (Nat.le_trans (trimL_le _) (suf_le _ _)))
    · exact Nat.le_refl _
  · exact Nat.le_refl _
theorem part_ok (p : List UInt8) (hp : p.length ≤ 50000) : ∀ x ∈ partD p, DOk x := by
  unfold partD
  intro x hx
  obtain ⟨y, hy, rfl⟩ := List.mem_map.1 hx
  have h1 : (trimL (lowL (Lib.cut p [58]).1)).length ≤ 100000 := Nat.le_trans (trimL_le _) (by rw [low_len]; have := cut_le p [58]; omega)
  have h2 : (impM (trimL (lowL (Lib.cut p [58]).2.1))).1.length ≤ 50000 := Nat.le_trans (imp_le _) (Nat.le_trans (trimL_le _) (by rw [low_len]; have := cut_le2 p [58]; omega))
  have := expand_ok _ _ h1 h2 y hy
  exact ⟨this.v, this.nl⟩
theorem declsM_ok (s : List UInt8) (hs : s.length ≤ 50000) : ∀ f i, ∀ x ∈ declsM s f i, DOk x := by
  intro f
  induction f with
  | zero => intro i x hx; cases hx
  | succ f ih =>
    intro i x hx
    unfold declsM at hx
    split at hx
    · rcases List.mem_append.1 hx with hx | hx
      · exact part_ok _ (by rw [List.length_take, List.length_drop]; omega) x hx
      · exact ih _ x hx
    · cases hx
theorem declsOf_ok (s : List UInt8) (hs : s.length ≤ 4000) : ∀ x ∈ declsOf s, DOk x := by
  have := cleanT_len s
  exact declsM_ok _ (by omega) _ _
theorem declsM_len (s : List UInt8) : ∀ f i, (declsM s f i).length ≤ 4 * f := by
  intro f
  induction f with
  | zero => intro i; exact Nat.le_refl _
  | succ f ih =>
    intro i
    unfold declsM
    split
    · rw [List.length_append]
      have h1 := partD_len ((s.drop i).take (endJ s i - i))
      have h2 := ih (endJ s i + 1)
      omega
    · exact Nat.zero_le _
theorem declsOf_len (s : List UInt8) (hs : s.length ≤ 4000) : (declsOf s).length ≤ 100000 := by
  have h1 := cleanT_len s
  have h2 := declsM_len (cleanT s) ((cleanT s).length + 1) 0
  unfold declsOf declsT
  omega
end Go.Proofs.YtldembadjgibjaaGreatDoor
