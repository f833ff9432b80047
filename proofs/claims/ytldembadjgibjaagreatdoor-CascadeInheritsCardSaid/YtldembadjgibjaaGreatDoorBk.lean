/-
  Cascade: the declarations of the text of all properties.
-/
import Derived.Test.YtldembadjgibjaaGreatDoorBi
import Derived.Test.YtldembadjgibjaaGreatDoorBh
set_option linter.unusedVariables false
set_option linter.unusedSimpArgs false
namespace Go.Proofs.YtldembadjgibjaaGreatDoor
open Go.RowKit Go.K Go.PlainAid Go.Lib Go.Maps Go.WideMaps

/-- all properties inherited, as a text -/
def allT : List UInt8 := allN.foldl (fun a n => a ++ (n ++ [58, 32, 105, 110, 104, 101, 114, 105, 116, 59, 32])) []
def allD : List De := allN.map (fun n => ⟨n, inhV, false⟩)
theorem allT_len : allT.length ≤ 4000 := by decide +kernel
def pc (x : UInt8) : Bool := !(x == 34 || x == 39 || x == 47 || x == 40 || x == 91 || x == 123 || x == 41 || x == 93 || x == 125)
theorem clean_plain (s : List UInt8) (h : ∀ x ∈ s, pc x = true) : ∀ (f i : Nat), s.length < f + i → cleanM s f i 0 = s.drop i := by
  intro f
  induction f with
  | zero => intro i hi; rw [List.drop_eq_nil_iff.2 (by omega)]; rfl
  | succ f ih =>
    intro i hi
    by_cases hl : i < s.length
    · have hx : s[i]? = some s[i] := List.getElem?_eq_getElem hl
      have hp := h _ (List.getElem_mem hl)
      rw [clean_step hx, List.drop_eq_getElem_cons hl]
      generalize s[i] = x at *
      have h1 : ¬ (x = 34 ∨ x = 39) := by
        rintro (e | e) <;> subst e <;> cases hp
      have h2 : x ≠ 47 := by rintro e; subst e; cases hp
      have h3 : Lib.hasPrefix (x :: s.drop (i + 1)) [47, 42] = false := by
        have h2' : ((47 : UInt8) == x) = false := by rw [beq_eq_false_iff_ne]; exact fun e => h2 e.symm
        show (((47 : UInt8) == x) && _) = false
        rw [h2']; rfl
      rw [if_neg (by simp), if_neg h1, h3, if_neg (by simp), ih (i + 1) (by omega)]
    · rw [clean_end (by omega), List.drop_eq_nil_iff.2 (by omega)]
theorem until_plain (s : List UInt8) : ∀ (p : List UInt8) (i f : Nat) (r : List UInt8), (∀ x ∈ p, pc x = true ∧ x ≠ 59) → s.drop i = p ++ 59 :: r → p.length < f → untilM s [59] f i 0 = (i + p.length, 59) := by
  intro p
  induction p with
  | nil =>
    intro i f r _ hd hf
    obtain ⟨f, rfl⟩ : ∃ g, f = g + 1 := ⟨f - 1, by simp at hf; omega⟩
    have hx : s[i]? = some 59 := by
      have : (s.drop i)[0]? = some 59 := by rw [hd]; rfl
      simpa using this
    rw [until_step hx, if_pos ⟨rfl, by decide +kernel⟩]
    rfl
  | cons a p ih =>
    intro i f r hp hd hf
    obtain ⟨f, rfl⟩ : ∃ g, f = g + 1 := ⟨f - 1, by simp at hf; omega⟩
    have hx : s[i]? = some a := by
      have : (s.drop i)[0]? = some a := by rw [hd]; rfl
      simpa using this
    have hd' : s.drop (i + 1) = p ++ 59 :: r := by
      rw [← List.drop_drop, hd]; rfl
    have := ih (i + 1) f r (fun x h => hp x (.tail _ h)) hd' (by simp at hf; omega)
    obtain ⟨h1, h2⟩ := hp a (.head _)
    rw [until_step hx, this]
    have g1 : ¬ (0 = 0 ∧ inB [59] a = true) := by
      rintro ⟨-, e⟩
      have e' := of_decide_eq_true e
      have h2' : ((59 : UInt8) == a) = false := by rw [beq_eq_false_iff_ne]; exact fun e => h2 e.symm
      unfold Lib.indexByte at e'
      rw [h2', if_neg (by simp)] at e'
      exact absurd e' (show ¬ ((0 : Int) ≤ -1) by decide)
    have g2 : ¬ (a = 34 ∨ a = 39) := by rintro (e | e) <;> subst e <;> cases h1
    have g3 : ¬ (a = 40 ∨ a = 91 ∨ a = 123) := by rintro (e | e | e) <;> subst e <;> cases h1
    have g4 : ¬ (a = 41 ∨ a = 93 ∨ a = 125) := by rintro (e | e | e) <;> subst e <;> cases h1
    rw [if_neg g1, if_neg g2, if_neg g3, if_neg g4]
    simp only [List.length_cons, Prod.mk.injEq, and_true]
    omega
/-- the parts of the text of all properties (the last with the blank behind it) -/
def allP : List (List UInt8) := match allN with
  | [] => []
  | n :: l => (n ++ [58, 32, 105, 110, 104, 101, 114, 105, 116]) :: l.map (fun n => 32 :: (n ++ [58, 32, 105, 110, 104, 101, 114, 105, 116]))
theorem allT_eq : allT = allP.flatMap (fun p => p ++ [59]) ++ [32] := by decide +kernel
theorem allT_pc : ∀ x ∈ allT, pc x = true := by
  have : allT.all pc = true := by decide +kernel
  exact List.all_eq_true.1 this
theorem allP_pc : ∀ p ∈ allP, ∀ x ∈ p, pc x = true ∧ x ≠ 59 := by
  have : allP.all (fun p => p.all (fun x => pc x && x != 59)) = true := by decide +kernel
  intro p hp x hx
  have h := List.all_eq_true.1 (List.all_eq_true.1 this p hp) x hx
  rw [Bool.and_eq_true] at h
  exact ⟨h.1, by simpa using h.2⟩
theorem part_last : partD [32] = [] := by decide +kernel
theorem allP_len : allP.length = 37 := by decide +kernel
theorem parts_all : allP.flatMap partD = allD := by decide +kernel
theorem valid_all : validD allT = true := by decide +kernel
theorem decls_tail (s : List UInt8) : ∀ (ps : List (List UInt8)) (f i : Nat), (∀ p ∈ ps, ∀ x ∈ p, pc x = true ∧ x ≠ 59) → s.drop i = ps.flatMap (fun p => p ++ [59]) ++ [32] → ps.length + 1 < f → declsM s f i = ps.flatMap partD ++ partD [32] := by
  intro ps
  induction ps with
  | nil =>
    intro f i _ hd hf
    obtain ⟨f, rfl⟩ : ∃ g, f = g + 1 := ⟨f - 1, by simp at hf; omega⟩
    have hd' : s.drop i = [32] := hd
    have hl : s.length = i + 1 := by
      have := congrArg List.length hd'
      simp at this; omega
    have hx : s[i]? = some 32 := by
      have : (s.drop i)[0]? = some 32 := by rw [hd']; rfl
      simpa using this
    have hu : endJ s i = i + 1 := by
      unfold endJ
      rw [until_step hx, if_neg (by rintro ⟨-, e⟩; revert e; decide +kernel), if_neg (by decide), if_neg (by decide), if_neg (by decide), until_end (by omega)]
    rw [decls_step (by omega), hu, decls_end (by omega), hd', Nat.add_sub_cancel_left]
    rfl
  | cons p ps ih =>
    intro f i hp hd hf
    obtain ⟨f, rfl⟩ : ∃ g, f = g + 1 := ⟨f - 1, by simp at hf; omega⟩
    have hd2 : s.drop i = p ++ 59 :: (ps.flatMap (fun p => p ++ [59]) ++ [32]) := by
      rw [hd]; simp
    have hl : i < s.length := by
      have := congrArg List.length hd2
      simp at this; omega
    have hl2 : p.length < s.length + 1 := by
      have := congrArg List.length hd2
      simp at this; omega
    have hu := until_plain s p i (s.length + 1) _ (hp p (.head _)) hd2 hl2
    have he : endJ s i = i + p.length := by unfold endJ; rw [hu]
    have hd3 : s.drop (i + p.length + 1) = ps.flatMap (fun p => p ++ [59]) ++ [32] := by
      rw [show i + p.length + 1 = i + (p.length + 1) from by omega, ← List.drop_drop, hd2, ← List.singleton_append, ← List.append_assoc]
      exact List.drop_left' (by simp)
    rw [decls_step hl, he, ih f _ (fun p h => hp p (.tail _ h)) hd3 (by simp at hf; omega), hd2, Nat.add_sub_cancel_left, List.take_left' rfl, List.flatMap_cons, List.append_assoc]
theorem decls_all : declsOf allT = allD := by
  have hr : repairM allT = allT := by unfold repairM; rw [if_pos valid_all]
  have hc : cleanT allT = allT := by
    unfold cleanT
    rw [hr, clean_plain allT allT_pc _ _ (by omega)]
    rfl
  unfold declsOf
  rw [hc]
  unfold declsT
  have hl : allP.length + 1 < allT.length + 1 := by rw [allP_len]; decide +kernel
  rw [decls_tail allT allP _ 0 allP_pc (by rw [List.drop_zero, ← allT_eq]) hl, part_last, List.append_nil, parts_all]
theorem all_valid : allN.all (fun n => decide ((parseM n inheritL).2 = 0) && decide ((parseM n inheritL).1 = inhV)) = true := by decide +kernel
theorem vM_inh [Inhabited TbBox] (n : List UInt8) : vM ⟨n, inhV, false⟩ = (decide ((parseM n inheritL).2 = 0) && decide ((parseM n inheritL).1 = inhV)) := rfl
theorem lk_all [Inhabited TbBox] : AllInh (lkOf (declsOf allT)) := by
  rw [decls_all]
  have key : ∀ (l : List (List UInt8)) (lk : Lk), (∀ n ∈ l, vM ⟨n, inhV, false⟩ = true) → ∀ s, (s ∈ l ∨ lk s = some inhV) → ((l.map (fun n => (⟨n, inhV, false⟩ : De))).foldl putD lk) s = some inhV := by
    intro l
    induction l with
    | nil =>
      intro lk _ s h
      rcases h with h | h
      · cases h
      · exact h
    | cons a l ih =>
      intro lk hv s h
      refine ih _ (fun n hn => hv n (.tail _ hn)) s ?_
      unfold putD
      rw [if_pos (hv a (.head _))]
      dsimp only
      by_cases e : s = a
      · right; rw [if_pos e]
      · rw [if_neg e]
        rcases h with h | h
        · rcases List.mem_cons.1 h with h | h
          · exact absurd h e
          · exact .inl h
        · exact .inr h
  refine ⟨fun s hs => key allN _ (fun n hn => ?_) s (.inl hs)⟩
  rw [vM_inh]
  exact List.all_eq_true.1 all_valid n hn
end Go.Proofs.YtldembadjgibjaaGreatDoor
