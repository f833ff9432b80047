/-
  One more way to take an operation first, where the last operation of a region writes what the others read: it waits for it by a chain.
-/
import Derived.Test.YtifgjccnhbbadaaKq
set_option linter.unusedVariables false
namespace Go.K

section
variable {P : Program} {ops : Array Oper} {Q : Exit → Act → World → Prop} {S : World → Prop} {c : Nat}

theorem waits_unlisted {m i : Nat} {l : Array Bool} (hc : waits ops m i = true) (hi : l.getD i true = false) {j : Nat} (hj : j ∈ Region.ready .any ops l) : j ≠ m := by
  rintro rfl
  obtain ⟨hun, oj, hoj, hall⟩ := mem_ready.1 hj
  unfold waits at hc
  rw [hoj] at hc
  simp only [Array.any_eq_true, Bool.and_eq_true, beq_iff_eq] at hc
  obtain ⟨k, hk, hb, hon⟩ := hc
  have h1 := hall _ (Array.getElem_mem hk) hb
  rw [hon] at h1
  rcases Nat.lt_or_ge i l.size with h' | h'
  · simp [h'] at hi h1; rw [hi] at h1; cases h1
  · simp [Array.getElem?_eq_none h'] at hi
def chain (ops : Array Oper) : List Nat → Nat → Bool
  | [], _ => true
  | [m], i => waits ops m i
  | m :: m2 :: ms, i => waits ops m m2 && chain ops (m2 :: ms) i
theorem chain_none {l : Array Bool} {i : Nat} (hi : l.getD i true = false) {j : Nat} (hj : j ∈ Region.ready .any ops l) : ∀ ms : List Nat, chain ops ms i = true → (∀ m ∈ ms, l.getD m true = false) → j ∉ ms
  | [], _, _ => by simp
  | [m], hc, _ => by simpa using waits_unlisted hc hi hj
  | m :: m2 :: ms, hc, hu => by
    simp only [chain, Bool.and_eq_true] at hc
    intro hm
    rcases List.mem_cons.1 hm with h | h
    · exact waits_unlisted hc.1 (hu m2 (by simp)) hj h
    · exact chain_none hi hj (m2 :: ms) hc.2 (fun x hx => hu x (by simp [hx])) h
theorem wpLast.take_c {i : Nat} {oi : Oper} {v : Value} (ms : List Nat) (hi : ops[i]? = some oi) (hs : Region.noSelect ops = true) (hQ : ∀ c a w, Q (.panic c) (a.put oi.dst v) w → Q (.panic c) a w) (hc : chain ops (c :: ms) i = true) :
    ∀ (n : Nat) (l : Array Bool) (a : Act) (w : World), ((c :: ms).all (fun m => l.getD m true == false)) = true → Region.free .any ops l i = true → (Region.ready .any ops l).contains i = true → YieldsIf P ops S oi v a → S w →
      wpLast P ops Q S c n (l.setIfInBounds i true) (a.put oi.dst v) w → wpLast P ops Q S c (n + 1) l a w := by
  have hsel := Region.noSelect_spec hs
  have key : ∀ (n : Nat) (l : Array Bool) (a : Act) (w : World), (∀ m ∈ c :: ms, l.getD m true = false) → (∀ j oj, ops[j]? = some oj → j ≠ i → l.getD j true = false → (∀ e ∈ oj.after, Region.binds .any e = true → e.on ≠ i) → oi.apart ops oj = true) → i ∈ Region.ready .any ops l → YieldsIf P ops S oi v a → S w →
      wpLast P ops Q S c n (l.setIfInBounds i true) (a.put oi.dst v) w → wpLast P ops Q S c (n + 1) l a w := by
    intro n
    induction n with
    | zero =>
      intro l a w _ _ hr hy hS H
      refine ⟨fun h => (by rw [h] at hr; cases hr), fun j hj => ?_⟩
      by_cases e : j = i
      · subst e; exact hy.wpOp hi hS ⟨fun _ => hS, H⟩
      · have := ready_mono hj e
        rw [H.1] at this
        cases this
    | succ n ih =>
      intro l a w hu hfree hr hy hS H
      refine ⟨fun h => (by rw [h] at hr; cases hr), fun j hj => ?_⟩
      by_cases e : j = i
      · subst e; exact hy.wpOp hi hS ⟨fun _ => hS, H⟩
      · obtain ⟨hun, oj, hoj, hall⟩ := mem_ready.1 hj
        have hnot : ∀ e ∈ oj.after, Region.binds .any e = true → e.on ≠ i := by
          intro e he hb q
          have h1 := hall e he hb
          have h0 := (mem_ready.1 hr).1
          rw [q] at h1
          rcases Nat.lt_or_ge i l.size with h' | h'
          · simp [h'] at h0 h1; rw [h0] at h1; cases h1
          · simp [Array.getElem?_eq_none h'] at h1
        have hjn := chain_none (mem_ready.1 hr).1 hj (c :: ms) hc hu
        have hjc : j ≠ c := fun q => hjn (by simp [q])
        have h2 := wpOp_putIf hoj (hfree j oj hoj e hun hnot) (fun cs b => hsel i oi cs b hi) (fun cs b => hsel j oj cs b hoj) hQ hy (H.2 j (ready_mono hj e))
        refine wpOp_mono (fun a' w' h3 => ⟨h3.2.1, ih _ a' w' ?_ ?_ (ready_mono hr (Ne.symm e)) h3.1 (h3.2.1 hjc) ?_⟩) h2
        · intro m hm
          rw [getD_set_ne true (show j ≠ m from fun q => hjn (by rw [q]; exact hm))]
          exact hu m hm
        · intro k ok hk hki hu hno
          refine hfree k ok hk hki ?_ hno
          by_cases hjk : j = k
          · subst hjk; exact hun
          · rwa [getD_set_ne true hjk] at hu
        · rw [Array.setIfInBounds_comm _ _ e]
          exact h3.2.2
  intro n l a w hu hf hr hy hS h
  refine key n l a w (fun m hm => ?_) (Region.free_spec hi hf) (by simpa using hr) hy hS h
  have := List.all_eq_true.1 hu m hm
  simpa using this
end
end Go.K
