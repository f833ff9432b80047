/-
  A region that draws its order and whose last operation writes what the others read: what holds of the world is shown anew behind each operation but that one.
-/
import Derived.Deep.RegionHeld
set_option linter.unusedVariables false
namespace Go.K

section
variable {P : Program} {ops : Array Oper} {Q : Exit → Act → World → Prop} {S : World → Prop} {c : Nat}

def wpLast (P : Program) (ops : Array Oper) (Q : Exit → Act → World → Prop) (S : World → Prop) (c : Nat) : Nat → Array Bool → Act → World → Prop
  | 0, l, a, w => Region.ready .any ops l = [] ∧ Q .normal a w
  | n + 1, l, a, w => (Region.ready .any ops l = [] → Q .normal a w) ∧
    ∀ i ∈ Region.ready .any ops l, wpOp P ops Q i (fun a' w' => (i ≠ c → S w') ∧ wpLast P ops Q S c n (l.setIfInBounds i true) a' w') a w

theorem wpLast.any : ∀ (n : Nat) (l : Array Bool) (a : Act) (w : World), wpLast P ops Q S c n l a w → wpAny P .any ops Q n l a w
  | 0, _, _, _, h => h
  | n + 1, _, _, _, h => ⟨h.1, fun i hi => wpOp_mono (fun a' w' k => wpLast.any n _ a' w' k.2) (h.2 i hi)⟩

/-- the last operation waits for number i -/
def waits (ops : Array Oper) (c i : Nat) : Bool := match ops[c]? with
  | some o => o.after.any (fun e => Region.binds .any e && e.on == i)
  | none => false

theorem wpLast.take {i : Nat} {oi : Oper} {v : Value} (hi : ops[i]? = some oi) (hs : Region.noSelect ops = true) (hQ : ∀ c a w, Q (.panic c) (a.put oi.dst v) w → Q (.panic c) a w) (hc : waits ops c i = true) :
    ∀ (n : Nat) (l : Array Bool) (a : Act) (w : World), Region.free .any ops l i = true → (Region.ready .any ops l).contains i = true → YieldsIf P ops S oi v a → S w →
      wpLast P ops Q S c n (l.setIfInBounds i true) (a.put oi.dst v) w → wpLast P ops Q S c (n + 1) l a w := by
  have hsel := Region.noSelect_spec hs
  have key : ∀ (n : Nat) (l : Array Bool) (a : Act) (w : World), (∀ j oj, ops[j]? = some oj → j ≠ i → l.getD j true = false → (∀ e ∈ oj.after, Region.binds .any e = true → e.on ≠ i) → oi.apart ops oj = true) → i ∈ Region.ready .any ops l → YieldsIf P ops S oi v a → S w →
      wpLast P ops Q S c n (l.setIfInBounds i true) (a.put oi.dst v) w → wpLast P ops Q S c (n + 1) l a w := by
    intro n
    induction n with
    | zero =>
      intro l a w _ hr hy hS H
      refine ⟨fun h => (by rw [h] at hr; cases hr), fun j hj => ?_⟩
      by_cases e : j = i
      · subst e; exact hy.wpOp hi hS ⟨fun _ => hS, H⟩
      · have := ready_mono hj e
        rw [H.1] at this
        cases this
    | succ n ih =>
      intro l a w hfree hr hy hS H
      refine ⟨fun h => (by rw [h] at hr; cases hr), fun j hj => ?_⟩
      by_cases e : j = i
      · subst e; exact hy.wpOp hi hS ⟨fun _ => hS, H⟩
      · obtain ⟨hun, oj, hoj, hall⟩ := mem_ready.1 hj
        have hnot : ∀ e ∈ oj.after, Region.binds .any e = true → e.on ≠ i := by
          intro e he hb q
          have h1 := hall e he hb
          have h0 := (mem_ready.1 hr).1
          rw [q] at h1
          rcases Nat.lt_or_ge i l.size with h' | h'
          · simp [h'] at h0 h1; rw [h0] at h1; cases h1
          · simp [Array.getElem?_eq_none h'] at h1
        have hjc : j ≠ c := by
          rintro rfl
          unfold waits at hc
          rw [hoj] at hc
          simp only [Array.any_eq_true, Bool.and_eq_true, beq_iff_eq] at hc
          obtain ⟨k, hk, hb, hon⟩ := hc
          exact hnot _ (Array.getElem_mem hk) hb hon
        have h2 := wpOp_putIf hoj (hfree j oj hoj e hun hnot) (fun cs b => hsel i oi cs b hi) (fun cs b => hsel j oj cs b hoj) hQ hy (H.2 j (ready_mono hj e))
        refine wpOp_mono (fun a' w' h3 => ⟨h3.2.1, ih _ a' w' ?_ (ready_mono hr (Ne.symm e)) h3.1 (h3.2.1 hjc) ?_⟩) h2
        · intro k ok hk hki hu hno
          refine hfree k ok hk hki ?_ hno
          by_cases hjk : j = k
          · subst hjk; exact hun
          · rwa [getD_set_ne true hjk] at hu
        · rw [Array.setIfInBounds_comm _ _ e]
          exact h3.2.2
  intro n l a w hf hr hy hS h
  exact key n l a w (Region.free_spec hi hf) (by simpa using hr) hy hS h

/-- one operation alone may come up -/
theorem wpLast.one {i : Nat} {o : Oper} {n : Nat} {l : Array Bool} {a : Act} {w : World} (ho : ops[i]? = some o) (hr : Region.ready .any ops l = [i])
    (h : ∀ K' : Act → World → Prop, (∀ a w, (i ≠ c → S w) ∧ wpLast P ops Q S c n (l.setIfInBounds i true) a w → K' a w) → if Region.wanted o (yielded ops a.tmps) = true then Oper.wp P o a w K' Q else K' (a.put o.dst undef) w) : wpLast P ops Q S c (n + 1) l a w := by
  refine ⟨fun h0 => (by rw [hr] at h0; cases h0), fun j hj => ?_⟩
  rw [hr] at hj
  simp at hj
  subst hj
  exact wpOp_step ho h
theorem wpLast.done {n : Nat} {l : Array Bool} {a : Act} {w : World} (hr : Region.ready .any ops l = []) (h : Q .normal a w) : wpLast P ops Q S c n l a w := by
  cases n with
  | zero => exact ⟨hr, h⟩
  | succ n => exact ⟨fun _ => h, by rw [hr]; simp⟩
theorem wpLast.region {id : Nat} {a : Act} {w : World} (hm : P.follows .mixedOrders = true) (h : wpLast P ops Q S c ops.size (Array.replicate ops.size false) a w.drew) : (Code.region id ops true).wp P Q a w :=
  wp_region_any hm (wpLast.any _ _ _ _ h)
end
end Go.K
