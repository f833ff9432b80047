/-
  A cheap check that one walk in the order of the text serves: for regions of a hundred operations.
-/
import Derived.Lib.QuietBelow
set_option linter.unusedVariables false
namespace Go
/-- the check that one walk in the text's order serves, over the suffixes of the text -/
def fastB (md : Region.Mode) (ops : Array Oper) : Nat → List Oper → Bool
  | _, [] => true
  | k, o :: r => (o.after.all fun e => !Region.binds md e || Nat.blt e.on k) && (r.all fun o' => (o'.after.any fun e => Region.binds md e && e.on == k) || o.apart ops o') && fastB md ops (k + 1) r
def Upto (n k : Nat) (listed : Array Bool) : Prop := listed.size = n ∧ ∀ j (h : j < listed.size), listed[j] = decide (j < k)
theorem Upto.t {n k : Nat} {l : Array Bool} (h : Upto n k l) {j : Nat} (hj : j < n) : l.getD j true = decide (j < k) := by
  have := h.1
  rw [Array.getD_eq_getD_getElem?, Array.getElem?_eq_getElem (by omega), Option.getD_some, h.2]
theorem Upto.f {n k : Nat} {l : Array Bool} (h : Upto n k l) (hk : k ≤ n) (j : Nat) : l.getD j false = decide (j < k) := by
  have := h.1
  by_cases hj : j < n
  · rw [Array.getD_eq_getD_getElem?, Array.getElem?_eq_getElem (by omega), Option.getD_some, h.2]
  · rw [Array.getD_eq_getD_getElem?, Array.getElem?_eq_none (by omega)]
    simp
    omega
theorem Upto.set {n k : Nat} {l : Array Bool} (h : Upto n k l) (hk : k < n) : Upto n (k + 1) (l.setIfInBounds k true) := by
  refine ⟨by simp [h.1], fun j hj => ?_⟩
  simp only [Array.size_setIfInBounds] at hj
  rw [Array.getElem_setIfInBounds]
  split
  · rename_i e; subst e; simp
  · rename_i e
    have hj2 : j < l.size := hj
    rw [h.2 j hj2, decide_eq_decide]
    omega
  exact hj
theorem lexFrom_fast {md : Region.Mode} {ops : Array Oper} : ∀ (r : List Oper) (k : Nat) (listed : Array Bool), (∀ j, r[j]? = ops[k + j]?) → k + r.length = ops.size → Upto ops.size k listed → fastB md ops k r = true → Region.lexFrom md ops r.length k listed = true
  | [], k, listed, hr, hl, hu, _ => by
    simp only [List.length_nil, Nat.add_zero] at hl
    simp only [Region.lexFrom, Region.ready, List.length_nil, List.isEmpty_iff, List.filter_eq_nil_iff, List.mem_range]
    intro i hi
    rw [hu.t hi]
    simp
    omega
  | o :: r, k, listed, hr, hl, hu, hf => by
    simp only [List.length_cons] at hl
    have hk : k < ops.size := by omega
    have ho : ops[k]? = some o := by have := hr 0; simpa using this.symm
    simp only [fastB, Bool.and_eq_true] at hf
    obtain ⟨⟨h1, h2⟩, h3⟩ := hf
    have e1 : (Region.ready md ops listed).contains k = true := by
      rw [List.contains_iff_mem, Region.ready, List.mem_filter]
      refine ⟨List.mem_range.2 hk, ?_⟩
      rw [hu.t hk, ho]
      simp only [Option.map_some, Option.getD_some, Bool.and_eq_true]
      refine ⟨by simp, ?_⟩
      rw [Array.all_eq_true_iff_forall_mem] at h1 ⊢
      intro e he
      have := h1 e he
      rw [hu.f (by omega)]
      simp only [Bool.or_eq_true] at this ⊢
      rcases this with q | q
      · exact .inl q
      · exact .inr (by rw [Nat.blt_eq] at q; simpa using q)
    have e2 : Region.free md ops listed k = true := by
      unfold Region.free
      rw [ho]
      simp only [List.all_eq_true, List.mem_range]
      intro j hj
      rw [hu.t hj]
      rcases Nat.lt_trichotomy j k with q | q | q
      · simp [q]
      · simp [q]
      · have hj2 : r[j - k - 1]? = ops[j]? := by
          have := hr (j - k)
          rw [show j - k = (j - k - 1) + 1 by omega, List.getElem?_cons_succ] at this
          rw [this]
          congr 1
          omega
        rw [Array.getElem?_eq_getElem hj] at hj2 ⊢
        have hm : ops[j] ∈ r := List.mem_of_getElem? hj2
        have := (List.all_eq_true.1 h2) _ hm
        simp only [this, Bool.or_true]
    simp only [List.length_cons, Region.lexFrom, e1, e2, Bool.true_and]
    refine lexFrom_fast r (k + 1) _ (fun j => ?_) (by omega) (hu.set hk) h3
    have := hr (j + 1)
    rw [List.getElem?_cons_succ] at this
    rw [this]
    congr 1
    omega
theorem lexB_fast {md : Region.Mode} {l : List Oper} (h1 : Region.noSelect l.toArray = true) (h2 : fastB md l.toArray 0 l = true) : Region.lexB md l.toArray = true := by
  unfold Region.lexB
  rw [h1, Bool.true_and]
  have := lexFrom_fast (md := md) (ops := l.toArray) l 0 (Array.replicate l.toArray.size false) (fun j => by simp) (by simp) ⟨by simp, fun j h => by simp⟩ h2
  simpa using this
end Go
