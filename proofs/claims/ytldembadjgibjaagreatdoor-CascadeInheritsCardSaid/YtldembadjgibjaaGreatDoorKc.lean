/-
  Drawn regions held by the list of objects: two or three operations ready at once; calls, allocations and stores as steps.
-/
import Derived.Test.YtldembadjgibjaaGreatDoorKb
import Derived.Test.YtldembadjgibjaaGreatDoorKp
set_option linter.unusedVariables false
set_option linter.unusedSimpArgs false
namespace Go.K
open Go.RowKit

section
variable {P : Program} {ops : Array Oper} {Q : Exit → Act → World → Prop} {S : World → Prop}
/-- the step of operation i in a held region -/
def HStep (P : Program) (ops : Array Oper) (Q : Exit → Act → World → Prop) (S : World → Prop) (n : Nat) (l : Array Bool) (i : Nat) (o : Oper) (a : Act) (w : World) : Prop :=
  ∀ K' : Act → World → Prop, (∀ a w, S w ∧ wpAnyH P .any ops Q S n (l.setIfInBounds i true) a w → K' a w) → if Region.wanted o (yielded ops a.tmps) = true then Oper.wp P o a w K' Q else K' (a.put o.dst undef) w
theorem held1 {i : Nat} {o : Oper} {n : Nat} {l : Array Bool} {a : Act} {w : World} (ho : ops[i]? = some o) (hr : Region.ready .any ops l = [i])
    (h : HStep P ops Q S n l i o a w) : wpAnyH P .any ops Q S (n + 1) l a w := by
  refine wpAnyH_all hr (by simp) (fun j hj => ?_)
  simp at hj
  subst hj
  exact wpOp_step ho h
theorem held2 {i j : Nat} {o1 o2 : Oper} {n : Nat} {l : Array Bool} {a : Act} {w : World} (h1 : ops[i]? = some o1) (h2 : ops[j]? = some o2) (hr : Region.ready .any ops l = [i, j])
    (g1 : HStep P ops Q S n l i o1 a w) (g2 : HStep P ops Q S n l j o2 a w) : wpAnyH P .any ops Q S (n + 1) l a w := by
  refine wpAnyH_all hr (by simp) (fun k hk => ?_)
  simp at hk
  rcases hk with rfl | rfl
  · exact wpOp_step h1 g1
  · exact wpOp_step h2 g2
theorem held3 {i j k : Nat} {o1 o2 o3 : Oper} {n : Nat} {l : Array Bool} {a : Act} {w : World} (h1 : ops[i]? = some o1) (h2 : ops[j]? = some o2) (h3 : ops[k]? = some o3) (hr : Region.ready .any ops l = [i, j, k])
    (g1 : HStep P ops Q S n l i o1 a w) (g2 : HStep P ops Q S n l j o2 a w) (g3 : HStep P ops Q S n l k o3 a w) : wpAnyH P .any ops Q S (n + 1) l a w := by
  refine wpAnyH_all hr (by simp) (fun m hm => ?_)
  simp at hm
  rcases hm with rfl | rfl | rfl
  · exact wpOp_step h1 g1
  · exact wpOp_step h2 g2
  · exact wpOp_step h3 g3
/-- a call that keeps what was there -/
theorem hstep_call {i n : Nat} {l : Array Bool} {o : Oper} {f : FuncId} {fn : Func} {xs : Array Operand} {ts : Array TypeId} {a : Act} {w w0 : World} {L : List As} {args : Array Value} {v : Value}
    (hc : Calls P f args w fun e w' => e = .returned v ∧ Below w.heap.size w w') (H : St w0 w L) (hS : ∀ w', St w0 w' L → S w')
    (hg : o.guard = none) (ho : o.op = .call { callee := .value (.func f), args := xs, argTypes := ts })
    (hf : P.funcs[f]? = some fn) (hn : (fn.name == "runtime.NumGoroutine") = false) (hb : fn.body.isNone = false)
    (ha : xs.map a.eval = args) (h : ∀ w', St w0 w' L → wpAnyH P .any ops Q S n (l.setIfInBounds i true) (a.put o.dst v) w') : HStep P ops Q S n l i o a w := by
  intro K' hK
  refine wp_call hg ho hf hn hb ha hc ?_
  rintro e w' ⟨rfl, hb'⟩
  exact ⟨_, rfl, hK _ _ ⟨hS _ (H.of_below hb'), h _ (H.of_below hb')⟩⟩
/-- a call with any contract -/
theorem hstep_callR {i n : Nat} {l : Array Bool} {o : Oper} {f : FuncId} {fn : Func} {xs : Array Operand} {ts : Array TypeId} {a : Act} {w : World} {args : Array Value} {R : Ending → World → Prop}
    (hc : Calls P f args w R) 
    (hg : o.guard = none) (ho : o.op = .call { callee := .value (.func f), args := xs, argTypes := ts })
    (hf : P.funcs[f]? = some fn) (hn : (fn.name == "runtime.NumGoroutine") = false) (hb : fn.body.isNone = false)
    (ha : xs.map a.eval = args) (h : ∀ e w', R e w' → ∃ v, e = .returned v ∧ S w' ∧ wpAnyH P .any ops Q S n (l.setIfInBounds i true) (a.put o.dst v) w') : HStep P ops Q S n l i o a w := by
  intro K' hK
  refine wp_call hg ho hf hn hb ha hc ?_
  intro e w' hR
  obtain ⟨v, rfl, h1, h2⟩ := h e w' hR
  exact ⟨_, rfl, hK _ _ ⟨h1, h2⟩⟩
/-- a new variable -/
theorem hstep_alloc {i n : Nat} {l : Array Bool} {o : Oper} {t : TypeId} {z : Value} {a : Act} {w w0 : World} {L : List As} (H : St w0 w L) (hS : ∀ w' b, St w0 w' (As.cells b z.cells t :: L) → S w')
    (hg : o.guard = none) (ho : o.op = .alloc t) (hz : (P.info? t).map (·.zero) = some (some z))
    (h : ∀ b w', St w0 w' (As.cells b z.cells t :: L) → wpAnyH P .any ops Q S n (l.setIfInBounds i true) (a.put o.dst (.pointer (some ⟨b, 0, none⟩))) w') : HStep P ops Q S n l i o a w := by
  intro K' hK
  have hw : Region.wanted o (yielded ops a.tmps) = true := by simp [Region.wanted, hg]
  rw [if_pos hw]
  unfold Oper.wp
  have hrun : (execOp a.eval o).run P w = .ok (.value (.pointer (some ⟨w.heap.size, 0, none⟩))) (w.alloc (.cells z.cells t)) := by
    unfold execOp
    simp only [ho]
    simp only [Option.map_eq_some_iff] at hz
    obtain ⟨i, h1, h2⟩ := hz
    simp [Instr.alloc, zeroValue, typeInfo, h1, h2, newVar, Sem.run]
    rfl
  rw [hrun, Oper.upon_value]
  exact hK _ _ ⟨hS _ _ (H.new _ _), h _ _ (H.new _ _)⟩
/-- a store of a whole block that is the first object -/
theorem hstep_store {i n : Nat} {l : Array Bool} {o : Oper} {t T : TypeId} {x y : Operand} {b : Nat} {cs vs : Array Value} {a : Act} {w w0 : World} {L : List As} (H : St w0 w (As.cells b cs T :: L)) (hS : ∀ w', St w0 w' (As.cells b vs T :: L) → S w')
    (hg : o.guard = none) (ho : o.op = .store t x y) (hx : a.eval x = .pointer (some ⟨b, 0, none⟩)) (hy : a.eval y = .agg vs)
    (hcs : cs.size = vs.size) (ht : (P.info? t).map (·.size) = some vs.size) (h1 : vs.toList.all (·.oneCell') = true)
    (h : ∀ w', St w0 w' (As.cells b vs T :: L) → wpAnyH P .any ops Q S n (l.setIfInBounds i true) (a.put o.dst undef) w') : HStep P ops Q S n l i o a w := by
  intro K' hK
  have hb := H.blk.1
  have hw : Region.wanted o (yielded ops a.tmps) = true := by simp [Region.wanted, hg]
  rw [if_pos hw]
  unfold Oper.wp
  have hthere : w.there b 0 vs.size := by
    intro j hj
    rw [Nat.zero_add]
    exact ⟨by rw [hb.cell, Array.getElem?_eq_getElem (by omega)]; rfl, hb.free j⟩
  have h3 := run_storeAt_mid (P := P) w b 0 t vs hthere ht (by rw [← Array.all_toList]; exact h1)
  have hrun : (execOp a.eval o).run P w = .ok .skip (w.setCells b 0 vs.toList) := by
    unfold execOp
    simp only [ho, hx, hy, Sem.run_bind, h3]
    rfl
  rw [hrun, Oper.upon_skip]
  have H2 := H.setAll (vs := vs) hcs
  exact hK _ _ ⟨hS _ H2, h _ H2⟩
/-- an operation that yields nothing -/
theorem hstep_skip {i n : Nat} {l : Array Bool} {o : Oper} {a : Act} {w w' : World} (hg : o.guard = none) (hr : (execOp a.eval o).run P w = .ok .skip w') (hS : S w')
    (h : wpAnyH P .any ops Q S n (l.setIfInBounds i true) (a.put o.dst undef) w') : HStep P ops Q S n l i o a w := by
  intro K' hK
  have hw : Region.wanted o (yielded ops a.tmps) = true := by simp [Region.wanted, hg]
  rw [if_pos hw]
  unfold Oper.wp
  rw [hr, Oper.upon_skip]
  exact hK _ _ ⟨hS, h⟩
/-- an operation that yields nothing; of the world behind it the objects alone are kept in mind -/
theorem hstep_put {i n : Nat} {l : Array Bool} {o : Oper} {a : Act} {w w' w0 : World} {L : List As} (hg : o.guard = none) (hr : (execOp a.eval o).run P w = .ok .skip w') (H : St w0 w' L) (hS : ∀ w', St w0 w' L → S w')
    (h : ∀ w', St w0 w' L → wpAnyH P .any ops Q S n (l.setIfInBounds i true) (a.put o.dst undef) w') : HStep P ops Q S n l i o a w :=
  hstep_skip hg hr (hS _ H) (h _ H)
/-- an operation that yields a value and leaves the world -/
theorem hstep_read {i n : Nat} {l : Array Bool} {o : Oper} {v : Value} {a : Act} {w : World} (hS : S w) (hg : o.guard = none) (hr : (execOp a.eval o).run P w = .ok (.value v) w)
    (h : wpAnyH P .any ops Q S n (l.setIfInBounds i true) (a.put o.dst v) w) : HStep P ops Q S n l i o a w := by
  intro K' hK
  have hw : Region.wanted o (yielded ops a.tmps) = true := by simp [Region.wanted, hg]
  rw [if_pos hw]
  unfold Oper.wp
  rw [hr, Oper.upon_value]
  exact hK _ _ ⟨hS, h⟩
end
end Go.K
