/-
  A region that draws its order, walked by an invariant: two calls in their order, beside two allocations, then two stores.
-/
import Derived.Test.YtldembadjgibjaaGreatDoorKo
import Derived.Deep.MidRow
set_option linter.unusedVariables false
set_option linter.unusedSimpArgs false
namespace Go.K
open Go.RowKit

theorem run_enter {P : Program} {f : FuncId} {fn : Func} (hf : P.funcs[f]? = some fn) (hn : (fn.name == "runtime.NumGoroutine") = false) (hb : fn.body.isNone = false) (args : Array Value) (w : World) :
    (callFunc f args).run P w = .ok (.enter f args) w := by
  have h1 : fn.name ≠ "runtime.NumGoroutine" := by simpa using hn
  have h2 : fn.body ≠ none := by intro e; rw [e] at hb; cases hb
  simp [callFunc, hf, h1, h2]

section
variable {P : Program} {ops : Array Oper} {Q : Exit → Act → World → Prop}
/-- a call as an operation of a region -/
theorem wpOp_call {i : Nat} {o : Oper} {f : FuncId} {fn : Func} {xs : Array Operand} {ts : Array TypeId} {a : Act} {w : World} {K : Act → World → Prop} {R : Ending → World → Prop}
    (hi : ops[i]? = some o) (hg : o.guard = none) (ho : o.op = .call { callee := .value (.func f), args := xs, argTypes := ts })
    (hf : P.funcs[f]? = some fn) (hn : (fn.name == "runtime.NumGoroutine") = false) (hb : fn.body.isNone = false)
    (hc : Calls P f (xs.map a.eval) w R) (hR : ∀ e w', R e w' → ∃ v, e = .returned v ∧ K (a.put o.dst v) w') : wpOp P ops Q i K a w := by
  unfold wpOp
  simp only [hi]
  have hw : Region.wanted o (yielded ops a.tmps) = true := by simp [Region.wanted, hg]
  rw [if_pos hw]
  refine .inl ?_
  unfold Oper.wp
  have hrun : (execOp a.eval o).run P w = .ok (.enter f (xs.map a.eval)) w := by
    unfold execOp
    simp only [ho]
    have h1 := run_enter hf hn hb (xs.map a.eval) w
    simp [resolve, Deferred.ofValue, Act.eval, invoke] at h1 ⊢
    exact h1
  rw [hrun, Oper.upon_enter]
  refine hc.mono fun e w' h => ?_
  obtain ⟨v, rfl, hk⟩ := hR e w' h
  exact hk
/-- an allocation -/
theorem wpOp_alloc {i : Nat} {o : Oper} {t : TypeId} {z : Value} {a : Act} {w : World} {K : Act → World → Prop}
    (hi : ops[i]? = some o) (hg : o.guard = none) (ho : o.op = .alloc t) (hz : (P.info? t).map (·.zero) = some (some z))
    (hk : K (a.put o.dst (.pointer (some ⟨w.heap.size, 0, none⟩))) (w.alloc (.cells z.cells t))) : wpOp P ops Q i K a w := by
  unfold wpOp
  simp only [hi]
  have hw : Region.wanted o (yielded ops a.tmps) = true := by simp [Region.wanted, hg]
  rw [if_pos hw]
  refine .inl ?_
  unfold Oper.wp
  have hrun : (execOp a.eval o).run P w = .ok (.value (.pointer (some ⟨w.heap.size, 0, none⟩))) (w.alloc (.cells z.cells t)) := by
    unfold execOp
    simp only [ho]
    simp only [Option.map_eq_some_iff] at hz
    obtain ⟨i, h1, h2⟩ := hz
    simp [Instr.alloc, zeroValue, typeInfo, h1, h2, newVar, Sem.run]
    rfl
  rw [hrun, Oper.upon_value]
  exact hk
/-- an operation that only reads -/
theorem wpOp_read {i : Nat} {o : Oper} {v : Value} {a : Act} {w : World} {K : Act → World → Prop}
    (hi : ops[i]? = some o) (hg : o.guard = none) (hr : (execOp a.eval o).run P w = .ok (.value v) w) (hk : K (a.put o.dst v) w) : wpOp P ops Q i K a w := by
  unfold wpOp
  simp only [hi]
  have hw : Region.wanted o (yielded ops a.tmps) = true := by simp [Region.wanted, hg]
  rw [if_pos hw]
  refine .inl ?_
  unfold Oper.wp
  rw [hr, Oper.upon_value]
  exact hk
theorem rangeAt_blk {w : World} {b : Nat} {cs : Array Value} {T : TypeId} (h : Blk w b cs T) : w.rangeAt b 0 cs.toList := by
  intro j v hj
  rw [Nat.zero_add, h.cell]
  simpa using hj
/-- a load of a whole block -/
theorem wpOp_load {i : Nat} {o : Oper} {t T : TypeId} {x : Operand} {b : Nat} {cs : Array Value} {d : TypeDesc} {a : Act} {w : World} {K : Act → World → Prop}
    (hi : ops[i]? = some o) (hg : o.guard = none) (ho : o.op = .load t x) (hx : a.eval x = .pointer (some ⟨b, 0, none⟩)) (hb : Blk w b cs T)
    (hu : P.underlying t = some d) (hd : d.isRow = true) (ht : (P.info? t).map (·.size) = some cs.size) (hk : K (a.put o.dst (.agg cs)) w) : wpOp P ops Q i K a w := by
  refine wpOp_read hi hg ?_ hk
  unfold execOp
  simp only [ho, hx, Instr.loadAt, Instr.sureAddr, Sem.run_bind, Sem.run_pure, Result.andThen_ok, run_loadVar_mid w b 0 t cs.toList d (rangeAt_blk hb) hu hd (by simpa using ht)]
/-- a store of a whole block -/
theorem wpOp_store {i : Nat} {o : Oper} {t T : TypeId} {x y : Operand} {b : Nat} {cs vs : Array Value} {a : Act} {w : World} {K : Act → World → Prop}
    (hi : ops[i]? = some o) (hg : o.guard = none) (ho : o.op = .store t x y) (hx : a.eval x = .pointer (some ⟨b, 0, none⟩)) (hy : a.eval y = .agg vs)
    (hb : Blk w b cs T) (hcs : cs.size = vs.size) (ht : (P.info? t).map (·.size) = some vs.size) (h1 : ∀ v ∈ vs.toList, v.oneCell' = true)
    (hk : K (a.put o.dst undef) (w.setCells b 0 vs.toList)) : wpOp P ops Q i K a w := by
  unfold wpOp
  simp only [hi]
  have hw : Region.wanted o (yielded ops a.tmps) = true := by simp [Region.wanted, hg]
  rw [if_pos hw]
  refine .inl ?_
  unfold Oper.wp
  have hthere : w.there b 0 vs.size := by
    intro j hj
    rw [Nat.zero_add]
    exact ⟨by rw [hb.cell, Array.getElem?_eq_getElem (by omega)]; rfl, hb.free j⟩
  have h3 := run_storeAt_mid (P := P) w b 0 t vs hthere ht (by rw [← Array.all_toList, List.all_eq_true]; exact h1)
  have hrun : (execOp a.eval o).run P w = .ok .skip (w.setCells b 0 vs.toList) := by
    unfold execOp
    simp only [ho, hx, hy, Sem.run_bind, h3]
    rfl
  rw [hrun, Oper.upon_skip]
  exact hk
end

/-- all cells of the first object are written -/
theorem splice_all (cs : Array Value) (vs : Array Value) (h : cs.size = vs.size) : splice cs 0 vs.toList = vs := by
  apply Array.ext_getElem?
  intro i
  by_cases hi : i < vs.size
  · have := splice_in vs.toList 0 cs i (by simp; omega) (by simpa using hi)
    rw [Nat.zero_add] at this
    rw [this]; simp
  · rw [splice_out vs.toList 0 cs i (.inr (by simp; omega)), Array.getElem?_eq_none (by omega), Array.getElem?_eq_none (by omega)]
theorem St.setAll {w0 w : World} {L : List As} {b : Nat} {cs vs : Array Value} {t : TypeId} (h : St w0 w (As.cells b cs t :: L)) (hv : cs.size = vs.size) : St w0 (w.setCells b 0 vs.toList) (As.cells b vs t :: L) := by
  obtain ⟨F, h1, _, h3⟩ := h.head
  refine h3 _ F _ ⟨h1.1, ?_⟩ ⟨Fr.setCells w b 0 _ ((h1.1 b).2 rfl), fun k hk => .inl hk⟩
  have := Blk.setCells vs.toList 0 w cs h1.2
  rwa [splice_all cs vs hv] at this
theorem St.addT {w0 w : World} {L : List As} (h : St w0 w L) : St w0 w (As.pure True :: L) :=
  h.add (F' := fun _ => False) ⟨trivial, fun _ q => q⟩ (Fr.refl _ _) (fun _ q => q.elim)
theorem St.back {w0 w : World} {L L' : List As} (h : St w0 w (L' ++ L)) : St w0 w (L ++ L') := h.perm List.perm_append_comm

/-- an object, where it is there -/
def onlyIf (b : Bool) (A : As) : As := if b then A else As.pure True

/-- a frame, but for the slots D -/
structure Obs (a0 : Act) (D : List Nat) (a : Act) : Prop where
  defers : a.defers = a0.defers
  size : a.tmps.size = a0.tmps.size
  rest : ∀ j, j ∉ D → a.tmps[j]? = a0.tmps[j]?
theorem Obs.put {a0 a : Act} {D : List Nat} (h : Obs a0 D a) {d : Nat} (hd : d ∈ D) (v : Value) : Obs a0 D (a.put (some d) v) := by
  refine ⟨h.defers, by simp [Act.put, h.size], fun j hj => ?_⟩
  have : d ≠ j := fun e => hj (e ▸ hd)
  simp only [Act.put]
  rw [Array.getElem?_setIfInBounds_ne this]
  exact h.rest j hj
theorem Obs.eval {a0 a : Act} {D : List Nat} (h : Obs a0 D a) {t : Nat} (ht : t ∉ D) {v : Value} (hv : a0.tmps[t]? = some v) : a.eval (.tmp t) = v := by
  have := h.rest t ht
  simp [Act.eval, this, hv]
theorem eval_of {a : Act} {t : Nat} {v : Value} (hv : a.tmps[t]? = some v) : a.eval (.tmp t) = v := by simp [Act.eval, hv]
theorem put_same {a : Act} {d : Nat} {v : Value} (h : d < a.tmps.size) : (a.put (some d) v).tmps[d]? = some v := by
  simp only [Act.put]
  rw [Array.getElem?_setIfInBounds_self_of_lt h]
theorem put_other {a : Act} {d e : Nat} {v u : Value} (h : d ≠ e) (hu : a.tmps[e]? = some u) : (a.put (some d) v).tmps[e]? = some u := by
  simp only [Act.put]
  rw [Array.getElem?_setIfInBounds_ne h]
  exact hu

section
variable {P : Program} {ops : Array Oper} {Q : Exit → Act → World → Prop} {w0 : World} {L0 : List As} {α β : Type} {a0 : Act}

structure Two (a0 : Act) (D : List Nat) (f0 f2 d1 d2 e1 e2 : Nat) (x0 x2 : Value) (V1 : α → Value) (V2 : β → Value) (R1 : α → As) (R2 : β → As) (z1 z2 : Value) (T1 T2 : TypeId) (w0 : World) (L0 : List As)
    (l0 l2 c1 c2 m1 m2 : Bool) (p : α) (q : β) (b1 b2 : Nat) (a : Act) (w : World) : Prop where
  obs : Obs a0 D a
  kl0 : l0 = true → a.tmps[f0]? = some x0
  kl2 : l2 = true → a.tmps[f2]? = some x2
  kc1 : c1 = true → a.tmps[d1]? = some (V1 p)
  kc2 : c2 = true → a.tmps[d2]? = some (V2 q)
  km1 : m1 = true → a.tmps[e1]? = some (.pointer (some ⟨b1, 0, none⟩))
  km2 : m2 = true → a.tmps[e2]? = some (.pointer (some ⟨b2, 0, none⟩))
  st : St w0 w (onlyIf c1 (R1 p) :: onlyIf c2 (R2 q) :: onlyIf m1 (As.cells b1 z1.cells T1) :: onlyIf m2 (As.cells b2 z2.cells T2) :: L0)

def rdyOf (i0 i1 i2 i3 i4 i5 i6 : Nat) (l0 l2 c1 c2 m1 m2 : Bool) : List Nat :=
  (if l0 then [] else [i0]) ++ (if l0 && !c1 then [i1] else []) ++ (if l2 then [] else [i2]) ++ (if l2 && c1 && !c2 then [i3] else []) ++ (if m1 then [] else [i4]) ++ (if m2 then [] else [i5]) ++ (if c2 && m1 && m2 then [i6] else [])

theorem two_calls (D : List Nat) (i0 i1 i2 i3 i4 i5 i6 i7 f0 f2 d1 d2 e1 e2 : Nat) (x0 x2 : Value) (V1 : α → Value) (V2 : β → Value) (R1 : α → As) (R2 : β → As) (O1 : Nat → α → As) (O2 : Nat → β → As) (z1 z2 : Value) (T1 T2 : TypeId)
    (vs1 : α → Array Value) (vs2 : β → Array Value) (ok : Bool → Bool → Bool) (lst : Bool → Bool → Bool → Bool → Bool → Bool → Bool → Bool → Array Bool)
    (hD : D = [f0, f2, d1, d2, e1, e2]) (hnd : D.Nodup) (hlt : ∀ d ∈ D, d < a0.tmps.size)
    (hrdy : ∀ l0 l2 c1 c2 m1 m2, ok l0 l2 = true → (c1 = true → l0 = true) → (c2 = true → c1 = true ∧ l2 = true) → Region.ready .any ops (lst l0 l2 c1 c2 m1 m2 false false) = rdyOf i0 i1 i2 i3 i4 i5 i6 l0 l2 c1 c2 m1 m2)
    (hr7 : Region.ready .any ops (lst true true true true true true true false) = [i7]) (hr8 : Region.ready .any ops (lst true true true true true true true true) = [])
    (g0 : ∀ l2 c1 c2 m1 m2, ok false l2 = true → (lst false l2 c1 c2 m1 m2 false false).setIfInBounds i0 true = lst true l2 c1 c2 m1 m2 false false) (g2 : ∀ l0 c1 c2 m1 m2, ok l0 false = true → (lst l0 false c1 c2 m1 m2 false false).setIfInBounds i2 true = lst l0 true c1 c2 m1 m2 false false)
    (g1 : ∀ l0 l2 c2 m1 m2, (lst l0 l2 false c2 m1 m2 false false).setIfInBounds i1 true = lst l0 l2 true c2 m1 m2 false false) (g3 : ∀ l0 l2 c1 m1 m2, (lst l0 l2 c1 false m1 m2 false false).setIfInBounds i3 true = lst l0 l2 c1 true m1 m2 false false)
    (g4 : ∀ l0 l2 c1 c2 m2, (lst l0 l2 c1 c2 false m2 false false).setIfInBounds i4 true = lst l0 l2 c1 c2 true m2 false false) (g5 : ∀ l0 l2 c1 c2 m1, (lst l0 l2 c1 c2 m1 false false false).setIfInBounds i5 true = lst l0 l2 c1 c2 m1 true false false)
    (g6 : (lst true true true true true true false false).setIfInBounds i6 true = lst true true true true true true true false) (g7 : (lst true true true true true true true false).setIfInBounds i7 true = lst true true true true true true true true)
    (hok0 : ∀ l2, ok false l2 = true → ok true l2 = true) (hok2 : ∀ l0, ok l0 false = true → ok l0 true = true)
    (s0 : ∀ K a w L', ok false true = true → Obs a0 D a → St w0 w (L0 ++ L') → K (a.put (some f0) x0) w → wpOp P ops Q i0 K a w)
    (s2 : ∀ K a w L', ok true false = true → Obs a0 D a → St w0 w (L0 ++ L') → K (a.put (some f2) x2) w → wpOp P ops Q i2 K a w)
    (hokf : ∀ l2, ok false l2 = true → ok false true = true) (hok2f : ∀ l0, ok l0 false = true → ok true false = true)
    (s1 : ∀ K a w L', Obs a0 D a → a.tmps[f0]? = some x0 → St w0 w (L0 ++ L') → (∀ p w', St w0 w' (R1 p :: (L0 ++ L')) → K (a.put (some d1) (V1 p)) w') → wpOp P ops Q i1 K a w)
    (s3 : ∀ K a w L', Obs a0 D a → a.tmps[f2]? = some x2 → St w0 w (L0 ++ L') → (∀ q w', St w0 w' (R2 q :: (L0 ++ L')) → K (a.put (some d2) (V2 q)) w') → wpOp P ops Q i3 K a w)
    (s4 : ∀ K a w, K (a.put (some e1) (.pointer (some ⟨w.heap.size, 0, none⟩))) (w.alloc (.cells z1.cells T1)) → wpOp P ops Q i4 K a w)
    (s5 : ∀ K a w, K (a.put (some e2) (.pointer (some ⟨w.heap.size, 0, none⟩))) (w.alloc (.cells z2.cells T2)) → wpOp P ops Q i5 K a w)
    (s6 : ∀ K a w b p, a.tmps[e1]? = some (.pointer (some ⟨b, 0, none⟩)) → a.tmps[d1]? = some (V1 p) → Blk w b z1.cells T1 → K a (w.setCells b 0 (vs1 p).toList) → wpOp P ops Q i6 K a w)
    (s7 : ∀ K a w b q, a.tmps[e2]? = some (.pointer (some ⟨b, 0, none⟩)) → a.tmps[d2]? = some (V2 q) → Blk w b z2.cells T2 → K a (w.setCells b 0 (vs2 q).toList) → wpOp P ops Q i7 K a w)
    (h1 : ∀ w b p L', St w0 w (As.cells b z1.cells T1 :: R1 p :: L') → St w0 (w.setCells b 0 (vs1 p).toList) (O1 b p :: L'))
    (h2 : ∀ w b q L', St w0 w (As.cells b z2.cells T2 :: R2 q :: L') → St w0 (w.setCells b 0 (vs2 q).toList) (O2 b q :: L'))
    (fin : ∀ p q b1 b2 w, St w0 w (O1 b1 p :: O2 b2 q :: L0) → Q .normal ((((((a0.put (some f0) x0).put (some f2) x2).put (some d1) (V1 p)).put (some d2) (V2 q)).put (some e1) (.pointer (some ⟨b1, 0, none⟩))).put (some e2) (.pointer (some ⟨b2, 0, none⟩))) w) :
    ∀ (n : Nat) (l0 l2 c1 c2 m1 m2 : Bool) (p : α) (q : β) (b1 b2 : Nat) (a : Act) (w : World), n = (if l0 then 0 else 1) + (if l2 then 0 else 1) + (if c1 then 0 else 1) + (if c2 then 0 else 1) + (if m1 then 0 else 1) + (if m2 then 0 else 1) →
      ok l0 l2 = true → (c1 = true → l0 = true) → (c2 = true → c1 = true ∧ l2 = true) →
      Two a0 D f0 f2 d1 d2 e1 e2 x0 x2 V1 V2 R1 R2 z1 z2 T1 T2 w0 L0 l0 l2 c1 c2 m1 m2 p q b1 b2 a w → wpAny P .any ops Q (n + 2) (lst l0 l2 c1 c2 m1 m2 false false) a w := by
  have hmem : ∀ d, (d = f0 ∨ d = f2 ∨ d = d1 ∨ d = d2 ∨ d = e1 ∨ d = e2) → d ∈ D := by intro d h; rw [hD]; simpa using h
  have hne : (f0 ≠ f2 ∧ f0 ≠ d1 ∧ f0 ≠ d2 ∧ f0 ≠ e1 ∧ f0 ≠ e2) ∧ (f2 ≠ d1 ∧ f2 ≠ d2 ∧ f2 ≠ e1 ∧ f2 ≠ e2) ∧ (d1 ≠ d2 ∧ d1 ≠ e1 ∧ d1 ≠ e2) ∧ (d2 ≠ e1 ∧ d2 ≠ e2) ∧ e1 ≠ e2 := by
    rw [hD] at hnd
    simp at hnd
    obtain ⟨⟨a1, a2, a3, a4, a5⟩, ⟨a6, a7, a8, a9⟩, ⟨a10, a11, a12⟩, ⟨a13, a14⟩, a15⟩ := hnd
    exact ⟨⟨a1, a2, a3, a4, a5⟩, ⟨a6, a7, a8, a9⟩, ⟨a10, a11, a12⟩, ⟨a13, a14⟩, a15⟩
  obtain ⟨⟨n1, n2, n3, n4, n5⟩, ⟨n6, n7, n8, n9⟩, ⟨n10, n11, n12⟩, ⟨n13, n14⟩, n15⟩ := hne
  intro n
  induction n with
  | zero =>
    intro l0 l2 c1 c2 m1 m2 p q b1 b2 a w hn ho hc1 hc2 J
    obtain ⟨rfl, rfl, rfl, rfl, rfl, rfl⟩ : l0 = true ∧ l2 = true ∧ c1 = true ∧ c2 = true ∧ m1 = true ∧ m2 = true := by
      cases l0 <;> cases l2 <;> cases c1 <;> cases c2 <;> cases m1 <;> cases m2 <;> simp at hn <;> simp
    have hst := J.st
    simp only [onlyIf, if_true] at hst
    refine wpAny_all (rs := [i6]) (by rw [hrdy _ _ _ _ _ _ ho hc1 hc2]; simp [rdyOf]) (by simp) ?_
    intro i hi
    simp at hi
    subst hi
    have hp1 := St.sh [_, _, _, _] [2, 0, 1, 3] (by decide) hst
    simp only [List.map_cons, List.map_nil, List.getD_cons_zero, List.getD_cons_succ, List.cons_append, List.nil_append] at hp1
    refine s6 _ a w b1 p (J.km1 rfl) (J.kc1 rfl) hp1.blk.1 ?_
    rw [g6]
    have hp2 := h1 _ _ _ _ hp1
    have hp3 := St.sh [_, _, _] [2, 1, 0] (by decide) hp2
    simp only [List.map_cons, List.map_nil, List.getD_cons_zero, List.getD_cons_succ, List.cons_append, List.nil_append] at hp3
    refine wpAny_all (rs := [i7]) hr7 (by simp) ?_
    intro i hi
    simp at hi
    subst hi
    refine s7 _ a _ b2 q (J.km2 rfl) (J.kc2 rfl) hp3.blk.1 ?_
    rw [g7]
    refine wpAny_done hr8 ?_ _
    have hp4 := (h2 _ _ _ _ hp3).swap
    have := fin p q b1 b2 _ hp4
    have ha : a = ((((((a0.put (some f0) x0).put (some f2) x2).put (some d1) (V1 p)).put (some d2) (V2 q)).put (some e1) (.pointer (some ⟨b1, 0, none⟩))).put (some e2) (.pointer (some ⟨b2, 0, none⟩))) := by
      obtain ⟨at', ad⟩ := a
      have hd := J.obs.defers
      simp only at hd
      subst hd
      unfold Act.put
      simp only [Act.mk.injEq, and_true]
      apply Array.ext_getElem?
      intro j
      have k0 := J.kl0 rfl
      have k2 := J.kl2 rfl
      have kc1 := J.kc1 rfl
      have kc2 := J.kc2 rfl
      have km1 := J.km1 rfl
      have km2 := J.km2 rfl
      have l0' := hlt f0 (hmem _ (by simp))
      have l2' := hlt f2 (hmem _ (by simp))
      have l3' := hlt d1 (hmem _ (by simp))
      have l4' := hlt d2 (hmem _ (by simp))
      have l5' := hlt e1 (hmem _ (by simp))
      have l6' := hlt e2 (hmem _ (by simp))
      simp only [Array.getElem?_setIfInBounds, Array.size_setIfInBounds]
      by_cases q1 : e2 = j
      · subst q1; simp [l6']; exact km2
      by_cases q2 : e1 = j
      · subst q2; simp [l5', q1]; exact km1
      by_cases q3 : d2 = j
      · subst q3; simp [l4', q1, q2]; exact kc2
      by_cases q4 : d1 = j
      · subst q4; simp [l3', q1, q2, q3]; exact kc1
      by_cases q5 : f2 = j
      · subst q5; simp [l2', q1, q2, q3, q4]; exact k2
      by_cases q6 : f0 = j
      · subst q6; simp [l0', q1, q2, q3, q4, q5]; exact k0
      simp only [q1, q2, q3, q4, q5, q6, if_false]
      refine J.obs.rest j ?_
      rw [hD]
      simp only [List.mem_cons, List.not_mem_nil, or_false]
      rintro (h | h | h | h | h | h)
      · exact q6 h.symm
      · exact q5 h.symm
      · exact q4 h.symm
      · exact q3 h.symm
      · exact q2 h.symm
      · exact q1 h.symm
    rw [ha]; exact this
  | succ n ih =>
    intro l0 l2 c1 c2 m1 m2 p q b1 b2 a w hn ho hc1 hc2 J
    have hsz := J.obs.size
    have hst := St.back (L' := [_, _, _, _]) (L := L0) J.st
    refine wpAny_all (rs := rdyOf i0 i1 i2 i3 i4 i5 i6 l0 l2 c1 c2 m1 m2) (hrdy _ _ _ _ _ _ ho hc1 hc2) ?_ ?_
    · cases l0 <;> cases l2 <;> cases c1 <;> cases c2 <;> cases m1 <;> cases m2 <;> simp [rdyOf] at hn hc1 hc2 ⊢
    · intro i hi
      unfold rdyOf at hi
      simp only [List.mem_append] at hi
      rcases hi with (((((hi | hi) | hi) | hi) | hi) | hi) | hi
      · cases l0 <;> simp at hi
        subst hi
        refine s0 _ a w _ (hokf _ ho) J.obs hst ?_
        rw [g0 _ _ _ _ _ ho]
        have hc1' : c1 = false := by cases c1; rfl; simp at hc1
        subst hc1'
        have hc2' : c2 = false := by cases c2; rfl; simp at hc2
        subst hc2'
        refine ih true l2 false false m1 m2 p q b1 b2 _ w (by simp at hn ⊢; omega) (hok0 _ ho) (by simp) (by simp) ⟨J.obs.put (hmem _ (by simp)) _, fun _ => put_same (by rw [hsz]; exact hlt _ (hmem _ (by simp))), fun h => put_other n1 (J.kl2 h), (fun h => by cases h), (fun h => by cases h), fun h => put_other n4 (J.km1 h), fun h => put_other n5 (J.km2 h), J.st⟩
      · cases l0 <;> cases c1 <;> simp at hi
        subst hi
        have hc2' : c2 = false := by cases c2; rfl; simp at hc2
        subst hc2'
        refine s1 _ a w _ J.obs (J.kl0 rfl) hst ?_
        intro p' w' hp'
        rw [g1]
        refine ih true l2 true false m1 m2 p' q b1 b2 _ w' (by simp at hn ⊢; omega) ho (by simp) (by simp) ⟨J.obs.put (hmem _ (by simp)) _, fun h => put_other (Ne.symm n2) (J.kl0 h), fun h => put_other (Ne.symm n6) (J.kl2 h), fun _ => put_same (by rw [hsz]; exact hlt _ (hmem _ (by simp))), (fun h => by cases h), fun h => put_other n11 (J.km1 h), fun h => put_other n12 (J.km2 h), ?_⟩
        have hq := hp'.perm (List.Perm.cons _ (List.perm_append_comm (l₂ := [onlyIf false (R1 p), onlyIf false (R2 q), onlyIf m1 (As.cells b1 z1.cells T1), onlyIf m2 (As.cells b2 z2.cells T2)])))
        exact hq.swap.drop
      · cases l2 <;> simp at hi
        subst hi
        have hc2' : c2 = false := by cases c2; rfl; simp at hc2
        subst hc2'
        refine s2 _ a w _ (hok2f _ ho) J.obs hst ?_
        rw [g2 _ _ _ _ _ ho]
        refine ih l0 true c1 false m1 m2 p q b1 b2 _ w (by simp at hn ⊢; omega) (hok2 _ ho) hc1 (by simp) ⟨J.obs.put (hmem _ (by simp)) _, fun h => put_other (Ne.symm n1) (J.kl0 h), fun _ => put_same (by rw [hsz]; exact hlt _ (hmem _ (by simp))), fun h => put_other n6 (J.kc1 h), (fun h => by cases h), fun h => put_other n8 (J.km1 h), fun h => put_other n9 (J.km2 h), J.st⟩
      · cases l2 <;> cases c1 <;> cases c2 <;> simp at hi
        subst hi
        refine s3 _ a w _ J.obs (J.kl2 rfl) hst ?_
        intro q' w' hp'
        rw [g3]
        refine ih l0 true true true m1 m2 p q' b1 b2 _ w' (by simp at hn ⊢; omega) ho hc1 (by simp) ⟨J.obs.put (hmem _ (by simp)) _, fun h => put_other (Ne.symm n3) (J.kl0 h), fun h => put_other (Ne.symm n7) (J.kl2 h), fun h => put_other (Ne.symm n10) (J.kc1 h), fun _ => put_same (by rw [hsz]; exact hlt _ (hmem _ (by simp))), fun h => put_other n13 (J.km1 h), fun h => put_other n14 (J.km2 h), ?_⟩
        have hq := hp'.perm (List.Perm.cons _ (List.perm_append_comm (l₂ := [onlyIf true (R1 p), onlyIf false (R2 q), onlyIf m1 (As.cells b1 z1.cells T1), onlyIf m2 (As.cells b2 z2.cells T2)])))
        have hr := St.sh [_, _, _] [2, 1, 0] (by decide) hq
        simp only [List.map_cons, List.map_nil, List.getD_cons_zero, List.getD_cons_succ, List.cons_append, List.nil_append] at hr
        exact hr.drop
      · cases m1 <;> simp at hi
        subst hi
        refine s4 _ a w ?_
        rw [g4]
        refine ih l0 l2 c1 c2 true m2 p q w.heap.size b2 _ _ (by simp at hn ⊢; omega) ho hc1 hc2 ⟨J.obs.put (hmem _ (by simp)) _, fun h => put_other (Ne.symm n4) (J.kl0 h), fun h => put_other (Ne.symm n8) (J.kl2 h), fun h => put_other (Ne.symm n11) (J.kc1 h), fun h => put_other (Ne.symm n13) (J.kc2 h), fun _ => put_same (by rw [hsz]; exact hlt _ (hmem _ (by simp))), fun h => put_other n15 (J.km2 h), ?_⟩
        have hq := J.st.new z1.cells T1
        have hr := St.sh [_, _, _, _] [3, 1, 2, 0] (by decide) hq
        simp only [List.map_cons, List.map_nil, List.getD_cons_zero, List.getD_cons_succ, List.cons_append, List.nil_append] at hr
        exact hr.drop
      · cases m2 <;> simp at hi
        subst hi
        refine s5 _ a w ?_
        rw [g5]
        refine ih l0 l2 c1 c2 m1 true p q b1 w.heap.size _ _ (by simp at hn ⊢; omega) ho hc1 hc2 ⟨J.obs.put (hmem _ (by simp)) _, fun h => put_other (Ne.symm n5) (J.kl0 h), fun h => put_other (Ne.symm n9) (J.kl2 h), fun h => put_other (Ne.symm n12) (J.kc1 h), fun h => put_other (Ne.symm n14) (J.kc2 h), fun h => put_other (Ne.symm n15) (J.km1 h), fun _ => put_same (by rw [hsz]; exact hlt _ (hmem _ (by simp))), ?_⟩
        have hq := J.st.new z2.cells T2
        have hr := St.sh [_, _, _, _, _] [4, 1, 2, 3, 0] (by decide) hq
        simp only [List.map_cons, List.map_nil, List.getD_cons_zero, List.getD_cons_succ, List.cons_append, List.nil_append] at hr
        exact hr.drop
      · exfalso
        cases c2 <;> cases m1 <;> cases m2 <;> simp at hi
        have hx := hc2 rfl
        have hy := hc1 hx.1
        rw [hx.1, hx.2, hy] at hn
        simp at hn
end
end Go.K
