/-
  Blocks that are loaded and stored whole; slices that are built of one value; appends of one value.
-/
import Derived.Test.YtldembadjgibjaaGreatDoorKo
import Derived.Deep.MidRow
import Derived.ProofKit
set_option linter.unusedVariables false
set_option linter.unusedSimpArgs false
namespace Go.K
open Go.RowKit

theorem Blk.setCells_all {w : World} {b : Nat} {cs : Array Value} {t : TypeId} (h : Blk w b cs t) (vs : List Value) (hl : vs.length = cs.size) : Blk (w.setCells b 0 vs) b vs.toArray t := by
  have : ∀ (vs : List Value) (k : Nat) (w : World) (cs : Array Value), Blk w b cs t → k + vs.length = cs.size → Blk (w.setCells b k vs) b (cs.toList.take k ++ vs).toArray t := by
    intro vs
    induction vs with
    | nil =>
      intro k w cs h hk
      have : cs.toList.take k ++ [] = cs.toList := by
        rw [List.append_nil, List.take_of_length_le]; simp at hk ⊢; omega
      rw [this]; simpa [World.setCells] using h
    | cons v vs ih =>
      intro k w cs h hk
      simp only [List.length_cons] at hk
      have h1 := h.set k v
      have h2 := ih (k + 1) _ _ h1 (by simp; omega)
      have e : (cs.setIfInBounds k v).toList.take (k + 1) ++ vs = cs.toList.take k ++ v :: vs := by
        rw [Array.toList_setIfInBounds, List.take_succ_eq_append_getElem (by simp; omega), List.take_set_of_le (Nat.le_refl _)]
        simp
      rw [e] at h2
      simpa [World.setCells] using h2
  have h1 := this vs 0 w cs h (by omega)
  simpa using h1
theorem St.set_all {w0 w : World} {L : List As} {b : Nat} {cs : Array Value} {t : TypeId} (h : St w0 w (As.cells b cs t :: L)) (vs : List Value) (hl : vs.length = cs.size) : St w0 (w.setCells b 0 vs) (As.cells b vs.toArray t :: L) := by
  obtain ⟨F, h1, _, h3⟩ := h.head
  exact h3 _ F _ ⟨h1.1, h1.2.setCells_all vs hl⟩ ⟨Fr.setCells _ _ _ _ ((h1.1 b).2 rfl), fun k hk => .inl hk⟩
theorem Blk.range {w : World} {b : Nat} {cs : List Value} {t : TypeId} (h : Blk w b cs.toArray t) : w.rangeAt b 0 cs := fun j v hv => by
  rw [Nat.zero_add, h.cell j]
  simpa using hv

section
variable {P : Program} {w0 w : World} {L : List As} {ops : Array Oper} {rest : List Oper} {op : Oper} {a : Act} {Q : Exit → Act → World → Prop}
theorem st_store {b sz : Nat} {cs : Array Value} {t : TypeId} (hgd : op.guard = none) (x y : Operand) (ho : op.op = .store t x y)
    (H : St w0 w (As.cells b cs t :: L)) (cells : List Value) (hx : a.eval x = .pointer (some ⟨b, 0, none⟩)) (hy : a.eval y = .agg cells.toArray) (hcs : cs.size = sz) (hl : cells.length = sz) (hi : (P.info? t).map (·.size) = some sz) (h1 : ∀ v ∈ cells, v.oneCell' = true)
    (h : ∀ W, St w0 W (As.cells b cells.toArray t :: L) → wpList P ops Q rest (a.put op.dst undef) W) : wpList P ops Q (op :: rest) a w := by
  refine wpList_store_mid hgd t x y ho b 0 cells.toArray hx hy ?_ (by simpa [hl] using hi) (Array.all_eq_true_iff_forall_mem.2 (fun v hv => h1 v (by simpa using hv))) ?_
  · intro j hj
    rw [Nat.zero_add, H.cell j]
    refine ⟨?_, H.free j⟩
    have : j < cs.size := by simp at hj; omega
    simp [this]
  · exact h _ (H.set_all cells (by omega))
theorem st_load {b sz : Nat} {t : TypeId} (hgd : op.guard = none) (x : Operand) (ho : op.op = .load t x)
    (cells : List Value) (H : St w0 w L) (hm : As.cells b cells.toArray t ∈ L) (hx : a.eval x = .pointer (some ⟨b, 0, none⟩)) (hl : cells.length = sz) {d : TypeDesc} (hu : P.underlying t = some d) (hd : d.isRow = true) (hi : (P.info? t).map (·.size) = some sz)
    (h : wpList P ops Q rest (a.put op.dst (.agg cells.toArray)) w) : wpList P ops Q (op :: rest) a w :=
  wpList_load_mid hgd t x ho b 0 hx cells d (H.blkm hm).range hu hd (by rw [hi, hl]) h
/-- a range of a block that is loaded whole -/
theorem rg_load {b o sz : Nat} {t : TypeId} (hgd : op.guard = none) (x : Operand) (ho : op.op = .load t x)
    (cells : List Value) (H : w.rangeAt b o cells) (hx : a.eval x = .pointer (some ⟨b, o, none⟩)) (hl : cells.length = sz) {d : TypeDesc} (hu : P.underlying t = some d) (hd : d.isRow = true) (hi : (P.info? t).map (·.size) = some sz)
    (h : wpList P ops Q rest (a.put op.dst (.agg cells.toArray)) w) : wpList P ops Q (op :: rest) a w :=
  wpList_load_mid hgd t x ho b o hx cells d H hu hd (by rw [hi, hl]) h

theorem fold_zip : ∀ (l : List Value) (k : Nat) (base : Array Value), k + l.length ≤ base.size → (l.zipIdx k).foldl (fun cs p => cs.setIfInBounds p.2 p.1) base = (base.toList.take k ++ l ++ base.toList.drop (k + l.length)).toArray
  | [], k, base, h => by simp
  | v :: l, k, base, h => by
    simp only [List.length_cons] at h
    rw [List.zipIdx_cons, List.foldl_cons, fold_zip l (k + 1) _ (by simp; omega)]
    congr 1
    rw [Array.toList_setIfInBounds, List.take_succ_eq_append_getElem (by simp; omega), List.take_set_of_le (Nat.le_refl _), List.drop_set_of_lt (by omega), List.length_cons]
    simp [Nat.add_assoc, Nat.add_comm 1]
theorem run_build1 {t e : TypeId} {n : Nat} (ht : P.underlying t = some (.slice e)) {z : Array Value} (hz : ∀ w, (zeroValue e).run P w = .ok (.agg z) w) (hs : ∀ w, (sizeOf e).run P w = .ok n w) (hn : 0 < n) (hm : n ≤ 10000) (cells : Array Value) (hc : cells.size = n) (w : World) :
    (Instr.buildSlice t 1 #[(0, .agg cells)]).run P w = .ok (.slice (some ⟨w.heap.size, 0, none⟩) 1 1) (w.alloc (.cells cells e)) := by
  have hf : ∀ (base : Array Value), base.size = n → Instr.fill (fun i => some (i * n, n)) base [(0, .agg cells)] = some cells := by
    intro base hb
    have h1 : ((Value.agg cells).cells.zipIdx.foldl (fun cs (c, j) => cs.setIfInBounds (0 * n + j) c) base) = cells := by
      have h2 := fold_zip cells.toList 0 base (by simp; omega)
      rw [← Array.foldl_toList, Array.toList_zipIdx]
      simp only [Nat.zero_mul, Nat.zero_add, Value.cells] at h2 ⊢
      rw [h2, List.take_zero, List.nil_append, List.drop_of_length_le (by simp; omega), List.append_nil]
    have hg : ¬ (((Value.agg cells).cells.size ≠ n || 0 * n + (Value.agg cells).cells.size > base.size) = true) := by
      simp [Value.cells, hc, hb]
    simp only [Instr.fill, if_neg hg]
    rw [h1]
  simp only [Instr.buildSlice, Sem.run_bind, run_underlying ht w, Result.andThen_ok, hs]
  have h24 : ¬ 1 * n > 2 ^ 24 := by omega
  have h0 : ¬ 1 * n = 0 := by omega
  simp only [if_neg h24, if_neg h0, Sem.run_bind, hz, Result.andThen_ok, Sem.run_pure, Value.cells]
  rw [hf _ (by simp)]
  simp only [newRow, Sem.run_bind, run_newObj_alloc, Sem.run_pure, Result.andThen_ok]
theorem st_build {t e : TypeId} {n : Nat} (hgd : op.guard = none) (x : Operand) (ho : op.op = .buildSlice t 1 #[(0, x)]) (H : St w0 w L) (ht : P.underlying t = some (.slice e)) {z : Array Value} (hz : ∀ w, (zeroValue e).run P w = .ok (.agg z) w) (hs : ∀ w, (sizeOf e).run P w = .ok n w) (hn : 0 < n) (hm : n ≤ 10000) (cells : Array Value) (hc : cells.size = n)
    (hx : a.eval x = .agg cells) (h : ∀ W g, St w0 W L → Blk W g cells e → wpList P ops Q rest (a.put op.dst (.slice (some ⟨g, 0, none⟩) 1 1)) W) : wpList P ops Q (op :: rest) a w := by
  refine wpList_plain hgd fun K hK' => ?_
  unfold Oper.wp
  unfold execOp
  simp only [ho, List.map_toArray, List.map_cons, List.map_nil, hx, run_build1 ht hz hs hn hm cells hc w, Result.andThen_ok, Sem.run_bind, Sem.run_pure]
  exact hK' _ _ (h _ w.heap.size (H.alloc _) (Blk.new w cells e))
theorem fold_zip_off (off : Nat) : ∀ (l : List Value) (k : Nat) (base : Array Value), off + k + l.length ≤ base.size → (l.zipIdx k).foldl (fun cs p => cs.setIfInBounds (off + p.2) p.1) base = (base.toList.take (off + k) ++ l ++ base.toList.drop (off + k + l.length)).toArray
  | [], k, base, h => by simp
  | v :: l, k, base, h => by
    simp only [List.length_cons] at h
    rw [List.zipIdx_cons, List.foldl_cons, fold_zip_off off l (k + 1) _ (by simp; omega)]
    congr 1
    rw [Array.toList_setIfInBounds, ← Nat.add_assoc, List.take_succ_eq_append_getElem (by simp; omega), List.take_set_of_le (Nat.le_refl _), List.drop_set_of_lt (by omega), List.length_cons]
    simp [Nat.add_assoc, Nat.add_comm 1]
theorem run_build2 {t : TypeId} {f1 f2 : Field} (ht : P.underlying t = some (.struct #[f1, f2])) {z : Array Value} (hz : ∀ w, (zeroValue t).run P w = .ok (.agg z) w) {n1 n2 : Nat} (h1 : ∀ w, (sizeOf f1.type).run P w = .ok n1 w) (h2 : ∀ w, (sizeOf f2.type).run P w = .ok n2 w)
    (ho1 : f1.offset = 0) (ho2 : f2.offset = n1) (hzs : z.size = n1 + n2) (A B : Array Value) (hA : A.size = n1) (hB : B.size = n2) (w : World) :
    (Instr.build t #[(0, .agg A), (1, .agg B)]).run P w = .ok (.agg (A ++ B)) w := by
  have hf : Instr.fill (#[(f1.offset, n1), (f2.offset, n2)][·]?) z [(0, .agg A), (1, .agg B)] = some (A ++ B) := by
    have e1 : (A.zipIdx.foldl (fun cs (c, j) => cs.setIfInBounds (f1.offset + j) c) z) = (A.toList ++ z.toList.drop n1).toArray := by
      have h3 := fold_zip_off f1.offset A.toList 0 z (by simp; omega)
      rw [← Array.foldl_toList, Array.toList_zipIdx, h3]
      simp [ho1, hA]
    have e2 : (B.zipIdx.foldl (fun cs (c, j) => cs.setIfInBounds (f2.offset + j) c) (A.toList ++ z.toList.drop n1).toArray) = A ++ B := by
      have h3 := fold_zip_off f2.offset B.toList 0 (A.toList ++ z.toList.drop n1).toArray (by simp; omega)
      rw [← Array.foldl_toList, Array.toList_zipIdx, h3]
      apply Array.toList_inj.1
      have hd : (A.toList ++ z.toList.drop n1).drop (f2.offset + 0 + B.toList.length) = [] := List.drop_of_length_le (by simp; omega)
      have htk : (A.toList ++ z.toList.drop n1).take (f2.offset + 0) = A.toList := by
        rw [Nat.add_zero, ho2, List.take_append_of_le_length (by simp; omega), List.take_of_length_le (by simp; omega)]
      simp only [List.toList_toArray] at hd htk ⊢
      rw [hd, htk]
      simp
    have g1 : ¬ (((Value.agg A).cells.size ≠ n1 || f1.offset + (Value.agg A).cells.size > z.size) = true) := by simp [Value.cells, hA, ho1, hzs]
    have g2 : ¬ (((Value.agg B).cells.size ≠ n2 || f2.offset + (Value.agg B).cells.size > ((Value.agg A).cells.zipIdx.foldl (fun cs (c, j) => cs.setIfInBounds (f1.offset + j) c) z).size) = true) := by
      rw [show ((Value.agg A).cells.zipIdx.foldl (fun cs (c, j) => cs.setIfInBounds (f1.offset + j) c) z) = _ from e1]
      simp [Value.cells, hB, ho2, hA]; omega
    simp only [Instr.fill, List.getElem?_toArray, List.getElem?_cons_zero, List.getElem?_cons_succ]
    rw [if_neg g1, if_neg g2]
    have e3 : ((Value.agg B).cells.zipIdx.foldl (fun cs (c, j) => cs.setIfInBounds (f2.offset + j) c) ((Value.agg A).cells.zipIdx.foldl (fun cs (c, j) => cs.setIfInBounds (f1.offset + j) c) z)) = A ++ B := by
      rw [show ((Value.agg A).cells.zipIdx.foldl (fun cs (c, j) => cs.setIfInBounds (f1.offset + j) c) z) = _ from e1]
      exact e2
    exact congrArg some e3
  simp only [Instr.build, Sem.run_bind, hz, Result.andThen_ok, run_underlying ht w, Value.cells]
  have hm : (#[f1, f2].mapM (m := Sem) fun f => do pure (f.offset, ← sizeOf f.type)).run P w = .ok #[(f1.offset, n1), (f2.offset, n2)] w := by
    simp [Sem.run_bind, h1, h2]
  rw [hm]
  simp only [Result.andThen_ok]
  rw [hf]
  simp [Sem.run_pure]
theorem st_build2 {t : TypeId} {f1 f2 : Field} (hgd : op.guard = none) (x y : Operand) (ho : op.op = .build t #[(0, x), (1, y)]) (ht : P.underlying t = some (.struct #[f1, f2])) {z : Array Value} (hz : ∀ w, (zeroValue t).run P w = .ok (.agg z) w) {n1 n2 : Nat} (h1 : ∀ w, (sizeOf f1.type).run P w = .ok n1 w) (h2 : ∀ w, (sizeOf f2.type).run P w = .ok n2 w)
    (ho1 : f1.offset = 0) (ho2 : f2.offset = n1) (hzs : z.size = n1 + n2) (A B : Array Value) (hA : A.size = n1) (hB : B.size = n2) (hx : a.eval x = .agg A) (hy : a.eval y = .agg B)
    (h : wpList P ops Q rest (a.put op.dst (.agg (A ++ B))) w) : wpList P ops Q (op :: rest) a w := by
  refine wpList_plain hgd fun K hK' => ?_
  unfold Oper.wp
  unfold execOp
  simp only [ho, List.map_toArray, List.map_cons, List.map_nil, hx, hy, run_build2 ht hz h1 h2 ho1 ho2 hzs A B hA hB w, Result.andThen_ok, Sem.run_bind, Sem.run_pure]
  exact hK' _ _ h
theorem Blk.rd1 {g sz : Nat} {cells : Array Value} {e : TypeId} (h : Blk w g cells e) (hc : cells.size = sz) (h1 : ∀ u ∈ cells.toList, u.oneCell' = true) : Rd w sz (some ⟨g, 0, none⟩) 1 cells.toList :=
  ⟨by simp [hc], h1, (fun q => by cases q), fun ad had j u hu => by
    cases had
    rw [Addr.add_lit, Nat.zero_add, h.cell j]
    simpa using hu⟩
theorem St.cells_row {g sz n : Nat} {cs : Array Value} {e : TypeId} (h : St w0 w (As.cells g cs e :: L)) (hc : cs.size = n * sz) (hn : n ≤ maxLen) (h1 : ∀ u ∈ cs.toList, u.oneCell' = true) : St w0 w (As.row e sz (some ⟨g, 0, none⟩) n n cs.toList :: L) := by
  refine h.to (fun F hF => ⟨fun k => ?_, ⟨by simp [hc], h1, .inr ⟨g, 0, cs, rfl, hF.2, Nat.le_refl _, hn, by omega, ?_⟩⟩⟩)
  · rw [hF.1 k, rowOf_some]
    exact ⟨fun e => by rw [e], fun e => by cases e; rfl⟩
  · rw [List.drop_zero, List.take_of_length_le (by simp [hc])]
theorem st_build_row {t e : TypeId} {n : Nat} (hgd : op.guard = none) (x : Operand) (ho : op.op = .buildSlice t 1 #[(0, x)]) (H : St w0 w L) (ht : P.underlying t = some (.slice e)) {z : Array Value} (hz : ∀ w, (zeroValue e).run P w = .ok (.agg z) w) (hs : ∀ w, (sizeOf e).run P w = .ok n w) (hn : 0 < n) (hm : n ≤ 10000) (cells : Array Value) (hc : cells.size = n)
    (h1 : ∀ u ∈ cells.toList, u.oneCell' = true) (hx : a.eval x = .agg cells) (h : ∀ W g, St w0 W (As.row e n (some ⟨g, 0, none⟩) 1 1 cells.toList :: L) → wpList P ops Q rest (a.put op.dst (.slice (some ⟨g, 0, none⟩) 1 1)) W) : wpList P ops Q (op :: rest) a w := by
  refine wpList_plain hgd fun K hK' => ?_
  unfold Oper.wp
  unfold execOp
  simp only [ho, List.map_toArray, List.map_cons, List.map_nil, hx, run_build1 ht hz hs hn hm cells hc w, Result.andThen_ok, Sem.run_bind, Sem.run_pure]
  exact hK' _ _ (h _ w.heap.size ((H.new cells e).cells_row (by omega) (by simp [maxLen]) h1))
theorem St.own_new {w' : World} {e : TypeId} {sz : Nat} {s : Option Addr} {n c : Nat} {xs : List Value} (h : St w0 w L) (o : Own w w' e sz s n c xs) : St w0 w' (As.row e sz s n c xs :: L) := by
  refine h.row_new o.sl (Fr.of_below o.bel) ?_
  cases hs : rowOf s with
  | none => exact .inl rfl
  | some g => exact .inr ⟨g, rfl, o.row g hs⟩
theorem st_push {t e : TypeId} {sz bytes n c g : Nat} {s : Option Addr} {xs : List Value} (hgd : op.guard = none) (so x : Operand) (ho : op.op = .call { callee := .builtin .append, args := #[so, x], argTypes := #[t, t] }) (E : El P t e sz bytes)
    (H : St w0 w (As.row e sz s n c xs :: L)) (hso : a.eval so = .slice s n c) (cells : Array Value) (hg : Blk w g cells e) (hx : a.eval x = .slice (some ⟨g, 0, none⟩) 1 1) (hc : cells.size = sz) (h1 : ∀ u ∈ cells.toList, u.oneCell' = true) (h63 : n + 1 ≤ 4294967297) (hb : bytes ≤ 16384)
    (h : ∀ s' c' W, St w0 W (As.row e sz s' (n + 1) c' (xs ++ cells.toList) :: L) → wpList P ops Q rest (a.put op.dst (.slice s' (n + 1) c')) W) : wpList P ops Q (op :: rest) a w :=
  wpList_append_any hgd so x t ho E s n c xs hso H.sl _ 1 _ _ hx (hg.rd1 hc h1) h63 hb (fun s' c' w' p1 p2 p3 => h s' c' w' (H.row_step p1 p2 p3))
end

section
variable {P : Program} {ops : Array Oper} {Q : Exit → Act → World → Prop} {S : World → Prop}
/-- one operation alone may come up -/
theorem held_one {i : Nat} {o : Oper} {n : Nat} {l : Array Bool} {a : Act} {w : World} (ho : ops[i]? = some o) (hr : Region.ready .any ops l = [i])
    (h : ∀ K' : Act → World → Prop, (∀ a w, S w ∧ wpAnyH P .any ops Q S n (l.setIfInBounds i true) a w → K' a w) → if Region.wanted o (yielded ops a.tmps) = true then Oper.wp P o a w K' Q else K' (a.put o.dst undef) w) : wpAnyH P .any ops Q S (n + 1) l a w := by
  refine wpAnyH_all hr (by simp) (fun j hj => ?_)
  simp at hj
  subst hj
  exact wpOp_step ho h
/-- a call of a function of the program -/
theorem wp_call_w {o : Oper} {f : FuncId} {fn : Func} {xs : Array Operand} {ts : Array TypeId} {a : Act} {w : World} {K : Act → World → Prop} {R : Ending → World → Prop}
    (hw : Region.wanted o (yielded ops a.tmps) = true) (ho : o.op = .call { callee := .value (.func f), args := xs, argTypes := ts })
    (hf : P.funcs[f]? = some fn) (hn : (fn.name == "runtime.NumGoroutine") = false) (hb : fn.body.isNone = false)
    {args : Array Value} (ha : xs.map a.eval = args) (hc : Calls P f args w R) (hR : ∀ e w', R e w' → ∃ v, e = .returned v ∧ K (a.put o.dst v) w') : if Region.wanted o (yielded ops a.tmps) = true then Oper.wp P o a w K Q else K (a.put o.dst undef) w := by
  subst ha
  rw [if_pos hw]
  unfold Oper.wp
  have hrun : (execOp a.eval o).run P w = .ok (.enter f (xs.map a.eval)) w := by
    unfold execOp
    simp only [ho]
    have h1 : (callFunc f (xs.map a.eval)).run P w = .ok (.enter f (xs.map a.eval)) w := by
      have h1 : fn.name ≠ "runtime.NumGoroutine" := by simpa using hn
      have h2 : fn.body ≠ none := by intro e; rw [e] at hb; cases hb
      simp [callFunc, hf, h1, h2]
    simp [resolve, Deferred.ofValue, Act.eval, invoke] at h1 ⊢
    exact h1
  rw [hrun, Oper.upon_enter]
  refine hc.mono fun e w' h => ?_
  obtain ⟨v, rfl, hk⟩ := hR e w' h
  exact hk
theorem wp_call {o : Oper} {f : FuncId} {fn : Func} {xs : Array Operand} {ts : Array TypeId} {a : Act} {w : World} {K : Act → World → Prop} {R : Ending → World → Prop}
    (hg : o.guard = none) (ho : o.op = .call { callee := .value (.func f), args := xs, argTypes := ts })
    (hf : P.funcs[f]? = some fn) (hn : (fn.name == "runtime.NumGoroutine") = false) (hb : fn.body.isNone = false)
    {args : Array Value} (ha : xs.map a.eval = args) (hc : Calls P f args w R) (hR : ∀ e w', R e w' → ∃ v, e = .returned v ∧ K (a.put o.dst v) w') : if Region.wanted o (yielded ops a.tmps) = true then Oper.wp P o a w K Q else K (a.put o.dst undef) w :=
  wp_call_w (by simp [Region.wanted, hg]) ho hf hn hb ha hc hR
end
end Go.K
