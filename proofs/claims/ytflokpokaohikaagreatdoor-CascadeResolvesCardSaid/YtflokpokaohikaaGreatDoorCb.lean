/-
  CascadeResolves: loads and stores of parts of a struct in memory; a Style of which some cells are known; the methods fonts and colors at an empty map.
-/
import Derived.Test.YtflokpokaohikaaGreatDoorCa
set_option linter.unusedVariables false
set_option linter.unusedSimpArgs false
namespace Go.K
open Go.RowKit
section
variable {P : Program} {w0 w : World} {L : List As} {ops : Array Oper} {rest : List Oper} {op : Oper} {a : Act} {Q : Exit → Act → World → Prop}
/-- one cell of a block is loaded -/
theorem st_ld1 {b o : Nat} {cs : Array Value} {t T : TypeId} {v : Value} (hgd : op.guard = none) (x : Operand) (ho : op.op = .load t x)
    (H : St w0 w L) (hm : As.cells b cs T ∈ L) (hx : a.eval x = .pointer (some ⟨b, o, none⟩)) (hv : cs[o]? = some v) (hag : ∀ w, (isAgg t).run P w = .ok false w)
    (h : wpList P ops Q rest (a.put op.dst v) w) : wpList P ops Q (op :: rest) a w :=
  wpList_plain hgd fun _ hK => by
    have hc := (H.blkm hm).cell o
    rw [hv] at hc
    unfold Oper.wp execOp
    simp only [ho, hx, Instr.loadAt, Instr.sureAddr, Sem.run_bind, Sem.run_pure, Result.andThen_ok, loadVar, hag, run_load, hc, Bool.false_eq_true, if_false]
    exact hK _ _ h
/-- some cells of a block are loaded -/
theorem st_ldn {b o sz : Nat} {cs : Array Value} {t T : TypeId} (hgd : op.guard = none) (x : Operand) (ho : op.op = .load t x)
    (H : St w0 w L) (hm : As.cells b cs T ∈ L) (hx : a.eval x = .pointer (some ⟨b, o, none⟩)) (vs : List Value) (hv : ∀ j v, vs[j]? = some v → cs[o + j]? = some v) (hl : vs.length = sz) {d : TypeDesc} (hu : P.underlying t = some d) (hd : d.isRow = true) (hi : (P.info? t).map (·.size) = some sz)
    (h : wpList P ops Q rest (a.put op.dst (.agg vs.toArray)) w) : wpList P ops Q (op :: rest) a w :=
  rg_load hgd x ho vs (fun j v hj => by rw [(H.blkm hm).cell]; exact hv j v hj) hx hl hu hd hi h
theorem run_storeVar_cells (w : World) (b o : Nat) (ty : TypeId) (v : Value) (cells : Array Value) (hv : v.cells = cells) (ht : w.there b o cells.size) (hi : (P.info? ty).map (·.size) = some cells.size) (h1 : cells.all (·.oneCell') = true) :
    (storeVar ty ⟨b, o, none⟩ v).run P w = .ok () (w.setCells b o cells.toList) := by
  have := run_storeVar_mid (P := P) w b o ty cells ht hi h1
  unfold storeVar at this ⊢
  rw [hv]
  exact this
end
/-- a struct in memory of which the cells K are known -/
def As.sty (n : Nat) (T : TypeId) (b : Nat) (K : List (Nat × Value)) : As :=
  As.ex fun cs : { cs : Array Value // cs.size = n ∧ (∀ v ∈ cs, v.oneCell' = true) ∧ ∀ p ∈ K, cs[p.1]? = some p.2 } => As.cells b cs.1 T
theorem splice_one : ∀ (vs : List Value) (o : Nat) (cs : Array Value), (∀ v ∈ cs, v.oneCell' = true) → (∀ v ∈ vs, v.oneCell' = true) → ∀ v ∈ splice cs o vs, v.oneCell' = true
  | [], _, _, h, _ => h
  | x :: r, o, cs, h, h1 => by
    rw [splice]
    refine splice_one r (o + 1) _ (fun v hv => ?_) (fun v hv => h1 v (.tail _ hv))
    rcases Array.mem_or_eq_of_mem_setIfInBounds hv with q | q
    · exact h v q
    · rw [q]; exact h1 x (.head _)
section
variable {P : Program} {w0 w : World} {L : List As} {ops : Array Oper} {rest : List Oper} {op : Oper} {a : Act} {Q : Exit → Act → World → Prop}
theorem St.sty_blk {n b : Nat} {T : TypeId} {K : List (Nat × Value)} (H : St w0 w L) (hm : As.sty n T b K ∈ L) : ∃ cs : Array Value, cs.size = n ∧ (∀ v ∈ cs, v.oneCell' = true) ∧ (∀ p ∈ K, cs[p.1]? = some p.2) ∧ Blk w b cs T := by
  obtain ⟨G, cs, h⟩ := H.mem hm
  exact ⟨cs.1, cs.2.1, cs.2.2.1, cs.2.2.2, h.2⟩
theorem St.sty_set {n b o : Nat} {T : TypeId} {K K' : List (Nat × Value)} (H : St w0 w (As.sty n T b K :: L)) (vs : List Value) (hb : o + vs.length ≤ n) (h1 : ∀ v ∈ vs, v.oneCell' = true)
    (hK : ∀ p ∈ K', (p ∈ K ∧ (p.1 < o ∨ o + vs.length ≤ p.1)) ∨ ∃ j, p.1 = o + j ∧ vs[j]? = some p.2) : St w0 (w.setCells b o vs) (As.sty n T b K' :: L) := by
  obtain ⟨⟨cs, hs, hc, hk⟩, H⟩ := H.open_ex
  obtain ⟨F, ⟨hF, hB⟩, hn, hst⟩ := H.head
  refine (hst _ F (As.cells b (splice cs o vs) T) ⟨hF, hB.setCells vs o w cs⟩ ⟨Fr.setCells w b o vs ((hF b).2 rfl), fun k hk => .inl hk⟩).shut_ex ⟨splice cs o vs, by rw [splice_size]; exact hs, splice_one vs o cs hc h1, fun p hp => ?_⟩
  rcases hK p hp with ⟨q1, q2⟩ | ⟨j, q1, q2⟩
  · rw [splice_out vs o cs p.1 q2]; exact hk p q1
  · rw [q1, splice_in vs o cs j (by omega) (by have := List.getElem?_eq_some_iff.1 q2; exact this.1)]; exact q2
theorem St.sty_there {n b o m : Nat} {T : TypeId} {K : List (Nat × Value)} (H : St w0 w (As.sty n T b K :: L)) (hb : o + m ≤ n) : w.there b o m := fun j hj => by
  obtain ⟨cs, hs, -, -, hB⟩ := H.sty_blk (.head _)
  refine ⟨?_, hB.free _⟩
  rw [hB.cell, Array.getElem?_eq_getElem (by omega)]
  rfl
/-- a store into a struct -/
theorem st_put {n b o : Nat} {t T : TypeId} {K K' : List (Nat × Value)} (hgd : op.guard = none) (x y : Operand) (ho : op.op = .store t x y)
    (H : St w0 w (As.sty n T b K :: L)) (hx : a.eval x = .pointer (some ⟨b, o, none⟩)) (v : Value) (hy : a.eval y = v) (vs : List Value) (hv : v.cells = vs.toArray) (hb : o + vs.length ≤ n) (hi : (P.info? t).map (·.size) = some vs.length) (h1 : ∀ v ∈ vs, v.oneCell' = true)
    (hK : ∀ p ∈ K', (p ∈ K ∧ (p.1 < o ∨ o + vs.length ≤ p.1)) ∨ ∃ j, p.1 = o + j ∧ vs[j]? = some p.2)
    (h : ∀ W, St w0 W (As.sty n T b K' :: L) → wpList P ops Q rest (a.put op.dst undef) W) : wpList P ops Q (op :: rest) a w :=
  wpList_plain hgd fun _ hK' => by
    unfold Oper.wp execOp
    simp only [ho, hx, hy, Instr.storeAt, Instr.sureAddr, Sem.run_bind, Sem.run_pure, Result.andThen_ok, run_storeVar_cells w b o t v vs.toArray hv (H.sty_there (by simpa using hb)) (by simpa using hi) (Array.all_eq_true_iff_forall_mem.2 (fun v hv => h1 v (by simpa using hv)))]
    exact hK' _ _ (h _ (H.sty_set vs hb h1 hK))
/-- a known cell of a struct is loaded -/
theorem st_get {n b o : Nat} {t T : TypeId} {K : List (Nat × Value)} {v : Value} (hgd : op.guard = none) (x : Operand) (ho : op.op = .load t x)
    (H : St w0 w L) (hm : As.sty n T b K ∈ L) (hx : a.eval x = .pointer (some ⟨b, o, none⟩)) (hv : (o, v) ∈ K) (hag : ∀ w, (isAgg t).run P w = .ok false w)
    (h : wpList P ops Q rest (a.put op.dst v) w) : wpList P ops Q (op :: rest) a w :=
  wpList_plain hgd fun _ hK => by
    obtain ⟨cs, -, -, hk, hB⟩ := H.sty_blk hm
    have hc := hB.cell o
    rw [hk _ hv] at hc
    unfold Oper.wp execOp
    simp only [ho, hx, Instr.loadAt, Instr.sureAddr, Sem.run_bind, Sem.run_pure, Result.andThen_ok, loadVar, hag, run_load, hc, Bool.false_eq_true, if_false]
    exact hK _ _ h
end
end Go.K
namespace Go.Proofs.YtflokpokaohikaaGreatDoor
open Go.RowKit Go.K Go.Maps
/-- the style of no parent -/
def pst : List Value := (List.replicate 34 (.int .i64 0)) ++ [.string ⟨#[]⟩, .string ⟨#[35, 48, 48, 48, 48, 48, 48]⟩, .string ⟨#[]⟩, .int .i64 16, .int .i64 20] ++ List.replicate 4 (.int .i64 0) ++ [.bool false] ++ List.replicate 6 (.int .i64 0) ++ [.bool false, .int .i64 0, .int .i64 0]
theorem psz : pst.length = 53 := rfl
def cmp (bc bm : Nat) : As := As.sty 2 40 bc [(0, .map (some bm))]
/-- an empty map -/
def As.mp0 (b : Nat) : As where
  holds w F := (∀ k, F k ↔ k = b) ∧ w.heap[b]? = some (.map #[] 0)
  keep h hk := ⟨h.1, (hk b ((h.1 b).2 rfl)).trans h.2⟩
  lt h k hk := by rw [(h.1 k).1 hk]; exact lt_of_block h.2
theorem Comp.of {w0 w : World} {L : List As} {bc bm : Nat} (h : St w0 w L) (h1 : cmp bc bm ∈ L) (h2 : As.mp0 bm ∈ L) : Comp w bc bm := by
  obtain ⟨cs, -, -, hk, hB⟩ := h.sty_blk (n := 2) (T := 40) (K := [(0, .map (some bm))]) h1
  obtain ⟨G, -, hm⟩ := h.mem h2
  exact ⟨by rw [hB.cell]; exact hk _ (.head _), hm⟩
theorem size3 : (Tryz.prog.info? 3).map (·.size) = some 1 := by kernel_rfl
theorem size9 : (Tryz.prog.info? 9).map (·.size) = some 1 := by kernel_rfl
theorem size4 : (Tryz.prog.info? 4).map (·.size) = some 1 := by kernel_rfl
end Go.Proofs.YtflokpokaohikaaGreatDoor
