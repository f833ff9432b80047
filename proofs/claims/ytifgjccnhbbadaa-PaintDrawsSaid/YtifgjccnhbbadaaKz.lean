/-
  Objects that lie apart, as the invariant of a loop over a function.
-/
import Derived.Test.YtifgjccnhbbadaaKp
import Derived.RangeFuncNested
import Derived.OwnWalkIn
set_option linter.unusedVariables false
namespace Go.K
open Go.RowKit

/-- an object whose blocks are cells -/
def As.co (A : As) : Prop := ∀ w F k, A.holds w F → F k → ∃ o : Obj, w.heap[k]? = some o ∧ o.isCells = true
theorem As.cells_co (b : Nat) (cs : Array Value) (t : TypeId) : (As.cells b cs t).co := fun w F k h hk => ⟨_, (h.1 k).1 hk ▸ h.2, rfl⟩
theorem As.row_co (e : TypeId) (sz : Nat) (s : Option Addr) (n c : Nat) (xs : List Value) : (As.row e sz s n c xs).co := by
  intro w F k h hk
  have hr := (h.1 k).1 hk
  rcases h.2.row with q | ⟨g, off, cur, rfl, hb, r⟩
  · rw [q.1] at hr; cases hr
  · simp only [rowOf_some, Option.some.injEq] at hr
    subst hr
    exact ⟨_, hb, rfl⟩
theorem As.ex_co {α : Type} {f : α → As} (h : ∀ x, (f x).co) : (As.ex f).co := fun w F k ⟨x, hx⟩ hk => h x w F k hx hk
theorem Sep.co : ∀ {L : List As} {w : World} {F : Fp}, (∀ A ∈ L, A.co) → Sep L w F → ∀ k, F k → ∃ o : Obj, w.heap[k]? = some o ∧ o.isCells = true
  | [], w, F, _, h, k, hk => (h k hk).elim
  | A :: L, w, F, hc, h, k, hk => by
    obtain ⟨F1, F2, h1, h2, h4, _⟩ := h
    rcases (h4 k).1 hk with q | q
    · exact hc A (by simp) w F1 k h1 q
    · exact Sep.co (fun B hB => hc B (by simp [hB])) h2 k q

theorem st_own {β : Type} {w0 : World} {L : β → List As} (hco : ∀ s, ∀ A ∈ L s, A.co) {B : Nat} (hB : w0.heap.size ≤ B) : OwnFrom B (fun s W => St w0 W (L s)) := by
  intro s W W' row hs hg hr
  obtain ⟨F, hF, hF2⟩ := hs.sep
  have hne : ∀ k, F k → some k ≠ row := by
    intro k hk e
    obtain ⟨o, h1, h2⟩ := Sep.co (hco s) hF k hk
    obtain ⟨_, o', h3, h4⟩ := hr k e.symm
    rw [h1] at h3
    cases h3
    rw [h2] at h4
    cases h4
  have hb := hs.bel
  refine ⟨⟨hg.os.trans hb.os, hg.tape.trans hb.tape, hg.output.trans hb.output, Nat.le_trans hb.size hg.size, fun k hk => (hg.block k (by have := hb.size; omega) (fun e => by have := (hr k e.symm).1; omega)).trans (hb.block k hk)⟩, F, hF.keep (fun k hk => hg.block k (hF.lt k hk) (hne k hk)), hF2⟩
theorem blk_own {β : Type} (b : Nat) (cs : β → Array Value) (t : TypeId) (B : Nat) : OwnFrom B (fun s W => Blk W b (cs s) t) := by
  intro s W W' row hs hg hr
  refine (hg.block b hs.lt (fun e => ?_)).trans hs
  obtain ⟨_, o, h1, h2⟩ := hr b e.symm
  rw [show W.heap[b]? = _ from hs] at h1
  cases h1
  cases h2
theorem keepsFrom_below {W W' : World} (h : Below W.heap.size W W') (B : Nat) : KeepsFrom B W W' :=
  ⟨h.size, fun k o _ hk _ => (h.block k (Array.getElem?_eq_some_iff.1 hk).1).trans hk⟩
theorem keepsFrom_fr {S : Nat → Prop} {W W' : World} (h : Fr S W W') (hS : ∀ k, k < W.heap.size → S k → ∃ o : Obj, W.heap[k]? = some o ∧ o.isCells = true) (B : Nat) : KeepsFrom B W W' := by
  refine ⟨h.size, fun k o _ hk ho => (h.block k (Array.getElem?_eq_some_iff.1 hk).1 (fun e => ?_)).trans hk⟩
  obtain ⟨o', h1, h2⟩ := hS k (Array.getElem?_eq_some_iff.1 hk).1 e
  rw [hk] at h1
  cases h1
  rw [ho] at h2
  cases h2
theorem below_fr {S : Nat → Prop} {W W' : World} {n : Nat} (h : Fr S W W') (hn : n ≤ W.heap.size) (hS : ∀ k, S k → n ≤ k) : Below n W W' := h.below hn (fun k _ hk => hS k hk)
theorem kf_sets {W : World} {b b2 : Nat} {cs cs2 : Array Value} {t t2 : TypeId} (h : Blk W b cs t) (h2 : Blk W b2 cs2 t2) (vs : List Value) (v : Value) (B : Nat) : KeepsFrom B W ((W.setCells b 0 vs).setCell ⟨b2, 0, none⟩ v) := by
  refine keepsFrom_fr (S := fun k => k = b ∨ k = b2) ((Fr.setCells W b 0 vs (.inl rfl)).setCell (fun _ => .inr rfl) v) ?_ B
  rintro k _ (rfl | rfl)
  · exact ⟨_, h, rfl⟩
  · exact ⟨_, h2, rfl⟩
theorem st_put {w0 W : World} {L : List As} (hco : ∀ A ∈ L, A.co) (h : St w0 W L) {D : Nat} {o : Obj} (hD : w0.heap.size ≤ D) (hl : W.heap[D]? = some o) (ho : o.isCells = false) (o' : Obj) : St w0 (W.putObj D o') L :=
  (st_own (β := Unit) (L := fun _ => L) (fun _ => hco) (B := w0.heap.size) (Nat.le_refl _)).putObj o' (s := ()) h hD hl ho
theorem wpListIn_append_any {F : Fence} {n0 : Nat} {P : Program} {ops : Array Oper} {rest : List Oper} {o : Oper} {a : Act} {w : World} {Q : Exit → Act → World → Prop} (hgd : o.guard = none) (so x : Operand) (t : TypeId)
    (ho : o.op = .call { callee := .builtin .append, args := #[so, x], argTypes := #[t, t] })
    {e : TypeId} {size bytes : Nat} (El' : El P t e size bytes) (s : Option Addr) (n c : Nat) (xs : List Value) (hse : a.eval so = .slice s n c) (hs : Sl w e size s n c xs)
    (s2 : Option Addr) (m c2 : Nat) (news : List Value) (hx : a.eval x = .slice s2 m c2) (hr : Rd w size s2 m news) (h63 : n + m ≤ 4294967297) (hb : bytes ≤ 16384)
    (h : ∀ s' c' w', Sl w' e size s' (n + m) c' (xs ++ news) → Fr (fun k => rowOf s = some k) w w' → NewOr w (rowOf s) (rowOf s') → wpListIn F n0 P ops Q rest (a.put o.dst (.slice s' (n + m) c')) w') : wpListIn F n0 P ops Q (o :: rest) a w := by
  refine wpListIn_plain hgd fun K hK' => ?_
  obtain ⟨s', c', w', hrun, r1, r2, r3⟩ := run_append_any El' o.type hs s2 m c2 news hr h63 hb
  unfold Oper.wpIn
  refine ⟨?_, ?_⟩
  · simp [Oper.about, ho, resolve, Target.leads, Sem.run_pure]
  · rw [Oper.semAt_plain F _ _ (by rw [ho]; intro c hc'; cases hc')]
    simp [execOp, ho, resolve, invoke, builtin, hse, hx, hrun, Result.andThen]
    exact hK' _ _ (h s' c' w' r1 r2 r3)
/-- the row at the head: its block is cells, new, and none of the other blocks -/
theorem St.row_blk {w0 W : World} {L : List As} {e : TypeId} {sz : Nat} {s : Option Addr} {n c : Nat} {xs : List Value} (h : St w0 W (As.row e sz s n c xs :: L)) :
    ∀ k, rowOf s = some k → (∃ o : Obj, W.heap[k]? = some o ∧ o.isCells = true) ∧ w0.heap.size ≤ k ∧ ∀ b cs t, As.cells b cs t ∈ L → b ≠ k := by
  intro k hk
  obtain ⟨F, ⟨F1, F2, h1, h2, h3, h4⟩, h5⟩ := h.sep
  have hF1 := (h1.1 k).2 hk
  refine ⟨As.row_co e sz s n c xs W F1 k h1 hF1, h5 k ((h3 k).2 (.inl hF1)), ?_⟩
  rintro b cs t hm rfl
  obtain ⟨G, g1, g2⟩ := Sep.memF L W F2 _ h2 hm
  exact h4 b hF1 (g2 b ((g1.1 b).2 rfl))
end Go.K
