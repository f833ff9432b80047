/-
  Blocks loaded and stored whole, at a fence (loops over functions); what a round keeps when it writes the caller's own blocks alone.
-/
import Derived.Test.YtifgjccnhbbadaaKz
import Derived.Test.YtifgjccnhbbadaaKb
import Derived.RangeFuncBound
import Derived.RangeFuncLeaves
import Derived.OwnWalkIn
import Derived.TacticsInMore
set_option linter.unusedVariables false
set_option linter.unusedSimpArgs false
namespace Go.K
open Go.RowKit

/-- a round keeps all cells but those of the blocks S -/
structure CK (S : Nat → Prop) (W W' : World) : Prop where
  size : W.heap.size ≤ W'.heap.size
  keep : ∀ (k : Nat) (o : Obj), W.heap[k]? = some o → o.isCells = true → ¬ S k → W'.heap[k]? = some o
theorem CK.refl (S : Nat → Prop) (W : World) : CK S W W := ⟨Nat.le_refl _, fun _ _ h _ _ => h⟩
theorem CK.trans {S : Nat → Prop} {A B C : World} (h : CK S A B) (k : CK S B C) : CK S A C := ⟨Nat.le_trans h.size k.size, fun i o h1 h2 h3 => k.keep i o (h.keep i o h1 h2 h3) h2 h3⟩
theorem CK.below {S : Nat → Prop} {A B : World} (h : Below A.heap.size A B) : CK S A B := ⟨h.size, fun k o h1 _ _ => (h.block k (Array.getElem?_eq_some_iff.1 h1).1).trans h1⟩
theorem CK.of_fr {S S' : Nat → Prop} {A B : World} (h : Fr S A B) (hS : ∀ k, S k → S' k) : CK S' A B := ⟨h.size, fun k o h1 _ h3 => (h.block k (Array.getElem?_eq_some_iff.1 h1).1 (fun q => h3 (hS k q))).trans h1⟩
theorem CK.blk {S : Nat → Prop} {A B : World} (h : CK S A B) {b : Nat} {cs : Array Value} {t : TypeId} (hb : Blk A b cs t) (hS : ¬ S b) : Blk B b cs t := h.keep b _ hb rfl hS
theorem ck_b {S : Nat → Prop} (W : World) (l : Nat) (o o' : Obj) (h1 : W.heap[l]? = some o) (h2 : o.isCells = false) : CK S W (W.putObj l o') :=
  ⟨by simp, fun k ob h3 h4 _ => by
    have hne : k ≠ l := by
      rintro rfl
      rw [h1] at h3
      cases h3
      rw [h2] at h4
      cases h4
    rw [World.putObj_heap_other (by omega)]
    exact h3⟩
theorem cells_of_cell {w : World} {p : Addr} {v : Value} (h : w.cell? p = some v) : ∃ o, w.heap[p.block]? = some o ∧ o.isCells = true := by
  unfold World.cell? at h
  split at h
  · rename_i h1
    exact ⟨_, h1, rfl⟩
  · cases h
theorem grown_of_below {W W' : World} (h : Below W.heap.size W W') : W.grownBy W' none := ⟨h.os, h.tape, h.output, h.size, fun k hk _ => h.block k hk⟩
theorem abides_below {β : Type} {B : Nat} {J : β → World → Prop} (hJ : AbidesFrom B J) {s : β} {W W' : World} (h : J s W) (hb : Below W.heap.size W W') : J s W' := hJ s W W' none h (grown_of_below hb) (fun r e => by cases e)

section
variable {F : Fence} {n0 : Nat} {P : Program} {w0 w : World} {L : List As} {ops : Array Oper} {rest : List Oper} {op : Oper} {a : Act} {Q : Exit → Act → World → Prop}
theorem rg_load_in {b o sz : Nat} {t : TypeId} (hgd : op.guard = none) (x : Operand) (ho : op.op = .load t x)
    (cells : List Value) (H : w.rangeAt b o cells) (hx : a.eval x = .pointer (some ⟨b, o, none⟩)) (hl : cells.length = sz) {d : TypeDesc} (hu : P.underlying t = some d) (hd : d.isRow = true) (hi : (P.info? t).map (·.size) = some sz)
    (h : wpListIn F n0 P ops Q rest (a.put op.dst (.agg cells.toArray)) w) : wpListIn F n0 P ops Q (op :: rest) a w := by
  refine wpListIn_plain hgd fun K hK' => ?_
  unfold Oper.wpIn
  refine ⟨?_, ?_⟩
  · simp [Oper.about, ho]
  · rw [Oper.semAt_plain F _ _ (by rw [ho]; intro c hc'; cases hc')]
    simp only [execOp, ho, hx, run_loadAt_mid w b o t cells d H hu hd (by rw [hi, hl]), Sem.run_bind, Sem.run_pure, Result.andThen_ok]
    exact hK' _ _ h
theorem st_store_in {b sz : Nat} {cs : Array Value} {t : TypeId} (hgd : op.guard = none) (x y : Operand) (ho : op.op = .store t x y)
    (H : St w0 w (As.cells b cs t :: L)) (cells : List Value) (hx : a.eval x = .pointer (some ⟨b, 0, none⟩)) (hy : a.eval y = .agg cells.toArray) (hcs : cs.size = sz) (hl : cells.length = sz) (hi : (P.info? t).map (·.size) = some sz) (h1 : ∀ v ∈ cells, v.oneCell' = true)
    (h : ∀ W, St w0 W (As.cells b cells.toArray t :: L) → Fr (fun k => k = b) w W → wpListIn F n0 P ops Q rest (a.put op.dst undef) W) : wpListIn F n0 P ops Q (op :: rest) a w := by
  refine wpListIn_plain hgd fun K hK' => ?_
  unfold Oper.wpIn
  refine ⟨?_, ?_⟩
  · simp [Oper.about, ho]
  · rw [Oper.semAt_plain F _ _ (by rw [ho]; intro c hc'; cases hc')]
    have ht : w.there b 0 cells.toArray.size := by
      intro j hj
      rw [Nat.zero_add, H.cell j]
      refine ⟨?_, H.free j⟩
      have : j < cs.size := by simp at hj; omega
      simp [this]
    have hr := run_storeAt_mid (P := P) w b 0 t cells.toArray ht (by simpa [hl] using hi) (Array.all_eq_true_iff_forall_mem.2 (fun v hv => h1 v (by simpa using hv)))
    simp only [execOp, ho, hx, hy, hr, Sem.run_bind, Sem.run_pure, Result.andThen_ok]
    exact hK' _ _ (h _ (H.set_all cells (by omega)) (Fr.setCells w b 0 cells rfl))
theorem bw_store_in {b sz m : Nat} {cs : Array Value} {t : TypeId} (hgd : op.guard = none) (x y : Operand) (ho : op.op = .store t x y)
    (hb : Below m w0 w) (hm0 : m ≤ w0.heap.size) (hm : m ≤ b) (H : Blk w b cs t) (cells : List Value) (hx : a.eval x = .pointer (some ⟨b, 0, none⟩)) (hy : a.eval y = .agg cells.toArray) (hcs : cs.size = sz) (hl : cells.length = sz) (hi : (P.info? t).map (·.size) = some sz) (h1 : ∀ v ∈ cells, v.oneCell' = true)
    (h : ∀ W, Below m w0 W → Blk W b cells.toArray t → Fr (fun k => k = b) w W → wpListIn F n0 P ops Q rest (a.put op.dst undef) W) : wpListIn F n0 P ops Q (op :: rest) a w := by
  refine wpListIn_plain hgd fun K hK' => ?_
  unfold Oper.wpIn
  refine ⟨?_, ?_⟩
  · simp [Oper.about, ho]
  · rw [Oper.semAt_plain F _ _ (by rw [ho]; intro c hc'; cases hc')]
    have ht : w.there b 0 cells.toArray.size := by
      intro j hj
      rw [Nat.zero_add, H.cell j]
      refine ⟨?_, H.free j⟩
      have : j < cs.size := by simp at hj; omega
      simp [this]
    have hr := run_storeAt_mid (P := P) w b 0 t cells.toArray ht (by simpa [hl] using hi) (Array.all_eq_true_iff_forall_mem.2 (fun v hv => h1 v (by simpa using hv)))
    simp only [execOp, ho, hx, hy, hr, Sem.run_bind, Sem.run_pure, Result.andThen_ok]
    have hf : Fr (fun k => k = b) w (w.setCells b 0 cells) := Fr.setCells w b 0 cells rfl
    exact hK' _ _ (h _ (bel_by hb hf hm0 (fun k q => by omega)) (H.setCells_all cells (by omega)) hf)
end
end Go.K
