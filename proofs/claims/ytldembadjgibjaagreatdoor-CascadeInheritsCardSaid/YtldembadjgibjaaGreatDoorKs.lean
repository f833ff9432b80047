/-
  Objects in memory, each with the blocks that are its own: a list of objects that lie apart (St), steps of one of them, new ones, and what they keep.
-/
import Derived.Test.YtldembadjgibjaaGreatDoorKl
set_option linter.unusedVariables false
namespace Go.K
open Go.RowKit

abbrev Fp := Nat → Prop

/-- only the blocks of F were written; F' holds blocks of F and new ones -/
structure Step (F F' : Fp) (w w' : World) : Prop where
  fr : Fr F w w'
  new : ∀ k, F' k → F k ∨ w.heap.size ≤ k

/-- an object: what holds of a world and of the object's own blocks -/
structure As where
  holds : World → Fp → Prop
  keep : ∀ {w w' : World} {F : Fp}, holds w F → (∀ k, F k → w'.heap[k]? = w.heap[k]?) → holds w' F
  lt : ∀ {w : World} {F : Fp}, holds w F → ∀ k, F k → k < w.heap.size

theorem Step.refl (F : Fp) (w : World) : Step F F w w := ⟨Fr.refl _ _, fun _ h => .inl h⟩
theorem Step.trans {F F1 F2 : Fp} {w w1 w2 : World} (h : Step F F1 w w1) (k : Step F1 F2 w1 w2) : Step F F2 w w2 :=
  ⟨⟨k.fr.os.trans h.fr.os, k.fr.tape.trans h.fr.tape, k.fr.output.trans h.fr.output, Nat.le_trans h.fr.size k.fr.size, fun i hi hn => by
    have := h.fr.size
    refine (k.fr.block i (by omega) (fun e => ?_)).trans (h.fr.block i hi hn)
    rcases h.new i e with q | q
    · exact hn q
    · omega⟩, fun i hi => by
    have := h.fr.size
    rcases k.new i hi with q | q
    · exact h.new i q
    · exact .inr (by omega)⟩

def emp' : Fp := fun _ => False
theorem Step.of_fr {F F' : Fp} {w w' : World} (h : Fr emp w w') (hn : ∀ k, F' k → w.heap.size ≤ k) : Step F F' w w' :=
  ⟨h.mono (fun _ _ q => q.elim), fun k hk => .inr (hn k hk)⟩

/-- block b holds the cells cs -/
def As.cells (b : Nat) (cs : Array Value) (t : TypeId) : As where
  holds w F := (∀ k, F k ↔ k = b) ∧ Blk w b cs t
  keep h hk := ⟨h.1, (hk b ((h.1 b).2 rfl)).trans h.2⟩
  lt h k hk := by rw [(h.1 k).1 hk]; exact h.2.lt

/-- a slice that reads as the cells xs, in a row that may be written -/
def As.row (e : TypeId) (sz : Nat) (s : Option Addr) (n c : Nat) (xs : List Value) : As where
  holds w F := (∀ k, F k ↔ rowOf s = some k) ∧ Sl w e sz s n c xs
  keep h hk := by
    refine ⟨h.1, h.2.len, h.2.one, ?_⟩
    rcases h.2.row with q | ⟨g, off, cur, rfl, hb, r⟩
    · exact .inl q
    · exact .inr ⟨g, off, cur, rfl, (hk g ((h.1 g).2 rfl)).trans hb, r⟩
  lt h k hk := h.2.lt k ((h.1 k).1 hk)

def As.ex {α : Type} (f : α → As) : As where
  holds w F := ∃ x, (f x).holds w F
  keep := fun ⟨x, h⟩ hk => ⟨x, (f x).keep h hk⟩
  lt := fun ⟨x, h⟩ k hk => (f x).lt h k hk

def As.star (A B : As) : As where
  holds w F := ∃ F1 F2, A.holds w F1 ∧ B.holds w F2 ∧ (∀ k, F k ↔ F1 k ∨ F2 k) ∧ (∀ k, F1 k → ¬ F2 k)
  keep := fun ⟨F1, F2, h1, h2, h3, h4⟩ hk => ⟨F1, F2, A.keep h1 (fun k q => hk k ((h3 k).2 (.inl q))), B.keep h2 (fun k q => hk k ((h3 k).2 (.inr q))), h3, h4⟩
  lt := fun ⟨F1, F2, h1, h2, h3, h4⟩ k hk => ((h3 k).1 hk).elim (A.lt h1 k) (B.lt h2 k)

def As.pure (p : Prop) : As where
  holds _ F := p ∧ ∀ k, ¬ F k
  keep h _ := h
  lt h k hk := (h.2 k hk).elim

/-- all objects of a list, apart from each other -/
def Sep : List As → World → Fp → Prop
  | [], _, F => ∀ k, ¬ F k
  | A :: L, w, F => ∃ F1 F2, A.holds w F1 ∧ Sep L w F2 ∧ (∀ k, F k ↔ F1 k ∨ F2 k) ∧ (∀ k, F1 k → ¬ F2 k)

theorem Sep.lt : ∀ {L : List As} {w : World} {F : Fp}, Sep L w F → ∀ k, F k → k < w.heap.size
  | [], _, _, h, k, hk => (h k hk).elim
  | A :: L, _, _, ⟨F1, F2, h1, h2, h3, _⟩, k, hk => ((h3 k).1 hk).elim (A.lt h1 k) (Sep.lt h2 k)
theorem Sep.keep : ∀ {L : List As} {w w' : World} {F : Fp}, Sep L w F → (∀ k, F k → w'.heap[k]? = w.heap[k]?) → Sep L w' F
  | [], _, _, _, h, _ => h
  | A :: L, _, _, _, ⟨F1, F2, h1, h2, h3, h4⟩, hk => ⟨F1, F2, A.keep h1 (fun k q => hk k ((h3 k).2 (.inl q))), Sep.keep h2 (fun k q => hk k ((h3 k).2 (.inr q))), h3, h4⟩
theorem Sep.swap {A B : As} {L : List As} {w : World} {F : Fp} : Sep (A :: B :: L) w F → Sep (B :: A :: L) w F := by
  rintro ⟨F1, F2, h1, ⟨F3, F4, g1, g2, g3, g4⟩, h3, h4⟩
  refine ⟨F3, fun k => F1 k ∨ F4 k, g1, ⟨F1, F4, h1, g2, fun k => Iff.rfl, fun k q1 q2 => h4 k q1 ((g3 k).2 (.inr q2))⟩, fun k => ?_, fun k q => ?_⟩
  · rw [h3, g3]
    constructor
    · rintro (q | q | q)
      · exact .inr (.inl q)
      · exact .inl q
      · exact .inr (.inr q)
    · rintro (q | q | q)
      · exact .inr (.inl q)
      · exact .inl q
      · exact .inr (.inr q)
  · rintro (q1 | q1)
    · exact h4 k q1 ((g3 k).2 (.inl q))
    · exact g4 k q q1
theorem Sep.cons {A : As} {L L' : List As} {w : World} {F : Fp} (h : Sep (A :: L) w F) (hL : ∀ F, Sep L w F → Sep L' w F) : Sep (A :: L') w F := by
  obtain ⟨F1, F2, h1, h2, h3⟩ := h
  exact ⟨F1, F2, h1, hL _ h2, h3⟩
theorem Sep.perm {L L' : List As} (hp : L.Perm L') : ∀ {w : World} {F : Fp}, Sep L w F → Sep L' w F := by
  induction hp with
  | nil => exact fun h => h
  | cons x _ ih => exact fun h => h.cons (fun _ => ih)
  | swap x y l => exact fun h => h.swap
  | trans _ _ ih1 ih2 => exact fun h => ih2 (ih1 h)

/-- the objects L lie apart in memory that is newer than w0, and what w0 had stands -/
structure St (w0 w : World) (L : List As) : Prop where
  bel : Below w0.heap.size w0 w
  sep : ∃ F, Sep L w F ∧ ∀ k, F k → w0.heap.size ≤ k

section
variable {w0 w w' : World} {L L' : List As} {A B : As}
theorem St.perm (hp : L.Perm L') (h : St w0 w L) : St w0 w L' := by
  obtain ⟨F, h1, h2⟩ := h.sep
  exact ⟨h.bel, F, h1.perm hp, h2⟩
theorem St.swap (h : St w0 w (A :: B :: L)) : St w0 w (B :: A :: L) := h.perm (.swap _ _ _)
theorem St.front2 {C : As} (h : St w0 w (A :: B :: C :: L)) : St w0 w (C :: A :: B :: L) := h.perm ((List.Perm.cons A (.swap _ _ _)).trans (.swap _ _ _))
theorem St.start (w0 : World) (h : Below w0.heap.size w0 w) : St w0 w [] := ⟨h, fun _ => False, fun _ h => h, fun _ h => h.elim⟩
theorem St.of_fr (h : St w0 w L) (f : Fr emp w w') : St w0 w' L := by
  obtain ⟨F, h1, h2⟩ := h.sep
  refine ⟨⟨f.os.trans h.bel.os, f.tape.trans h.bel.tape, f.output.trans h.bel.output, Nat.le_trans h.bel.size f.size, fun k hk => (f.block k (by have := h.bel.size; omega) (fun e => e)).trans (h.bel.block k hk)⟩, F, h1.keep (fun k hk => f.block k (h1.lt k hk) (fun e => e)), h2⟩
theorem St.of_below (h : St w0 w L) (f : Below w.heap.size w w') : St w0 w' L := h.of_fr (Fr.of_below f)
theorem St.drew (h : St w0 w L) : St w0 w.drew L := h.of_fr (Fr.refl emp w).drew
theorem St.drewN (h : St w0 w L) (n : Nat) : St w0 (w.drewN n) L := h.of_fr ((Fr.refl emp w).drewN n)
theorem St.alloc (h : St w0 w L) (o : Obj) : St w0 (w.alloc o) L := h.of_fr ((Fr.refl emp w).alloc o)
/-- the first object, and what any step of it leaves -/
theorem St.head (h : St w0 w (A :: L)) : ∃ F, A.holds w F ∧ (∀ k, F k → w0.heap.size ≤ k) ∧ ∀ (w' : World) (F' : Fp) (A' : As), A'.holds w' F' → Step F F' w w' → St w0 w' (A' :: L) := by
  obtain ⟨F, ⟨F1, F2, h1, h2, h3, h4⟩, h5⟩ := h.sep
  refine ⟨F1, h1, fun k hk => h5 k ((h3 k).2 (.inl hk)), fun w' F' A' hA hs => ?_⟩
  have hb := h.bel
  have hz := hb.size
  have hz' := hs.fr.size
  refine ⟨⟨hs.fr.os.trans hb.os, hs.fr.tape.trans hb.tape, hs.fr.output.trans hb.output, by omega, fun k hk => (hs.fr.block k (by omega) (fun e => by have := h5 k ((h3 k).2 (.inl e)); omega)).trans (hb.block k hk)⟩,
    fun k => F' k ∨ F2 k, ⟨F', F2, hA, h2.keep (fun k hk => hs.fr.block k (h2.lt k hk) (fun e => h4 k e hk)), fun k => Iff.rfl, fun k q1 q2 => ?_⟩, ?_⟩
  · rcases hs.new k q1 with q | q
    · exact h4 k q q2
    · have := h2.lt k q2; omega
  · rintro k (q | q)
    · rcases hs.new k q with q | q
      · exact h5 k ((h3 k).2 (.inl q))
      · omega
    · exact h5 k ((h3 k).2 (.inr q))
/-- a new object -/
theorem St.add {F' : Fp} (h : St w0 w L) (hA : A.holds w' F') (f : Fr emp w w') (hn : ∀ k, F' k → w.heap.size ≤ k) : St w0 w' (A :: L) := by
  obtain ⟨F, h1, h2⟩ := h.sep
  have hb := h.bel
  have hz := hb.size
  refine ⟨(h.of_fr f).bel, fun k => F' k ∨ F k, ⟨F', F, hA, h1.keep (fun k hk => f.block k (h1.lt k hk) (fun e => e)), fun k => Iff.rfl, fun k q1 q2 => ?_⟩, ?_⟩
  · have := hn k q1; have := h1.lt k q2; omega
  · rintro k (q | q)
    · have := hn k q; omega
    · exact h2 k q
theorem St.new (h : St w0 w L) (cs : Array Value) (t : TypeId) : St w0 (w.alloc (.cells cs t)) (As.cells w.heap.size cs t :: L) :=
  h.add (F' := fun k => k = w.heap.size) ⟨fun _ => Iff.rfl, Blk.new w cs t⟩ ((Fr.refl emp w).alloc _) (fun k hk => by omega)
theorem St.drop (h : St w0 w (A :: L)) : St w0 w L := by
  obtain ⟨F, ⟨F1, F2, h1, h2, h3, h4⟩, h5⟩ := h.sep
  exact ⟨h.bel, F2, h2, fun k hk => h5 k ((h3 k).2 (.inr hk))⟩
theorem St.to (h : St w0 w (A :: L)) (hAB : ∀ F, A.holds w F → B.holds w F) : St w0 w (B :: L) := by
  obtain ⟨F, ⟨F1, F2, h1, h2, h3, h4⟩, h5⟩ := h.sep
  exact ⟨h.bel, F, ⟨F1, F2, hAB _ h1, h2, h3, h4⟩, h5⟩
theorem St.open_ex {α : Type} {f : α → As} (h : St w0 w (As.ex f :: L)) : ∃ x, St w0 w (f x :: L) := by
  obtain ⟨F, ⟨F1, F2, ⟨x, h1⟩, h2, h3, h4⟩, h5⟩ := h.sep
  exact ⟨x, h.bel, F, ⟨F1, F2, h1, h2, h3, h4⟩, h5⟩
theorem St.shut_ex {α : Type} {f : α → As} (x : α) (h : St w0 w (f x :: L)) : St w0 w (As.ex f :: L) := h.to (fun _ q => ⟨x, q⟩)
theorem St.open_star (h : St w0 w (As.star A B :: L)) : St w0 w (A :: B :: L) := by
  obtain ⟨F, ⟨F1, F2, ⟨G1, G2, g1, g2, g3, g4⟩, h2, h3, h4⟩, h5⟩ := h.sep
  refine ⟨h.bel, F, ⟨G1, fun k => G2 k ∨ F2 k, g1, ⟨G2, F2, g2, h2, fun _ => Iff.rfl, fun k q => h4 k ((g3 k).2 (.inr q))⟩, fun k => ?_, fun k q => ?_⟩, h5⟩
  · rw [h3, g3, or_assoc]
  · rintro (r | r)
    · exact g4 k q r
    · exact h4 k ((g3 k).2 (.inl q)) r
theorem St.shut_star (h : St w0 w (A :: B :: L)) : St w0 w (As.star A B :: L) := by
  obtain ⟨F, ⟨G1, F2, g1, ⟨G2, F3, g2, h2, g3, g4⟩, h3, h4⟩, h5⟩ := h.sep
  refine ⟨h.bel, F, ⟨fun k => G1 k ∨ G2 k, F3, ⟨G1, G2, g1, g2, fun _ => Iff.rfl, fun k q1 q2 => h4 k q1 ((g3 k).2 (.inl q2))⟩, h2, fun k => ?_, ?_⟩, h5⟩
  · rw [h3, g3, or_assoc]
  · rintro k (q | q) r
    · exact h4 k q ((g3 k).2 (.inr r))
    · exact g4 k q r
theorem St.open_pure {p : Prop} (h : St w0 w (As.pure p :: L)) : p ∧ St w0 w L := by
  obtain ⟨F, ⟨F1, F2, h1, _⟩, _⟩ := h.sep
  exact ⟨h1.1, h.drop⟩

/-- what the first object's cells hold -/
theorem St.cell {b : Nat} {cs : Array Value} {t : TypeId} (h : St w0 w (As.cells b cs t :: L)) (i : Nat) : w.cell? ⟨b, i, none⟩ = cs[i]? := by
  obtain ⟨F, h1, _⟩ := h.head
  exact h1.2.cell i
theorem St.free {b : Nat} {cs : Array Value} {t : TypeId} (h : St w0 w (As.cells b cs t :: L)) (i : Nat) : w.frozen? ⟨b, i, none⟩ = false := by
  obtain ⟨F, h1, _⟩ := h.head
  exact h1.2.free i
theorem St.blk {b : Nat} {cs : Array Value} {t : TypeId} (h : St w0 w (As.cells b cs t :: L)) : Blk w b cs t ∧ w0.heap.size ≤ b := by
  obtain ⟨F, h1, h2, _⟩ := h.head
  exact ⟨h1.2, h2 b ((h1.1 b).2 rfl)⟩
theorem St.set {b : Nat} {cs : Array Value} {t : TypeId} (h : St w0 w (As.cells b cs t :: L)) (i : Nat) (u : Value) : St w0 (w.setCell ⟨b, i, none⟩ u) (As.cells b (cs.setIfInBounds i u) t :: L) := by
  obtain ⟨F, h1, _, h3⟩ := h.head
  exact h3 _ F _ ⟨h1.1, h1.2.set i u⟩ ⟨Fr.setCell (Fr.refl _ _) (fun _ => (h1.1 b).2 rfl) u, fun k hk => .inl hk⟩
theorem St.sl {e : TypeId} {sz : Nat} {s : Option Addr} {n c : Nat} {xs : List Value} (h : St w0 w (As.row e sz s n c xs :: L)) : Sl w e sz s n c xs := by
  obtain ⟨F, h1, _⟩ := h.head
  exact h1.2
theorem St.row_step {e : TypeId} {sz : Nat} {s s' : Option Addr} {n c n' c' : Nat} {xs xs' : List Value} (h : St w0 w (As.row e sz s n c xs :: L)) (h2 : Sl w' e sz s' n' c' xs') (f : Fr (fun k => rowOf s = some k) w w') (hn : NewOr w (rowOf s) (rowOf s')) :
    St w0 w' (As.row e sz s' n' c' xs' :: L) := by
  obtain ⟨F, h1, _, h3⟩ := h.head
  refine h3 w' (fun k => rowOf s' = some k) _ ⟨fun _ => Iff.rfl, h2⟩ ⟨f.mono (fun k _ q => (h1.1 k).2 q), fun k hk => ?_⟩
  rcases hn with q | ⟨g, q, q2⟩
  · exact .inl ((h1.1 k).2 (q ▸ hk))
  · rw [q] at hk; cases hk; exact .inr q2
theorem St.row_new {e : TypeId} {sz : Nat} {s' : Option Addr} {n' c' : Nat} {xs' : List Value} (h : St w0 w L) (h2 : Sl w' e sz s' n' c' xs') (f : Fr emp w w') (hn : NewOr w none (rowOf s')) :
    St w0 w' (As.row e sz s' n' c' xs' :: L) := by
  refine h.add (F' := fun k => rowOf s' = some k) ⟨fun _ => Iff.rfl, h2⟩ f (fun k hk => ?_)
  rcases hn with q | ⟨g, q, q2⟩
  · rw [q] at hk; cases hk
  · rw [q] at hk; cases hk; exact q2
theorem St.row_cut {e : TypeId} {sz : Nat} {s s' : Option Addr} {n c n' c' : Nat} {xs xs' : List Value} (h : St w0 w (As.row e sz s n c xs :: L)) (h2 : Sl w e sz s' n' c' xs') (hr : rowOf s' = rowOf s) :
    St w0 w (As.row e sz s' n' c' xs' :: L) := h.row_step h2 (Fr.refl _ _) (.inl hr)
theorem St.row_nil (h : St w0 w L) (e : TypeId) (sz : Nat) : St w0 w (As.row e sz none 0 0 [] :: L) := h.row_new (Sl.nil w e sz) (Fr.refl _ _) (.inl rfl)
/-- a store into the first object's row -/
theorem St.row_set {e : TypeId} {sz g off n c : Nat} {xs : List Value} (h : St w0 w (As.row e sz (some ⟨g, off, .none⟩) n c xs :: L)) (i : Nat) (hi : i < n * sz) (u : Value) (hu : u.oneCell' = true) :
    St w0 (w.setCell ⟨g, off + i, .none⟩ u) (As.row e sz (some ⟨g, off, .none⟩) n c (xs.set i u) :: L) := by
  have hs := h.sl
  have hf : Fr (fun k => rowOf (some ⟨g, off, .none⟩) = some k) w (w.setCell ⟨g, off + i, .none⟩ u) := Fr.setCell (S := fun k => rowOf (some ⟨g, off, .none⟩) = some k) (p := ⟨g, off + i, .none⟩) (Fr.refl _ _) (fun _ => rowOf_some g off) u
  refine h.row_step ⟨by simp [hs.len], fun v hv => ?_, ?_⟩ hf (.inl rfl)
  · rcases List.mem_or_eq_of_mem_set hv with q | q
    · exact hs.one v q
    · rw [q]; exact hu
  · rcases hs.row with ⟨q, _⟩ | ⟨g', off', cur, q, hb, h1, h2, h3, h4⟩
    · cases q
    · cases q
      refine .inr ⟨g, off, _, rfl, hb.set (off + i) u, h1, h2, by simpa using h3, ?_⟩
      have hle : n * sz ≤ c * sz := Nat.mul_le_mul_right _ h1
      rw [← h4]
      refine List.ext_getElem? fun j => ?_
      have hz : cur.toList.length = cur.size := by simp
      rw [Array.toList_setIfInBounds]
      by_cases hj : j < n * sz
      · rw [List.getElem?_take_of_lt hj, List.getElem?_drop, List.getElem?_set, List.getElem?_set]
        by_cases hij : i = j
        · subst hij
          rw [if_pos rfl, if_pos rfl, if_pos (by rw [hz]; omega), if_pos (by rw [List.length_take, List.length_drop, hz]; omega)]
        · rw [if_neg (by omega), if_neg hij, List.getElem?_take_of_lt hj, List.getElem?_drop]
      · rw [List.getElem?_take, if_neg hj, List.getElem?_eq_none]
        rw [List.length_set, List.length_take]; omega
/-- what w0 held is there -/
theorem St.old (h : St w0 w L) {p : Addr} {v : Value} (hc : w0.cell? p = some v) : w.cell? p = some v := (h.bel.cell (World.block_lt_of_cell? _ _ hc)).trans hc
end
end Go.K
