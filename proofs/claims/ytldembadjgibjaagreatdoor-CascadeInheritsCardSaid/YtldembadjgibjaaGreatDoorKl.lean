/-
  Memory words of this proof, over any program: a block known whole (Blk), a slice that reads as a list of cells in a block that may be written (Sl), a frame by a set of blocks (Fr), and the laws of append over them.
-/
import Derived.WalkKit
import Derived.WalkSpells
import Derived.WalkLawsBesides
import Derived.ArgAppend
import Derived.Lib.Hide
import Derived.Deep.Draws
import Derived.Lib.AppendZerosOnto
import Derived.Lib.Overlaps
set_option linter.unusedVariables false
namespace Go.K
open Go.RowKit

/-- every block of w outside S is in w' as it was; the streams are as they were -/
structure Fr (S : Nat → Prop) (w w' : World) : Prop where
  os : w'.os = w.os
  tape : w'.tape = w.tape
  output : w'.output = w.output
  size : w.heap.size ≤ w'.heap.size
  block : ∀ k, k < w.heap.size → ¬ S k → w'.heap[k]? = w.heap[k]?

/-- nothing that was there has changed -/
def emp : Nat → Prop := fun _ => False

theorem Fr.refl (S : Nat → Prop) (w : World) : Fr S w w := ⟨rfl, rfl, rfl, Nat.le_refl _, fun _ _ _ => rfl⟩
theorem Fr.trans {S S' : Nat → Prop} {a b c : World} (h : Fr S a b) (k : Fr S' b c) (hs : ∀ i, i < a.heap.size → S' i → S i) : Fr S a c :=
  ⟨k.os.trans h.os, k.tape.trans h.tape, k.output.trans h.output, Nat.le_trans h.size k.size,
    fun i hi hn => (k.block i (Nat.lt_of_lt_of_le hi h.size) (fun e => hn (hs i hi e))).trans (h.block i hi hn)⟩
theorem Fr.mono {S S' : Nat → Prop} {w w' : World} (h : Fr S w w') (hs : ∀ i, i < w.heap.size → S i → S' i) : Fr S' w w' :=
  ⟨h.os, h.tape, h.output, h.size, fun i hi hn => h.block i hi (fun e => hn (hs i hi e))⟩
theorem Fr.drew {S : Nat → Prop} {a w : World} (h : Fr S a w) : Fr S a w.drew := ⟨h.os, h.tape, h.output, h.size, h.block⟩
theorem Fr.drewN {S : Nat → Prop} {a w : World} (h : Fr S a w) (n : Nat) : Fr S a (w.drewN n) := ⟨h.os, h.tape, h.output, h.size, h.block⟩
theorem Fr.alloc {S : Nat → Prop} {a w : World} (h : Fr S a w) (o : Obj) : Fr S a (w.alloc o) :=
  h.trans (S' := S) ⟨rfl, rfl, rfl, by simp, fun k hk _ => Below.heap_alloc _ _ _ hk⟩ (fun _ _ e => e)
theorem Fr.setCell {S : Nat → Prop} {a w : World} (h : Fr S a w) {p : Addr} (hp : p.block < a.heap.size → S p.block) (u : Value) : Fr S a (w.setCell p u) :=
  ⟨h.os, h.tape, h.output, by simpa using h.size, fun k hk hn => by
    rw [Below.heap_setCell _ _ _ _ (fun e => hn (by subst e; exact hp hk))]; exact h.block k hk hn⟩
theorem Fr.of_below {w w' : World} (h : Below w.heap.size w w') : Fr emp w w' := ⟨h.os, h.tape, h.output, h.size, fun k hk _ => h.block k hk⟩
theorem Fr.below {S : Nat → Prop} {B : Nat} {w w' : World} (h : Fr S w w') (hB : B ≤ w.heap.size) (hs : ∀ k, k < w.heap.size → S k → B ≤ k) : Below B w w' :=
  ⟨h.os, h.tape, h.output, h.size, fun k hk => h.block k (by omega) (fun e => by have := hs k (by omega) e; omega)⟩
theorem Fr.cell {S : Nat → Prop} {w w' : World} (h : Fr S w w') {p : Addr} {v : Value} (hc : w.cell? p = some v) (hp : ¬ S p.block) : w'.cell? p = some v :=
  (World.cell?_of_block (h.block p.block (World.block_lt_of_cell? w p hc) hp)).trans hc

/-- block b holds the cells cs, none of them frozen -/
def Blk (w : World) (b : Nat) (cs : Array Value) (t : TypeId) : Prop := w.heap[b]? = some (.cells cs t (0, 0))

theorem Blk.lt {w : World} {b : Nat} {cs : Array Value} {t : TypeId} (h : Blk w b cs t) : b < w.heap.size := (Array.getElem?_eq_some_iff.1 h).1
theorem Blk.cell {w : World} {b : Nat} {cs : Array Value} {t : TypeId} (h : Blk w b cs t) (j : Nat) : w.cell? ⟨b, j, .none⟩ = cs[j]? := cell_of_row w b j cs t (0, 0) h
theorem Blk.free {w : World} {b : Nat} {cs : Array Value} {t : TypeId} (h : Blk w b cs t) (j : Nat) : w.frozen? ⟨b, j, .none⟩ = false := by
  unfold Blk at h
  simp [World.frozen?, h]
theorem Blk.kept {S : Nat → Prop} {w w' : World} {b : Nat} {cs : Array Value} {t : TypeId} (h : Blk w b cs t) (hf : Fr S w w') (hb : ¬ S b) : Blk w' b cs t :=
  (hf.block b h.lt hb).trans h
theorem Blk.alloc {w : World} {b : Nat} {cs : Array Value} {t : TypeId} (h : Blk w b cs t) (o : Obj) : Blk (w.alloc o) b cs t :=
  (Below.heap_alloc w o b h.lt).trans h
theorem Blk.new (w : World) (cs : Array Value) (t : TypeId) : Blk (w.alloc (.cells cs t)) w.heap.size cs t := heap_alloc_new w _
theorem Blk.drew {w : World} {b : Nat} {cs : Array Value} {t : TypeId} (h : Blk w b cs t) : Blk w.drew b cs t := h
theorem Blk.drewN {w : World} {b : Nat} {cs : Array Value} {t : TypeId} (h : Blk w b cs t) (n : Nat) : Blk (w.drewN n) b cs t := h
theorem Blk.other {w : World} {b : Nat} {cs : Array Value} {t : TypeId} (h : Blk w b cs t) {p : Addr} (hp : p.block ≠ b) (u : Value) : Blk (w.setCell p u) b cs t :=
  (Below.heap_setCell w p u b (fun e => hp e.symm)).trans h
theorem Blk.set {w : World} {b : Nat} {cs : Array Value} {t : TypeId} (h : Blk w b cs t) (j : Nat) (u : Value) : Blk (w.setCell ⟨b, j, .none⟩ u) b (cs.setIfInBounds j u) t := by
  have hlt := h.lt
  have hv : w.heap[b] = .cells cs t (0, 0) := (Array.getElem?_eq_some_iff.1 h).2
  unfold Blk World.setCell
  rw [Array.getElem?_eq_getElem (by simpa using hlt), Array.getElem_modify]
  simp [hv]

/-- the block of a slice's row -/
def rowOf (s : Option Addr) : Option Nat := s.map (·.block)
theorem rowOf_none : rowOf .none = .none := rfl
theorem rowOf_some (g off : Nat) : rowOf (some ⟨g, off, .none⟩) = some g := rfl

/-- the slice at s of n elements (sz cells each), capacity c, reads as the cells xs; its row lies in an unfrozen block -/
structure Sl (w : World) (e : TypeId) (sz : Nat) (s : Option Addr) (n c : Nat) (xs : List Value) : Prop where
  len : xs.length = n * sz
  one : ∀ u ∈ xs, u.oneCell' = true
  row : (s = .none ∧ n = 0 ∧ c = 0) ∨ ∃ g off cur, s = some ⟨g, off, .none⟩ ∧ Blk w g cur e ∧ n ≤ c ∧ c ≤ maxLen ∧ off + c * sz ≤ cur.size ∧ (cur.toList.drop off).take (n * sz) = xs

section
variable {w w' : World} {e : TypeId} {sz : Nat} {s : Option Addr} {n c : Nat} {xs : List Value}

theorem Sl.nil (w : World) (e : TypeId) (sz : Nat) : Sl w e sz .none 0 0 [] := ⟨by simp, by simp, .inl ⟨rfl, rfl, rfl⟩⟩
theorem Sl.le (h : Sl w e sz s n c xs) : n ≤ c := by rcases h.row with ⟨_, h1, h2⟩ | ⟨_, _, _, _, _, h1, _⟩ <;> omega
theorem Sl.cmax (h : Sl w e sz s n c xs) : c ≤ 9223372036854775807 := by
  rcases h.row with ⟨_, h1, h2⟩ | ⟨_, _, _, _, _, h1, h2, _⟩
  · omega
  · simp only [maxLen] at h2; omega
theorem Sl.lt (h : Sl w e sz s n c xs) : ∀ k, rowOf s = some k → k < w.heap.size := by
  intro k hk
  rcases h.row with ⟨rfl, _⟩ | ⟨g, off, cur, rfl, hb, _⟩
  · simp [rowOf] at hk
  · simp [rowOf] at hk; subst hk; exact hb.lt
theorem Sl.kept {S : Nat → Prop} (h : Sl w e sz s n c xs) (hf : Fr S w w') (hs : ∀ k, rowOf s = some k → ¬ S k) : Sl w' e sz s n c xs := by
  refine ⟨h.len, h.one, ?_⟩
  rcases h.row with hn | ⟨g, off, cur, rfl, hb, r⟩
  · exact .inl hn
  · exact .inr ⟨g, off, cur, rfl, hb.kept hf (hs g rfl), r⟩
theorem Sl.drew (h : Sl w e sz s n c xs) : Sl w.drew e sz s n c xs := ⟨h.len, h.one, h.row⟩
theorem Sl.drewN (h : Sl w e sz s n c xs) (k : Nat) : Sl (w.drewN k) e sz s n c xs := ⟨h.len, h.one, h.row⟩
theorem Sl.alloc (h : Sl w e sz s n c xs) (o : Obj) : Sl (w.alloc o) e sz s n c xs := h.kept ((Fr.refl emp w).alloc o) (fun _ _ e => e)
theorem Sl.other (h : Sl w e sz s n c xs) {p : Addr} (hp : ∀ k, rowOf s = some k → k ≠ p.block) (u : Value) : Sl (w.setCell p u) e sz s n c xs :=
  h.kept (S := fun k => k = p.block) (Fr.setCell (p := p) (Fr.refl (fun k => k = p.block) w) (fun _ => rfl) u) hp

/-- where there are elements the address is written out; each cell reads as the list says -/
theorem Sl.some_of (h : Sl w e sz s n c xs) (hn : 0 < c) : ∃ g off, s = some ⟨g, off, .none⟩ ∧ (∀ j, j < n * sz → w.cell? ⟨g, off + j, .none⟩ = xs[j]?) ∧ (∀ j, j < c * sz → (w.cell? ⟨g, off + j, .none⟩).isSome = true) ∧ (∀ j, w.frozen? ⟨g, j, .none⟩ = false) := by
  rcases h.row with ⟨_, _, h0⟩ | ⟨g, off, cur, rfl, hb, h1, h2, h3, h4⟩
  · omega
  · refine ⟨g, off, rfl, fun j hj => ?_, fun j hj => ?_, hb.free⟩
    · rw [hb.cell, ← h4, List.getElem?_take_of_lt hj, List.getElem?_drop]; simp
    · rw [hb.cell, Array.getElem?_eq_getElem (by omega)]; rfl
theorem Sl.cells (h : Sl w e sz s n c xs) {ad : Addr} (hs : s = some ad) : ∀ j u, xs[j]? = some u → w.cell? (ad.add j) = some u := by
  intro j u hu
  have hj : j < n * sz := by have := (List.getElem?_eq_some_iff.1 hu).1; rw [h.len] at this; exact this
  have hn : 0 < c := by
    have := h.le
    rcases Nat.eq_zero_or_pos n with h0 | h0
    · subst h0; simp at hj
    · omega
  obtain ⟨g, off, rfl, h1, _⟩ := h.some_of hn
  cases hs
  rw [Addr.add_lit, h1 j hj]; exact hu
theorem Sl.empty (h : Sl w e sz s 0 c xs) : xs = [] := List.eq_nil_of_length_eq_zero (by simpa using h.len)
end

/-- a slice that can be read: nil or not, frozen or not -/
structure Rd (w : World) (sz : Nat) (s : Option Addr) (n : Nat) (xs : List Value) : Prop where
  len : xs.length = n * sz
  one : ∀ u ∈ xs, u.oneCell' = true
  nil : s = .none → n = 0
  cells : ∀ ad, s = some ad → ∀ j u, xs[j]? = some u → w.cell? (ad.add j) = some u
theorem Sl.rd {w : World} {e : TypeId} {sz : Nat} {s : Option Addr} {n c : Nat} {xs : List Value} (h : Sl w e sz s n c xs) : Rd w sz s n xs :=
  ⟨h.len, h.one, (fun e => by rcases h.row with ⟨_, h1, _⟩ | ⟨_, _, _, rfl, _⟩ <;> first | exact h1 | cases e), fun _ he => h.cells he⟩
theorem Rd.alloc {w : World} {sz : Nat} {s : Option Addr} {n : Nat} {xs : List Value} (h : Rd w sz s n xs) (o : Obj) : Rd (w.alloc o) sz s n xs :=
  ⟨h.len, h.one, h.nil, fun ad he j u hu => by
    have hc := h.cells ad he j u hu
    exact (World.cell?_of_block (Below.heap_alloc w o _ (World.block_lt_of_cell? w _ hc))).trans hc⟩

/-- where a cell is read the address is written out -/
theorem Rd.addr {w : World} {sz : Nat} {s : Option Addr} {n : Nat} {xs : List Value} (h : Rd w sz s n xs) (hn : 0 < n * sz) : ∃ g off, s = some ⟨g, off, .none⟩ ∧ ∀ j u, xs[j]? = some u → w.cell? ⟨g, off + j, .none⟩ = some u := by
  cases s with
  | none => have := h.nil rfl; subst this; simp at hn
  | some ad =>
    obtain ⟨g, off, sp⟩ := ad
    have h0 : 0 < xs.length := by rw [h.len]; exact hn
    have hc := h.cells _ rfl 0 _ (List.getElem?_eq_getElem h0)
    have hsp : sp = .none := by
      simp only [Addr.add, ↓reduceIte, World.cell?] at hc
      split at hc
      · split at hc
        · cases hc
        · rename_i h'; cases sp <;> simp_all
      · cases hc
    subst hsp
    exact ⟨g, off, rfl, fun j u hu => by have := h.cells _ rfl j u hu; rwa [Addr.add_lit] at this⟩
theorem Rd.kept {S : Nat → Prop} {w w' : World} {sz : Nat} {s : Option Addr} {n : Nat} {xs : List Value} (h : Rd w sz s n xs) (hf : Fr S w w') (hs : ∀ k, rowOf s = some k → ¬ S k) : Rd w' sz s n xs :=
  ⟨h.len, h.one, h.nil, fun ad he j u hu => by
    have hc := h.cells ad he j u hu
    have hb : (ad.add j).block = ad.block := by unfold Addr.add; split <;> rfl
    refine hf.cell hc ?_
    rw [hb]; exact hs _ (by rw [he]; rfl)⟩

/-- the table's row of an element type: t the slice type, e the element type -/
structure El (P : Program) (t e : TypeId) (size bytes : Nat) : Prop where
  und : P.underlying t = some (.slice e)
  info : ∃ i z, P.info? e = some i ∧ i.zero = some z ∧ i.size = size ∧ i.bytes = bytes ∧ z.cells.size = size
  pos : 0 < size

section
variable {P : Program} {t e : TypeId} {sz bytes : Nat}
theorem El.elem (E : El P t e sz bytes) : P.elem t = e := by simp [Program.elem, E.und]
theorem El.und' (E : El P t e sz bytes) : P.underlying t = some (.slice (P.elem t)) := by rw [E.elem]; exact E.und
theorem El.sizeOf (E : El P t e sz bytes) (w : World) : (sizeOf (P.elem t)).run P w = .ok sz w := by
  obtain ⟨i, z, hi, _, h2, _⟩ := E.info
  rw [E.elem]; simp [Go.sizeOf, typeInfo, hi, h2]

variable {w : World} {s : Option Addr} {n c : Nat} {xs : List Value}
/-- the value of s[l:h], its address under a name -/
theorem Sl.cut_lh (h : Sl w e sz s n c xs) (l k : Nat) (hl : l ≤ k) (hk : k ≤ n) :
    ∃ s', sliced s l k c sz = .slice s' (k - l) (c - l) ∧ Sl w e sz s' (k - l) (c - l) ((xs.drop (l * sz)).take ((k - l) * sz)) ∧ rowOf s' = rowOf s := by
  have hle := h.le
  have hlen := h.len
  have hmul : k * sz ≤ n * sz := Nat.mul_le_mul_right _ hk
  have hsub : (k - l) * sz = k * sz - l * sz := Nat.sub_mul _ _ _
  have hml : l * sz ≤ k * sz := Nat.mul_le_mul_right _ hl
  have hlen' : ((xs.drop (l * sz)).take ((k - l) * sz)).length = (k - l) * sz := by simp; omega
  have hone : ∀ u ∈ (xs.drop (l * sz)).take ((k - l) * sz), u.oneCell' = true := fun u hu => h.one u (List.mem_of_mem_drop (List.mem_of_mem_take hu))
  rcases h.row with ⟨rfl, rfl, rfl⟩ | ⟨g, off, cur, rfl, hb, h1, h2, h3, h4⟩
  · refine ⟨.none, ?_, ⟨hlen', hone, .inl ⟨rfl, by omega, by omega⟩⟩, rfl⟩
    unfold sliced; split <;> simp
  · by_cases hcl : c = l
    · refine ⟨some ⟨g, off, .none⟩, by simp [sliced, hcl], ⟨hlen', hone, .inr ⟨g, off, cur, rfl, hb, by omega, by omega, ?_, ?_⟩⟩, rfl⟩
      · rw [hcl, Nat.sub_self, Nat.zero_mul]; omega
      · have : k - l = 0 := by omega
        rw [this]; simp
    · refine ⟨some ⟨g, off + l * sz, .none⟩, by simp [sliced, hcl, Addr.add_lit], ⟨hlen', hone, .inr ⟨g, off + l * sz, cur, rfl, hb, by omega, by omega, ?_, ?_⟩⟩, rfl⟩
      · have : (c - l) * sz = c * sz - l * sz := Nat.sub_mul _ _ _
        have : l * sz ≤ c * sz := Nat.mul_le_mul_right _ (by omega)
        omega
      · rw [← h4, List.drop_take, List.take_take, List.drop_drop]
        congr 1
        omega
theorem run_slice_l' (E : El P t e sz bytes) (k : IntKind) (l : Int) (hl : 0 ≤ l) (hn : l ≤ n) (W : World) :
    (Instr.slice t (.slice s n c) (some (.int k l)) .none .none).run P W = .ok (sliced s l.toNat n c sz) W := by
  rw [run_slice_l (P := P) W t s n c E.und' k l hl hn, E.sizeOf]; rfl
theorem run_slice_h' (E : El P t e sz bytes) (k : IntKind) (l : Int) (hl : 0 ≤ l) (hn : l ≤ c) (W : World) :
    (Instr.slice t (.slice s n c) .none (some (.int k l)) .none).run P W = .ok (sliced s 0 l.toNat c sz) W := by
  rw [run_slice_h (P := P) W t s n c E.und' k l hl hn, E.sizeOf]; rfl
theorem run_slice_lh' (E : El P t e sz bytes) (k k' : IntKind) (l h : Int) (hl : 0 ≤ l) (hlh : l ≤ h) (hn : h ≤ c) (W : World) :
    (Instr.slice t (.slice s n c) (some (.int k l)) (some (.int k' h)) .none).run P W = .ok (sliced s l.toNat h.toNat c sz) W := by
  rw [run_slice_lh (P := P) W t s n c E.und' k k' l h hl hlh hn, E.sizeOf]; rfl
/-- s[l:] -/
theorem Sl.cut_l (h : Sl w e sz s n c xs) (E : El P t e sz bytes) (l : Nat) (hl : l ≤ n) :
    ∃ s', (∀ (k : IntKind) (W : World), (Instr.slice t (.slice s n c) (some (.int k (l : Int))) .none .none).run P W = .ok (.slice s' (n - l) (c - l)) W) ∧ Sl w e sz s' (n - l) (c - l) (xs.drop (l * sz)) ∧ rowOf s' = rowOf s := by
  obtain ⟨s', h1, h2, h3⟩ := h.cut_lh l n hl (Nat.le_refl _)
  refine ⟨s', fun k W => ?_, ?_, h3⟩
  · rw [run_slice_l' E k l (by omega) (by omega), Int.toNat_natCast, h1]
  · have hlen := h.len
    rwa [List.take_of_length_le (by rw [List.length_drop, hlen, Nat.sub_mul]; omega)] at h2
/-- s[:k] -/
theorem Sl.cut_h (h : Sl w e sz s n c xs) (E : El P t e sz bytes) (l : Nat) (hl : l ≤ n) :
    ∃ s', (∀ (k : IntKind) (W : World), (Instr.slice t (.slice s n c) .none (some (.int k (l : Int))) .none).run P W = .ok (.slice s' l c) W) ∧ Sl w e sz s' l c (xs.take (l * sz)) ∧ rowOf s' = rowOf s := by
  have hle := h.le
  obtain ⟨s', h1, h2, h3⟩ := h.cut_lh 0 l (by omega) hl
  refine ⟨s', fun k W => ?_, by simpa using h2, h3⟩
  rw [run_slice_h' E k l (by omega) (by omega), Int.toNat_natCast, h1]; simp
end

/-- the old row, or a new one -/
def NewOr (w : World) (r r' : Option Nat) : Prop := r' = r ∨ ∃ g, r' = some g ∧ w.heap.size ≤ g
theorem NewOr.refl (w : World) (r : Option Nat) : NewOr w r r := .inl rfl
theorem NewOr.ne {w : World} {r r' : Option Nat} (h : NewOr w r r') {k : Nat} (hk : k < w.heap.size) (hr : r ≠ some k) : r' ≠ some k := by
  rcases h with rfl | ⟨g, rfl, hg⟩
  · exact hr
  · intro e; cases e; omega
theorem NewOr.trans {w w1 : World} {r r1 r2 : Option Nat} (h : NewOr w r r1) (k : NewOr w1 r1 r2) (hs : w.heap.size ≤ w1.heap.size) : NewOr w r r2 := by
  rcases k with rfl | ⟨g, rfl, hg⟩
  · exact h
  · exact .inr ⟨g, rfl, by omega⟩

theorem World.setCells_block (b : Nat) : ∀ (vs : List Value) (o : Nat) (w : World) (k : Nat), k ≠ b → (w.setCells b o vs).heap[k]? = w.heap[k]?
  | [], _, _, _, _ => rfl
  | v :: r, o, w, k, h => by rw [World.setCells, World.setCells_block b r (o + 1) _ k h, Below.heap_setCell _ _ _ _ h]

/-- the cells of a row, some of them written -/
def splice (cur : Array Value) (o : Nat) : List Value → Array Value
  | [] => cur
  | v :: r => splice (cur.setIfInBounds o v) (o + 1) r

theorem splice_size : ∀ (vs : List Value) (o : Nat) (cur : Array Value), (splice cur o vs).size = cur.size
  | [], _, _ => rfl
  | v :: r, o, cur => by rw [splice, splice_size r]; simp
theorem splice_out : ∀ (vs : List Value) (o : Nat) (cur : Array Value) (k : Nat), (k < o ∨ o + vs.length ≤ k) → (splice cur o vs)[k]? = cur[k]?
  | [], _, _, _, _ => rfl
  | v :: r, o, cur, k, h => by
    rw [splice, splice_out r (o + 1) _ k (by simp at h; omega), Array.getElem?_setIfInBounds, if_neg (by simp at h; omega)]
theorem splice_in : ∀ (vs : List Value) (o : Nat) (cur : Array Value) (j : Nat), o + vs.length ≤ cur.size → j < vs.length → (splice cur o vs)[o + j]? = vs[j]?
  | [], _, _, _, _, h => by simp at h
  | v :: r, o, cur, 0, h, _ => by
    simp at h
    rw [splice, splice_out r (o + 1) _ (o + 0) (by omega), Array.getElem?_setIfInBounds, if_pos (by omega), if_pos (by omega)]; rfl
  | v :: r, o, cur, j + 1, h, hj => by
    simp at h hj
    rw [splice, show o + (j + 1) = o + 1 + j by omega, splice_in r (o + 1) _ j (by simp; omega) hj]; simp

theorem Blk.setCells {t : TypeId} {b : Nat} : ∀ (vs : List Value) (o : Nat) (w : World) (cs : Array Value), Blk w b cs t → Blk (w.setCells b o vs) b (splice cs o vs) t
  | [], _, _, _, h => h
  | v :: r, o, w, cs, h => by rw [World.setCells, splice]; exact Blk.setCells r (o + 1) _ _ (h.set o v)

theorem World.setCells_streams (b : Nat) : ∀ (vs : List Value) (o : Nat) (w : World), (w.setCells b o vs).os = w.os ∧ (w.setCells b o vs).tape = w.tape ∧ (w.setCells b o vs).output = w.output ∧ (w.setCells b o vs).heap.size = w.heap.size
  | [], _, _ => ⟨rfl, rfl, rfl, rfl⟩
  | v :: r, o, w => by
    rw [World.setCells]
    obtain ⟨h1, h2, h3, h4⟩ := World.setCells_streams b r (o + 1) (w.setCell ⟨b, o, .none⟩ v)
    exact ⟨h1, h2, h3, by rw [h4]; simp⟩

theorem Fr.setCells {S : Nat → Prop} (w : World) (b o : Nat) (vs : List Value) (hb : S b) : Fr S w (w.setCells b o vs) := by
  obtain ⟨h1, h2, h3, h4⟩ := World.setCells_streams b vs o w
  exact ⟨h1, h2, h3, by omega, fun k _ hn => World.setCells_block b vs o w k (fun e => hn (by subst e; exact hb))⟩

theorem take_drop_ext {l : List Value} {off m : Nat} {xs : List Value} (hl : xs.length = m) (h : ∀ j, j < m → l[off + j]? = xs[j]?) : (l.drop off).take m = xs := by
  refine List.ext_getElem? fun j => ?_
  by_cases hj : j < m
  · rw [List.getElem?_take_of_lt hj, List.getElem?_drop, h j hj]
  · rw [List.getElem?_take, if_neg hj, List.getElem?_eq_none (by omega)]

section
variable {P : Program} (w : World)

/-- append to a slice of ours: in place or in a new row -/
theorem run_append_sl {t e : TypeId} {size bytes : Nat} (E : El P t e size bytes) (ty : TypeId) {s : Option Addr} {n c : Nat} {xs : List Value} (hs : Sl w e size s n c xs)
    (a : Addr) (m c2 : Nat) (news : List Value) (hl : news.length = m * size) (hnews : ∀ j u, news[j]? = some u → w.cell? (a.add j) = some u) (h1 : ∀ u ∈ news, u.oneCell' = true)
    (h63 : n + m ≤ maxLen) (hbytes : (n + m) * bytes ≤ 140737488355328) :
    ∃ s' c' w', (Builtin.append_ #[t, t] ty #[.slice s n c, .slice (some a) m c2]).run P w = .ok (.slice s' (n + m) c') w' ∧ Sl w' e size s' (n + m) c' (xs ++ news) ∧
      Fr (fun k => rowOf s = some k) w w' ∧ NewOr w (rowOf s) (rowOf s') := by
  obtain ⟨ht, ⟨i, z, hi, hz, rfl, rfl, hzs⟩, hpos⟩ := E
  have hlen : (xs ++ news).length = (n + m) * i.size := by rw [List.length_append, hs.len, hl, Nat.add_mul]
  have hone : ∀ u ∈ xs ++ news, u.oneCell' = true := fun u hu => (List.mem_append.1 hu).elim (hs.one u) (h1 u)
  rcases hs.row with ⟨rfl, rfl, rfl⟩ | ⟨g, off, cur, rfl, hb, hnc, hcm, hsz, htake⟩
  · have hx : xs = [] := List.eq_nil_of_length_eq_zero (by simpa using hs.len)
    subst hx
    obtain ⟨v', w', hrun, ho, hg, hiff⟩ := run_append_own (P := P) w w.heap.size t ty e i z i.size i.bytes ht hi hz rfl rfl hzs hpos _ 0 [] (World.ownsRow_nil w w.heap.size e i.size) a m c2 news hl hnews h1 h63 hbytes (Nat.le_refl _)
    have hfr : Fr (fun k => rowOf .none = some k) w w' := ⟨hg.os, hg.tape, hg.output, hg.size, fun k hk _ => hg.block k hk (by simp [Value.ownBlock])⟩
    rcases ho.2 with ⟨rfl, hn0⟩ | ⟨g, cap, cur, rfl, hbase, hgg, h2, h3, h4, h5⟩
    · refine ⟨.none, 0, w', by rw [hrun, hn0], ⟨hlen, hone, .inl ⟨rfl, hn0, rfl⟩⟩, hfr, .inl rfl⟩
    · refine ⟨_, cap, w', hrun, ⟨hlen, hone, .inr ⟨g, 0, cur, rfl, hgg, h2, h3, by omega, by simpa using h5⟩⟩, hfr, .inr ⟨g, rfl, hbase⟩⟩
  · by_cases hr : n + m ≤ c
    · have hfit : off + n * i.size + news.length ≤ cur.size := by
        have : (n + m) * i.size ≤ c * i.size := Nat.mul_le_mul_right _ hr
        rw [Nat.add_mul] at this; omega
      have hrun := run_append_room_cells (P := P) w t ty e i ht hi g off n c a m c2 news hl hnews h1 hr
        (fun j hj => by rw [hb.cell, Array.getElem?_eq_getElem (by omega)]; rfl) (fun j _ => hb.free _)
      have hlx := hs.len
      refine ⟨_, c, _, hrun, ⟨hlen, hone, .inr ⟨g, off, _, rfl, Blk.setCells news _ _ _ hb, hr, hcm, by rw [splice_size]; exact hsz, ?_⟩⟩, Fr.setCells w g _ news rfl, .inl rfl⟩
      refine take_drop_ext hlen fun j hj => ?_
      rw [Array.getElem?_toList]
      by_cases hj2 : j < n * i.size
      · rw [splice_out _ _ _ _ (Or.inl (by omega)), List.getElem?_append_left (by omega), ← htake, List.getElem?_take_of_lt hj2, List.getElem?_drop, Array.getElem?_toList]
      · rw [Nat.add_mul] at hj
        rw [show off + j = off + n * i.size + (j - n * i.size) by omega, splice_in _ _ _ _ (by omega) (by omega), List.getElem?_append_right (by omega), hlx]
    · obtain ⟨v', w', hrun, ho, hg⟩ := run_append_arg_grows (P := P) w t ty e i z i.size i.bytes ht hi hz rfl rfl hzs hpos ⟨g, off, .none⟩ n c xs hs.len (hs.cells rfl) a m c2 news hl hnews (by omega) h63 hbytes
      have hfr : Fr (fun k => rowOf (some ⟨g, off, .none⟩) = some k) w w' := ⟨hg.os, hg.tape, hg.output, hg.size, fun k hk _ => hg.block k hk (by simp)⟩
      rcases ho.2 with ⟨_, hn0⟩ | ⟨g', cap, cur', rfl, hbase, hgg, h2, h3, h4, h5⟩
      · omega
      · exact ⟨_, cap, w', hrun, ⟨hlen, hone, .inr ⟨g', 0, cur', rfl, hgg, h2, h3, by omega, by simpa using h5⟩⟩, hfr, .inr ⟨g', rfl, hbase⟩⟩

theorem run_append_sl_none {t e : TypeId} {size bytes : Nat} (E : El P t e size bytes) (ty : TypeId) {s : Option Addr} {n c : Nat} {xs : List Value} (hs : Sl w e size s n c xs) (c2 : Nat) :
    (Builtin.append_ #[t, t] ty #[.slice s n c, .slice .none 0 c2]).run P w = .ok (.slice s n c) w := by
  obtain ⟨ht, ⟨i, z, hi, hz, rfl, rfl, hzs⟩, hpos⟩ := E
  have hle := hs.le
  cases s <;> simp [Builtin.append_, run_underlying ht, sizeOf, typeInfo, hi, Builtin.lenOf, hle, Builtin.firstCells, storeCells]

/-- append as the walk takes it: the source is another slice that reads as news, nil or not -/
theorem wpList_append_sl {ops : Array Oper} {rest : List Oper} {o : Oper} {a : Act} {Q : Exit → Act → World → Prop} (hgd : o.guard = .none) (so x : Operand) (t : TypeId)
    (ho : o.op = .call { callee := .builtin .append, args := #[so, x], argTypes := #[t, t] })
    {e : TypeId} {size bytes : Nat} (E : El P t e size bytes) (s : Option Addr) (n c : Nat) (xs : List Value) (hse : a.eval so = .slice s n c) (hs : Sl w e size s n c xs)
    (s2 : Option Addr) (m c2 : Nat) (news : List Value) (hx : a.eval x = .slice s2 m c2) (hl : news.length = m * size) (hnil : s2 = .none → m = 0) (hnews : ∀ ad, s2 = some ad → ∀ j u, news[j]? = some u → w.cell? (ad.add j) = some u) (h1 : ∀ u ∈ news, u.oneCell' = true)
    (h63 : n + m ≤ maxLen) (hbytes : (n + m) * bytes ≤ 140737488355328)
    (h : ∀ s' c' w', Sl w' e size s' (n + m) c' (xs ++ news) → Fr (fun k => rowOf s = some k) w w' → NewOr w (rowOf s) (rowOf s') → wpList P ops Q rest (a.put o.dst (.slice s' (n + m) c')) w') : wpList P ops Q (o :: rest) a w := by
  refine wpList_plain hgd fun K hK => ?_
  cases s2 with
  | some ad =>
    obtain ⟨s', c', w', hr, h2, h3, h4⟩ := run_append_sl (P := P) w E o.type hs ad m c2 news hl (hnews ad rfl) h1 h63 hbytes
    unfold Oper.wp execOp
    simp only [ho, resolve, invoke, builtin, Sem.run_bind, Sem.run_pure, Result.andThen_ok, List.map_toArray, List.map_cons, List.map_nil, hse, hx, hr]
    exact hK _ _ (h s' c' w' h2 h3 h4)
  | none =>
    obtain rfl := hnil rfl
    have hn : news = [] := List.eq_nil_of_length_eq_zero (by simpa using hl)
    subst hn
    have hr := run_append_sl_none (P := P) w E o.type hs c2
    unfold Oper.wp execOp
    simp only [ho, resolve, invoke, builtin, Sem.run_bind, Sem.run_pure, Result.andThen_ok, List.map_toArray, List.map_cons, List.map_nil, hse, hx, hr]
    exact hK _ _ (by simpa using h s c w (by simpa using hs) (Fr.refl _ _) (NewOr.refl _ _))
/-- append of elements that were just laid in a block of their own: 'append(s, x)' -/
theorem wpList_append_one {ops : Array Oper} {rest : List Oper} {o : Oper} {a : Act} {Q : Exit → Act → World → Prop} (hgd : o.guard = .none) (so x : Operand) (t : TypeId)
    (ho : o.op = .call { callee := .builtin .append, args := #[so, x], argTypes := #[t, t] })
    {e : TypeId} {size bytes : Nat} (E : El P t e size bytes) (s : Option Addr) (n c : Nat) (xs : List Value) (hse : a.eval so = .slice s n c) (hs : Sl w e size s n c xs)
    (m : Nat) (cs : Array Value) (hx : a.eval x = .slice (some ⟨w.heap.size, 0, .none⟩) m m) (hl : cs.size = m * size) (h1 : ∀ u ∈ cs.toList, u.oneCell' = true)
    (h63 : n + m ≤ 4294967297) (hb : bytes ≤ 16384)
    (h : ∀ s' c' w', Sl w' e size s' (n + m) c' (xs ++ cs.toList) → Fr (fun k => rowOf s = some k) w w' → NewOr w (rowOf s) (rowOf s') → wpList P ops Q rest (a.put o.dst (.slice s' (n + m) c')) w') : wpList P ops Q (o :: rest) a (w.alloc (.cells cs e)) := by
  refine wpList_append_sl _ hgd so x t ho E s n c xs hse (hs.alloc _) _ m m cs.toList hx (by simpa using hl) (by simp) (fun ad had j u hu => ?_) h1 (by simp only [maxLen]; omega) ?_ (fun s' c' w' g1 g2 g3 => h s' c' w' g1 ?_ ?_)
  · cases had
    rw [Addr.add_lit, (Blk.new w cs e).cell]
    simpa using hu
  · have h2 : (n + m) * bytes ≤ 4294967297 * 16384 := Nat.mul_le_mul h63 hb
    omega
  · exact Fr.trans ((Fr.refl (fun k => rowOf s = some k) w).alloc _) g2 (fun _ _ q => q)
  · rcases g3 with q | ⟨g, q1, q2⟩
    · exact .inl q
    · exact .inr ⟨g, q1, by simp at q2; omega⟩
end

section
variable {P : Program} (w : World)
/-- copy: all is read before anything is written -/
theorem run_copy_any {t e : TypeId} {size bytes : Nat} (E : El P t e size bytes) (sT ty : TypeId) (b o dLen dCap : Nat) (a : Addr) (sLen sCap k : Nat) (hk : Nat.min sLen dLen = k) (cs : List Value) (hn : cs.length = k * size)
    (hsrc : ∀ j v, cs[j]? = some v → w.cell? (a.add j) = some v) (hc : ∀ j, j < cs.length → (w.cell? ⟨b, o + j, .none⟩).isSome = true) (hf : ∀ j, j < cs.length → w.frozen? ⟨b, o + j, .none⟩ = false) (h1 : ∀ v ∈ cs, v.oneCell' = true) :
    (Builtin.copy_ #[t, sT] ty #[.slice (some ⟨b, o, .none⟩) dLen dCap, .slice (some a) sLen sCap]).run P w = .ok (goInt k) (w.setCells b o cs) := by
  obtain ⟨hu, ⟨i, z, hi, hz, rfl, rfl, hzs⟩, hpos⟩ := E
  have hl := run_loadCells_list (P := P) w a cs hsrc
  have hst := run_storeCells_cells (P := P) b o cs 0 w (by simpa using hc) (by simpa using hf) h1
  rw [hn] at hl
  simp [Builtin.copy_, run_underlying hu, Builtin.lenOf, Builtin.firstCells, Go.sizeOf, typeInfo, hi, hk, hl, hst]

theorem wpList_copy_any {ops : Array Oper} {rest : List Oper} {o : Oper} {a : Act} {Q : Exit → Act → World → Prop} (hgd : o.guard = .none) (d s : Operand) (t sT : TypeId)
    (ho : o.op = .call { callee := .builtin .copy, args := #[d, s], argTypes := #[t, sT] }) {e : TypeId} {size bytes : Nat} (E : El P t e size bytes)
    (b off dLen dCap : Nat) (ad : Addr) (sLen sCap : Nat) (hd : a.eval d = .slice (some ⟨b, off, .none⟩) dLen dCap) (hs : a.eval s = .slice (some ad) sLen sCap) (k : Nat) (hk : Nat.min sLen dLen = k) (cs : List Value) (hn : cs.length = k * size)
    (hsrc : ∀ j v, cs[j]? = some v → w.cell? (ad.add j) = some v) (hc : ∀ j, j < cs.length → (w.cell? ⟨b, off + j, .none⟩).isSome = true) (hf : ∀ j, j < cs.length → w.frozen? ⟨b, off + j, .none⟩ = false) (h1 : ∀ v ∈ cs, v.oneCell' = true)
    (h : wpList P ops Q rest (a.put o.dst (goInt k)) (w.setCells b off cs)) : wpList P ops Q (o :: rest) a w := by
  refine wpList_plain hgd fun K hK => ?_
  have hr := run_copy_any (P := P) w E sT o.type b off dLen dCap ad sLen sCap k hk cs hn hsrc hc hf h1
  unfold Oper.wp execOp
  simp only [ho, resolve, invoke, builtin, Sem.run_bind, Sem.run_pure, Result.andThen_ok, List.map_toArray, List.map_cons, List.map_nil, hd, hs, hr]
  exact hK _ _ h

theorem slice_h_some {t e : TypeId} {sz bytes : Nat} (E : El P t e sz bytes) (g off n c l : Nat) (hc : 0 < c) (hl : l ≤ c) (k : IntKind) (W : World) :
    (Instr.slice t (.slice (some ⟨g, off, .none⟩) n c) .none (some (.int k (l : Int))) .none).run P W = .ok (.slice (some ⟨g, off, .none⟩) l c) W := by
  rw [run_slice_h' E k l (by omega) (by omega), Int.toNat_natCast]
  unfold sliced
  rw [if_neg (by omega)]
  simp [Addr.add]
theorem slice_l_some {t e : TypeId} {sz bytes : Nat} (E : El P t e sz bytes) (g off n c l : Nat) (hc : l < c) (hl : l ≤ n) (k : IntKind) (W : World) :
    (Instr.slice t (.slice (some ⟨g, off, .none⟩) n c) (some (.int k (l : Int))) .none .none).run P W = .ok (.slice (some ⟨g, off + l * sz, .none⟩) (n - l) (c - l)) W := by
  rw [run_slice_l' E k l (by omega) (by omega), Int.toNat_natCast]
  unfold sliced
  rw [if_neg (by omega)]
  simp [Addr.add_lit]
end

end Go.K
