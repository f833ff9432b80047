/-
  Slices that a call makes and appends to (Own), and appends as steps of a region that draws its order.
-/
import Derived.Test.YtldembadjgibjaaGreatDoorKw
set_option linter.unusedVariables false
namespace Go.K
open Go.RowKit

/-- a slice that reads as xs, in a row that is newer than w; what w held stands -/
structure Own (w w' : World) (e : TypeId) (sz : Nat) (s : Option Addr) (n c : Nat) (xs : List Value) : Prop where
  sl : Sl w' e sz s n c xs
  bel : Below w.heap.size w w'
  row : ∀ k, rowOf s = some k → w.heap.size ≤ k

section
variable {w w1 w2 : World} {e : TypeId} {sz n c n' c' : Nat} {s s' : Option Addr} {xs ys : List Value}
theorem Own.nil (h : Below w.heap.size w w1) (e : TypeId) (sz : Nat) : Own w w1 e sz none 0 0 [] := ⟨Sl.nil _ _ _, h, by simp [rowOf]⟩
theorem Own.fresh (h : Below w.heap.size w w1) (e : TypeId) (sz : Nat) : Own w (w1.alloc (.cells #[] e)) e sz (some ⟨w1.heap.size, 0, none⟩) 0 0 [] :=
  ⟨⟨by simp, by simp, .inr ⟨w1.heap.size, 0, #[], rfl, Blk.new w1 #[] e, by omega, by simp [maxLen], by simp, by simp⟩⟩, h.alloc h.size _, by intro k hk; simp [rowOf] at hk; have := h.size; omega⟩
theorem Own.fresh_at (h : Below w.heap.size w w1) (e : TypeId) (sz g : Nat) (hg : w1.heap.size = g) : Own w (w1.alloc (.cells #[] e)) e sz (some ⟨g, 0, none⟩) 0 0 [] := hg ▸ Own.fresh h e sz
theorem blk_new (w : World) (cs : Array Value) (t : TypeId) (g : Nat) (hg : w.heap.size = g) : Blk (w.alloc (.cells cs t)) g cs t := hg ▸ Blk.new w cs t
/-- the first two cells of a block that may be written -/
theorem Blk.two {w : World} {b : Nat} {x y : Value} {t : TypeId} (h : Blk w b #[x, y] t) : w.cell? ⟨b, 0, none⟩ = some x ∧ w.cell? ⟨b, 1, none⟩ = some y ∧ w.frozen? ⟨b, 0, none⟩ = false ∧ w.frozen? ⟨b, 1, none⟩ = false := by
  have h0 := h.cell 0
  have h1 := h.cell 1
  simp at h0 h1
  exact ⟨h0, h1, h.free 0, h.free 1⟩
theorem Blk.three {w : World} {b : Nat} {x y z : Value} {t : TypeId} (h : Blk w b #[x, y, z] t) : w.cell? ⟨b, 0, none⟩ = some x ∧ w.cell? ⟨b, 1, none⟩ = some y ∧ w.cell? ⟨b, 2, none⟩ = some z ∧ w.frozen? ⟨b, 0, none⟩ = false ∧ w.frozen? ⟨b, 1, none⟩ = false ∧ w.frozen? ⟨b, 2, none⟩ = false := by
  have h0 := h.cell 0
  have h1 := h.cell 1
  have h2 := h.cell 2
  simp at h0 h1 h2
  exact ⟨h0, h1, h2, h.free 0, h.free 1, h.free 2⟩
theorem Blk.one {w : World} {b : Nat} {x : Value} {t : TypeId} (h : Blk w b #[x] t) : w.cell? ⟨b, 0, none⟩ = some x ∧ w.frozen? ⟨b, 0, none⟩ = false := by
  have h0 := h.cell 0
  simp at h0
  exact ⟨h0, h.free 0⟩
theorem bel_by {S : Nat → Prop} {B : Nat} {w0 w w' : World} (h : Below B w0 w) (f : Fr S w w') (hB : B ≤ w0.heap.size) (hS : ∀ k, S k → B ≤ k) : Below B w0 w' :=
  ⟨f.os.trans h.os, f.tape.trans h.tape, f.output.trans h.output, Nat.le_trans h.size f.size, fun k hk => (f.block k (by have := h.size; omega) (fun e => by have := hS k e; omega)).trans (h.block k hk)⟩
theorem Own.app (h : Own w w1 e sz s n c xs) (g1 : Sl w2 e sz s' n' c' ys) (g2 : Fr (fun k => rowOf s = some k) w1 w2) (g3 : NewOr w1 (rowOf s) (rowOf s')) : Own w w2 e sz s' n' c' ys := by
  refine ⟨g1, bel_by h.bel g2 (Nat.le_refl _) h.row, fun k hk => ?_⟩
  rcases g3 with q | ⟨g, q, q2⟩
  · exact h.row k (q ▸ hk)
  · rw [q] at hk; cases hk; have := h.bel.size; omega
/-- memory that stands apart from the row may be made or drawn -/
theorem Own.to (h : Own w w1 e sz s n c xs) (f : Below w1.heap.size w1 w2) : Own w w2 e sz s n c xs :=
  ⟨h.sl.kept (Fr.of_below f) (fun _ _ q => q), h.bel.trans (f.mono h.bel.size), h.row⟩
theorem Own.alloc (h : Own w w1 e sz s n c xs) (o : Obj) : Own w (w1.alloc o) e sz s n c xs := h.to ((Below.refl _ _).alloc (Nat.le_refl _) o)
theorem Own.drew (h : Own w w1 e sz s n c xs) : Own w w1.drew e sz s n c xs := ⟨h.sl.drew, ⟨h.bel.os, h.bel.tape, h.bel.output, h.bel.size, h.bel.block⟩, h.row⟩
theorem Rd.below {w w' : World} {sz : Nat} {s : Option Addr} {n : Nat} {xs : List Value} (h : Rd w sz s n xs) (hb : Below w.heap.size w w') : Rd w' sz s n xs :=
  h.kept (Fr.of_below hb) (fun _ _ q => q)
/-- a store into what is older than the row -/
theorem Own.put (h : Own w w1 e sz s n c xs) {p : Addr} (hp : p.block < w.heap.size) (u : Value) : Sl (w1.setCell p u) e sz s n c xs :=
  h.sl.other (fun k hk q => by have := h.row k hk; omega) u
theorem Sl.put {w : World} {e : TypeId} {sz : Nat} {s : Option Addr} {n c : Nat} {xs : List Value} (h : Sl w e sz s n c xs) {B : Nat} (hr : ∀ k, rowOf s = some k → B ≤ k) {p : Addr} (hp : p.block < B) (u : Value) : Sl (w.setCell p u) e sz s n c xs :=
  h.other (fun k hk q => by have := hr k hk; omega) u
theorem Own.blk (h : Own w w1 e sz s n c xs) {b : Nat} {cs : Array Value} {t : TypeId} (hb : Blk w b cs t) : Blk w1 b cs t := hb.kept (Fr.of_below h.bel) (fun q => q)
theorem Own.rd (h : Own w w1 e sz s n c xs) : Rd w1 sz s n xs := h.sl.rd
theorem Own.store (h : Own w w1 e sz s n c xs) {p : Addr} (hp : w.heap.size ≤ p.block) (hs : ∀ k, rowOf s = some k → k ≠ p.block) (u : Value) : Own w (w1.setCell p u) e sz s n c xs :=
  ⟨h.sl.other hs u, h.bel.setCell hp u, h.row⟩
end

/-- a slice that can be read, with its capacity -/
structure Rc (w : World) (sz : Nat) (s : Option Addr) (n c : Nat) (xs : List Value) : Prop where
  rd : Rd w sz s n xs
  le : n ≤ c
  cm : c ≤ 9223372036854775807
  nil : s = none → c = 0

theorem Sl.rc {w : World} {e : TypeId} {sz : Nat} {s : Option Addr} {n c : Nat} {xs : List Value} (h : Sl w e sz s n c xs) : Rc w sz s n c xs :=
  ⟨h.rd, h.le, h.cmax, fun q => by
    rcases h.row with ⟨_, _, r⟩ | ⟨g, off, cur, r, _⟩
    · exact r
    · rw [q] at r; cases r⟩
theorem Own.rc {w w1 : World} {e : TypeId} {sz : Nat} {s : Option Addr} {n c : Nat} {xs : List Value} (h : Own w w1 e sz s n c xs) : Rc w1 sz s n c xs := h.sl.rc
theorem Rc.kept {S : Nat → Prop} {w w' : World} {sz : Nat} {s : Option Addr} {n c : Nat} {xs : List Value} (h : Rc w sz s n c xs) (hf : Fr S w w') (hs : ∀ k, rowOf s = some k → ¬ S k) : Rc w' sz s n c xs := ⟨h.rd.kept hf hs, h.le, h.cm, h.nil⟩
theorem Rc.below {w w' : World} {sz : Nat} {s : Option Addr} {n c : Nat} {xs : List Value} (h : Rc w sz s n c xs) (hb : Below w.heap.size w w') : Rc w' sz s n c xs := ⟨h.rd.below hb, h.le, h.cm, h.nil⟩
theorem Rc.drew {w : World} {sz : Nat} {s : Option Addr} {n c : Nat} {xs : List Value} (h : Rc w sz s n c xs) : Rc w.drew sz s n c xs := ⟨⟨h.rd.len, h.rd.one, h.rd.nil, h.rd.cells⟩, h.le, h.cm, h.nil⟩
theorem Rc.drewN {w : World} {sz : Nat} {s : Option Addr} {n c : Nat} {xs : List Value} (h : Rc w sz s n c xs) (k : Nat) : Rc (w.drewN k) sz s n c xs := ⟨⟨h.rd.len, h.rd.one, h.rd.nil, h.rd.cells⟩, h.le, h.cm, h.nil⟩
theorem Rc.alloc {w : World} {sz : Nat} {s : Option Addr} {n c : Nat} {xs : List Value} (h : Rc w sz s n c xs) (o : Obj) : Rc (w.alloc o) sz s n c xs := ⟨h.rd.alloc o, h.le, h.cm, h.nil⟩
theorem Rc.lt {w : World} {sz : Nat} {s : Option Addr} {n c : Nat} {xs : List Value} (h : Rc w sz s n c xs) (hn : 0 < n * sz) : ∀ k, rowOf s = some k → k < w.heap.size := by
  intro k hk
  obtain ⟨g, off, rfl, hc⟩ := h.rd.addr hn
  simp [rowOf] at hk
  subst hk
  have hl : 0 < xs.length := by rw [h.rd.len]; exact hn
  exact World.block_lt_of_cell? _ _ (hc 0 _ (List.getElem?_eq_getElem hl))
theorem Rc.kept0 {S : Nat → Prop} {w w' : World} {sz : Nat} {s : Option Addr} {n c : Nat} {xs : List Value} (h : Rc w sz s n c xs) (hf : Fr S w w') (hs : 0 < n * sz → ∀ k, rowOf s = some k → ¬ S k) : Rc w' sz s n c xs :=
  ⟨⟨h.rd.len, h.rd.one, h.rd.nil, fun ad he j u hu => by
    have hj := (List.getElem?_eq_some_iff.1 hu).1
    rw [h.rd.len] at hj
    have hc := h.rd.cells ad he j u hu
    have hb : (ad.add j).block = ad.block := by unfold Addr.add; split <;> rfl
    refine hf.cell hc ?_
    rw [hb]; exact hs (by omega) _ (by rw [he]; rfl)⟩, h.le, h.cm, h.nil⟩
theorem add_add' (a : Addr) (i j : Nat) : (a.add i).add j = a.add (i + j) := by
  unfold Addr.add
  split <;> split <;> simp_all <;> omega
/-- the value of s[l:h] of what can be read -/
theorem Rc.cut_lh {w : World} {sz : Nat} {s : Option Addr} {n c : Nat} {xs : List Value} (h : Rc w sz s n c xs) (l k : Nat) (hl : l ≤ k) (hk : k ≤ n) :
    ∃ s', sliced s l k c sz = .slice s' (k - l) (c - l) ∧ Rc w sz s' (k - l) (c - l) ((xs.drop (l * sz)).take ((k - l) * sz)) := by
  have hle := h.le
  have hlen := h.rd.len
  have hmul : k * sz ≤ n * sz := Nat.mul_le_mul_right _ hk
  have hsub : (k - l) * sz = k * sz - l * sz := Nat.sub_mul _ _ _
  have hml : l * sz ≤ k * sz := Nat.mul_le_mul_right _ hl
  refine ⟨_, rfl, ⟨by simp; omega, fun u hu => h.rd.one u (List.mem_of_mem_drop (List.mem_of_mem_take hu)), fun q => ?_, fun ad had j u hu => ?_⟩, by omega, by have := h.cm; omega, fun q => ?_⟩
  · have hc0 : s = none := by
      split at q
      · exact q
      · cases s with
        | none => rfl
        | some ad => simp at q
    have := h.rd.nil hc0; omega
  · rw [List.getElem?_take] at hu
    split at hu
    · rename_i hj
      rw [List.getElem?_drop] at hu
      split at had
      · rename_i hcl
        have : k - l = 0 := by omega
        rw [this] at hj; simp at hj
      · cases s with
        | none => simp at had
        | some a0 =>
          simp at had
          subst had
          rw [add_add']
          exact h.rd.cells a0 rfl _ u hu
    · cases hu
  · have hc0 : s = none := by
      split at q
      · exact q
      · cases s with
        | none => rfl
        | some ad => simp at q
    have := h.nil hc0; omega
section
variable {P : Program} {t e : TypeId} {sz bytes : Nat} {w : World} {s : Option Addr} {n c : Nat} {xs : List Value}
theorem Rc.cut_l (h : Rc w sz s n c xs) (E : El P t e sz bytes) (l : Nat) (hl : l ≤ n) :
    ∃ s', (∀ (k : IntKind) (W : World), (Instr.slice t (.slice s n c) (some (.int k (l : Int))) .none .none).run P W = .ok (.slice s' (n - l) (c - l)) W) ∧ Rc w sz s' (n - l) (c - l) (xs.drop (l * sz)) := by
  obtain ⟨s', h1, h2⟩ := h.cut_lh l n hl (Nat.le_refl _)
  refine ⟨s', fun k W => ?_, ?_⟩
  · rw [run_slice_l' E k l (by omega) (by omega), Int.toNat_natCast, h1]
  · rwa [List.take_of_length_le (by simp [h.rd.len, Nat.sub_mul])] at h2
theorem Rc.cut_h (h : Rc w sz s n c xs) (E : El P t e sz bytes) (l : Nat) (hl : l ≤ n) :
    ∃ s', (∀ (k : IntKind) (W : World), (Instr.slice t (.slice s n c) .none (some (.int k (l : Int))) .none).run P W = .ok (.slice s' l c) W) ∧ Rc w sz s' l c (xs.take (l * sz)) := by
  obtain ⟨s', h1, h2⟩ := h.cut_lh 0 l (by omega) hl
  refine ⟨s', fun k W => ?_, by simpa using h2⟩
  have hle := h.le
  rw [run_slice_h' E k l (by omega) (by omega), Int.toNat_natCast, h1]; simp
end

section
variable {P : Program} {w : World} {ops : Array Oper} {o : Oper} {a : Act} {K : Act → World → Prop} {Q : Exit → Act → World → Prop} {E : Prop}
/-- append as a step of a region, its run given -/
theorem step_append_eq (hgd : o.guard = none) (so x : Operand) (t t' : TypeId) (ho : o.op = .call { callee := .builtin .append, args := #[so, x], argTypes := #[t, t'] }) (vs vx v : Value) (w' : World) (hs : a.eval so = vs) (hx : a.eval x = vx)
    (hr : (Builtin.append_ #[t, t'] o.type #[vs, vx]).run P w = .ok v w') (h : K (a.put o.dst v) w') :
    if Region.wanted o (yielded ops a.tmps) = true then Oper.wp P o a w K Q else E := by
  have hw : Region.wanted o (yielded ops a.tmps) = true := by simp [Region.wanted, hgd]
  rw [if_pos hw]
  unfold Oper.wp execOp
  simp only [ho, resolve, invoke, builtin, Sem.run_bind, Sem.run_pure, Result.andThen_ok, List.map_toArray, List.map_cons, List.map_nil, hs, hx, hr]
  exact h
/-- append to a slice of ours, the source nil or not -/
theorem run_append_any {t e : TypeId} {size bytes : Nat} (El' : El P t e size bytes) (ty : TypeId) {s : Option Addr} {n c : Nat} {xs : List Value} (hs : Sl w e size s n c xs)
    (s2 : Option Addr) (m c2 : Nat) (news : List Value) (hr : Rd w size s2 m news) (h63 : n + m ≤ 4294967297) (hb : bytes ≤ 16384) :
    ∃ s' c' w', (Builtin.append_ #[t, t] ty #[.slice s n c, .slice s2 m c2]).run P w = .ok (.slice s' (n + m) c') w' ∧ Sl w' e size s' (n + m) c' (xs ++ news) ∧
      Fr (fun k => rowOf s = some k) w w' ∧ NewOr w (rowOf s) (rowOf s') := by
  have h2 : (n + m) * bytes ≤ 4294967297 * 16384 := Nat.mul_le_mul h63 hb
  cases s2 with
  | some ad => exact run_append_sl (P := P) w El' ty hs ad m c2 news hr.len (hr.cells ad rfl) hr.one (by simp only [maxLen]; omega) (by omega)
  | none =>
    obtain rfl := hr.nil rfl
    have hn : news = [] := List.eq_nil_of_length_eq_zero (by simpa using hr.len)
    subst hn
    exact ⟨s, c, w, run_append_sl_none (P := P) w El' ty hs c2, by simpa using hs, Fr.refl _ _, NewOr.refl _ _⟩
/-- append as a step of a region: to a slice of the call's own, from what can be read -/
theorem step_append_own {w0 : World} (hgd : o.guard = none) (so x : Operand) (t : TypeId) (ho : o.op = .call { callee := .builtin .append, args := #[so, x], argTypes := #[t, t] })
    {e : TypeId} {size bytes : Nat} (El' : El P t e size bytes) (s : Option Addr) (n c : Nat) (xs : List Value) (hse : a.eval so = .slice s n c) (hs : Own w0 w e size s n c xs)
    (s2 : Option Addr) (m c2 : Nat) (news : List Value) (hx : a.eval x = .slice s2 m c2) (hr : Rd w size s2 m news) (h63 : n + m ≤ 4294967297) (hb : bytes ≤ 16384)
    (h : ∀ s' c' w', Own w0 w' e size s' (n + m) c' (xs ++ news) → Fr (fun k => rowOf s = some k) w w' → NewOr w (rowOf s) (rowOf s') → K (a.put o.dst (.slice s' (n + m) c')) w') :
    if Region.wanted o (yielded ops a.tmps) = true then Oper.wp P o a w K Q else E := by
  obtain ⟨s', c', w', h1, h2, h3, h4⟩ := run_append_any El' o.type hs.sl s2 m c2 news hr h63 hb
  exact step_append_eq hgd so x t t ho _ _ _ _ hse hx h1 (h s' c' w' (hs.app h2 h3 h4) h3 h4)
/-- append as a step of a region: to a slice in a row that may be written, from what can be read -/
theorem step_append_any (hgd : o.guard = none) (so x : Operand) (t : TypeId) (ho : o.op = .call { callee := .builtin .append, args := #[so, x], argTypes := #[t, t] })
    {e : TypeId} {size bytes : Nat} (El' : El P t e size bytes) (s : Option Addr) (n c : Nat) (xs : List Value) (hse : a.eval so = .slice s n c) (hs : Sl w e size s n c xs)
    (s2 : Option Addr) (m c2 : Nat) (news : List Value) (hx : a.eval x = .slice s2 m c2) (hr : Rd w size s2 m news) (h63 : n + m ≤ 4294967297) (hb : bytes ≤ 16384)
    (h : ∀ s' c' w', Sl w' e size s' (n + m) c' (xs ++ news) → Fr (fun k => rowOf s = some k) w w' → NewOr w (rowOf s) (rowOf s') → K (a.put o.dst (.slice s' (n + m) c')) w') :
    if Region.wanted o (yielded ops a.tmps) = true then Oper.wp P o a w K Q else E := by
  obtain ⟨s', c', w', h1, h2, h3, h4⟩ := run_append_any El' o.type hs s2 m c2 news hr h63 hb
  exact step_append_eq hgd so x t t ho _ _ _ _ hse hx h1 (h s' c' w' h2 h3 h4)
/-- append in a plain region: to a slice of the call's own, from what can be read -/
theorem wpList_append_own' {w0 : World} {rest : List Oper} (hgd : o.guard = none) (so x : Operand) (t : TypeId) (ho : o.op = .call { callee := .builtin .append, args := #[so, x], argTypes := #[t, t] })
    {e : TypeId} {size bytes : Nat} (El' : El P t e size bytes) (s : Option Addr) (n c : Nat) (xs : List Value) (hse : a.eval so = .slice s n c) (hs : Own w0 w e size s n c xs)
    (s2 : Option Addr) (m c2 : Nat) (news : List Value) (hx : a.eval x = .slice s2 m c2) (hr : Rd w size s2 m news) (h63 : n + m ≤ 4294967297) (hb : bytes ≤ 16384)
    (h : ∀ s' c' w', Own w0 w' e size s' (n + m) c' (xs ++ news) → Fr (fun k => rowOf s = some k) w w' → NewOr w (rowOf s) (rowOf s') → wpList P ops Q rest (a.put o.dst (.slice s' (n + m) c')) w') : wpList P ops Q (o :: rest) a w := by
  obtain ⟨s', c', w', h1, h2, h3, h4⟩ := run_append_any El' o.type hs.sl s2 m c2 news hr h63 hb
  exact wpList_append_eq hgd so x t t ho _ _ _ hse hx h1 (h s' c' w' (hs.app h2 h3 h4) h3 h4)
/-- append in a plain region: to a slice in a row that may be written, from what can be read -/
theorem wpList_append_any {rest : List Oper} (hgd : o.guard = none) (so x : Operand) (t : TypeId) (ho : o.op = .call { callee := .builtin .append, args := #[so, x], argTypes := #[t, t] })
    {e : TypeId} {size bytes : Nat} (El' : El P t e size bytes) (s : Option Addr) (n c : Nat) (xs : List Value) (hse : a.eval so = .slice s n c) (hs : Sl w e size s n c xs)
    (s2 : Option Addr) (m c2 : Nat) (news : List Value) (hx : a.eval x = .slice s2 m c2) (hr : Rd w size s2 m news) (h63 : n + m ≤ 4294967297) (hb : bytes ≤ 16384)
    (h : ∀ s' c' w', Sl w' e size s' (n + m) c' (xs ++ news) → Fr (fun k => rowOf s = some k) w w' → NewOr w (rowOf s) (rowOf s') → wpList P ops Q rest (a.put o.dst (.slice s' (n + m) c')) w') : wpList P ops Q (o :: rest) a w := by
  obtain ⟨s', c', w', h1, h2, h3, h4⟩ := run_append_any El' o.type hs s2 m c2 news hr h63 hb
  exact wpList_append_eq hgd so x t t ho _ _ _ hse hx h1 (h s' c' w' h2 h3 h4)
theorem Sl.below {w w' : World} {e : TypeId} {sz : Nat} {s : Option Addr} {n c : Nat} {xs : List Value} (h : Sl w e sz s n c xs) (hb : Below w.heap.size w w') : Sl w' e sz s n c xs :=
  h.kept (Fr.of_below hb) (fun _ _ q => q)
/-- the elements that buildSlice lays, as they read -/
theorem rd_built (w : World) (cs : Array Value) (e : TypeId) (sz m : Nat) (hl : cs.size = m * sz) (h1 : ∀ u ∈ cs.toList, u.oneCell' = true) : Rd (w.alloc (.cells cs e)) sz (some ⟨w.heap.size, 0, none⟩) m cs.toList :=
  ⟨by simpa using hl, h1, (fun h => by cases h), fun ad had j u hu => by
    cases had
    rw [Addr.add_lit, (Blk.new w cs e).cell]; simpa using hu⟩
theorem rd_built_at (w : World) (cs : Array Value) (e : TypeId) (sz m g : Nat) (hg : w.heap.size = g) (hl : cs.size = m * sz) (h1 : ∀ u ∈ cs.toList, u.oneCell' = true) : Rd (w.alloc (.cells cs e)) sz (some ⟨g, 0, none⟩) m cs.toList := hg ▸ rd_built w cs e sz m hl h1
end

/-- the row of s is none of what w held -/
def NewAt (w : World) (s : Option Addr) : Prop := ∀ k, rowOf s = some k → w.heap.size ≤ k
/-- a slice that is only read, as an object -/
def As.rdr (sz : Nat) (s : Option Addr) (n c : Nat) (xs : List Value) : As where
  holds w F := (∀ k, F k ↔ rowOf s = some k ∧ 0 < n * sz) ∧ Rc w sz s n c xs
  keep h hk := by
    refine ⟨h.1, ⟨h.2.rd.len, h.2.rd.one, h.2.rd.nil, fun ad he j u hu => ?_⟩, h.2.le, h.2.cm, h.2.nil⟩
    have hj := (List.getElem?_eq_some_iff.1 hu).1
    rw [h.2.rd.len] at hj
    have hb : (ad.add j).block = ad.block := by unfold Addr.add; split <;> rfl
    exact (World.cell?_of_block (by rw [hb]; exact hk _ ((h.1 _).2 ⟨by rw [he]; rfl, by omega⟩))).trans (h.2.rd.cells ad he j u hu)
  lt h k hk := h.2.lt ((h.1 k).1 hk).2 k ((h.1 k).1 hk).1
section
variable {w0 w w' : World} {L : List As} {sz n c : Nat} {s : Option Addr} {xs : List Value}
theorem St.rc (h : St w0 w (As.rdr sz s n c xs :: L)) : Rc w sz s n c xs := by
  obtain ⟨F, h1, _⟩ := h.head
  exact h1.2
theorem St.rdr_new (h : St w0 w L) (hb : Below w.heap.size w w') (hr : Rc w' sz s n c xs) (hn : NewAt w s) : St w0 w' (As.rdr sz s n c xs :: L) :=
  h.add (F' := fun k => rowOf s = some k ∧ 0 < n * sz) ⟨fun _ => Iff.rfl, hr⟩ (Fr.of_below hb) (fun k hk => hn k hk.1)
theorem St.rdr_nil (h : St w0 w L) (sz : Nat) : St w0 w (As.rdr sz none 0 0 [] :: L) :=
  h.rdr_new (Below.refl _ _) (Sl.nil w 0 sz).rc (by intro k hk; simp [rowOf] at hk)
theorem St.apart {b : Nat} {cs : Array Value} {t e : TypeId} {sz g off n c : Nat} {xs : List Value} (h : St w0 w (As.cells b cs t :: As.row e sz (some ⟨g, off, none⟩) n c xs :: L)) : g ≠ b := by
  obtain ⟨F, ⟨F1, F2, h1, ⟨F3, F4, h3, h4, h5, h6⟩, h7, h8⟩, h9⟩ := h.sep
  intro q
  subst q
  exact h8 g ((h1.1 g).2 rfl) ((h5 g).2 (.inl ((h3.1 g).2 rfl)))
/-- the first objects in another order -/
theorem St.sh (xs : List As) (σ : List Nat) (hσ : σ.Perm (List.range σ.length)) (h : St w0 w (xs ++ L)) (hl : xs.length = σ.length := by rfl) : St w0 w (σ.map (fun i => xs.getD i (As.pure True)) ++ L) := by
  rw [← hl] at hσ
  refine h.perm (List.Perm.append_right L ?_)
  have e : (List.range xs.length).map (fun i => xs.getD i (As.pure True)) = xs := by
    refine List.ext_getElem (by simp) fun i h1 h2 => ?_
    simp [List.getD_eq_getElem?_getD, h2]
  have h2 := (hσ.map (fun i => xs.getD i (As.pure True))).symm
  rwa [e] at h2
/-- two cells of the first object are written -/
theorem St.set2 {b : Nat} {x y : Value} {t : TypeId} (h : St w0 w (As.cells b #[x, y] t :: L)) (u v : Value) : St w0 ((w.setCell ⟨b, 0, none⟩ u).setCell ⟨b, 1, none⟩ v) (As.cells b #[u, v] t :: L) := by
  have := (h.set 0 u).set 1 v
  simpa using this
theorem St.two {b : Nat} {x y : Value} {t : TypeId} (h : St w0 w (As.cells b #[x, y] t :: L)) : w.cell? ⟨b, 0, none⟩ = some x ∧ w.cell? ⟨b, 1, none⟩ = some y ∧ w.frozen? ⟨b, 0, none⟩ = false ∧ w.frozen? ⟨b, 1, none⟩ = false := h.blk.1.two
end
theorem Sep.mem : ∀ (L : List As) (w : World) (F : Fp) (A : As), Sep L w F → A ∈ L → ∃ G, A.holds w G
  | [], _, _, _, _, hm => by cases hm
  | B :: L, w, F, A, h, hm => by
    obtain ⟨F1, F2, h1, h2, _⟩ := h
    cases hm with
    | head => exact ⟨F1, h1⟩
    | tail _ hm => exact Sep.mem L w F2 A h2 hm
theorem Sep.memF : ∀ (L : List As) (w : World) (F : Fp) (A : As), Sep L w F → A ∈ L → ∃ G, A.holds w G ∧ ∀ k, G k → F k
  | [], _, _, _, _, hm => by cases hm
  | B :: L, w, F, A, h, hm => by
    obtain ⟨F1, F2, h1, h2, h3, _⟩ := h
    cases hm with
    | head => exact ⟨F1, h1, fun k hk => (h3 k).2 (.inl hk)⟩
    | tail _ hm =>
      obtain ⟨G, g1, g2⟩ := Sep.memF L w F2 A h2 hm
      exact ⟨G, g1, fun k hk => (h3 k).2 (.inr (g2 k hk))⟩
/-- two blocks of the list are two -/
theorem St.ne {w0 w : World} {L : List As} {b b2 : Nat} {cs cs2 : Array Value} {t t2 : TypeId} (h : St w0 w (As.cells b cs t :: L)) (hm : As.cells b2 cs2 t2 ∈ L) : b ≠ b2 := by
  obtain ⟨F, ⟨F1, F2, h1, h2, h3, h4⟩, h5⟩ := h.sep
  obtain ⟨G, g1, g2⟩ := Sep.memF L w F2 _ h2 hm
  intro e
  subst e
  exact h4 b ((h1.1 b).2 rfl) (g2 b ((g1.1 b).2 rfl))
theorem St.mem {w0 w : World} {L : List As} {A : As} (h : St w0 w L) (hm : A ∈ L) : ∃ G, A.holds w G := by
  obtain ⟨F, h1, _⟩ := h.sep
  exact Sep.mem _ _ _ _ h1 hm
/-- the row, the block that stands somewhere in the list -/
theorem St.slm {w0 w : World} {L : List As} {e : TypeId} {sz : Nat} {s : Option Addr} {n c : Nat} {xs : List Value} (h : St w0 w L) (hm : As.row e sz s n c xs ∈ L) : Sl w e sz s n c xs := by
  obtain ⟨G, h1⟩ := h.mem hm
  exact h1.2
theorem St.blkm {w0 w : World} {L : List As} {b : Nat} {cs : Array Value} {t : TypeId} (h : St w0 w L) (hm : As.cells b cs t ∈ L) : Blk w b cs t := by
  obtain ⟨G, h1⟩ := h.mem hm
  exact h1.2
theorem Blk.c8 {w : World} {b : Nat} {a0 a1 a2 a3 a4 a5 a6 a7 : Value} {t : TypeId} (h : Blk w b #[a0, a1, a2, a3, a4, a5, a6, a7] t) : w.cell? ⟨b, 0, none⟩ = some a0 ∧ w.cell? ⟨b, 1, none⟩ = some a1 ∧ w.cell? ⟨b, 2, none⟩ = some a2 ∧ w.cell? ⟨b, 3, none⟩ = some a3 ∧ w.cell? ⟨b, 4, none⟩ = some a4 ∧ w.cell? ⟨b, 5, none⟩ = some a5 ∧ w.cell? ⟨b, 6, none⟩ = some a6 ∧ w.cell? ⟨b, 7, none⟩ = some a7 := by
  refine ⟨?_, ?_, ?_, ?_, ?_, ?_, ?_, ?_⟩
  · rw [h.cell]; rfl
  · rw [h.cell]; rfl
  · rw [h.cell]; rfl
  · rw [h.cell]; rfl
  · rw [h.cell]; rfl
  · rw [h.cell]; rfl
  · rw [h.cell]; rfl
  · rw [h.cell]; rfl
theorem Blk.f8 {w : World} {b : Nat} {cs : Array Value} {t : TypeId} (h : Blk w b cs t) : w.frozen? ⟨b, 0, none⟩ = false ∧ w.frozen? ⟨b, 1, none⟩ = false ∧ w.frozen? ⟨b, 2, none⟩ = false ∧ w.frozen? ⟨b, 3, none⟩ = false ∧ w.frozen? ⟨b, 4, none⟩ = false ∧ w.frozen? ⟨b, 5, none⟩ = false ∧ w.frozen? ⟨b, 6, none⟩ = false ∧ w.frozen? ⟨b, 7, none⟩ = false := ⟨h.free 0, h.free 1, h.free 2, h.free 3, h.free 4, h.free 5, h.free 6, h.free 7⟩
theorem St.set8 {w0 w : World} {L : List As} {b : Nat} {a0 a1 a2 a3 a4 a5 a6 a7 : Value} {t : TypeId} (h : St w0 w (As.cells b #[a0, a1, a2, a3, a4, a5, a6, a7] t :: L)) (u0 u1 u2 u3 u4 u5 u6 u7 : Value) : St w0 ((((((((w.setCell ⟨b, 0, none⟩ u0).setCell ⟨b, 1, none⟩ u1).setCell ⟨b, 2, none⟩ u2).setCell ⟨b, 3, none⟩ u3).setCell ⟨b, 4, none⟩ u4).setCell ⟨b, 5, none⟩ u5).setCell ⟨b, 6, none⟩ u6).setCell ⟨b, 7, none⟩ u7) (As.cells b #[u0, u1, u2, u3, u4, u5, u6, u7] t :: L) := by
  have h2 := ((((((((h.set 0 u0).set 1 u1).set 2 u2).set 3 u3).set 4 u4).set 5 u5).set 6 u6).set 7 u7)
  simpa using h2
theorem Blk.c14 {w : World} {b : Nat} {a0 a1 a2 a3 a4 a5 a6 a7 a8 a9 a10 a11 a12 a13 : Value} {t : TypeId} (h : Blk w b #[a0, a1, a2, a3, a4, a5, a6, a7, a8, a9, a10, a11, a12, a13] t) : w.cell? ⟨b, 0, none⟩ = some a0 ∧ w.cell? ⟨b, 1, none⟩ = some a1 ∧ w.cell? ⟨b, 2, none⟩ = some a2 ∧ w.cell? ⟨b, 3, none⟩ = some a3 ∧ w.cell? ⟨b, 4, none⟩ = some a4 ∧ w.cell? ⟨b, 5, none⟩ = some a5 ∧ w.cell? ⟨b, 6, none⟩ = some a6 ∧ w.cell? ⟨b, 7, none⟩ = some a7 ∧ w.cell? ⟨b, 8, none⟩ = some a8 ∧ w.cell? ⟨b, 9, none⟩ = some a9 ∧ w.cell? ⟨b, 10, none⟩ = some a10 ∧ w.cell? ⟨b, 11, none⟩ = some a11 ∧ w.cell? ⟨b, 12, none⟩ = some a12 ∧ w.cell? ⟨b, 13, none⟩ = some a13 := by
  refine ⟨?_, ?_, ?_, ?_, ?_, ?_, ?_, ?_, ?_, ?_, ?_, ?_, ?_, ?_⟩
  · rw [h.cell]; rfl
  · rw [h.cell]; rfl
  · rw [h.cell]; rfl
  · rw [h.cell]; rfl
  · rw [h.cell]; rfl
  · rw [h.cell]; rfl
  · rw [h.cell]; rfl
  · rw [h.cell]; rfl
  · rw [h.cell]; rfl
  · rw [h.cell]; rfl
  · rw [h.cell]; rfl
  · rw [h.cell]; rfl
  · rw [h.cell]; rfl
  · rw [h.cell]; rfl
theorem Blk.f14 {w : World} {b : Nat} {cs : Array Value} {t : TypeId} (h : Blk w b cs t) : w.frozen? ⟨b, 0, none⟩ = false ∧ w.frozen? ⟨b, 1, none⟩ = false ∧ w.frozen? ⟨b, 2, none⟩ = false ∧ w.frozen? ⟨b, 3, none⟩ = false ∧ w.frozen? ⟨b, 4, none⟩ = false ∧ w.frozen? ⟨b, 5, none⟩ = false ∧ w.frozen? ⟨b, 6, none⟩ = false ∧ w.frozen? ⟨b, 7, none⟩ = false ∧ w.frozen? ⟨b, 8, none⟩ = false ∧ w.frozen? ⟨b, 9, none⟩ = false ∧ w.frozen? ⟨b, 10, none⟩ = false ∧ w.frozen? ⟨b, 11, none⟩ = false ∧ w.frozen? ⟨b, 12, none⟩ = false ∧ w.frozen? ⟨b, 13, none⟩ = false := ⟨h.free 0, h.free 1, h.free 2, h.free 3, h.free 4, h.free 5, h.free 6, h.free 7, h.free 8, h.free 9, h.free 10, h.free 11, h.free 12, h.free 13⟩
theorem St.set14 {w0 w : World} {L : List As} {b : Nat} {a0 a1 a2 a3 a4 a5 a6 a7 a8 a9 a10 a11 a12 a13 : Value} {t : TypeId} (h : St w0 w (As.cells b #[a0, a1, a2, a3, a4, a5, a6, a7, a8, a9, a10, a11, a12, a13] t :: L)) (u0 u1 u2 u3 u4 u5 u6 u7 u8 u9 u10 u11 u12 u13 : Value) : St w0 ((((((((((((((w.setCell ⟨b, 0, none⟩ u0).setCell ⟨b, 1, none⟩ u1).setCell ⟨b, 2, none⟩ u2).setCell ⟨b, 3, none⟩ u3).setCell ⟨b, 4, none⟩ u4).setCell ⟨b, 5, none⟩ u5).setCell ⟨b, 6, none⟩ u6).setCell ⟨b, 7, none⟩ u7).setCell ⟨b, 8, none⟩ u8).setCell ⟨b, 9, none⟩ u9).setCell ⟨b, 10, none⟩ u10).setCell ⟨b, 11, none⟩ u11).setCell ⟨b, 12, none⟩ u12).setCell ⟨b, 13, none⟩ u13) (As.cells b #[u0, u1, u2, u3, u4, u5, u6, u7, u8, u9, u10, u11, u12, u13] t :: L) := by
  have h2 := ((((((((((((((h.set 0 u0).set 1 u1).set 2 u2).set 3 u3).set 4 u4).set 5 u5).set 6 u6).set 7 u7).set 8 u8).set 9 u9).set 10 u10).set 11 u11).set 12 u12).set 13 u13)
  simpa using h2
theorem Blk.c5 {w : World} {b : Nat} {a0 a1 a2 a3 a4 : Value} {t : TypeId} (h : Blk w b #[a0, a1, a2, a3, a4] t) : w.cell? ⟨b, 0, none⟩ = some a0 ∧ w.cell? ⟨b, 1, none⟩ = some a1 ∧ w.cell? ⟨b, 2, none⟩ = some a2 ∧ w.cell? ⟨b, 3, none⟩ = some a3 ∧ w.cell? ⟨b, 4, none⟩ = some a4 ∧ w.frozen? ⟨b, 0, none⟩ = false ∧ w.frozen? ⟨b, 1, none⟩ = false ∧ w.frozen? ⟨b, 2, none⟩ = false ∧ w.frozen? ⟨b, 3, none⟩ = false ∧ w.frozen? ⟨b, 4, none⟩ = false := by
  refine ⟨?_, ?_, ?_, ?_, ?_, h.free 0, h.free 1, h.free 2, h.free 3, h.free 4⟩
  · rw [h.cell]; rfl
  · rw [h.cell]; rfl
  · rw [h.cell]; rfl
  · rw [h.cell]; rfl
  · rw [h.cell]; rfl
theorem St.set5 {w0 w : World} {L : List As} {b : Nat} {a0 a1 a2 a3 a4 : Value} {t : TypeId} (h : St w0 w (As.cells b #[a0, a1, a2, a3, a4] t :: L)) (u0 u1 u2 u3 u4 : Value) : St w0 (((((w.setCell ⟨b, 0, none⟩ u0).setCell ⟨b, 1, none⟩ u1).setCell ⟨b, 2, none⟩ u2).setCell ⟨b, 3, none⟩ u3).setCell ⟨b, 4, none⟩ u4) (As.cells b #[u0, u1, u2, u3, u4] t :: L) := by
  have h2 := (((((h.set 0 u0).set 1 u1).set 2 u2).set 3 u3).set 4 u4)
  simpa using h2
end Go.K
