/-
  Items in plain words; slices.Backward at items: what its iterator hands to a loop.
-/
import Derived.Test.YtfjjgebfeklnhaaDoorHb
import Derived.Test.YtfjjgebfeklnhaaDoorKd
import Derived.RangeFuncNested
import Derived.RangeFuncBound
import Derived.RangeFuncCalls
import Derived.RangeFuncLeaves
import Derived.Shelf.Abstract
import Derived.Shelf.RegionOpen
import Derived.WalkKit
import Derived.OwnWalkIn
import Derived.TacticsInMore
import Derived.LoopNIn
import Derived.LoopIn
set_option linter.unusedVariables false
set_option linter.unusedSimpArgs false
namespace Go.Proofs.YtfjjgebfeklnhaaDoor
open Go.RowKit Go.Shelf Go.K

attribute [local go_sem] Oper.semAt_some

structure It where
  kd : Int
  r : R4
  c : R4
  col : ByteArray
  tx : ByteArray
  sz : Int
  nd : Int
def It.ok (i : It) : Prop := Bd 1000000 i.r ∧ (Bd 1000000 i.c ∧ i.tx.size ≤ 1000)
abbrev GI := { i : It // i.ok }
def icells (x : GI) : List Value := [.int .i64 x.1.kd, .int .i64 x.1.r.x, .int .i64 x.1.r.y, .int .i64 x.1.r.w, .int .i64 x.1.r.h, .int .i64 x.1.c.x, .int .i64 x.1.c.y, .int .i64 x.1.c.w, .int .i64 x.1.c.h, .string x.1.col, .string x.1.tx, .int .i64 x.1.sz, .int .i64 x.1.nd]
abbrev iv (x : It) : Value := .agg #[.int .i64 x.kd, .int .i64 x.r.x, .int .i64 x.r.y, .int .i64 x.r.w, .int .i64 x.r.h, .int .i64 x.c.x, .int .i64 x.c.y, .int .i64 x.c.w, .int .i64 x.c.h, .string x.col, .string x.tx, .int .i64 x.sz, .int .i64 x.nd]

theorem i_at {w : World} {g off n : Nat} {ls : List GI} (hs : Rd w 13 (some ⟨g, off, none⟩) n (flat icells ls)) {k : Nat} (hk : k < ls.length) (x : GI) (hx : ls[k] = x) :
    w.cell? ⟨g, off + k * 13 , none⟩ = some (.int .i64 x.1.kd) ∧ w.cell? ⟨g, off + k * 13 + 1, none⟩ = some (.int .i64 x.1.r.x) ∧ w.cell? ⟨g, off + k * 13 + 1 + 1, none⟩ = some (.int .i64 x.1.r.y) ∧ w.cell? ⟨g, off + k * 13 + 1 + 2, none⟩ = some (.int .i64 x.1.r.w) ∧ w.cell? ⟨g, off + k * 13 + 1 + 3, none⟩ = some (.int .i64 x.1.r.h) ∧ w.cell? ⟨g, off + k * 13 + 5, none⟩ = some (.int .i64 x.1.c.x) ∧ w.cell? ⟨g, off + k * 13 + 5 + 1, none⟩ = some (.int .i64 x.1.c.y) ∧ w.cell? ⟨g, off + k * 13 + 5 + 2, none⟩ = some (.int .i64 x.1.c.w) ∧ w.cell? ⟨g, off + k * 13 + 5 + 3, none⟩ = some (.int .i64 x.1.c.h) ∧ w.cell? ⟨g, off + k * 13 + 9, none⟩ = some (.string x.1.col) ∧ w.cell? ⟨g, off + k * 13 + 10, none⟩ = some (.string x.1.tx) ∧ w.cell? ⟨g, off + k * 13 + 11, none⟩ = some (.int .i64 x.1.sz) ∧ w.cell? ⟨g, off + k * 13 + 12, none⟩ = some (.int .i64 x.1.nd) := by
  have e := fun j hj => flat_at (f := icells) (sz := 13) (fun _ => rfl) ls k j hk hj
  rw [hx] at e
  have c := fun j u h => hs.cells _ rfl j u h
  simp only [Addr.add_lit] at c
  have q := fun j hj => c _ _ ((e j hj).trans (List.getElem?_eq_getElem (by show j < 13; exact hj)))
  simp only [← Nat.add_assoc] at q
  exact ⟨by have := q 0 (by omega); rwa [Nat.add_zero] at this, q 1 (by omega), by have := q 2 (by omega); rwa [show off + k * 13 + 2 = off + k * 13 + 1 + 1 by omega] at this, by have := q 3 (by omega); rwa [show off + k * 13 + 3 = off + k * 13 + 1 + 2 by omega] at this, by have := q 4 (by omega); rwa [show off + k * 13 + 4 = off + k * 13 + 1 + 3 by omega] at this, q 5 (by omega), by have := q 6 (by omega); rwa [show off + k * 13 + 6 = off + k * 13 + 5 + 1 by omega] at this, by have := q 7 (by omega); rwa [show off + k * 13 + 7 = off + k * 13 + 5 + 2 by omega] at this, by have := q 8 (by omega); rwa [show off + k * 13 + 8 = off + k * 13 + 5 + 3 by omega] at this, q 9 (by omega), q 10 (by omega), q 11 (by omega), q 12 (by omega)⟩

/-- what a round keeps: what lay below n₀, and the iterator's own box -/
structure BK (n₀ Bs : Nat) (W W' : World) : Prop where
  bel : Below n₀ W W'
  box : W'.heap[Bs]? = W.heap[Bs]?
theorem BK.refl (n₀ Bs : Nat) (W : World) : BK n₀ Bs W W := ⟨Below.refl _ _, rfl⟩
theorem BK.trans {n₀ Bs : Nat} {A B C : World} (h : BK n₀ Bs A B) (k : BK n₀ Bs B C) : BK n₀ Bs A C := ⟨h.bel.trans k.bel, k.box.trans h.box⟩
theorem BK.cell {n₀ Bs : Nat} {A B : World} (h : BK n₀ Bs A B) (i : Nat) : B.cell? ⟨Bs, i, none⟩ = A.cell? ⟨Bs, i, none⟩ := by simp [World.cell?, h.box]
theorem bk_b {n₀ Bs : Nat} {w : World} (hn : n₀ ≤ w.heap.size) (hB : Bs < w.heap.size) (W : World) (l : Nat) (o o' : Obj) (hl : w.heap.size ≤ l) (h1 : W.heap[l]? = some o) (h2 : o.isCells = false) (h3 : o.isWalk = false) : BK n₀ Bs W (W.putObj l o') :=
  ⟨belowK_b hn W l o o' hl h1 h2 h3, World.putObj_heap_other (by omega)⟩
theorem BK.below {n₀ Bs : Nat} {A B : World} (h : Below A.heap.size A B) (hB : Bs < A.heap.size) (hn : n₀ ≤ A.heap.size) : BK n₀ Bs A B := ⟨h.mono hn, h.block Bs hB⟩

/-- what has come when k rounds are over -/
def upto {α : Type} (f : Nat → α) (k : Nat) : List α := (List.range k).map f
theorem upto_succ {α : Type} (f : Nat → α) (k : Nat) : upto f (k + 1) = upto f k ++ [f k] := by simp [upto, List.range_succ]
theorem upto_length {α : Type} (f : Nat → α) (k : Nat) : (upto f k).length = k := by simp [upto]

instance : Inhabited GI := ⟨⟨⟨0, .zero, .zero, .empty, .empty, 0, 0⟩, by simp [It.ok, Bd, R4.zero]⟩⟩
/-- the j-th pair that comes -/
def bk (ls : List GI) (j : Nat) : Int × GI := (((ls.length - 1 - j : Nat) : Int), ls.getD (ls.length - 1 - j) default)

set_option maxRecDepth 100000 in
set_option maxHeartbeats 2000000 in
theorem bw1_in (F : Fence) (n : Nat) (h41 : F.fn 26) (hro : F.round = none) (hn : 1 ≤ n) (l Bs n₀ b off cap : Nat) (ls : List GI) (hlen : ls.length ≤ 1000000) (hb : b < n₀) (J Jx : List (Int × GI) → World → Prop)
    (hY : ∀ pre x W, J pre W → pre.length < ls.length → YieldAt F (n - 1) Tryd.prog l #[.int .i64 x.1, iv x.2.1] W fun e W' =>
      (e = .returned (.bool true) ∧ J (pre ++ [x]) W' ∧ BK n₀ Bs W W') ∨ (e = .returned (.bool false) ∧ Jx (pre ++ [x]) W'))
    (W : World) (hBs : W.cell? ⟨Bs, 0, none⟩ = some (.slice (some ⟨b, off, none⟩) ls.length cap)) (hc : Rd W 13 (some ⟨b, off, none⟩) ls.length (flat icells ls)) (h0 : J [] W) :
    CallsIn F n Tryd.prog 26 #[.func (.yield l) #[] #[], .pointer (some ⟨Bs, 0, none⟩)] W fun e W' => (∃ v, e = .returned v) ∧
      ((∃ ys, ys = upto (bk ls) ls.length ∧ J ys W') ∨ (∃ pre, (∃ k, k ≤ ls.length ∧ pre = upto (bk ls) k) ∧ Jx pre W')) := by
  refine callsIn_of_wp Tryd.func26 rfl h41 ?_ hro
  simp only [Tryd.ntmps26, List.size_toArray, List.length_cons, List.length_nil, Nat.reduceAdd, Nat.reduceSub, Array.replicate_succ, Array.replicate_zero, List.push_toArray, List.append_toArray, List.nil_append, List.cons_append]
  have hlenI : (ls.length : Int) ≤ 1000000 := by omega
  have hlenI0 : (0 : Int) ≤ (ls.length : Int) := by omega
  gi_wp2
  gi_loopw [3] (fun i wr => ∃ k : Nat, k ≤ ls.length ∧ i = .int .i64 ((k : Int) - 1) ∧ J (upto (bk ls) (ls.length - k)) wr ∧ BK n₀ Bs W wr)
    (fun i _ => (intOf i + 1).toNat)
  case atStart => exact ⟨ls.length, Nat.le_refl _, rfl, by simpa [upto] using h0, BK.refl _ _ _⟩
  case round =>
    obtain ⟨k, hk, rfl, hJs, hnx⟩ := hrel
    have hcB := (hnx.cell 0).trans hBs
    cases k with
    | zero =>
      gi_wp2
      go_end0
      exact ⟨⟨_, rfl⟩, .inl ⟨_, rfl, hJs⟩⟩
    | succ m =>
      have hm : m < ls.length := by omega
      have e1 : ((m + 1 : Nat) : Int) - 1 = (m : Int) := by omega
      rw [e1]
      have hrd : Rd wr 13 (some ⟨b, off, none⟩) ls.length (flat icells ls) := ⟨hc.len, hc.one, hc.nil, fun a ha j u h => (hnx.bel.cell (by cases ha; simpa [Addr.add_lit] using hb)).trans (hc.cells a ha j u h)⟩
      obtain ⟨x, hx⟩ : ∃ x, ls[m] = x := ⟨_, rfl⟩
      obtain ⟨d0, d1, d2, d3, d4, d5, d6, d7, d8, d9, d10, d11, d12⟩ := i_at hrd hm x hx
      have hbk : bk ls (ls.length - (m + 1)) = ((m : Int), x) := by
        unfold bk
        rw [show ls.length - 1 - (ls.length - (m + 1)) = m by omega]
        simp [List.getElem?_eq_getElem hm, hx]
      obtain ⟨fn, tmps, assign, body, hy, hR⟩ := hY _ ((m : Int), x) wr hJs (by rw [upto_length]; omega)
      dsimp only at hy
      have hmI : (m : Int) < (ls.length : Int) := by omega
      have hm0 : (0 : Int) ≤ (m : Int) := by omega
      gi_wp2
      refine hR.mono ?_
      rintro e W3 (⟨rfl, hJ3, hk3⟩ | ⟨rfl, hJx3⟩)
      · gi_wp2
        go_roundw
        case rel => exact ⟨m, by omega, rfl, by rw [show ls.length - m = ls.length - (m + 1) + 1 by omega, upto_succ, hbk]; exact hJ3, hnx.trans hk3⟩
        case measure => simp [intOf]
      · gi_wp2
        refine bodyPost_ret (results_none rfl _ _ _) rfl ?_
        exact ⟨⟨_, rfl⟩, .inr ⟨_, ⟨ls.length - m, by omega, by rw [show ls.length - m = ls.length - (m + 1) + 1 by omega, upto_succ, hbk]⟩, hJx3⟩⟩
end Go.Proofs.YtfjjgebfeklnhaaDoor
