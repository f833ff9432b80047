/-
  PaintDraws: text.Points, the function that a loop takes.
-/
import Derived.Test.YtifgjccnhbbadaaNq
import Derived.Test.YtifgjccnhbbadaaKz
import Derived.Test.YtifgjccnhbbadaaKg
import Derived.Test.YtifgjccnhbbadaaKx
import Derived.RangeFuncNested
import Derived.RangeFuncBound
import Derived.RangeFuncCalls
import Derived.RangeFuncLeaves
import Derived.Shelf.Abstract
import Derived.Shelf.RegionOpen
import Derived.WalkKit
import Derived.OwnWalkIn
import Derived.TacticsInMore
import Derived.LoopNIn
import Derived.LoopIn
import Derived.Lib.OthersKept
set_option linter.unusedVariables false
set_option linter.unusedSimpArgs false
namespace Go.Proofs.Ytifgjccnhbbadaa
open Go.RowKit Go.Shelf Go.K Go.PlainAid Go.Lib

attribute [local go_sem] Oper.semAt_some

/-- what a round keeps: the iterator's box and the walks -/
structure KW (Bs : Nat) (W W' : World) : Prop where
  size : W.heap.size ≤ W'.heap.size
  box : Bs < W.heap.size → W'.heap[Bs]? = W.heap[Bs]?
  same : ∀ (k : Nat) (o : Obj), W.heap[k]? = some o → o.isWalk = true → W'.heap[k]? = some o
theorem KW.refl (Bs : Nat) (W : World) : KW Bs W W := ⟨Nat.le_refl _, fun _ => rfl, fun _ _ h _ => h⟩
theorem KW.trans {Bs : Nat} {A B C : World} (h : KW Bs A B) (k : KW Bs B C) : KW Bs A C :=
  ⟨Nat.le_trans h.size k.size, fun q => (k.box (Nat.lt_of_lt_of_le q h.size)).trans (h.box q), fun i o hi ho => k.same i o (h.same i o hi ho) ho⟩
theorem kw_b {Bs : Nat} {w : World} (hB : Bs < w.heap.size) (W : World) (l : Nat) (o o' : Obj) (hl : w.heap.size ≤ l) (h1 : W.heap[l]? = some o) (h3 : o.isWalk = false) : KW Bs W (W.putObj l o') :=
  ⟨by simp, fun _ => World.putObj_heap_other (by omega), fun k ob hk hb => by
    have : k ≠ l := by rintro rfl; rw [h1] at hk; cases hk; rw [h3] at hb; cases hb
    rw [World.putObj_heap_other (by omega)]; exact hk⟩
theorem KW.below {Bs : Nat} {A B : World} (h : Below A.heap.size A B) : KW Bs A B :=
  ⟨h.size, fun q => h.block Bs q, fun k o hk _ => (h.block k (Array.getElem?_eq_some_iff.1 hk).1).trans hk⟩
theorem KW.set {Bs : Nat} {A : World} {p : Addr} {u v : Value} (hc : A.cell? p = some u) (hp : p.block ≠ Bs) : KW Bs A (A.setCell p v) := by
  have hf : Fr (fun k => k = p.block) A (A.setCell p v) := Fr.setCell (S := fun k => k = p.block) (Fr.refl _ _) (fun _ => rfl) v
  obtain ⟨o, h1, h2⟩ := cells_of_cell hc
  refine ⟨hf.size, fun q => hf.block Bs q (fun e => hp e.symm), fun k ob hk hb => (hf.block k (Array.getElem?_eq_some_iff.1 hk).1 ?_).trans hk⟩
  rintro rfl
  rw [h1] at hk
  cases hk
  cases o <;> simp_all [Obj.isWalk, Obj.isCells]
theorem kf_set {B : Nat} {A : World} {p : Addr} {u v : Value} (hc : A.cell? p = some u) : KeepsFrom B A (A.setCell p v) := by
  have hf : Fr (fun k => k = p.block) A (A.setCell p v) := Fr.setCell (S := fun k => k = p.block) (Fr.refl _ _) (fun _ => rfl) v
  obtain ⟨o, h1, h2⟩ := cells_of_cell hc
  refine ⟨hf.size, fun k ob _ hk hb => (hf.block k (Array.getElem?_eq_some_iff.1 hk).1 ?_).trans hk⟩
  rintro rfl
  rw [h1] at hk
  cases hk
  rw [h2] at hb
  cases hb

abbrev pe (s : ByteArray) (j : Nat) : Array Value := #[.int .i64 j, .int .i32 (rn s j)]

set_option maxRecDepth 100000 in
set_option maxHeartbeats 2000000 in
theorem pts1_in (F : Fence) (n : Nat) (h37 : F.fn 37) (hro : F.round = none) (hn : 1 ≤ n) (l Bs : Nat) (s : ByteArray) (hs : s.size ≤ 1000) (J Jx : List Nat → World → Prop)
    (hY : ∀ pre x W, J pre W → pre.length < runeCount s → YieldAt F (n - 1) Try.prog l (pe s x) W fun e W' =>
      (e = .returned (.bool true) ∧ J (pre ++ [x]) W' ∧ KW Bs W W') ∨ (e = .returned (.bool false) ∧ Jx (pre ++ [x]) W'))
    (W : World) (hJ : AbidesFrom W.heap.size J) (hB : W.cell? ⟨Bs, 0, none⟩ = some (.string s)) (h0 : J [] W) :
    CallsIn F n Try.prog 37 #[.func (.yield l) #[] #[], .pointer (some ⟨Bs, 0, none⟩)] W fun e W' => (∃ v, e = .returned v) ∧
      ((∃ ys, ys = List.range (runeCount s) ∧ J ys W') ∨ (∃ pre, (∃ k, k ≤ runeCount s ∧ pre = List.range k) ∧ Jx pre W')) := by
  refine callsIn_of_wp Try.func37 rfl h37 ?_ hro
  simp only [Try.ntmps37, List.size_toArray, List.length_cons, List.length_nil, Nat.reduceAdd, Nat.reduceSub, Array.replicate_succ, Array.replicate_zero, List.push_toArray, List.append_toArray, List.nil_append, List.cons_append]
  gi_wp2
  gi_loopw [3] (fun v3 wr => ∃ j : Nat, j ≤ runeCount s ∧ v3 = .int .i64 j ∧ wr.heap[W.heap.size]? = some (.stringIter s (posAt s j)) ∧ J (List.range j) wr)
    (fun _ wr => s.size - wr.iterPos W.heap.size)
  case atStart =>
    exact ⟨0, Nat.zero_le _, rfl, World.iter_heap _ _ _, hJ [] W _ none h0 (World.grownBy_alloc W _ none) (fun r e => by cases e)⟩
  case round =>
    obtain ⟨j, hj, rfl, hit, hJs⟩ := hrel
    have HIT := Lib.hid hit
    by_cases hp : posAt s j < s.size
    · have hnx : ∀ ty, (Instr.next (.pointer (some ⟨W.heap.size, 0, none⟩)) true ty).run Try.prog wr = _ := fun ty => run_next_any_at wr W.heap.size s (posAt s j) ty hit hp
      obtain ⟨wr2, hwr2⟩ : ∃ w2, wr.iterAt W.heap.size s (posAt s j + (Utf8.decode s (posAt s j)).2) = w2 := ⟨_, rfl⟩
      rw [← posAt_succ hp] at hwr2
      have hit2 : wr2.heap[W.heap.size]? = some (.stringIter s (posAt s (j + 1))) := by rw [← hwr2]; exact iterAt_heap _ _ _ _ _ hit
      have hJ2 : J (List.range j) wr2 := by
        rw [← hwr2]
        exact hJ _ wr _ (some W.heap.size) hJs (grownBy_putObj' wr W.heap.size _) (fun r e => by cases e; exact ⟨Nat.le_refl _, _, hit, rfl⟩)
      rw [← posAt_succ hp, hwr2] at hnx
      have hjr := in_of_pos s hp
      obtain ⟨fn, tmps, assign, body, hy, hR⟩ := hY (List.range j) j wr2 hJ2 (by simpa using hjr)
      dsimp only [pe, rn] at hy
      have hj1 : wrap64 ((j : Int) + 1) = ((j + 1 : Nat) : Int) := by
        have := pos_ge s j hj
        have := posAt_le s j
        unfold wrap64; omega
      have hlt := posAt_lt hp
      have HIT2 := Lib.hid hit2
      have HP := Lib.hid (posAt_le s (j + 1))
      have HLT := Lib.hid hlt
      clear hit hit2 hlt hwr2
      gi_wp2
      refine hR.mono ?_
      rintro e W3 (⟨rfl, hJ3, hk3⟩ | ⟨rfl, hJx3⟩)
      · have h3 := hk3.same _ _ HIT2.out rfl
        have H3 := Lib.hid h3
        have H1 := Lib.hid hj1
        clear h3 hj1
        gi_wp2
        go_roundw
        case rel => exact ⟨j + 1, by omega, by rw [← H1.out], H3.out, by rw [List.range_succ]; exact hJ3⟩
        case measure =>
          have e1 : W3.iterPos W.heap.size = posAt s (j + 1) := by unfold World.iterPos; rw [H3.out]
          have e2 : wr.iterPos W.heap.size = posAt s j := by unfold World.iterPos; rw [HIT.out]
          have := HP.out
          have := HLT.out
          omega
      · gi_wp2
        refine bodyPost_ret (results_none rfl _ _ _) rfl ?_
        exact ⟨⟨_, rfl⟩, .inr ⟨_, ⟨j + 1, by omega, (List.range_succ).symm⟩, hJx3⟩⟩
    · have hnx : ∀ ty, (Instr.next (.pointer (some ⟨W.heap.size, 0, none⟩)) true ty).run Try.prog wr = _ := fun ty => run_next_end_at wr W.heap.size s (posAt s j) ty hit hp
      have HE := Lib.hid (at_end s hj hp)
      gi_wp2
      go_end0
      exact ⟨⟨_, rfl⟩, .inl ⟨_, rfl, by rw [← HE.out]; exact hJs⟩⟩
theorem pts_any (s : ByteArray) (w : World) : Calls Try.prog 29 #[.string s] w fun e w' => e = .returned (.func (.func 37) #[] #[.pointer (some ⟨w.heap.size, 0, none⟩)]) ∧ w' = w.alloc (.cells #[.string s] 9) := by
  go_enter Try.func29, Try.ntmps29
  go_wp2_with fail
  go_ret
  exact ⟨rfl, rfl⟩
theorem pts_stops (F : Fence) (n : Nat) (h37 : F.fn 37) (hro : F.round = none) (hn : 1 ≤ n) (Bs : Nat) (s : ByteArray) (hs : s.size ≤ 1000) (w : World) (hc : w.cell? ⟨Bs, 0, none⟩ = some (.string s)) :
    SeqStopsK F n Try.prog 37 #[.pointer (some ⟨Bs, 0, none⟩)] (pe s) (KW Bs) (fun ys => ys = List.range (runeCount s)) (fun pre => ∃ k, k ≤ runeCount s ∧ pre = List.range k) (runeCount s) w := fun l J Jx W hW hJ _ hY h0 =>
  pts1_in F n h37 hro hn l Bs s hs J Jx hY W hJ ((hW.cell (World.block_lt_of_cell? _ _ hc)).trans hc) h0
end Go.Proofs.Ytifgjccnhbbadaa
