/-
  Contracts of the queue of integers: Push, Peek, Pop, Len and slices.Clone.
-/
import Derived.Test.YtkddkbjgnndflaaProg
import Derived.Test.YtkddkbjgnndflaaKl
set_option linter.unusedVariables false
namespace Go.Proofs.Ytkddkbjgnndflaa
open Go.RowKit Go.K

theorem info3 : (Try.prog.info? 3).map (fun i => (i.zero, i.size, i.bytes)) = some (some (.int .i64 0), 1, 8) := by kernel_rfl
theorem el24 : El Try.prog 24 3 1 8 := by
  obtain ⟨i, hi, h1, h2, h3⟩ := info_parts info3
  exact ⟨by kernel_rfl, ⟨i, _, hi, h1, h2, h3, rfl⟩, by decide⟩

set_option maxHeartbeats 400000 in
theorem len_at (b : Nat) (s : Option Addr) (n c : Nat) (w : World) (hq : w.cell? ⟨b, 0, none⟩ = some (.slice s n c)) :
    Calls Try.prog 15 #[.pointer (some ⟨b, 0, none⟩)] w fun e w' => e = .returned (.int .i64 n) ∧ w = w' := by
  go_enter Try.func15, Try.ntmps15
  go_wp2
  go_ret
  exact ⟨rfl, rfl⟩

set_option maxHeartbeats 400000 in
theorem peek_none (b : Nat) (s : Option Addr) (c : Nat) (w : World) (hq : w.cell? ⟨b, 0, none⟩ = some (.slice s 0 c)) :
    Calls Try.prog 13 #[.pointer (some ⟨b, 0, none⟩)] w fun e w' => e = .returned (.tuple #[.int .i64 0, .bool false]) ∧ w = w' := by
  go_enter Try.func13, Try.ntmps13
  go_wp2
  go_ret2
  exact ⟨rfl, rfl⟩

set_option maxHeartbeats 400000 in
theorem peek_some (b g off : Nat) (n c : Nat) (x : Int) (w : World) (hq : w.cell? ⟨b, 0, none⟩ = some (.slice (some ⟨g, off, none⟩) (n + 1) c)) (hx : w.cell? ⟨g, off, none⟩ = some (.int .i64 x)) :
    Calls Try.prog 13 #[.pointer (some ⟨b, 0, none⟩)] w fun e w' => e = .returned (.tuple #[.int .i64 x, .bool true]) ∧ w = w' := by
  have hn1 : ((n : Int) + 1 == 0) = false := by simp; omega
  go_enter Try.func13, Try.ntmps13
  go_wp2
  go_ret2
  exact ⟨rfl, rfl⟩

/-- a queue at block b: its row's block r, n elements that read as xs -/
def Qu (w : World) (b T e sz : Nat) (r : Option Nat) (n : Nat) (xs : List Value) : Prop :=
  ∃ s c, rowOf s = r ∧ Blk w b #[.slice s n c] T ∧ Sl w e sz s n c xs ∧ r ≠ some b

def PushPost (w : World) (b T e sz : Nat) (r : Option Nat) (n : Nat) (xs : List Value) (E : Ending) (w' : World) : Prop :=
  E = .returned (.tuple #[]) ∧ ∃ r', Qu w' b T e sz r' n xs ∧ Fr (fun k => k = b ∨ r = some k) w w' ∧ NewOr w r r'

set_option maxHeartbeats 400000 in
theorem push_any (b : Nat) (r : Option Nat) (n : Nat) (xs : List Value) (x : Int) (w : World) (hq : Qu w b 26 3 1 r n xs) (hn : n ≤ 4294967296) :
    Calls Try.prog 12 #[.pointer (some ⟨b, 0, none⟩), .int .i64 x] w (PushPost w b 26 3 1 r (n + 1) (xs ++ [.int .i64 x])) := by
  obtain ⟨s, c, rfl, hb, hs, hne⟩ := hq
  have hc := hb.cell 0
  simp at hc
  go_enter Try.func12, Try.ntmps12
  go_wp2_with (at_builtin; refine wpList_append_one w rfl _ _ 24 rfl el24 s n c xs rfl hs 1 _ rfl rfl (by simp [Value.oneCell']) (by omega) (by omega) ?_)
  intro s' c' w' g1 g2 g3
  have hb' : Blk w' b #[.slice s n c] 26 := hb.kept g2 hne
  have hc' := hb'.cell 0
  have hf' := hb'.free 0
  simp at hc'
  clear hc
  go_wp2
  go_end0
  refine ⟨rfl, rowOf s', ⟨s', c', rfl, hb'.set 0 _, g1.other ?_ _, g3.ne hb.lt hne⟩, ?_, g3⟩
  · intro k hk e
    subst e
    exact g3.ne hb.lt hne hk
  · exact (g2.mono (fun _ _ q => .inr q)).setCell (fun _ => .inl rfl) _

def ClonePost (w : World) (e sz : Nat) (n : Nat) (xs : List Value) (E : Ending) (w' : World) : Prop :=
  ∃ s c, E = .returned (.slice s n c) ∧ Sl w' e sz s n c xs ∧ Fr emp w w' ∧ NewOr w .none (rowOf s)

set_option maxHeartbeats 400000 in
theorem clone_nil (w : World) : Calls Try.prog 36 #[.slice none 0 0] w (ClonePost w 3 1 0 []) := by
  have hnil := fun w => Lib.run_eql_slice_nil (P := Try.prog) w 24 3 none 0 0 0 0 Try.underlying24
  go_enter Try.func36, Try.ntmps36
  go_wp2
  go_ret
  exact ⟨none, 0, rfl, Sl.nil _ _ _, Fr.refl _ _, .inl rfl⟩

set_option maxHeartbeats 400000 in
theorem clone_some (a : Addr) (n c : Nat) (xs : List Value) (w : World) (hr : Rd w 1 (some a) n xs) (hn : n ≤ 4294967296) :
    Calls Try.prog 36 #[.slice (some a) n c] w (ClonePost w 3 1 n xs) := by
  have hnil := fun w => Lib.run_eql_slice_nil (P := Try.prog) w 24 3 (some a) n c 0 0 Try.underlying24
  have hr' := hr.alloc (.cells #[] 3)
  have h0 : Sl (w.alloc (.cells #[] 3)) 3 1 (some ⟨w.heap.size, 0, .none⟩) 0 0 [] := ⟨by simp, by simp, .inr ⟨w.heap.size, 0, #[], rfl, Blk.new w #[] 3, by omega, by simp [maxLen], by simp, by simp⟩⟩
  go_enter Try.func36, Try.ntmps36
  go_wp2_with (at_builtin; refine wpList_append_sl _ rfl _ _ 24 rfl el24 _ 0 0 [] rfl h0 (some a) n c xs rfl hr'.len hr'.nil hr'.cells hr'.one (by simp only [maxLen]; omega) (by omega) ?_)
  intro s' c' w' g1 g2 g3
  try simp only [Nat.zero_add, List.nil_append] at g1
  go_wp2
  go_ret
  refine ⟨s', c', by simp, g1, (((Fr.refl emp w).alloc _).trans g2 ?_), ?_⟩
  · intro i hi e; simp [rowOf] at e; omega
  · rcases g3 with q | ⟨g, q1, q2⟩
    · exact .inr ⟨w.heap.size, by rw [q]; rfl, Nat.le_refl _⟩
    · exact .inr ⟨g, q1, by simp at q2; omega⟩

theorem clone_any (s : Option Addr) (n c : Nat) (xs : List Value) (w : World) (hs : Sl w 3 1 s n c xs) (hn : n ≤ 4294967296) :
    Calls Try.prog 36 #[.slice s n c] w (ClonePost w 3 1 n xs) := by
  cases s with
  | some a => exact clone_some a n c xs w hs.rd hn
  | none =>
    rcases hs.row with ⟨_, rfl, rfl⟩ | ⟨_, _, _, h, _⟩
    · rw [hs.empty]; exact clone_nil w
    · cases h

def PopPost (w : World) (b T e sz : Nat) (v : Value) (n : Nat) (xs : List Value) (E : Ending) (w' : World) : Prop :=
  E = .returned (.tuple #[v, .bool true]) ∧ ∃ r', Qu w' b T e sz r' n xs ∧ Fr (fun k => k = b) w w' ∧ NewOr w .none r'

set_option maxHeartbeats 400000 in
theorem pop_some (b : Nat) (r : Option Nat) (n : Nat) (xs : List Value) (x : Int) (w : World) (hq : Qu w b 26 3 1 r (n + 1) (.int .i64 x :: xs)) (hn : n ≤ 4294967296) :
    Calls Try.prog 14 #[.pointer (some ⟨b, 0, none⟩)] w (PopPost w b 26 3 1 (.int .i64 x) n xs) := by
  obtain ⟨s, c, rfl, hb, hs, hne⟩ := hq
  have hle := hs.le
  obtain ⟨s', hsl, hs', hr'⟩ := hs.cut_l el24 1 (by omega)
  obtain ⟨g, off, rfl, hcell, _, _⟩ := hs.some_of (by omega)
  have hc := hb.cell 0
  simp at hc hsl hs'
  have hx := hcell 0 (by omega)
  simp at hx
  have Hs := Lib.hid hs
  have Hr := Lib.hid hr'
  clear hs hcell hr'
  go_enter Try.func14, Try.ntmps14
  go_wp2_with (first | (go_at_call 13; refine (peek_some _ _ _ _ _ _ _ hc hx).mono ?_; rintro e w' ⟨rfl, rfl⟩) | (go_at_call 36; refine (clone_any _ _ _ _ _ hs' hn).mono ?_))
  rintro e w' ⟨s2, c2, rfl, g1, g2, g3⟩
  have hb' := hb.kept g2 (fun e => e)
  have hc' := hb'.cell 0
  have hf' := hb'.free 0
  simp at hc'
  clear hc hx hsl
  go_wp2
  go_ret2
  have hne2 : rowOf s2 ≠ some b := g3.ne hb.lt (by simp)
  refine ⟨rfl, rowOf s2, ⟨s2, c2, rfl, hb'.set 0 _, g1.other ?_ _, hne2⟩, ?_, g3⟩
  · intro k hk e; subst e; exact hne2 hk
  · refine Fr.setCell (g2.mono ?_) ?_ _
    · exact fun _ _ q => q.elim
    · exact fun _ => rfl

set_option maxHeartbeats 400000 in
theorem pop_none (b : Nat) (r : Option Nat) (xs : List Value) (w : World) (hq : Qu w b 26 3 1 r 0 xs) :
    Calls Try.prog 14 #[.pointer (some ⟨b, 0, none⟩)] w fun e w' => e = .returned (.tuple #[.int .i64 0, .bool false]) ∧ w = w' := by
  obtain ⟨s, c, rfl, hb, hs, hne⟩ := hq
  have hc := hb.cell 0
  simp at hc
  go_enter Try.func14, Try.ntmps14
  go_wp2_with (first | (go_at_call 13; refine (peek_none _ _ _ _ hc).mono ?_; rintro e w' ⟨rfl, rfl⟩))
  go_ret2
  exact ⟨rfl, rfl⟩

end Go.Proofs.Ytkddkbjgnndflaa
