/-
  The object of a dispatch; contracts of finish, Stop, Halt, Prevent, New, Clone.
-/
import Derived.Test.YtianjcbofgdfdaaEd
set_option linter.unusedVariables false
set_option linter.unusedSimpArgs false
namespace Go.Proofs.Ytianjcbofgdfdaa
open Go.RowKit Go.K Go.K.Ev

def gcells (t : Tg) : List Value := [.int .i64 t.kind, .int .i64 t.id]
def ints (l : List Int) : List Value := l.map (Value.int .i64)
theorem ints_len (l : List Int) : (ints l).length = l.length := by simp [ints]

abbrev dCells (d : Dp) (sp : Option Addr) (cp : Nat) (sq : Option Addr) (cq : Nat) : Array Value :=
  #[.string d.ty, .bool d.bub, .bool d.can, .slice sp d.path.length cp, .int .i64 d.st, .slice sq d.q.length cq, .int .i64 d.cur.kind, .int .i64 d.cur.id, .int .i64 d.ph, .bool d.pas, .bool d.stop, .bool d.halt, .bool d.prev, .bool d.done]

/-- a dispatch at block b -/
def dObj (b : Nat) (d : Dp) : As := As.ex fun p : (Option Addr × Nat) × (Option Addr × Nat) =>
  As.star (As.cells b (dCells d p.1.1 p.1.2 p.2.1 p.2.2) 45) (As.star (As.row 39 2 p.1.1 d.path.length p.1.2 (flat gcells d.path)) (As.row 3 1 p.2.1 d.q.length p.2.2 (ints d.q)))

abbrev dOpen (b : Nat) (d : Dp) (sp : Option Addr) (cp : Nat) (sq : Option Addr) (cq : Nat) (L : List As) : List As :=
  As.cells b (dCells d sp cp sq cq) 45 :: As.row 39 2 sp d.path.length cp (flat gcells d.path) :: As.row 3 1 sq d.q.length cq (ints d.q) :: L

theorem d_open {w0 w : World} {L : List As} {b : Nat} {d : Dp} (h : St w0 w (dObj b d :: L)) : ∃ sp cp sq cq, St w0 w (dOpen b d sp cp sq cq L) := by
  obtain ⟨⟨⟨sp, cp⟩, ⟨sq, cq⟩⟩, h⟩ := h.open_ex
  have h2 := h.open_star
  exact ⟨sp, cp, sq, cq, (h2.swap.open_star).perm ((List.Perm.cons _ (.swap _ _ _)).trans (.swap _ _ _))⟩
theorem d_shut {w0 w : World} {L : List As} {b : Nat} {d : Dp} {sp : Option Addr} {cp : Nat} {sq : Option Addr} {cq : Nat} (h : St w0 w (dOpen b d sp cp sq cq L)) : St w0 w (dObj b d :: L) := by
  have h2 : St w0 w (As.row 39 2 sp d.path.length cp (flat gcells d.path) :: As.row 3 1 sq d.q.length cq (ints d.q) :: As.cells b (dCells d sp cp sq cq) 45 :: L) := h.front2.front2
  exact St.shut_ex (f := fun p : (Option Addr × Nat) × (Option Addr × Nat) =>
    As.star (As.cells b (dCells d p.1.1 p.1.2 p.2.1 p.2.2) 45) (As.star (As.row 39 2 p.1.1 d.path.length p.1.2 (flat gcells d.path)) (As.row 3 1 p.2.1 d.q.length p.2.2 (ints d.q)))) ((sp, cp), (sq, cq)) h2.shut_star.swap.shut_star
theorem d_lt {w0 w : World} {L : List As} {b : Nat} {d : Dp} (h : St w0 w (dObj b d :: L)) : b < w.heap.size := by
  obtain ⟨sp, cp, sq, cq, h'⟩ := d_open h
  exact h'.blk.1.lt

/-- what the cells of a dispatch's own block hold -/
theorem d_cells {w : World} {b : Nat} {d : Dp} {sp : Option Addr} {cp : Nat} {sq : Option Addr} {cq : Nat} (h : Blk w b (dCells d sp cp sq cq) 45) :
    (w.cell? ⟨b, 0, none⟩ = some (.string d.ty) ∧ w.cell? ⟨b, 1, none⟩ = some (.bool d.bub) ∧ w.cell? ⟨b, 2, none⟩ = some (.bool d.can) ∧ w.cell? ⟨b, 3, none⟩ = some (.slice sp d.path.length cp) ∧ w.cell? ⟨b, 4, none⟩ = some (.int .i64 d.st) ∧ w.cell? ⟨b, 5, none⟩ = some (.slice sq d.q.length cq) ∧ w.cell? ⟨b, 6, none⟩ = some (.int .i64 d.cur.kind)) ∧
    (w.cell? ⟨b, 7, none⟩ = some (.int .i64 d.cur.id) ∧ w.cell? ⟨b, 8, none⟩ = some (.int .i64 d.ph) ∧ w.cell? ⟨b, 9, none⟩ = some (.bool d.pas) ∧ w.cell? ⟨b, 10, none⟩ = some (.bool d.stop) ∧ w.cell? ⟨b, 11, none⟩ = some (.bool d.halt) ∧ w.cell? ⟨b, 12, none⟩ = some (.bool d.prev) ∧ w.cell? ⟨b, 13, none⟩ = some (.bool d.done)) := by
  have c := fun i => h.cell i
  refine ⟨⟨?_, ?_, ?_, ?_, ?_, ?_, ?_⟩, ?_, ?_, ?_, ?_, ?_, ?_, ?_⟩ <;> rw [c] <;> rfl

/-- what the methods that only set fields leave -/
def DPost (b : Nat) (d' : Dp) (w0 : World) (L : List As) (E : Ending) (w' : World) : Prop := E = .returned (.tuple #[]) ∧ St w0 w' (dObj b d' :: L)

set_option maxHeartbeats 1000000 in
theorem stop_st {w0 w : World} {L : List As} {b : Nat} {d : Dp} (h : St w0 w (dObj b d :: L)) :
    Calls Try.prog 20 #[.pointer (some ⟨b, 0, none⟩)] w (DPost b { d with stop := true } w0 L) := by
  obtain ⟨sp, cp, sq, cq, h1⟩ := d_open h
  obtain ⟨⟨c0, c1, c2, c3, c4, c5, c6⟩, c7, c8, c9, c10, c11, c12, c13⟩ := d_cells h1.blk.1
  have f10 := h1.free 10
  have H2 := Lib.hid (show St w0 _ (dOpen b { d with stop := true } sp cp sq cq L) by simpa using h1.set 10 (.bool true))
  clear h h1
  go_enter Try.func20, Try.ntmps20
  go_wp2_with fail
  go_end0
  exact ⟨rfl, d_shut H2.out⟩

set_option maxHeartbeats 1000000 in
theorem halt_st {w0 w : World} {L : List As} {b : Nat} {d : Dp} (h : St w0 w (dObj b d :: L)) :
    Calls Try.prog 21 #[.pointer (some ⟨b, 0, none⟩)] w (DPost b { d with stop := true, halt := true } w0 L) := by
  obtain ⟨sp, cp, sq, cq, h1⟩ := d_open h
  obtain ⟨⟨c0, c1, c2, c3, c4, c5, c6⟩, c7, c8, c9, c10, c11, c12, c13⟩ := d_cells h1.blk.1
  have f10 := h1.free 10
  have f11 := h1.free 11
  have H2 := Lib.hid (show St w0 _ (dOpen b { d with stop := true, halt := true } sp cp sq cq L) by simpa using (h1.set 10 (.bool true)).set 11 (.bool true))
  clear h h1
  go_enter Try.func21, Try.ntmps21
  go_wp2_with fail
  go_end0
  exact ⟨rfl, d_shut H2.out⟩

def prevB (d : Dp) : Bool := d.prev || (d.can && !d.pas)
def PrevPost (b : Nat) (d : Dp) (w0 : World) (L : List As) (E : Ending) (w' : World) : Prop := E = .returned (.bool (prevB d)) ∧ St w0 w' (dObj b { d with prev := prevB d } :: L)

set_option maxHeartbeats 1000000 in
theorem prevent_st {w0 w : World} {L : List As} {b : Nat} {d : Dp} (h : St w0 w (dObj b d :: L)) :
    Calls Try.prog 22 #[.pointer (some ⟨b, 0, none⟩)] w (PrevPost b d w0 L) := by
  obtain ⟨sp, cp, sq, cq, h1⟩ := d_open h
  obtain ⟨⟨c0, c1, c2, c3, c4, c5, c6⟩, c7, c8, c9, c10, c11, c12, c13⟩ := d_cells h1.blk.1
  have f12 := h1.free 12
  have HN := Lib.hid (fun v => (show St w0 _ (dOpen b { d with prev := v } sp cp sq cq L) by simpa using (h1.set 12 (.bool v))))
  clear h h1
  unfold PrevPost prevB
  obtain ⟨ty, bub, can, path, st, q, cur, ph, pas, stop, halt, prev, done⟩ := d
  simp only at c2 c9 c12
  cases prev <;> cases can <;> cases pas
  all_goals
    go_enter Try.func22, Try.ntmps22
    go_wp2_with fail
    go_ret
    exact ⟨rfl, d_shut (HN.out _)⟩

set_option maxHeartbeats 1000000 in
theorem finish_st {w0 w : World} {L : List As} {b : Nat} {d : Dp} (h : St w0 w (dObj b d :: L)) :
    Calls Try.prog 37 #[.pointer (some ⟨b, 0, none⟩)] w (DPost b d.fin w0 L) := by
  obtain ⟨sp, cp, sq, cq, h1⟩ := d_open h
  obtain ⟨⟨c0, c1, c2, c3, c4, c5, c6⟩, c7, c8, c9, c10, c11, c12, c13⟩ := d_cells h1.blk.1
  have f := fun i => h1.free i
  have f13 := f 13
  have f5 := f 5
  have f6 := f 6
  have f7 := f 7
  have f8 := f 8
  have H2 := Lib.hid (show St w0 _ (dOpen b d.fin sp cp none 0 L) by
    have h2 := ((((h1.set 13 (.bool true)).set 5 (.slice none 0 0)).set 6 (.int .i64 0)).set 7 (.int .i64 0)).set 8 (.int .i64 0)
    have h3 := (h2.front2.drop.row_nil 3 1).front2.front2
    simpa [Dp.fin, ints, dOpen, dCells] using h3)
  clear h h1 f
  go_enter Try.func37, Try.ntmps37
  go_wp2_with fail
  go_end0
  exact ⟨rfl, d_shut H2.out⟩
end Go.Proofs.Ytianjcbofgdfdaa
