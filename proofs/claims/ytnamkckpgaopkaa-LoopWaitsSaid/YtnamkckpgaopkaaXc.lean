/-
  The chapter's event loop as an object in memory.
-/
import Derived.Test.YtnamkckpgaopkaaLn
import Derived.Test.YtnamkckpgaopkaaKb
set_option linter.unusedVariables false
set_option linter.unusedSimpArgs false
namespace Go.Proofs.Ytnamkckpgaopkaa
open Go.RowKit Go.K

/-! the chapter's event loop as an object in memory -/
structure RT where
  src : Int
  ord : Int
  k : Int
  n : Int
structure RM where
  id : Int
  due : Int
  ord : Int
  ev : Int
  fn : Int
  w : Bool
structure RL where
  now : Int
  ord : Int
  next : Int
  last : Int
  shown : Int
  users : Int
  dirty : Bool
  tasks : List RT
  jobs : List Int
  shots : List Int
  tms : List RM
def RT.cells (t : RT) : List Value := [.int .i64 t.src, .int .i64 t.ord, .int .i64 t.k, .int .i64 t.n]
def RM.cells (t : RM) : List Value := [.int .i64 t.id, .int .i64 t.due, .int .i64 t.ord, .int .i64 t.ev, .int .i64 t.fn, .bool t.w]
def ic (n : Int) : List Value := [.int .i64 n]
def rlc (R : RL) (p : Pt) : Array Value := #[.int .i64 R.now, .int .i64 R.ord, .int .i64 R.next, .int .i64 R.last, .int .i64 R.shown, .int .i64 R.users, .bool R.dirty, .slice (p 0).1 R.tasks.length (p 0).2, .slice (p 1).1 R.jobs.length (p 1).2, .slice (p 2).1 R.shots.length (p 2).2, .slice (p 3).1 R.tms.length (p 3).2]
def rrt (R : RL) (p : Pt) : As := As.row 109 4 (p 0).1 R.tasks.length (p 0).2 (flat RT.cells R.tasks)
def rrj (R : RL) (p : Pt) : As := As.row 3 1 (p 1).1 R.jobs.length (p 1).2 (flat ic R.jobs)
def rrh (R : RL) (p : Pt) : As := As.row 3 1 (p 2).1 R.shots.length (p 2).2 (flat ic R.shots)
def rrm (R : RL) (p : Pt) : As := As.row 107 6 (p 3).1 R.tms.length (p 3).2 (flat RM.cells R.tms)

def rlL (b : Nat) (R : RL) (p : Pt) : List As := [As.cells b (rlc R p) 69, rrt R p, rrj R p, rrh R p, rrm R p]
def rlO (b : Nat) (R : RL) : As := As.ex fun p : Pt => As.all (rlL b R p)
section
variable {w0 w : World} {L : List As} {b : Nat} {R : RL} {p : Pt}
theorem rl_open (h : St w0 w (rlO b R :: L)) : ∃ p, St w0 w (rlL b R p ++ L) := by
  obtain ⟨p, h⟩ := h.open_ex
  exact ⟨p, st_all.2 h⟩
theorem rl_shut (h : St w0 w (rlL b R p ++ L)) : St w0 w (rlO b R :: L) := St.shut_ex (f := fun p : Pt => As.all (rlL b R p)) p (st_all.1 h)
theorem rl_c (h : St w0 w (As.cells b (rlc R p) 69 :: L)) : w.cell? ⟨b, 0, none⟩ = some (.int .i64 R.now) ∧ w.cell? ⟨b, 1, none⟩ = some (.int .i64 R.ord) ∧ w.cell? ⟨b, 2, none⟩ = some (.int .i64 R.next) ∧ w.cell? ⟨b, 3, none⟩ = some (.int .i64 R.last) ∧ w.cell? ⟨b, 4, none⟩ = some (.int .i64 R.shown) ∧ w.cell? ⟨b, 5, none⟩ = some (.int .i64 R.users) ∧ w.cell? ⟨b, 6, none⟩ = some (.bool R.dirty) := by
  refine ⟨?_, ?_, ?_, ?_, ?_, ?_, ?_⟩ <;> (rw [h.cell]; rfl)
theorem rl_s (h : St w0 w (As.cells b (rlc R p) 69 :: L)) : w.cell? ⟨b, 7, none⟩ = some (.slice (p 0).1 R.tasks.length (p 0).2) ∧ w.cell? ⟨b, 8, none⟩ = some (.slice (p 1).1 R.jobs.length (p 1).2) ∧ w.cell? ⟨b, 9, none⟩ = some (.slice (p 2).1 R.shots.length (p 2).2) ∧ w.cell? ⟨b, 10, none⟩ = some (.slice (p 3).1 R.tms.length (p 3).2) := by
  refine ⟨?_, ?_, ?_, ?_⟩ <;> (rw [h.cell]; rfl)
theorem rset_now (x : Int) : (rlc R p).setIfInBounds 0 (.int .i64 x) = rlc { R with now := x } p := by simp [rlc]
theorem rset_ord (x : Int) : (rlc R p).setIfInBounds 1 (.int .i64 x) = rlc { R with ord := x } p := by simp [rlc]
theorem rset_next (x : Int) : (rlc R p).setIfInBounds 2 (.int .i64 x) = rlc { R with next := x } p := by simp [rlc]
theorem rset_last (x : Int) : (rlc R p).setIfInBounds 3 (.int .i64 x) = rlc { R with last := x } p := by simp [rlc]
theorem rset_shown (x : Int) : (rlc R p).setIfInBounds 4 (.int .i64 x) = rlc { R with shown := x } p := by simp [rlc]
theorem rset_users (x : Int) : (rlc R p).setIfInBounds 5 (.int .i64 x) = rlc { R with users := x } p := by simp [rlc]
theorem rset_dirty (x : Bool) : (rlc R p).setIfInBounds 6 (.bool x) = rlc { R with dirty := x } p := by simp [rlc]
def rst_rrt (R : RL) (p : Pt) : List As := [rrj R p, rrh R p, rrm R p]
theorem foc_rrt (h : St w0 w (rlL b R p ++ L)) : St w0 w (As.cells b (rlc R p) 69 :: rrt R p :: (rst_rrt R p ++ L)) := h
theorem unf_rrt {n c : Nat} {s : Option Addr} (l : List RT) (hl : l.length = n) (h : St w0 w (As.cells b ((rlc R p).setIfInBounds 7 (.slice s n c)) 69 :: As.row 109 4 s n c (flat RT.cells l) :: (rst_rrt R p ++ L))) : St w0 w (rlL b { R with tasks := l } (upd p 0 (s, c)) ++ L) := by
  subst hl
  have e : rlL b { R with tasks := l } (upd p 0 (s, c)) = [As.cells b ((rlc R p).setIfInBounds 7 (.slice s l.length c)) 69, As.row 109 4 s l.length c (flat RT.cells l), rrj R p, rrh R p, rrm R p] := by
    simp [rlL, rlc, rrt, rrj, rrh, rrm, upd]
  rw [e]
  exact h
def rst_rrj (R : RL) (p : Pt) : List As := [rrt R p, rrh R p, rrm R p]
theorem foc_rrj (h : St w0 w (rlL b R p ++ L)) : St w0 w (As.cells b (rlc R p) 69 :: rrj R p :: (rst_rrj R p ++ L)) := St.sh [_, _, _] [0, 2, 1] (by decide) h
theorem unf_rrj {n c : Nat} {s : Option Addr} (l : List Int) (hl : l.length = n) (h : St w0 w (As.cells b ((rlc R p).setIfInBounds 8 (.slice s n c)) 69 :: As.row 3 1 s n c (flat ic l) :: (rst_rrj R p ++ L))) : St w0 w (rlL b { R with jobs := l } (upd p 1 (s, c)) ++ L) := by
  subst hl
  have e : rlL b { R with jobs := l } (upd p 1 (s, c)) = [As.cells b ((rlc R p).setIfInBounds 8 (.slice s l.length c)) 69, rrt R p, As.row 3 1 s l.length c (flat ic l), rrh R p, rrm R p] := by
    simp [rlL, rlc, rrt, rrj, rrh, rrm, upd]
  rw [e]
  exact St.sh [_, _, _] [0, 2, 1] (by decide) h
def rst_rrh (R : RL) (p : Pt) : List As := [rrt R p, rrj R p, rrm R p]
theorem foc_rrh (h : St w0 w (rlL b R p ++ L)) : St w0 w (As.cells b (rlc R p) 69 :: rrh R p :: (rst_rrh R p ++ L)) := St.sh [_, _, _, _] [0, 3, 1, 2] (by decide) h
theorem unf_rrh {n c : Nat} {s : Option Addr} (l : List Int) (hl : l.length = n) (h : St w0 w (As.cells b ((rlc R p).setIfInBounds 9 (.slice s n c)) 69 :: As.row 3 1 s n c (flat ic l) :: (rst_rrh R p ++ L))) : St w0 w (rlL b { R with shots := l } (upd p 2 (s, c)) ++ L) := by
  subst hl
  have e : rlL b { R with shots := l } (upd p 2 (s, c)) = [As.cells b ((rlc R p).setIfInBounds 9 (.slice s l.length c)) 69, rrt R p, rrj R p, As.row 3 1 s l.length c (flat ic l), rrm R p] := by
    simp [rlL, rlc, rrt, rrj, rrh, rrm, upd]
  rw [e]
  exact St.sh [_, _, _, _] [0, 2, 3, 1] (by decide) h
def rst_rrm (R : RL) (p : Pt) : List As := [rrt R p, rrj R p, rrh R p]
theorem foc_rrm (h : St w0 w (rlL b R p ++ L)) : St w0 w (As.cells b (rlc R p) 69 :: rrm R p :: (rst_rrm R p ++ L)) := St.sh [_, _, _, _, _] [0, 4, 1, 2, 3] (by decide) h
theorem unf_rrm {n c : Nat} {s : Option Addr} (l : List RM) (hl : l.length = n) (h : St w0 w (As.cells b ((rlc R p).setIfInBounds 10 (.slice s n c)) 69 :: As.row 107 6 s n c (flat RM.cells l) :: (rst_rrm R p ++ L))) : St w0 w (rlL b { R with tms := l } (upd p 3 (s, c)) ++ L) := by
  subst hl
  have e : rlL b { R with tms := l } (upd p 3 (s, c)) = [As.cells b ((rlc R p).setIfInBounds 10 (.slice s l.length c)) 69, rrt R p, rrj R p, rrh R p, As.row 107 6 s l.length c (flat RM.cells l)] := by
    simp [rlL, rlc, rrt, rrj, rrh, rrm, upd]
  rw [e]
  exact St.sh [_, _, _, _, _] [0, 2, 3, 4, 1] (by decide) h

end
def RL.zero : RL := ⟨0, 0, 0, 0, 0, 0, false, [], [], [], []⟩
def rzcells : Array Value := #[.int .i64 0, .int .i64 0, .int .i64 0, .int .i64 0, .int .i64 0, .int .i64 0, .bool false, .slice none 0 0, .slice none 0 0, .slice none 0 0, .slice none 0 0]
theorem rl_start {w0 w : World} {L : List As} (h : St w0 w L) : St w0 (w.alloc (.cells rzcells 69)) (rlO w.heap.size RL.zero :: L) := by
  refine rl_shut (p := fun _ => (none, 0)) ?_
  have h1 := ((((h.new rzcells 69).row_nil 107 6).row_nil 3 1).row_nil 3 1).row_nil 109 4
  exact St.sh [_, _, _, _, _] [4, 0, 1, 2, 3] (by decide) h1
theorem lenRT (c : RT) : c.cells.length = 4 := rfl
theorem lenRM (c : RM) : c.cells.length = 6 := rfl
theorem lenIc (c : Int) : (ic c).length = 1 := rfl

theorem infoRT : (Try.prog.info? 109).map (fun i => (i.zero, i.size, i.bytes)) = some (some (.agg #[.int .i64 0, .int .i64 0, .int .i64 0, .int .i64 0]), 4, 32) := by kernel_rfl
theorem elRT : El Try.prog 66 109 4 32 := by
  obtain ⟨i, hi, h1, h2, h3⟩ := info_parts infoRT
  exact ⟨by kernel_rfl, ⟨i, _, hi, h1, h2, h3, rfl⟩, by decide⟩
theorem zvRT (w : World) : (zeroValue 109).run Try.prog w = .ok (.agg #[.int .i64 0, .int .i64 0, .int .i64 0, .int .i64 0]) w := by kernel_rfl
theorem zlenRT : (zeros (.agg #[.int .i64 0, .int .i64 0, .int .i64 0, .int .i64 0]) 1).length = 4 := by kernel_rfl
theorem zoneRT (n : Nat) : ∀ u ∈ zeros (.agg #[.int .i64 0, .int .i64 0, .int .i64 0, .int .i64 0]) n, u.oneCell' = true := by
  intro u hu
  simp only [zeros, Builtin.zeroCells, Array.toList_map, List.mem_map] at hu
  obtain ⟨i, _, rfl⟩ := hu
  have hall : ∀ j, j < 4 → ((.agg #[.int .i64 0, .int .i64 0, .int .i64 0, .int .i64 0] : Value).cells[j]!).oneCell' = true := by decide
  exact hall _ (Nat.mod_lt _ (by decide))

theorem infoRM : (Try.prog.info? 107).map (fun i => (i.zero, i.size, i.bytes)) = some (some (.agg #[.int .i64 0, .int .i64 0, .int .i64 0, .int .i64 0, .int .i64 0, .bool false]), 6, 48) := by kernel_rfl
theorem elRM : El Try.prog 67 107 6 48 := by
  obtain ⟨i, hi, h1, h2, h3⟩ := info_parts infoRM
  exact ⟨by kernel_rfl, ⟨i, _, hi, h1, h2, h3, rfl⟩, by decide⟩
theorem zvRM (w : World) : (zeroValue 107).run Try.prog w = .ok (.agg #[.int .i64 0, .int .i64 0, .int .i64 0, .int .i64 0, .int .i64 0, .bool false]) w := by kernel_rfl
theorem zlenRM : (zeros (.agg #[.int .i64 0, .int .i64 0, .int .i64 0, .int .i64 0, .int .i64 0, .bool false]) 1).length = 6 := by kernel_rfl
theorem zoneRM (n : Nat) : ∀ u ∈ zeros (.agg #[.int .i64 0, .int .i64 0, .int .i64 0, .int .i64 0, .int .i64 0, .bool false]) n, u.oneCell' = true := by
  intro u hu
  simp only [zeros, Builtin.zeroCells, Array.toList_map, List.mem_map] at hu
  obtain ⟨i, _, rfl⟩ := hu
  have hall : ∀ j, j < 6 → ((.agg #[.int .i64 0, .int .i64 0, .int .i64 0, .int .i64 0, .int .i64 0, .bool false] : Value).cells[j]!).oneCell' = true := by decide
  exact hall _ (Nat.mod_lt _ (by decide))

theorem rbound (n : Int) (w : World) : Calls Try.prog 67 #[.int .i64 n] w fun e w' => e = .returned (.int .i64 (bound n)) ∧ w = w' := by
  have m1 : ∀ a b : Int, (if a < b then b else a) = max a b := fun a b => by split <;> omega
  have m2 : ∀ a b : Int, (if b < a then b else a) = min a b := fun a b => by split <;> omega
  obtain ⟨D, hD⟩ : ∃ D, bound n = D := ⟨_, rfl⟩
  rw [hD]
  have HD := Lib.hid (show min (max n 0) 1099511627776 = D from hD)
  clear hD
  go_enter Try.func67, Try.ntmps67
  go_wp2_with fail
  go_ret
  exact ⟨by rw [← HD.out]; rfl, rfl⟩

end Go.Proofs.Ytnamkckpgaopkaa
