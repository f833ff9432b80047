/-
  Contract of the chapter's find; the chapter's run as an object.
-/
import Derived.Test.YtianjcbofgdfdaaFk
import Derived.Test.YtianjcbofgdfdaaFm
set_option linter.unusedVariables false
set_option linter.unusedSimpArgs false
namespace Go.Proofs.Ytianjcbofgdfdaa
open Go.RowKit Go.K Go.K.Ev

def idI (ls : List Li) (id : Int) : Int := idx (fun x => x.id == id) ls
theorem idI_first {ls : List Li} {id : Int} {k : Nat} (hk : k < ls.length) (h : (ls[k].id == id) = true) (ha : ∀ j (hj : j < ls.length), j < k → (ls[j].id == id) = false) : idI ls id = k := by
  unfold idI idx
  have : ls.findIdx? (fun x => x.id == id) = some k := by
    rw [List.findIdx?_eq_some_iff_getElem]
    exact ⟨hk, h, fun j hj => by simp [ha j (by omega) hj]⟩
  rw [this]
theorem idI_none {ls : List Li} {id : Int} (ha : ∀ j (hj : j < ls.length), (ls[j].id == id) = false) : idI ls id = -1 := by
  unfold idI idx
  have : ls.findIdx? (fun x => x.id == id) = none := by
    rw [List.findIdx?_eq_none_iff]
    intro x hx
    obtain ⟨j, hj, rfl⟩ := List.getElem_of_mem hx
    exact ha j hj
  rw [this]
def RfRel (ls : List Li) (id : Int) (W : World) (g : Nat) (v : Value) (wr : World) : Prop :=
  ∃ k : Nat, g = ls.length - k ∧ k ≤ ls.length ∧ v = .int .i64 k ∧ wr = W ∧ ∀ j (hj : j < ls.length), j < k → (ls[j].id == id) = false

set_option maxRecDepth 100000 in
set_option maxHeartbeats 2000000 in
theorem rfind_any (s : Option Addr) (c : Nat) (S : Ls) (id : Int) (w : World) (h : Rd w 8 s S.l.length (flat lcells S.l)) (hn : S.l.length ≤ 10000) :
    Calls Try.prog 51 #[mVal s S.l.length c S.nx, .int .i64 id] w fun e w' => e = .returned (.int .i64 (idI S.l id)) ∧ Below w.heap.size w w' := by
  have H := Lib.hid (h.alloc (.cells #[.slice s S.l.length c, .int .i64 S.nx] 34))
  clear h
  go_enter Try.func51, Try.ntmps51
  go_wp2_with fail
  go_loopg [9] S.l.length (RfRel S.l id (w.alloc (.cells #[.slice s S.l.length c, .int .i64 S.nx] 34)))
  case atStart => exact ⟨0, rfl, Nat.zero_le _, rfl, rfl, by intro j hj h; omega⟩
  case round =>
    obtain ⟨k, hg, hk, rfl, rfl, hall⟩ := hrel
    have Hg := Lib.hid hg
    have HA := Lib.hid hall
    clear hg hall
    by_cases hkn : k < S.l.length
    · obtain ⟨g1, o1, rfl, -⟩ := H.out.addr (by omega)
      obtain ⟨x, hx⟩ : ∃ x, S.l[k] = x := ⟨_, rfl⟩
      obtain ⟨d0, -, -, -, -, -, -, -⟩ := l_at H.out hkn x hx
      have HX := Lib.hid hx
      have hkn' : (k : Int) < (S.l.length : Int) := by omega
      obtain ⟨x0, ⟨x1, x2⟩, x3, x4, x5, x6, x7⟩ := x
      simp only at d0
      clear hx
      by_cases he : x0 = id
      · have heb : (x0 == id) = true := by simp [he]
        have hf := Lib.hid (idI_first (id := id) hkn (by rw [HX.out]; exact heb) HA.out)
        clear he
        go_wp2_with fail
        go_ret
        exact ⟨by rw [hf.out]; rfl, (Below.refl _ _).alloc (Nat.le_refl _) _⟩
      · have heb : (x0 == id) = false := by simp [he]
        have hh := Lib.hid heb
        clear he
        go_wp2_with fail
        go_roundg (S.l.length - (k + 1))
        case measure => have := Hg.out; omega
        case rel =>
          refine ⟨k + 1, rfl, by omega, by simp, rfl, fun j hj hjk => ?_⟩
          by_cases e : j = k
          · subst e; rw [HX.out]; exact hh.out
          · exact HA.out j hj (by omega)
    · have hf := Lib.hid (idI_none (ls := S.l) (id := id) (fun j hj => HA.out j hj (by omega)))
      go_wp2_with fail
      go_ret
      exact ⟨by rw [hf.out]; rfl, (Below.refl _ _).alloc (Nat.le_refl _) _⟩

/-- what a run does not change -/
structure Ek where
  ty : ByteArray
  bub : Bool
  can : Bool
  s1 : Option Addr
  np : Nat
  c1 : Nat
  s2 : Option Addr
  na : Nat
  c2 : Nat
def ccells (c : Cl) : List Value := [.int .i64 c.id, .int .i64 c.cb, .int .i64 c.cur.kind, .int .i64 c.cur.id, .int .i64 c.ph]
def rCells (K : Ek) (d : Dp) (S : Ls) (calls : List Cl) (sl : Option Addr) (cl : Nat) (sc : Option Addr) (cc : Nat) : Array Value :=
  #[.slice sl S.l.length cl, .int .i64 S.nx, .string K.ty, .bool K.bub, .bool K.can, .slice K.s1 K.np K.c1, .slice K.s2 K.na K.c2, .slice sc calls.length cc, .bool d.stop, .bool d.halt, .bool d.prev]
abbrev rOpen (br : Nat) (K : Ek) (d : Dp) (S : Ls) (calls : List Cl) (sl : Option Addr) (cl : Nat) (sc : Option Addr) (cc : Nat) (L : List As) : List As :=
  As.cells br (rCells K d S calls sl cl sc cc) 62 :: As.rdr 8 sl S.l.length cl (flat lcells S.l) :: As.row 66 5 sc calls.length cc (flat ccells calls) :: L
theorem infoCl : (Try.prog.info? 66).map (fun i => (i.zero, i.size, i.bytes)) = some (some (.agg #[.int .i64 0, .int .i64 0, .int .i64 0, .int .i64 0, .int .i64 0]), 5, 40) := by kernel_rfl
theorem elCl : El Try.prog 60 66 5 40 := by
  obtain ⟨i, hi, h1, h2, h3⟩ := info_parts infoCl
  exact ⟨by kernel_rfl, ⟨i, _, hi, h1, h2, h3, rfl⟩, by decide⟩
theorem r_cells {w : World} {b : Nat} {K : Ek} {d : Dp} {S : Ls} {calls : List Cl} {sl : Option Addr} {cl : Nat} {sc : Option Addr} {cc : Nat} (h : Blk w b (rCells K d S calls sl cl sc cc) 62) :
    w.cell? ⟨b, 0, none⟩ = some (.slice sl S.l.length cl) ∧ w.cell? ⟨b, 1, none⟩ = some (.int .i64 S.nx) ∧ w.cell? ⟨b, 2, none⟩ = some (.string K.ty) ∧ w.cell? ⟨b, 3, none⟩ = some (.bool K.bub) ∧ w.cell? ⟨b, 4, none⟩ = some (.bool K.can) ∧
    w.cell? ⟨b, 5, none⟩ = some (.slice K.s1 K.np K.c1) ∧ w.cell? ⟨b, 6, none⟩ = some (.slice K.s2 K.na K.c2) ∧ w.cell? ⟨b, 7, none⟩ = some (.slice sc calls.length cc) ∧ w.cell? ⟨b, 8, none⟩ = some (.bool d.stop) ∧ w.cell? ⟨b, 9, none⟩ = some (.bool d.halt) ∧ w.cell? ⟨b, 10, none⟩ = some (.bool d.prev) := by
  have c := fun i => h.cell i
  refine ⟨?_, ?_, ?_, ?_, ?_, ?_, ?_, ?_, ?_, ?_, ?_⟩ <;> rw [c] <;> rfl
end Go.Proofs.Ytianjcbofgdfdaa
